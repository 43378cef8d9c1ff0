/- A row's keys are right and rise, and a longer row begins with a shorter one: for every two numbers. -/
import Derived.Test.YtpfnkibhpjoahaaKit
import Derived.Test.YtpfnkibhpjoahaaQxR
namespace Go.Proofs.Ytpfnkibhpjoahaa.Pure
open Go.RowKit Go.Proofs.Ytpfnkibhpjoahaa.Q Go.Proofs.Ytpfnkibhpjoahaa.Math Go.Proofs.Ytpfnkibhpjoahaa.Kit Go.Proofs.YtpfnkibhpjoahaaW.PrintWords Go.Proofs.YtpfnkibhpjoahaaW.PrintLast

def keyAt : Nat → List Int
  | 0 => []
  | i + 1 => nxt (keyAt i)
theorem keyAt_chk : ∀ i, i ≤ 400 → chk (400 - i) (keyAt i) = true ∧ Rng (keyAt i) ∧ (keyAt i).length ≤ 31
  | 0, _ => ⟨chk_row, fun _ h => (by cases h), by simp [keyAt]⟩
  | i + 1, h => by
    obtain ⟨h1, h2, _⟩ := keyAt_chk i (by omega)
    rw [show 400 - i = (400 - (i + 1)) + 1 from by omega] at h1
    obtain ⟨_, b2, b3, b4⟩ := chk_step h2 h1
    exact ⟨b4, b2, b3⟩
theorem keyAt_next (i : Nat) (h : i < 400) : right (keyAt (i + 1)) = true ∧ lt (keyAt i) (keyAt (i + 1)) = true ∧ Rng (keyAt (i + 1)) ∧ (keyAt (i + 1)).length ≤ 31 := by
  obtain ⟨h1, h2, _⟩ := keyAt_chk i (by omega)
  rw [show 400 - i = (400 - (i + 1)) + 1 from by omega] at h1
  obtain ⟨b1, b2, b3, _⟩ := chk_step h2 h1
  obtain ⟨_, c2, c3, _⟩ := betw_some h2 (fun _ h => by cases h) b1
  exact ⟨c2, c3, b2, b3⟩
theorem rowk_len : ∀ (n : Nat) (l : List Int), (rowk n l).length = n
  | 0, _ => rfl
  | n + 1, l => by simp [rowk, rowk_len n]
theorem rowk_at : ∀ (n j i : Nat), i < n → (rowk n (keyAt j))[i]? = some (keyAt (j + i + 1))
  | 0, _, _, h => by omega
  | n + 1, j, 0, _ => rfl
  | n + 1, j, i + 1, h => by
    have := rowk_at n (j + 1) i (by omega)
    rw [show j + (i + 1) + 1 = j + 1 + i + 1 from by omega]
    exact this
theorem rows_at (n : Int) (i : Nat) (h : i < (rows n).length) : rdOf ByteArray.empty ((rows n).map strOfNums) (i : Int) = strOfNums (keyAt (i + 1)) ∧ i < 400 := by
  unfold rows at h ⊢
  split at h
  · rename_i c
    rw [rowk_len] at h
    rw [if_pos c]
    refine ⟨?_, by omega⟩
    unfold rdOf
    rw [Int.toNat_natCast, List.getD_eq_getElem?_getD, List.getElem?_map, show ([] : List Int) = keyAt 0 from rfl, rowk_at _ 0 i h, Nat.zero_add]
    rfl
  · simp at h

theorem row_check (n m : Int) : ∀ (d k i : Nat), i + d = (rows n).length → d + 1 ≤ k → offshootlaw04_FracRow.l0 k ((rows n).map strOfNums) ((rows m).map strOfNums) i = some true
  | 0, k, i, hd, hk => by
    obtain ⟨k, rfl⟩ : ∃ m, k = m + 1 := ⟨k - 1, by omega⟩
    simp only [offshootlaw04_FracRow.l0, List.length_map]
    rw [if_neg (by omega)]
  | d + 1, k, i, hd, hk => by
    obtain ⟨k, rfl⟩ : ∃ m, k = m + 1 := ⟨k - 1, by omega⟩
    obtain ⟨a1, hi⟩ := rows_at n i (by omega)
    obtain ⟨n1, n2, n3, n4⟩ := keyAt_next i hi
    have ih := row_check n m d k (i + 1) (by omega) (by omega)
    have e2 : wrap64 ((i : Int) + 1) = ((i + 1 : Nat) : Int) := by rw [w64] <;> omega
    have same : ∀ q : Option Bool, (if (i : Int) < ((rows m).length : Int) then (if (rdOf ByteArray.empty ((rows n).map strOfNums) (i : Int)).toList = (rdOf ByteArray.empty ((rows m).map strOfNums) (i : Int)).toList then q else (some false)) else q) = q := by
      intro q
      by_cases c : i < (rows m).length
      · rw [if_pos (by omega), a1, (rows_at m i c).1, if_pos rfl]
      · rw [if_neg (by omega)]
    simp only [offshootlaw04_FracRow.l0, List.length_map, e2]
    rw [if_pos (by omega), if_pos (by omega)]
    simp only [same]
    rw [a1, right_f _ (big_str (by omega) n3), nm_str _ n3, n1]
    simp only [Option.bind_some, if_true]
    by_cases c : 0 < i
    · have e1 : wrap64 ((i : Int) - 1) = ((i - 1 : Nat) : Int) := by rw [w64] <;> omega
      obtain ⟨p1, _⟩ := rows_at n (i - 1) (by omega)
      obtain ⟨_, _, q3, _⟩ := keyAt_next (i - 1) (by omega)
      rw [show i - 1 + 1 = i from by omega] at p1 q3
      rw [if_pos (by omega), e1, if_pos (by omega), if_pos (by omega), p1]
      obtain ⟨t, o, p⟩ := order_neg (strOfNums (keyAt i)) (strOfNums (keyAt (i + 1)))
      rw [nm_str _ q3, nm_str _ n3] at p
      have ht := p.2 n2
      rw [o]
      simp only [Option.bind_some]
      rw [if_neg (by omega)]
      exact ih
    · rw [if_neg (by omega)]
      exact ih

theorem FracRow : offshootlaw04_FracRow.Pure := by
  intro n m _ _
  refine ⟨9001, ?_⟩
  unfold offshootlaw04_FracRow.f
  rw [alive_at (by omega), row_at (by omega), row_at (by omega)]
  simp only [Option.bind_some, if_true]
  rw [show (9001 : Nat) = 9000 + 1 from rfl]
  by_cases c : 0 ≤ n ∧ n ≤ 400
  · rw [if_neg (by omega), decide_eq_false (by omega)]
    simp only [offshootlaw04_FracRow.j0, Bool.false_eq_true, if_false, List.length_map]
    have hl : (rows n).length = n.toNat := by unfold rows; rw [if_pos c, rowk_len]
    rw [hl, if_pos (by omega)]
    exact row_check n m (rows n).length 9000 0 (by omega) (by omega)
  · have hl : rows n = [] := by unfold rows; rw [if_neg c]
    rw [hl]
    by_cases c' : n < 0
    · rw [if_pos c']
      simp [offshootlaw04_FracRow.j0]
    · rw [if_neg c', decide_eq_true (by omega)]
      simp [offshootlaw04_FracRow.j0]
end Go.Proofs.Ytpfnkibhpjoahaa.Pure
