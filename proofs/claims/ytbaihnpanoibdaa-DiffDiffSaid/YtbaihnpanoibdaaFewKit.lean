/- What DiffFew's plain law shares with the other laws of the chapter: great ends, a difference is no long list. -/
import Derived.Test.YtbaihnpanoibdaaQx6
import Derived.Test.YtbaihnpanoibdaaDiffW
namespace Go.Proofs.Ytbaihnpanoibdaa.FewKit
open Go.RowKit Go.Proofs.Ytbaihnpanoibdaa.Q Go.Proofs.YtbaihnpanoibdaaW.PrintWords Go.Proofs.YtbaihnpanoibdaaW.PrintLast
set_option linter.unusedVariables false
theorem w64 {x : Int} (_ : -9223372036854775808 ≤ x) (_ : x ≤ 9223372036854775807) : wrap64 x = x := by unfold wrap64; omega
theorem le_mono {α : Type} {f : Nat → Option α} (h : ∀ k, LeO (f k) (f (k + 1))) {j k : Nat} (hjk : j ≤ k) {r : α} (hr : f j = some r) : f k = some r := by
  induction hjk with
  | refl => exact hr
  | step _ ih => exact h _ _ ih
/-- great ends, whatever it says. -/
theorem great_l0 (l : List S36) : ∀ d i k : Nat, i ≤ 300 → 300 - i = d → ∃ r, offshootlaw28_great.l0 (2 * d + 2 + k) l (i : Int) = some r
  | 0, i, k, hi, hd => by
    obtain rfl : i = 300 := by omega
    refine ⟨false, ?_⟩
    rw [show 2 * 0 + 2 + k = (k + 1) + 1 by omega, offshootlaw28_great.l0]
    split
    · rw [offshootlaw28_great.j2, if_neg (by simp)]
    · rw [offshootlaw28_great.j2, if_neg (by simp)]
  | d + 1, i, k, hi, hd => by
    rw [show 2 * (d + 1) + 2 + k = (2 * d + 2 + k + 1) + 1 by omega, offshootlaw28_great.l0]
    split
    · rename_i c
      rw [offshootlaw28_great.j2, if_pos (decide_eq_true (by omega)), if_pos (by omega), if_pos c]
      split
      · exact ⟨_, rfl⟩
      · rw [w64 (by omega) (by omega), show (i : Int) + 1 = ((i + 1 : Nat) : Int) by omega]
        exact great_l0 l d (i + 1) k (by omega) (by omega)
    · exact ⟨false, by rw [offshootlaw28_great.j2, if_neg (by simp)]⟩
theorem great_ends (l : List S36) : (∃ r, ∀ k, 700 ≤ k → offshootlaw28_great.f k l = some r) ∧ ((60 < l.length ∧ l.length ≤ 300) → ∀ k, 1 ≤ k → offshootlaw28_great.f k l = some true) := by
  constructor
  · have : ∃ r, offshootlaw28_great.f 700 l = some r := by
      obtain ⟨r, hr⟩ := great_l0 l 300 0 97 (by omega) (by omega)
      have hr : offshootlaw28_great.l0 699 l 0 = some r := hr
      unfold offshootlaw28_great.f
      split
      · rw [show 700 = 699 + 1 by rfl, offshootlaw28_great.j0]
        split
        · exact ⟨_, rfl⟩
        · exact ⟨r, hr⟩
      · rw [show 700 = 699 + 1 by rfl, offshootlaw28_great.j0, if_neg (by simp)]
        exact ⟨r, hr⟩
    obtain ⟨r, hr⟩ := this
    exact ⟨r, fun k hk => le_mono (f := fun k => offshootlaw28_great.f k l) (fun k => offshootlaw28_great.mono l k) hk hr⟩
  · intro h k hk
    obtain ⟨k, rfl⟩ : ∃ j, k = j + 1 := ⟨k - 1, by omega⟩
    unfold offshootlaw28_great.f
    rw [if_pos (by omega), offshootlaw28_great.j0, if_pos (decide_eq_true (by omega))]
theorem kept_len (ch : List S38) (x y : S36) : (keptF ch x y).length ≤ ch.length + 1 := by
  unfold keptF
  split
  · have := someF_len ch 1 1
    split at this <;> omega
  · simp
theorem dl_len : ∀ (n : Nat) (A B : List S36) (ch : List S38), (dl n A B ch).length ≤ ch.length + 2 * n + 1 + B.length
  | 0, A, B, ch => by
    rw [dl, List.length_append, List.length_map]
    have := someF_len ch 2 A.length
    split at this <;> omega
  | n + 1, A, B, ch => by
    rw [dl]
    split
    · rw [List.length_append, List.length_map]
      have := someF_len ch 2 A.length
      split at this <;> omega
    · rename_i q hq
      obtain ⟨s, j⟩ := q
      obtain ⟨h1, h2, h3, _⟩ := nx_lt hq
      dsimp only
      refine Nat.le_trans (dl_len n _ _ _) ?_
      have k1 := kept_len (someF ch 2 (s : Int) ++ (B.take j).map putC) (rd_T36 A (s : Int)) (rd_T36 B (j : Int))
      rw [List.length_append, List.length_map, List.length_take] at k1
      have k2 := someF_len ch 2 (s : Int)
      rw [List.length_drop]
      split at k2 <;> omega
end Go.Proofs.Ytbaihnpanoibdaa.FewKit
