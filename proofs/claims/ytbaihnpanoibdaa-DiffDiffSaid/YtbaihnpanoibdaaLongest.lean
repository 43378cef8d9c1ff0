/- The reference's table: its first cell is how many blocks can be kept. -/
import Derived.Test.YtbaihnpanoibdaaQx8
import Derived.Test.YtbaihnpanoibdaaMath
namespace Go.Proofs.Ytbaihnpanoibdaa.Pure4
open Go.RowKit Go.Proofs.Ytbaihnpanoibdaa.Q Go.Proofs.YtbaihnpanoibdaaW.PrintWords Go.Proofs.YtbaihnpanoibdaaW.PrintLast
set_option linter.unusedVariables false
theorem w64 {x : Int} (_ : -9223372036854775808 ≤ x) (_ : x ≤ 9223372036854775807) : wrap64 x = x := by unfold wrap64; omega
theorem le_mono {α : Type} {f : Nat → Option α} (h : ∀ k, LeO (f k) (f (k + 1))) {j k : Nat} (hjk : j ≤ k) {r : α} (hr : f j = some r) : f k = some r := by
  induction hjk with
  | refl => exact hr
  | step _ ih => exact h _ _ ih
theorem wS (n : Nat) (h : n ≤ 1000) : wrap64 ((n : Int) + 1) = ((n + 1 : Nat) : Int) := w64 (by omega) (by omega)
theorem wP (n : Nat) (h : n ≤ 1000) : wrap64 ((n : Int) - 1) = (n : Int) - 1 := w64 (by omega) (by omega)
theorem max3 (x y z : Nat) (h1 : x ≤ z + 1) (h2 : y ≤ z + 1) : max (max x y) (z + 1) = z + 1 := by omega
/-- A cell of the table, when rows behind i, and of row i the cells from k on, are written. -/
def cellT (a b : List S36) (i k r j : Nat) : Int := if i < r ∨ (r = i ∧ k ≤ j) then (lcs (a.drop r) (b.drop j) : Int) else 0
def rowT (a b : List S36) (i k r : Nat) : List Int := (List.range (b.length + 1)).map (cellT a b i k r)
def tb (a b : List S36) (i k : Nat) : List (List Int) := (List.range (a.length + 1)).map (rowT a b i k)
theorem rowT_len (a b : List S36) (i k r : Nat) : (rowT a b i k r).length = b.length + 1 := by simp [rowT]
theorem tb_len (a b : List S36) (i k : Nat) : (tb a b i k).length = a.length + 1 := by simp [tb]
theorem rd_row (a b : List S36) (i k r : Nat) (h : r ≤ a.length) : rd_L6 (tb a b i k) (r : Int) = rowT a b i k r := by
  unfold rd_L6 tb
  rw [Int.toNat_natCast, List.getD_eq_getElem?_getD, List.getElem?_map, List.getElem?_range (by omega)]
  rfl
theorem rd_cell (a b : List S36) (i k r j : Nat) (h : j ≤ b.length) : rd (rowT a b i k r) (j : Int) = cellT a b i k r j := by
  unfold rd rowT
  rw [Int.toNat_natCast, List.getD_eq_getElem?_getD, List.getElem?_map, List.getElem?_range (by omega)]
  rfl
theorem set_cell (a b : List S36) (i k : Nat) (hi : i ≤ a.length) (hk : k ≤ b.length) : (tb a b i (k + 1)).set i ((rowT a b i (k + 1) i).set k (lcs (a.drop i) (b.drop k) : Int)) = tb a b i k := by
  apply List.ext_getElem
  · rw [List.length_set, tb_len, tb_len]
  · intro r h1 h2
    rw [List.getElem_set]
    by_cases hr : i = r
    · subst hr
      rw [if_pos rfl]
      apply List.ext_getElem
      · simp [tb, rowT]
      · intro j h3 h4
        rw [List.getElem_set]
        simp only [tb, rowT, List.getElem_map, List.getElem_range, cellT]
        by_cases hj : k = j
        · subst hj
          rw [if_pos rfl, if_pos (by simp)]
        · rw [if_neg hj]
          by_cases hj' : k + 1 ≤ j
          · rw [if_pos (by simp <;> omega), if_pos (by simp <;> omega)]
          · rw [if_neg (by simp <;> omega), if_neg (by simp <;> omega)]
    · rw [if_neg hr]
      apply List.ext_getElem
      · simp [tb, rowT]
      · intro j h3 h4
        simp only [tb, rowT, List.getElem_map, List.getElem_range, cellT]
        by_cases hj : i < r
        · rw [if_pos (.inl hj), if_pos (.inl hj)]
        · rw [if_neg (by omega), if_neg (by omega)]
theorem lcs_end (a b : List S36) (r : Nat) : lcs (a.drop r) (b.drop b.length) = 0 := by
  rw [List.drop_length, lcs_nil']
theorem tb_row (a b : List S36) (i : Nat) : tb a b (i + 1) 0 = tb a b i b.length := by
  unfold tb
  apply List.map_congr_left
  intro r _
  unfold rowT
  apply List.map_congr_left
  intro j hj
  have hj := List.mem_range.1 hj
  unfold cellT
  by_cases h1 : i + 1 < r ∨ r = i + 1 ∧ 0 ≤ j
  · rw [if_pos h1, if_pos (by omega)]
  · rw [if_neg h1]
    by_cases h2 : i < r ∨ r = i ∧ b.length ≤ j
    · rw [if_pos h2]
      have : j = b.length := by omega
      rw [this, lcs_end]
      rfl
    · rw [if_neg h2]
theorem tb_zero (a b : List S36) : tb a b a.length 0 = List.replicate (a.length + 1) (List.replicate (b.length + 1) 0) := by
  apply List.ext_getElem
  · simp [tb]
  · intro r h1 h2
    apply List.ext_getElem
    · simp [tb, rowT]
    · intro j h3 h4
      simp only [tb, rowT, List.getElem_map, List.getElem_range, List.getElem_replicate, cellT]
      split
      · rename_i h
        have : a.drop r = [] := List.drop_eq_nil_of_le (by omega)
        rw [this]
        rfl
      · rfl
theorem lcs_le_len : ∀ (a b : List S36), lcs a b ≤ a.length
  | [], b => by simp [lcs_nil]
  | x :: a, b => by
    have := (lcs_step a b).1 x
    have := lcs_le_len a b
    rw [List.length_cons]
    omega
theorem id_iff (x y : S36) : ((x.f0.f0 == y.f0.f0 && (x.f0.f1 == y.f0.f1)) = true) ↔ idOf x = idOf y := by
  unfold idOf
  rw [Bool.and_eq_true, beq_iff_eq, beq_iff_eq, Prod.mk.injEq]
theorem rd36 (a : List S36) (i : Nat) (h : i < a.length) : rd_T36 a (i : Int) = a[i] := by
  unfold rd_T36
  rw [Int.toNat_natCast, List.getD_eq_getElem?_getD, List.getElem?_eq_getElem h]
  rfl
theorem mx_eq (x y : Nat) : mx (x : Int) (y : Int) = ((max x y : Nat) : Int) := by
  unfold mx
  split <;> omega
/-- One cell, over any table that reads right. -/
theorem l2_core {a b : List S36} (ha : a.length ≤ 300) (hb : b.length ≤ 300) (i k f : Nat) (hi : i < a.length) (hk : k < b.length) (T : List (List Int)) (R R' : List Int)
    (lt : T.length = a.length + 1) (lr : R.length = b.length + 1) (lr' : R'.length = b.length + 1) (g1 : rd_L6 T (i : Int) = R) (g2 : rd_L6 T ((i + 1 : Nat) : Int) = R')
    (v1 : Hid (rd R' (k : Int) = (lcs (a.drop (i + 1)) (b.drop k) : Int))) (v2 : Hid (rd R ((k + 1 : Nat) : Int) = (lcs (a.drop i) (b.drop (k + 1)) : Int))) (v3 : Hid (rd R' ((k + 1 : Nat) : Int) = (lcs (a.drop (i + 1)) (b.drop (k + 1)) : Int))) :
    offshootref28_Longest.l2 (f + 1) a b T (i : Int) (k : Int) = offshootref28_Longest.l2 f a b (T.set i (R.set k (lcs (a.drop i) (b.drop k) : Int))) (i : Int) ((k : Int) - 1) := by
  have c1 : (k : Int) ≥ 0 := by omega
  have c1' : 0 ≤ (k : Int) := by omega
  have c2 : 0 ≤ (i : Int) := by omega
  have c3 : (i : Int) < ((a.length + 1 : Nat) : Int) := by omega
  have c4 : 0 ≤ ((i + 1 : Nat) : Int) := by omega
  have c5 : ((i + 1 : Nat) : Int) < ((a.length + 1 : Nat) : Int) := by omega
  have c6 : (k : Int) < ((b.length + 1 : Nat) : Int) := by omega
  have c7 : 0 ≤ ((k + 1 : Nat) : Int) := by omega
  have c8 : ((k + 1 : Nat) : Int) < ((b.length + 1 : Nat) : Int) := by omega
  have c9 : (i : Int) < (a.length : Int) := by omega
  have c10 : (k : Int) < (b.length : Int) := by omega
  have hi' : i ≤ 1000 := by omega
  have hk' : k ≤ 1000 := by omega
  have hsl : a.length - (i + 1) ≤ 1000 := by omega
  have hl1 : i < T.length := by omega
  have hl2 : k < R.length := by omega
  have hne : i ≠ i + 1 := by omega
  have da : a.drop i = a[i] :: a.drop (i + 1) := List.drop_eq_getElem_cons hi
  have db : b.drop k = b[k] :: b.drop (k + 1) := List.drop_eq_getElem_cons hk
  have s1 := (lcs_step (a.drop (i + 1)) (b.drop (k + 1))).1 a[i]
  have s2 := (lcs_step (a.drop (i + 1)) (b.drop (k + 1))).2 b[k]
  rw [← da] at s1
  rw [← db] at s2
  have sl := lcs_le_len (a.drop (i + 1)) (b.drop (k + 1))
  rw [List.length_drop] at sl
  have q1 : ∀ v, rd_L6 (T.set i v) (i : Int) = v := fun v => by
    unfold rd_L6
    rw [Int.toNat_natCast, List.getD_eq_getElem?_getD, List.getElem?_set_self hl1]
    rfl
  have q2 : ∀ v, rd_L6 (T.set i v) ((i + 1 : Nat) : Int) = R' := fun v => by
    rw [← g2]
    unfold rd_L6
    rw [Int.toNat_natCast, List.getD_eq_getElem?_getD, List.getD_eq_getElem?_getD, List.getElem?_set_ne hne]
  have q3 : ∀ v, rd (R.set k v) (k : Int) = v := fun v => by
    unfold rd
    rw [Int.toNat_natCast, List.getD_eq_getElem?_getD, List.getElem?_set_self hl2]
    rfl
  have q4 : ∀ v, (R.set k v).length = b.length + 1 := fun v => by rw [List.length_set, lr]
  have hm : ((rd_T36 a (i : Int)).f0.f0 == (rd_T36 b (k : Int)).f0.f0 && ((rd_T36 a (i : Int)).f0.f1 == (rd_T36 b (k : Int)).f0.f1)) = true ↔ idOf a[i] = idOf b[k] := by
    rw [id_iff, rd36 a i hi, rd36 b k hk]
  have e4 : wrap64 ((lcs (a.drop (i + 1)) (b.drop (k + 1)) : Int) + 1) = ((lcs (a.drop (i + 1)) (b.drop (k + 1)) + 1 : Nat) : Int) := wS _ (Nat.le_trans sl hsl)
  have e1 : wrap64 ((i : Int) + 1) = ((i + 1 : Nat) : Int) := wS _ hi'
  have e2 : wrap64 ((k : Int) + 1) = ((k + 1 : Nat) : Int) := wS _ hk'
  have e3 : wrap64 ((k : Int) - 1) = (k : Int) - 1 := wP _ hk'
  rw [offshootref28_Longest.l2, e1, e2, e3, if_pos c1, if_pos c2, lt, if_pos c3, if_pos c4, if_pos c5, if_pos c1', g1, g2, lr, lr', if_pos c6, if_pos c7, if_pos c8, if_pos c6, Option.bind_some, Int.toNat_natCast, Int.toNat_natCast, v1.out, v2.out, mx_eq, q1, q2, q3, q4, lr', v3.out, e4, mx_eq, if_pos c9, if_pos c10, if_pos c6, if_pos c8, List.set_set, List.set_set]
  by_cases h : idOf a[i] = idOf b[k]
  · rw [if_pos (hm.2 h)]
    have hl : lcs (a.drop i) (b.drop k) = lcs (a.drop (i + 1)) (b.drop (k + 1)) + 1 := by rw [da, db, lcs_eq _ _ h]
    rw [hl]
    rw [max3 _ _ _ s2.2 s1.2]
  · rw [if_neg (fun hh => h (hm.1 hh))]
    have hl : lcs (a.drop i) (b.drop k) = max (lcs (a.drop (i + 1)) (b.drop k)) (lcs (a.drop i) (b.drop (k + 1))) := by
      rw [da, db, lcs_ne _ _ h]
    rw [hl]
theorem l2_step {a b : List S36} (ha : a.length ≤ 300) (hb : b.length ≤ 300) (i k f : Nat) (hi : i < a.length) (hk : k < b.length) : offshootref28_Longest.l2 (f + 1) a b (tb a b i (k + 1)) (i : Int) (k : Int) = offshootref28_Longest.l2 f a b (tb a b i k) (i : Int) ((k : Int) - 1) := by
  rw [l2_core ha hb i k f hi hk (tb a b i (k + 1)) (rowT a b i (k + 1) i) (rowT a b i (k + 1) (i + 1)) (tb_len _ _ _ _) (rowT_len _ _ _ _ _) (rowT_len _ _ _ _ _) (rd_row _ _ _ _ _ (by omega)) (rd_row _ _ _ _ _ (by omega))
    (show _ = _ from (by rw [rd_cell _ _ _ _ _ _ (by omega), cellT, if_pos (.inl (by omega))])) (show _ = _ from (by rw [rd_cell _ _ _ _ _ _ (by omega), cellT, if_pos (.inr ⟨rfl, Nat.le_refl _⟩)])) (show _ = _ from (by rw [rd_cell _ _ _ _ _ _ (by omega), cellT, if_pos (.inl (by omega))])),
    set_cell a b i k (by omega) (by omega)]
/-- A row. -/
theorem l2_row {a b : List S36} (ha : a.length ≤ 300) (hb : b.length ≤ 300) (i f : Nat) (hi : i < a.length) : ∀ k : Nat, k ≤ b.length → offshootref28_Longest.l2 (f + 1 + k) a b (tb a b i k) (i : Int) ((k : Int) - 1) = offshootref28_Longest.l1 f a b (tb a b i 0) ((i : Int) - 1)
  | 0, hk => by
    have e3 : wrap64 ((i : Int) - 1) = (i : Int) - 1 := w64 (by omega) (by omega)
    rw [Nat.add_zero, offshootref28_Longest.l2, if_neg (by omega), e3]
  | k + 1, hk => by
    rw [show f + 1 + (k + 1) = (f + 1 + k) + 1 by omega, show ((k + 1 : Nat) : Int) - 1 = (k : Int) by omega, l2_step ha hb i k _ hi (by omega)]
    exact l2_row ha hb i f hi k (by omega)
/-- All rows. -/
theorem l1_all {a b : List S36} (ha : a.length ≤ 300) (hb : b.length ≤ 300) (f : Nat) : ∀ i : Nat, i ≤ a.length → offshootref28_Longest.l1 (f + 1 + (b.length + 2) * i) a b (tb a b i 0) ((i : Int) - 1) = some (tb a b 0 0)
  | 0, hi => by
    rw [Nat.mul_zero, Nat.add_zero, offshootref28_Longest.l1, if_neg (by omega)]
  | i + 1, hi => by
    have e3 : wrap64 ((b.length : Int) - 1) = (b.length : Int) - 1 := w64 (by omega) (by omega)
    rw [Nat.mul_add, Nat.mul_one, show f + 1 + ((b.length + 2) * i + (b.length + 2)) = (f + 1 + (b.length + 2) * i + 1 + b.length) + 1 by omega, show ((i + 1 : Nat) : Int) - 1 = (i : Int) by omega, offshootref28_Longest.l1, if_pos (by omega), e3, tb_row, l2_row ha hb i _ (by omega) b.length (Nat.le_refl _)]
    exact l1_all ha hb f i (by omega)
/-- The zeros. -/
theorem l0_all {a b : List S36} (ha : a.length ≤ 300) (hb : b.length ≤ 300) (f : Nat) : ∀ d i : Nat, i + d = a.length + 1 → offshootref28_Longest.l0 (f + 1 + d) a b (List.replicate i (List.replicate (b.length + 1) 0)) (i : Int) = offshootref28_Longest.l1 f a b (List.replicate (a.length + 1) (List.replicate (b.length + 1) 0)) ((a.length : Int) - 1)
  | 0, i, hi => by
    obtain rfl : i = a.length + 1 := by omega
    have e3 : wrap64 ((a.length : Int) - 1) = (a.length : Int) - 1 := w64 (by omega) (by omega)
    rw [Nat.add_zero, offshootref28_Longest.l0, if_neg (by omega), e3]
  | d + 1, i, hi => by
    have c1 : (i : Int) ≤ (a.length : Int) := by omega
    have c2 : 0 ≤ ((b.length + 1 : Nat) : Int) := by omega
    have c3 : b.length + 1 ≤ 35184372088832 := by omega
    have c4 : (List.replicate i (List.replicate (b.length + 1) (0 : Int))).length < 5864062014805 := by rw [List.length_replicate]; omega
    have e1 : wrap64 ((b.length : Int) + 1) = ((b.length + 1 : Nat) : Int) := w64 (by omega) (by omega)
    have e2 : wrap64 ((i : Int) + 1) = ((i + 1 : Nat) : Int) := w64 (by omega) (by omega)
    rw [show f + 1 + (d + 1) = (f + 1 + d) + 1 by omega, offshootref28_Longest.l0, if_pos c1, e1, if_pos c2, Int.toNat_natCast, if_pos c3, if_pos c4, e2, ← List.replicate_succ']
    exact l0_all ha hb f d (i + 1) (by omega)
theorem longest {a b : List S36} (ha : a.length ≤ 300) (hb : b.length ≤ 300) (k : Nat) (hk : 200000 ≤ k) : offshootref28_Longest.f k a b = some (tb a b 0 0) := by
  have h1 := l1_all ha hb 0 a.length (Nat.le_refl _)
  have h0 := l0_all ha hb (0 + 1 + (b.length + 2) * a.length) (a.length + 1) 0 (by omega)
  rw [← tb_zero, h1] at h0
  have hm : (b.length + 2) * a.length ≤ 302 * 300 := Nat.mul_le_mul (by omega) ha
  exact le_mono (f := fun k => offshootref28_Longest.f k a b) (fun k => offshootref28_Longest.mono a b k) (j := 0 + 1 + (b.length + 2) * a.length + 1 + (a.length + 1)) (by omega) h0
theorem first_cell (a b : List S36) : rd (rd_L6 (tb a b 0 0) 0) 0 = (lcs a b : Int) ∧ 0 < (tb a b 0 0).length ∧ 0 < (rd_L6 (tb a b 0 0) 0).length := by
  have h := rd_row a b 0 0 0 (Nat.zero_le _)
  rw [show ((0 : Nat) : Int) = 0 from rfl] at h
  have h2 := rd_cell a b 0 0 0 0 (Nat.zero_le _)
  rw [show ((0 : Nat) : Int) = 0 from rfl] at h2
  rw [h, tb_len, rowT_len, h2]
  exact ⟨by rw [cellT, if_pos (.inr ⟨rfl, Nat.le_refl _⟩)]; rfl, by omega, by omega⟩
end Go.Proofs.Ytbaihnpanoibdaa.Pure4
