/- The orders of names and stamps; no program in sight. -/
import Derived.Test.YtiakdnoafmojlaaDoorSee
namespace Go.Proofs.YtiakdnoafmojlaaDoor.Q
open Go.RowKit Go.Proofs.YtiakdnoafmojlaaDoorW.PrintWords
set_option linter.unusedVariables false
/-- Below, at or above. -/
def cm (x y : Int) : Int := if x < y then -1 else if y < x then 1 else 0
/-- The order of pairs. -/
def ord (a b : Int × Int) : Int := if cm a.1 b.1 = 0 then cm a.2 b.2 else cm a.1 b.1
theorem compare_f (x y : Int) : cmp_Compare_int.f x y = some (cm x y) := by
  unfold cmp_Compare_int.f cmp_isNaN_int.f cm
  rw [Option.bind_some, Option.bind_some]
  simp only [bne_self_eq_false, Bool.false_eq_true, if_false]
  by_cases h1 : x < y
  · rw [if_pos h1, if_pos h1]
  · rw [if_neg h1, if_neg h1]
    by_cases h2 : y < x
    · rw [if_pos h2, if_pos h2]
    · rw [if_neg h2, if_neg h2]
theorem or_f (x y : Int) : cmp_Or_int.f 5 [x, y] = some (if x = 0 then y else x) := by
  unfold cmp_Or_int.f
  by_cases hx : x = 0
  · subst hx
    by_cases hy : y = 0
    · subst hy; simp [cmp_Or_int.l0, rd, wrap64]
    · simp [cmp_Or_int.l0, rd, hy, wrap64]
  · simp [cmp_Or_int.l0, rd, hx]
theorem ids_f (a b : Int × Int) : stamp_OrderIds.f 5 a.1 a.2 b.1 b.2 = some (ord a b) := by
  unfold stamp_OrderIds.f
  rw [compare_f, Option.bind_some, compare_f, Option.bind_some, or_f, Option.bind_some]
  rfl
theorem stamps_f (a b : Int × Int) : stamp_OrderStamps.f 5 a.1 a.2 b.1 b.2 = some (ord a b) := by
  unfold stamp_OrderStamps.f
  rw [compare_f, Option.bind_some, compare_f, Option.bind_some, or_f, Option.bind_some]
  rfl
theorem ord_range (a b : Int × Int) : ord a b = -1 ∨ ord a b = 0 ∨ ord a b = 1 := by
  have hc : ∀ x y : Int, cm x y = -1 ∨ cm x y = 0 ∨ cm x y = 1 := fun x y => by
    unfold cm
    split
    · simp
    · split <;> simp
  unfold ord
  split
  · exact hc _ _
  · exact hc _ _
theorem ord_neg (a b : Int × Int) : ord a b = -ord b a := by
  unfold ord cm
  by_cases h1 : a.1 < b.1
  · have : ¬ b.1 < a.1 := by omega
    simp [h1, this]
  · by_cases h2 : b.1 < a.1
    · simp [h1, h2]
    · simp only [h1, h2, if_false, if_true]
      by_cases h3 : a.2 < b.2
      · have : ¬ b.2 < a.2 := by omega
        simp [h3, this]
      · by_cases h4 : b.2 < a.2
        · simp [h3, h4]
        · simp [h3, h4]
theorem ord_zero (a b : Int × Int) : ord a b = 0 ↔ (a.1 = b.1 ∧ a.2 = b.2) := by
  unfold ord cm
  by_cases h1 : a.1 < b.1
  · have : ¬ a.1 = b.1 := by omega
    simp [h1, this]
  · by_cases h2 : b.1 < a.1
    · have : ¬ a.1 = b.1 := by omega
      simp [h1, h2, this]
    · have e : a.1 = b.1 := by omega
      simp only [h1, h2, if_false, if_true]
      by_cases h3 : a.2 < b.2
      · have : ¬ a.2 = b.2 := by omega
        simp [h3, this]
      · by_cases h4 : b.2 < a.2
        · have : ¬ a.2 = b.2 := by omega
          simp [h3, h4, this]
        · have e2 : a.2 = b.2 := by omega
          simp [e, e2]
theorem ord_lt (a b : Int × Int) : ord a b < 0 ↔ (a.1 < b.1 ∨ (a.1 = b.1 ∧ a.2 < b.2)) := by
  unfold ord cm
  by_cases h1 : a.1 < b.1
  · simp [h1]
  · by_cases h2 : b.1 < a.1
    · have : ¬ a.1 = b.1 := by omega
      simp [h1, h2, this]
    · have e : a.1 = b.1 := by omega
      simp only [h1, h2, if_false, if_true]
      by_cases h3 : a.2 < b.2
      · simp [h3, e]
      · by_cases h4 : b.2 < a.2
        · simp [h3, h4]
        · simp [h3, h4]
theorem ord_trans {a b c : Int × Int} (h1 : ord a b < 0) (h2 : ord b c < 0) : ord a c < 0 := by
  rw [ord_lt] at *
  omega
end Go.Proofs.YtiakdnoafmojlaaDoor.Q
