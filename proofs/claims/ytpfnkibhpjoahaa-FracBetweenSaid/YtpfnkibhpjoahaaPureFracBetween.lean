/- A key that is made between two ends is right, above the lower and below the upper one; where none is made, the ends aren't right or not in order, or one has at least 31 bytes. -/
import Derived.Test.YtpfnkibhpjoahaaKit
import Derived.Test.YtpfnkibhpjoahaaQx5
namespace Go.Proofs.Ytpfnkibhpjoahaa.Pure
open Go.RowKit Go.Proofs.Ytpfnkibhpjoahaa.Q Go.Proofs.Ytpfnkibhpjoahaa.Math Go.Proofs.Ytpfnkibhpjoahaa.Kit Go.Proofs.YtpfnkibhpjoahaaW.PrintWords Go.Proofs.YtpfnkibhpjoahaaW.PrintLast

theorem FracBetween : offshootlaw04_FracBetween.Pure := by
  intro a b ha hb
  have e0 : offshootlaw04_FracBetween.j0 9001 a b true = some true := by
    rw [show (9001 : Nat) = 9000 + 1 from rfl]; simp only [offshootlaw04_FracBetween.j0, if_true]
  refine ⟨9001, ?_⟩
  unfold offshootlaw04_FracBetween.f
  rw [alive_at (by omega)]
  simp only [Option.bind_some, if_true]
  by_cases c : (a.size : Int) > 1000
  · rw [if_pos c, e0]
  rw [if_neg c]
  by_cases c' : (b.size : Int) > 1000
  · rw [decide_eq_true c', e0]
  rw [decide_eq_false c', show (9001 : Nat) = 9000 + 1 from rfl]
  simp only [offshootlaw04_FracBetween.j0, Bool.false_eq_true, if_false]
  rw [between_at (by omega) a b ha hb]
  cases hk : betw (nm a) (nm b) with
  | some r =>
    obtain ⟨r1, r2, r3, r4⟩ := betw_some (nm_range a) (nm_range b) hk
    have hr : big (strOfNums r) := big_str (by have := (right_ends r2).2; omega) r1
    obtain ⟨t1, o1, p1⟩ := order_neg a (strOfNums r)
    obtain ⟨t2, o2, p2⟩ := order_neg (strOfNums r) b
    rw [nm_str r r1] at p1 p2
    simp only [Option.bind_some, ans, if_true]
    rw [right_f _ hr, nm_str r r1, r2, o1, o2]
    simp only [Option.bind_some, if_true]
    rw [if_pos (p1.2 r3)]
    by_cases eb : b.toList = []
    · rw [if_pos eb]; simp
    · have e2 : decide (t2 < 0) = true := decide_eq_true (p2.2 (r4 (fun e => eb ((nm_nil b).2 e))))
      rw [if_neg eb, e2]; simp
  | none =>
    obtain ⟨t1, o1, p1⟩ := order_neg a b
    have hs := fun h => betw_none (nm_range a) (nm_range b) h hk
    rw [nm_len, nm_len] at hs
    simp only [Option.bind_some, ans]
    rw [right_f a ha, right_f b hb, o1, if_neg (by omega)]
    simp only [Option.bind_some, if_true]
    have en : ((⟨#[]⟩ : ByteArray).toList = ([] : List UInt8)) = True := by rw [nm_nil]; simp [empty_nm]
    simp only [en, if_true]
    have hend : 32 ≤ a.size ∨ 32 ≤ b.size → (if (a.size : Int) ≥ 31 then some true else some (decide ((b.size : Int) ≥ 31))) = some true := by
      intro h
      split
      · rfl
      · rw [decide_eq_true (by omega)]
    by_cases ea : a.toList = []
    · have ea' := (nm_nil a).1 ea
      rw [if_pos ea]
      by_cases eb : b.toList = []
      · have eb' := (nm_nil b).1 eb
        rw [if_pos eb]
        exact hend (hs (by rw [ea', eb']; rfl))
      · have eb' : nm b ≠ [] := fun e => eb ((nm_nil b).2 e)
        rw [if_neg eb]
        cases hr : right (nm b) with
        | true => exact hend (hs (by rw [ea']; simp [spanFine, fine, hr]))
        | false => simp
    · have ea' : nm a ≠ [] := fun e => ea ((nm_nil a).2 e)
      rw [if_neg ea]
      cases hl : right (nm a) with
      | false => simp
      | true =>
        simp only [if_true]
        by_cases eb : b.toList = []
        · have eb' := (nm_nil b).1 eb
          rw [if_pos eb]
          exact hend (hs (by rw [eb']; simp [spanFine, fine, hl]))
        · rw [if_neg eb]
          cases hr : right (nm b) with
          | false => simp
          | true =>
            simp only [if_true]
            by_cases ht : t1 < 0
            · rw [if_pos ht]
              exact hend (hs (by simp [spanFine, fine, hl, hr, p1.1 ht]))
            · rw [if_neg ht]
end Go.Proofs.Ytpfnkibhpjoahaa.Pure
