/- The reference's Splice, Back and DiffSplice compute what their Lean functions here say. Written by the kit's print.py (see wip/tools/diffprint.sh of this session); what it could not print is proved by hand. -/
import Derived.Test.YtbaihnpanoibdaaQx0
import Derived.Test.YtbaihnpanoibdaaQx4
import Derived.Test.YtbaihnpanoibdaaQx5
import Derived.Test.YtbaihnpanoibdaaQx6
namespace Go.Proofs.Ytbaihnpanoibdaa.Q
open Go.RowKit Go.Proofs.YtbaihnpanoibdaaW.PrintWords Go.Proofs.YtbaihnpanoibdaaW.PrintLast Go.Proofs.YtbaihnpanoibdaaW.PrintMore
attribute [local go_sem] max2_int min2_int max_two min_two max_three min_three max_four min_four   -- for this text's walks alone
set_option linter.unusedVariables false
set_option linter.unusedSimpArgs false

/-! ### offshootref28_Splice: function 17 -/
mutual
def offshootref28_Splice.j1 : Nat → ByteArray → ByteArray → Int → Option (Int × Int × ByteArray)
  | 0, _, _, _ => none
  | k + 1, x0, x1, x7 => offshootref28_Splice.l1 k x0 x1 x7 0
def offshootref28_Splice.l1 : Nat → ByteArray → ByteArray → Int → Int → Option (Int × Int × ByteArray)
  | 0, _, _, _, _ => none
  | k + 1, x0, x1, x7, x8 => if (wrap64 (x7 + x8)) < (x0.size : Int) then (if (wrap64 (x7 + x8)) < (x1.size : Int) then (if 0 ≤ (wrap64 ((wrap64 ((x0.size : Int) - 1)) - x8)) then (if (wrap64 ((wrap64 ((x0.size : Int) - 1)) - x8)) < (x0.size : Int) then (if 0 ≤ (wrap64 ((wrap64 ((x1.size : Int) - 1)) - x8)) then (if (wrap64 ((wrap64 ((x1.size : Int) - 1)) - x8)) < (x1.size : Int) then (if (bt x0 (wrap64 ((wrap64 ((x0.size : Int) - 1)) - x8))) = (bt x1 (wrap64 ((wrap64 ((x1.size : Int) - 1)) - x8))) then (offshootref28_Splice.l1 k x0 x1 x7 (wrap64 (x8 + 1))) else (if 0 ≤ x7 then (if x7 ≤ (wrap64 ((x1.size : Int) - x8)) then (if (wrap64 ((x1.size : Int) - x8)) ≤ (x1.size : Int) then (some (x7, wrap64 ((wrap64 ((x0.size : Int) - x8)) - x7), x1.extract (x7 : Int).toNat ((wrap64 ((x1.size : Int) - x8)) : Int).toNat)) else (none)) else (none)) else (none))) else (none)) else (none)) else (none)) else (none)) else (if 0 ≤ x7 then (if x7 ≤ (wrap64 ((x1.size : Int) - x8)) then (if (wrap64 ((x1.size : Int) - x8)) ≤ (x1.size : Int) then (some (x7, wrap64 ((wrap64 ((x0.size : Int) - x8)) - x7), x1.extract (x7 : Int).toNat ((wrap64 ((x1.size : Int) - x8)) : Int).toNat)) else (none)) else (none)) else (none))) else (if 0 ≤ x7 then (if x7 ≤ (wrap64 ((x1.size : Int) - x8)) then (if (wrap64 ((x1.size : Int) - x8)) ≤ (x1.size : Int) then (some (x7, wrap64 ((wrap64 ((x0.size : Int) - x8)) - x7), x1.extract (x7 : Int).toNat ((wrap64 ((x1.size : Int) - x8)) : Int).toNat)) else (none)) else (none)) else (none))
def offshootref28_Splice.l0 : Nat → ByteArray → ByteArray → Int → Option (Int × Int × ByteArray)
  | 0, _, _, _ => none
  | k + 1, x0, x1, x7 => if x7 < (x0.size : Int) then (if x7 < (x1.size : Int) then (if 0 ≤ x7 then (if (bt x0 x7) = (bt x1 x7) then (offshootref28_Splice.l0 k x0 x1 (wrap64 (x7 + 1))) else (offshootref28_Splice.j1 k x0 x1 x7)) else (none)) else (offshootref28_Splice.j1 k x0 x1 x7)) else (offshootref28_Splice.j1 k x0 x1 x7)
end
def offshootref28_Splice.f (k : Nat) (a0 : ByteArray) (a1 : ByteArray) : Option (Int × Int × ByteArray) := offshootref28_Splice.l0 k a0 a1 0
theorem offshootref28_Splice.mono_l : ∀ k, (∀ y0 y1 y2, LeO (offshootref28_Splice.j1 k y0 y1 y2) (offshootref28_Splice.j1 (k + 1) y0 y1 y2)) ∧ (∀ y0 y1 y2 y3, LeO (offshootref28_Splice.l1 k y0 y1 y2 y3) (offshootref28_Splice.l1 (k + 1) y0 y1 y2 y3)) ∧ (∀ y0 y1 y2, LeO (offshootref28_Splice.l0 k y0 y1 y2) (offshootref28_Splice.l0 (k + 1) y0 y1 y2))
  | 0 => ⟨fun _ _ _ r h => by simp [offshootref28_Splice.j1] at h, fun _ _ _ _ r h => by simp [offshootref28_Splice.l1] at h, fun _ _ _ r h => by simp [offshootref28_Splice.l0] at h⟩
  | k + 1 => by
    obtain ⟨ih0, ih1, ih2⟩ := offshootref28_Splice.mono_l k
    refine ⟨?_, ?_, ?_⟩
    · intro y0 y1 y2
      unfold offshootref28_Splice.j1
      repeat' first
      | (with_reducible exact ih0 _ _ _)
      | (with_reducible exact ih1 _ _ _ _)
      | (with_reducible exact ih2 _ _ _)
      | (with_reducible exact LeO.refl _)
      | (with_reducible exact LeO.none _)
      | (with_reducible refine LeO.ite ?_ ?_)
      | (with_reducible refine LeO.bind ?_ (fun _ => ?_))
      | exact ih0 _ _ _
      | exact ih1 _ _ _ _
      | exact ih2 _ _ _
      | exact LeO.none _
      | refine LeO.ite ?_ ?_
      | refine LeO.bind ?_ (fun _ => ?_)
    · intro y0 y1 y2 y3
      unfold offshootref28_Splice.l1
      repeat' first
      | (with_reducible exact ih0 _ _ _)
      | (with_reducible exact ih1 _ _ _ _)
      | (with_reducible exact ih2 _ _ _)
      | (with_reducible exact LeO.refl _)
      | (with_reducible exact LeO.none _)
      | (with_reducible refine LeO.ite ?_ ?_)
      | (with_reducible refine LeO.bind ?_ (fun _ => ?_))
      | exact ih0 _ _ _
      | exact ih1 _ _ _ _
      | exact ih2 _ _ _
      | exact LeO.none _
      | refine LeO.ite ?_ ?_
      | refine LeO.bind ?_ (fun _ => ?_)
    · intro y0 y1 y2
      unfold offshootref28_Splice.l0
      repeat' first
      | (with_reducible exact ih0 _ _ _)
      | (with_reducible exact ih1 _ _ _ _)
      | (with_reducible exact ih2 _ _ _)
      | (with_reducible exact LeO.refl _)
      | (with_reducible exact LeO.none _)
      | (with_reducible refine LeO.ite ?_ ?_)
      | (with_reducible refine LeO.bind ?_ (fun _ => ?_))
      | exact ih0 _ _ _
      | exact ih1 _ _ _ _
      | exact ih2 _ _ _
      | exact LeO.none _
      | refine LeO.ite ?_ ?_
      | refine LeO.bind ?_ (fun _ => ?_)
theorem offshootref28_Splice.mono : ∀ a0 a1 k, LeO (offshootref28_Splice.f k a0 a1) (offshootref28_Splice.f (k + 1) a0 a1) := by
  intro a0 a1 k
  obtain ⟨ih0, ih1, ih2⟩ := offshootref28_Splice.mono_l k
  unfold offshootref28_Splice.f
  repeat' first
      | (with_reducible exact ih0 _ _ _)
      | (with_reducible exact ih1 _ _ _ _)
      | (with_reducible exact ih2 _ _ _)
      | (with_reducible exact LeO.refl _)
      | (with_reducible exact LeO.none _)
      | (with_reducible refine LeO.ite ?_ ?_)
      | (with_reducible refine LeO.bind ?_ (fun _ => ?_))
      | exact ih0 _ _ _
      | exact ih1 _ _ _ _
      | exact ih2 _ _ _
      | exact LeO.none _
      | refine LeO.ite ?_ ?_
      | refine LeO.bind ?_ (fun _ => ?_)
set_option maxHeartbeats 8000000 in
set_option maxRecDepth 100000 in
theorem offshootref28_Splice.calls (k : Nat) (a0 : ByteArray) (a1 : ByteArray) (r1 : Int) (r2 : Int) (r3 : ByteArray) (w : World) (h : offshootref28_Splice.f k a0 a1 = some (r1, r2, r3)) :
    Calls Try.prog 17 #[.string a0, .string a1] w fun e w' => e = .returned (.tuple #[.int .i64 r1, .int .i64 r2, .string r3]) ∧ Drawn0 w w' := by
  have H : (offshootref28_Splice.l0 k a0 a1 0) = some (r1, r2, r3) := h
  clear h
  have HC3 := Aside0.mk H
  clear H
  go_enter Try.func17, Try.ntmps17
  go_upto_block 0 with (fail)
  repeat (go_quiet (fail); go_upto_block 0 with (fail))
  go_cut [7] (fun v7 wc => ∃ (kq : Nat) (x7_2 : Int), v7 = .int .i64 x7_2 ∧ Aside0 (offshootref28_Splice.j1 kq a0 a1 x7_2 = some (r1, r2, r3)) ∧ Aside0 (kq ≤ k) ∧ Drawn0 w wc)
  case first =>
    have H := HC3.out
    clear HC3
    have H' := Aside0.mk H
    clear H
    go_wp2
    repeat (go_quiet (fail); try go_wp2)
    go_loopg [7] k (fun kq v7 w' => ∃ (x7_1 : Int), v7 = .int .i64 x7_1 ∧ Aside0 (offshootref28_Splice.l0 kq a0 a1 x7_1 = some (r1, r2, r3)) ∧ Aside0 (kq ≤ k) ∧ Drawn0 w w')
    case atStart => exact ⟨(0), (by first | rfl | (simp; done) | (simp [*]; done)), H', ⟨Nat.le_refl _⟩, by repeat (first | exact Drawn0.refl _ | apply Drawn0.step)⟩
    case round =>
      clear H'
      try clear c1
      try clear p2
      obtain ⟨x7_1, rfl, HA, HK1, ⟨m1, rfl⟩⟩ := hrel
      cases gk with
      | zero => exact absurd HA.out (by simp [offshootref28_Splice.l0])
      | succ k1 =>
        have H := HA.out
        clear HA
        simp only [offshootref28_Splice.l0] at H
        by_cases c4 : x7_1 < (a0.size : Int)
        · rw [if_pos c4] at H
          have c4b0 : decide (x7_1 < (a0.size : Int)) = true := decide_eq_true c4
          clear c4
          (first | rw [c4b0] | (simp only [i64_w, i32_w]; rw [c4b0]) | skip)
          by_cases c5 : x7_1 < (a1.size : Int)
          · rw [if_pos c5] at H
            have c5b0 : decide (x7_1 < (a1.size : Int)) = true := decide_eq_true c5
            clear c5
            by_cases c6 : 0 ≤ x7_1
            · rw [if_pos c6] at H
              have c6b0 : decide (0 ≤ x7_1) = true := decide_eq_true c6
              clear c6
              by_cases c9 : (bt a0 x7_1) = (bt a1 x7_1)
              · rw [if_pos c9] at H
                have c9b0 : ((bt a0 x7_1) == (bt a1 x7_1)) = true := beq_iff_eq.mpr c9
                have c9b1 : ((bt a0 x7_1) != (bt a1 x7_1)) = false := bne_eq_false_iff_eq.mpr c9
                clear c9
                have H' := Aside0.mk H
                clear H
                have p7 : 0 ≤ (x7_1 : Int) := of_decide_eq_true (by first | (with_reducible assumption) | assumption)
                have q7 : x7_1 < (a0.size : Int) := of_decide_eq_true (by first | (with_reducible assumption) | assumption)
                have hx7 := bt_at a0 x7_1
                replace p7 := eq_true p7
                replace q7 := eq_true q7
                have p8 : 0 ≤ (x7_1 : Int) := of_decide_eq_true (by first | (with_reducible assumption) | assumption)
                have q8 : x7_1 < (a1.size : Int) := of_decide_eq_true (by first | (with_reducible assumption) | assumption)
                have hx8 := bt_at a1 x7_1
                replace p8 := eq_true p8
                replace q8 := eq_true q8
                go_wp2
                repeat (go_quiet (fail); try go_wp2)
                go_roundg k1
                case measure => have := HK1.out; omega
                case rel => exact ⟨(wrap64 (x7_1 + 1)), (by first | rfl | (simp; done) | (simp [*]; done)), H', ⟨by have := HK1.out; omega⟩, by repeat (first | exact Drawn0.refl _ | apply Drawn0.step)⟩
              · rw [if_neg c9] at H
                have c9b0 : ((bt a0 x7_1) == (bt a1 x7_1)) = false := beq_eq_false_iff_ne.mpr c9
                have c9b1 : ((bt a0 x7_1) != (bt a1 x7_1)) = true := bne_iff_ne.mpr c9
                have H' := Aside0.mk H
                clear H
                have p7 : 0 ≤ (x7_1 : Int) := of_decide_eq_true (by first | (with_reducible assumption) | assumption)
                have q7 : x7_1 < (a0.size : Int) := of_decide_eq_true (by first | (with_reducible assumption) | assumption)
                have hx7 := bt_at a0 x7_1
                replace p7 := eq_true p7
                replace q7 := eq_true q7
                have p8 : 0 ≤ (x7_1 : Int) := of_decide_eq_true (by first | (with_reducible assumption) | assumption)
                have q8 : x7_1 < (a1.size : Int) := of_decide_eq_true (by first | (with_reducible assumption) | assumption)
                have hx8 := bt_at a1 x7_1
                replace p8 := eq_true p8
                replace q8 := eq_true q8
                go_wp2
                repeat (go_quiet (fail); try go_wp2)
                go_meet
                case rel => exact ⟨_, (x7_1), (by first | rfl | (simp; done) | (simp [*]; done)), H', ⟨by have := HK1.out; first | omega | exact Nat.le_refl _⟩, by repeat (first | exact Drawn0.refl _ | apply Drawn0.step)⟩
            · rw [if_neg c6] at H
              exact absurd H (by simp)
          · rw [if_neg c5] at H
            have c5b0 : decide (x7_1 < (a1.size : Int)) = false := decide_eq_false c5
            clear c5
            have H' := Aside0.mk H
            clear H
            go_wp2
            repeat (go_quiet (fail); try go_wp2)
            go_meet
            case rel => exact ⟨_, (x7_1), (by first | rfl | (simp; done) | (simp [*]; done)), H', ⟨by have := HK1.out; first | omega | exact Nat.le_refl _⟩, by repeat (first | exact Drawn0.refl _ | apply Drawn0.step)⟩
        · rw [if_neg c4] at H
          have c4b0 : decide (x7_1 < (a0.size : Int)) = false := decide_eq_false c4
          clear c4
          (first | rw [c4b0] | (simp only [i64_w, i32_w]; rw [c4b0]) | skip)
          have H' := Aside0.mk H
          clear H
          go_wp2
          repeat (go_quiet (fail); try go_wp2)
          go_meet
          case rel => exact ⟨_, (x7_1), (by first | rfl | (simp; done) | (simp [*]; done)), H', ⟨by have := HK1.out; first | omega | exact Nat.le_refl _⟩, by repeat (first | exact Drawn0.refl _ | apply Drawn0.step)⟩
  case rest =>
    clear HC3
    try clear c1
    try clear p2
    try clear c4
    try clear c4b0
    try clear c5
    try clear c5b0
    try clear c6
    try clear c6b0
    try clear p6
    try clear p7
    try clear q7
    try clear hx7
    try clear p8
    try clear q8
    try clear hx8
    try clear c9
    try clear c9b0
    try clear c9b1
    try clear p2
    try clear p7
    try clear p8
    try clear q7
    try clear q8
    obtain ⟨kq, x7_2, rfl, HA, HJ2, ⟨mc2, rfl⟩⟩ := hcut
    cases kq with
    | zero => exact absurd HA.out (by simp [offshootref28_Splice.j1])
    | succ kj2 =>
      have H := HA.out
      clear HA
      simp only [offshootref28_Splice.j1] at H
      have H' := Aside0.mk H
      clear H
      go_wp2
      repeat (go_quiet (fail); try go_wp2)
      go_loopg [8] kj2 (fun kq v8 w' => ∃ (x8_2 : Int), v8 = .int .i64 x8_2 ∧ Aside0 (offshootref28_Splice.l1 kq a0 a1 x7_2 x8_2 = some (r1, r2, r3)) ∧ Aside0 (kq ≤ kj2) ∧ Drawn0 w w')
      case atStart => exact ⟨(0), (by first | rfl | (simp; done) | (simp [*]; done)), H', ⟨Nat.le_refl _⟩, by repeat (first | exact Drawn0.refl _ | apply Drawn0.step)⟩
      case round =>
        clear H'
        try clear c1
        try clear c2
        try clear p2
        try clear c4
        try clear c4b0
        try clear c5
        try clear c5b0
        try clear c6
        try clear c6b0
        try clear p6
        try clear p7
        try clear q7
        try clear hx7
        try clear p8
        try clear q8
        try clear hx8
        try clear c9
        try clear c9b0
        try clear c9b1
        try clear p2
        try clear p6
        try clear p7
        try clear p8
        try clear q7
        try clear q8
        obtain ⟨x8_2, rfl, HA, HK2, ⟨m2, rfl⟩⟩ := hrel
        cases gk with
        | zero => exact absurd HA.out (by simp [offshootref28_Splice.l1])
        | succ k2 =>
          have H := HA.out
          clear HA
          simp only [offshootref28_Splice.l1] at H
          by_cases c10 : (wrap64 (x7_2 + x8_2)) < (a0.size : Int)
          · rw [if_pos c10] at H
            have c10b0 : decide ((wrap64 (x7_2 + x8_2)) < (a0.size : Int)) = true := decide_eq_true c10
            clear c10
            by_cases c11 : (wrap64 (x7_2 + x8_2)) < (a1.size : Int)
            · rw [if_pos c11] at H
              have c11b0 : decide ((wrap64 (x7_2 + x8_2)) < (a1.size : Int)) = true := decide_eq_true c11
              clear c11
              obtain ⟨ji12, hji12⟩ : ∃ j_ : Int, (wrap64 ((wrap64 ((a0.size : Int) - 1)) - x8_2)) = j_ := ⟨_, rfl⟩
              replace H : (if 0 ≤ (ji12) then (if (ji12) < (a0.size : Int) then (if 0 ≤ (wrap64 ((wrap64 ((a1.size : Int) - 1)) - x8_2)) then (if (wrap64 ((wrap64 ((a1.size : Int) - 1)) - x8_2)) < (a1.size : Int) then (if (bt a0 (ji12)) = (bt a1 (wrap64 ((wrap64 ((a1.size : Int) - 1)) - x8_2))) then (offshootref28_Splice.l1 k2 a0 a1 x7_2 (wrap64 (x8_2 + 1))) else (if 0 ≤ x7_2 then (if x7_2 ≤ (wrap64 ((a1.size : Int) - x8_2)) then (if (wrap64 ((a1.size : Int) - x8_2)) ≤ (a1.size : Int) then (some (x7_2, wrap64 ((wrap64 ((a0.size : Int) - x8_2)) - x7_2), a1.extract (x7_2 : Int).toNat ((wrap64 ((a1.size : Int) - x8_2)) : Int).toNat)) else (none)) else (none)) else (none))) else (none)) else (none)) else (none)) else (none)) = some (r1, r2, r3) := by first | (rw [hji12] at H; exact H) | (simp only [hji12] at H ⊢; exact H)
              have hji12w : (IntKind.i64.wrap ((wrap64 ((a0.size : Int) - 1)) - x8_2)) = ji12 := (i64_w _).trans hji12
              by_cases c13 : 0 ≤ (ji12)
              · rw [if_pos c13] at H
                have c13b0 : decide (0 ≤ (ji12)) = true := decide_eq_true c13
                clear c13
                by_cases c14 : (ji12) < (a0.size : Int)
                · rw [if_pos c14] at H
                  have c14b0 : decide ((ji12) < (a0.size : Int)) = true := decide_eq_true c14
                  clear c14
                  obtain ⟨ji16, hji16⟩ : ∃ j_ : Int, (wrap64 ((wrap64 ((a1.size : Int) - 1)) - x8_2)) = j_ := ⟨_, rfl⟩
                  replace H : (if 0 ≤ (ji16) then (if (ji16) < (a1.size : Int) then (if (bt a0 (ji12)) = (bt a1 (ji16)) then (offshootref28_Splice.l1 k2 a0 a1 x7_2 (wrap64 (x8_2 + 1))) else (if 0 ≤ x7_2 then (if x7_2 ≤ (wrap64 ((a1.size : Int) - x8_2)) then (if (wrap64 ((a1.size : Int) - x8_2)) ≤ (a1.size : Int) then (some (x7_2, wrap64 ((wrap64 ((a0.size : Int) - x8_2)) - x7_2), a1.extract (x7_2 : Int).toNat ((wrap64 ((a1.size : Int) - x8_2)) : Int).toNat)) else (none)) else (none)) else (none))) else (none)) else (none)) = some (r1, r2, r3) := by first | (rw [hji16] at H; exact H) | (simp only [hji16] at H ⊢; exact H)
                  have hji16w : (IntKind.i64.wrap ((wrap64 ((a1.size : Int) - 1)) - x8_2)) = ji16 := (i64_w _).trans hji16
                  by_cases c17 : 0 ≤ (ji16)
                  · rw [if_pos c17] at H
                    have c17b0 : decide (0 ≤ (ji16)) = true := decide_eq_true c17
                    clear c17
                    by_cases c18 : (ji16) < (a1.size : Int)
                    · rw [if_pos c18] at H
                      have c18b0 : decide ((ji16) < (a1.size : Int)) = true := decide_eq_true c18
                      clear c18
                      by_cases c20 : (bt a0 (ji12)) = (bt a1 (ji16))
                      · rw [if_pos c20] at H
                        have c20b0 : ((bt a0 (ji12)) == (bt a1 (ji16))) = true := beq_iff_eq.mpr c20
                        have c20b1 : ((bt a0 (ji12)) != (bt a1 (ji16))) = false := bne_eq_false_iff_eq.mpr c20
                        clear c20
                        have H' := Aside0.mk H
                        clear H
                        have p15 : 0 ≤ ((ji12) : Int) := of_decide_eq_true (by first | (with_reducible assumption) | assumption)
                        have q15 : (ji12) < (a0.size : Int) := of_decide_eq_true (by first | (with_reducible assumption) | assumption)
                        have hx15 := bt_at a0 (ji12)
                        replace p15 := eq_true p15
                        replace q15 := eq_true q15
                        have p19 : 0 ≤ ((ji16) : Int) := of_decide_eq_true (by first | (with_reducible assumption) | assumption)
                        have q19 : (ji16) < (a1.size : Int) := of_decide_eq_true (by first | (with_reducible assumption) | assumption)
                        have hx19 := bt_at a1 (ji16)
                        replace p19 := eq_true p19
                        replace q19 := eq_true q19
                        go_wp2
                        repeat (go_quiet (fail); try go_wp2)
                        go_roundg k2
                        case measure => have := HJ2.out; have := HK2.out; omega
                        case rel => exact ⟨(wrap64 (x8_2 + 1)), (by first | rfl | (simp; done) | (simp [*]; done)), H', ⟨by have := HJ2.out; have := HK2.out; omega⟩, by repeat (first | exact Drawn0.refl _ | apply Drawn0.step)⟩
                      · rw [if_neg c20] at H
                        have c20b0 : ((bt a0 (ji12)) == (bt a1 (ji16))) = false := beq_eq_false_iff_ne.mpr c20
                        have c20b1 : ((bt a0 (ji12)) != (bt a1 (ji16))) = true := bne_iff_ne.mpr c20
                        by_cases c21 : 0 ≤ x7_2
                        · rw [if_pos c21] at H
                          have c21b0 := eq_true c21
                          have c21b1 : decide (0 ≤ x7_2) = true := decide_eq_true c21
                          clear c21
                          by_cases c22 : x7_2 ≤ (wrap64 ((a1.size : Int) - x8_2))
                          · rw [if_pos c22] at H
                            have c22b0 := eq_true c22
                            have c22b1 : decide (x7_2 ≤ (wrap64 ((a1.size : Int) - x8_2))) = true := decide_eq_true c22
                            clear c22
                            by_cases c23 : (wrap64 ((a1.size : Int) - x8_2)) ≤ (a1.size : Int)
                            · rw [if_pos c23] at H
                              have c23b0 := eq_true c23
                              have c23b1 : decide ((wrap64 ((a1.size : Int) - x8_2)) ≤ (a1.size : Int)) = true := decide_eq_true c23
                              clear c23
                              simp only [Option.some.injEq, Prod.mk.injEq] at H
                              obtain ⟨rfl, rfl, rfl⟩ := H
                              have p15 : 0 ≤ ((ji12) : Int) := of_decide_eq_true (by first | (with_reducible assumption) | assumption)
                              have q15 : (ji12) < (a0.size : Int) := of_decide_eq_true (by first | (with_reducible assumption) | assumption)
                              have hx15 := bt_at a0 (ji12)
                              replace p15 := eq_true p15
                              replace q15 := eq_true q15
                              have p19 : 0 ≤ ((ji16) : Int) := of_decide_eq_true (by first | (with_reducible assumption) | assumption)
                              have q19 : (ji16) < (a1.size : Int) := of_decide_eq_true (by first | (with_reducible assumption) | assumption)
                              have hx19 := bt_at a1 (ji16)
                              replace p19 := eq_true p19
                              replace q19 := eq_true q19
                              go_wp2
                              repeat (go_quiet (fail); try go_wp2)
                              go_ret3
                              exact ⟨by first | rfl | (simp; done) | (simp only [← hji12, ← hji16] <;> (first | rfl | simp)) | (simp [*]; done), by repeat (first | exact Drawn0.refl _ | apply Drawn0.step)⟩
                            · rw [if_neg c23] at H
                              exact absurd H (by simp)
                          · rw [if_neg c22] at H
                            exact absurd H (by simp)
                        · rw [if_neg c21] at H
                          exact absurd H (by simp)
                    · rw [if_neg c18] at H
                      exact absurd H (by simp)
                  · rw [if_neg c17] at H
                    exact absurd H (by simp)
                · rw [if_neg c14] at H
                  exact absurd H (by simp)
              · rw [if_neg c13] at H
                exact absurd H (by simp)
            · rw [if_neg c11] at H
              have c11b0 : decide ((wrap64 (x7_2 + x8_2)) < (a1.size : Int)) = false := decide_eq_false c11
              clear c11
              by_cases c24 : 0 ≤ x7_2
              · rw [if_pos c24] at H
                have c24b0 := eq_true c24
                have c24b1 : decide (0 ≤ x7_2) = true := decide_eq_true c24
                clear c24
                by_cases c25 : x7_2 ≤ (wrap64 ((a1.size : Int) - x8_2))
                · rw [if_pos c25] at H
                  have c25b0 := eq_true c25
                  have c25b1 : decide (x7_2 ≤ (wrap64 ((a1.size : Int) - x8_2))) = true := decide_eq_true c25
                  clear c25
                  by_cases c26 : (wrap64 ((a1.size : Int) - x8_2)) ≤ (a1.size : Int)
                  · rw [if_pos c26] at H
                    have c26b0 := eq_true c26
                    have c26b1 : decide ((wrap64 ((a1.size : Int) - x8_2)) ≤ (a1.size : Int)) = true := decide_eq_true c26
                    clear c26
                    simp only [Option.some.injEq, Prod.mk.injEq] at H
                    obtain ⟨rfl, rfl, rfl⟩ := H
                    go_wp2
                    repeat (go_quiet (fail); try go_wp2)
                    go_ret3
                    exact ⟨by first | rfl | (simp; done) | (simp [*]; done), by repeat (first | exact Drawn0.refl _ | apply Drawn0.step)⟩
                  · rw [if_neg c26] at H
                    exact absurd H (by simp)
                · rw [if_neg c25] at H
                  exact absurd H (by simp)
              · rw [if_neg c24] at H
                exact absurd H (by simp)
          · rw [if_neg c10] at H
            have c10b0 : decide ((wrap64 (x7_2 + x8_2)) < (a0.size : Int)) = false := decide_eq_false c10
            clear c10
            by_cases c27 : 0 ≤ x7_2
            · rw [if_pos c27] at H
              have c27b0 := eq_true c27
              have c27b1 : decide (0 ≤ x7_2) = true := decide_eq_true c27
              clear c27
              by_cases c28 : x7_2 ≤ (wrap64 ((a1.size : Int) - x8_2))
              · rw [if_pos c28] at H
                have c28b0 := eq_true c28
                have c28b1 : decide (x7_2 ≤ (wrap64 ((a1.size : Int) - x8_2))) = true := decide_eq_true c28
                clear c28
                by_cases c29 : (wrap64 ((a1.size : Int) - x8_2)) ≤ (a1.size : Int)
                · rw [if_pos c29] at H
                  have c29b0 := eq_true c29
                  have c29b1 : decide ((wrap64 ((a1.size : Int) - x8_2)) ≤ (a1.size : Int)) = true := decide_eq_true c29
                  clear c29
                  simp only [Option.some.injEq, Prod.mk.injEq] at H
                  obtain ⟨rfl, rfl, rfl⟩ := H
                  go_wp2
                  repeat (go_quiet (fail); try go_wp2)
                  go_ret3
                  exact ⟨by first | rfl | (simp; done) | (simp [*]; done), by repeat (first | exact Drawn0.refl _ | apply Drawn0.step)⟩
                · rw [if_neg c29] at H
                  exact absurd H (by simp)
              · rw [if_neg c28] at H
                exact absurd H (by simp)
            · rw [if_neg c27] at H
              exact absurd H (by simp)

/-! ### offshootlaw28_DiffSplice: function 6 -/
def offshootlaw28_DiffSplice.j0 : Nat → ByteArray → ByteArray → Bool → Option (Bool)
  | 0, _, _, _ => none
  | k + 1, x0, x1, x21 => if x21 = true then (some true) else ((diff_Splice.f k x0 x1).bind fun bt292 => ((offshootref28_Splice.f k x0 x1).bind fun bt295 => (if bt292.1 = bt295.1 then (if bt292.2.1 = bt295.2.1 then (if bt292.2.2.toList = bt295.2.2.toList then (if bt292.1 < 0 then (some false) else (if bt292.2.1 < 0 then (some false) else (if (wrap64 (bt292.1 + bt292.2.1)) > (x0.size : Int) then (some false) else (if 0 ≤ bt292.1 then (if bt292.1 ≤ (x0.size : Int) then (if (x0.extract 0 (bt292.1 : Int).toNat).size + bt292.2.2.size ≤ 9223372036854775807 then (if 0 ≤ (wrap64 (bt292.1 + bt292.2.1)) then (if (wrap64 (bt292.1 + bt292.2.1)) ≤ (x0.size : Int) then (if ((x0.extract 0 (bt292.1 : Int).toNat) ++ bt292.2.2).size + (x0.extract ((wrap64 (bt292.1 + bt292.2.1)) : Int).toNat x0.size).size ≤ 9223372036854775807 then (if (((x0.extract 0 (bt292.1 : Int).toNat) ++ bt292.2.2) ++ (x0.extract ((wrap64 (bt292.1 + bt292.2.1)) : Int).toNat x0.size)).toList = x1.toList then (if bt292.1 ≤ (wrap64 (bt292.1 + bt292.2.1)) then (if ((x0.extract (bt292.1 : Int).toNat ((wrap64 (bt292.1 + bt292.2.1)) : Int).toNat).size : Int) = 0 then (some true) else (if (bt292.2.2.size : Int) = 0 then (some true) else (if 0 < ((x0.extract (bt292.1 : Int).toNat ((wrap64 (bt292.1 + bt292.2.1)) : Int).toNat).size : Int) then (if 0 < (bt292.2.2.size : Int) then (if (bt (x0.extract (bt292.1 : Int).toNat ((wrap64 (bt292.1 + bt292.2.1)) : Int).toNat) 0) = (bt bt292.2.2 0) then (some false) else (if 0 ≤ (wrap64 (((x0.extract (bt292.1 : Int).toNat ((wrap64 (bt292.1 + bt292.2.1)) : Int).toNat).size : Int) - 1)) then (if (wrap64 (((x0.extract (bt292.1 : Int).toNat ((wrap64 (bt292.1 + bt292.2.1)) : Int).toNat).size : Int) - 1)) < ((x0.extract (bt292.1 : Int).toNat ((wrap64 (bt292.1 + bt292.2.1)) : Int).toNat).size : Int) then (if 0 ≤ (wrap64 ((bt292.2.2.size : Int) - 1)) then (if (wrap64 ((bt292.2.2.size : Int) - 1)) < (bt292.2.2.size : Int) then (some ((bt (x0.extract (bt292.1 : Int).toNat ((wrap64 (bt292.1 + bt292.2.1)) : Int).toNat) (wrap64 (((x0.extract (bt292.1 : Int).toNat ((wrap64 (bt292.1 + bt292.2.1)) : Int).toNat).size : Int) - 1))) != (bt bt292.2.2 (wrap64 ((bt292.2.2.size : Int) - 1))))) else (none)) else (none)) else (none)) else (none))) else (none)) else (none)))) else (none)) else (some false)) else (none)) else (none)) else (none)) else (none)) else (none)) else (none))))) else (some false)) else (some false)) else (some false))))
def offshootlaw28_DiffSplice.f (k : Nat) (a0 : ByteArray) (a1 : ByteArray) : Option (Bool) := (offshootlaw28_alive.f).bind fun t291 => (if t291 = true then (if (a0.size : Int) > 2000 then (offshootlaw28_DiffSplice.j0 k a0 a1 true) else (offshootlaw28_DiffSplice.j0 k a0 a1 (decide ((a1.size : Int) > 2000)))) else (some false))
theorem offshootlaw28_DiffSplice.mono_l : ∀ k, (∀ y0 y1 y2, LeO (offshootlaw28_DiffSplice.j0 k y0 y1 y2) (offshootlaw28_DiffSplice.j0 (k + 1) y0 y1 y2))
  | 0 => fun _ _ _ r h => by simp [offshootlaw28_DiffSplice.j0] at h
  | k + 1 => by
    have ih0 := offshootlaw28_DiffSplice.mono_l k
    · intro y0 y1 y2
      unfold offshootlaw28_DiffSplice.j0
      repeat' first
      | (with_reducible exact ih0 _ _ _)
      | (with_reducible exact diff_Splice.mono _ _ _)
      | (with_reducible exact offshootref28_Splice.mono _ _ _)
      | (with_reducible exact LeO.refl _)
      | (with_reducible exact LeO.none _)
      | (with_reducible refine LeO.ite ?_ ?_)
      | (with_reducible refine LeO.bind ?_ (fun _ => ?_))
      | exact ih0 _ _ _
      | exact diff_Splice.mono _ _ _
      | exact offshootref28_Splice.mono _ _ _
      | exact LeO.none _
      | refine LeO.ite ?_ ?_
      | refine LeO.bind ?_ (fun _ => ?_)
theorem offshootlaw28_DiffSplice.mono : ∀ a0 a1 k, LeO (offshootlaw28_DiffSplice.f k a0 a1) (offshootlaw28_DiffSplice.f (k + 1) a0 a1) := by
  intro a0 a1 k
  have ih0 := offshootlaw28_DiffSplice.mono_l k
  unfold offshootlaw28_DiffSplice.f
  repeat' first
      | (with_reducible exact ih0 _ _ _)
      | (with_reducible exact diff_Splice.mono _ _ _)
      | (with_reducible exact offshootref28_Splice.mono _ _ _)
      | (with_reducible exact LeO.refl _)
      | (with_reducible exact LeO.none _)
      | (with_reducible refine LeO.ite ?_ ?_)
      | (with_reducible refine LeO.bind ?_ (fun _ => ?_))
      | exact ih0 _ _ _
      | exact diff_Splice.mono _ _ _
      | exact offshootref28_Splice.mono _ _ _
      | exact LeO.none _
      | refine LeO.ite ?_ ?_
      | refine LeO.bind ?_ (fun _ => ?_)
set_option maxHeartbeats 8000000 in
set_option maxRecDepth 100000 in
theorem offshootlaw28_DiffSplice.calls (k : Nat) (a0 : ByteArray) (a1 : ByteArray) (r : Bool) (w : World) (h : offshootlaw28_DiffSplice.f k a0 a1 = some r) :
    Calls Try.prog 6 #[.string a0, .string a1] w fun e w' => e = .returned (.bool r) ∧ Below w.heap.size w w' := by
  have HB := Aside0.mk (Below.refl w.heap.size w)
  have H : ((offshootlaw28_alive.f).bind fun t291 => (if t291 = true then (if (a0.size : Int) > 2000 then (offshootlaw28_DiffSplice.j0 k a0 a1 true) else (offshootlaw28_DiffSplice.j0 k a0 a1 (decide ((a1.size : Int) > 2000)))) else (some false))) = some r := h
  clear h
  replace H := Option.bind_eq_some_iff.mp H
  obtain ⟨t291, A30, H⟩ := H
  replace H : (if t291 = true then (if (a0.size : Int) > 2000 then (offshootlaw28_DiffSplice.j0 k a0 a1 true) else (offshootlaw28_DiffSplice.j0 k a0 a1 (decide ((a1.size : Int) > 2000)))) else (some false)) = some r := H
  have A3 := Aside0.mk A30
  clear A30
  by_cases c4 : t291 = true
  · subst c4
    have H1 : (if (a0.size : Int) > 2000 then (offshootlaw28_DiffSplice.j0 k a0 a1 true) else (offshootlaw28_DiffSplice.j0 k a0 a1 (decide ((a1.size : Int) > 2000)))) = some r := by rw [if_pos rfl] at H; exact H
    clear H
    have H := H1
    clear H1
    have HC5 := Aside0.mk H
    clear H
    go_enter Try.func6, Try.ntmps6
    go_upto_region 3 with (first | (go_at_call 8; (with_reducible refine (offshootlaw28_alive.calls  true _ A3.out).mono ?_); rintro e w6 ⟨rfl, hb⟩; have n0_ := Aside0.mk (below_step (by repeat (first | (with_reducible first | exact HB.out | apply below_alloc | apply pw_below_drewN | apply below_drew1) | exact HB.out)) hb); clear HB; have HB := n0_; clear n0_; (try clear hb); (try clear hb2); (try clear hk); (try clear hi)))
    repeat (go_quiet (first | (go_at_call 8; (with_reducible refine (offshootlaw28_alive.calls  true _ A3.out).mono ?_); rintro e w6 ⟨rfl, hb⟩; have n0_ := Aside0.mk (below_step (by repeat (first | (with_reducible first | exact HB.out | apply below_alloc | apply pw_below_drewN | apply below_drew1) | exact HB.out)) hb); clear HB; have HB := n0_; clear n0_; (try clear hb); (try clear hb2); (try clear hk); (try clear hi))); go_upto_region 3 with (first | (go_at_call 8; (with_reducible refine (offshootlaw28_alive.calls  true _ A3.out).mono ?_); rintro e w6 ⟨rfl, hb⟩; have n0_ := Aside0.mk (below_step (by repeat (first | (with_reducible first | exact HB.out | apply below_alloc | apply pw_below_drewN | apply below_drew1) | exact HB.out)) hb); clear HB; have HB := n0_; clear n0_; (try clear hb); (try clear hb2); (try clear hk); (try clear hi))))
    (try simp only [Act.put, List.setIfInBounds_toArray, List.set_cons_zero, List.set_cons_succ])
    go_cut [21] (fun v21 wc => ∃ (kq : Nat) (x21_4 : Bool), v21 = .bool x21_4 ∧ Aside0 (offshootlaw28_DiffSplice.j0 kq a0 a1 x21_4 = some r) ∧ Aside0 (kq ≤ k) ∧ Aside0 (Below w.heap.size w wc))
    case first =>
      have H := HC5.out
      clear HC5
      by_cases c7 : (a0.size : Int) > 2000
      · rw [if_pos c7] at H
        have c7b0 : decide (2000 < (a0.size : Int)) = true := decide_eq_true c7
        have c7b1 : decide (2000 < a0.size) = true := decide_eq_true (by omega)
        clear c7
        (first | rw [c7b0] | (simp only [i64_w, i32_w]; rw [c7b0]) | skip)
        have H' := Aside0.mk H
        clear H
        go_wp2
        repeat (go_quiet (fail); try go_wp2)
        go_meet
        case rel => exact ⟨_, (true), (by first | rfl | (simp; done) | (simp [*]; done)), H', ⟨by first | omega | exact Nat.le_refl _⟩, ⟨by repeat (first | (with_reducible first | exact HB.out | apply below_alloc | apply pw_below_drewN | apply below_drew1) | exact HB.out)⟩⟩
      · rw [if_neg c7] at H
        have c7b0 : decide (2000 < (a0.size : Int)) = false := decide_eq_false c7
        have c7b1 : decide (2000 < a0.size) = false := decide_eq_false (by omega)
        clear c7
        (first | rw [c7b0] | (simp only [i64_w, i32_w]; rw [c7b0]) | skip)
        have H' := Aside0.mk H
        clear H
        go_wp2
        repeat (go_quiet (fail); try go_wp2)
        go_meet
        case rel => exact ⟨_, (decide ((a1.size : Int) > 2000)), (by first | rfl | (simp; done) | (simp [*]; done)), H', ⟨by first | omega | exact Nat.le_refl _⟩, ⟨by repeat (first | (with_reducible first | exact HB.out | apply below_alloc | apply pw_below_drewN | apply below_drew1) | exact HB.out)⟩⟩
    case rest =>
      clear HC5
      try clear p2
      try clear c4
      try clear c6
      try clear c7
      try clear c7b0
      try clear c7b1
      obtain ⟨kq, x21_4, rfl, HA, HJ4, HB⟩ := hcut
      cases kq with
      | zero => exact absurd HA.out (by simp [offshootlaw28_DiffSplice.j0])
      | succ kj4 =>
        have H := HA.out
        clear HA
        simp only [offshootlaw28_DiffSplice.j0] at H
        by_cases c8 : x21_4 = true
        · subst c8
          have H1 : (some true) = some r := by rw [if_pos rfl] at H; exact H
          clear H
          have H := H1
          clear H1
          obtain rfl := Option.some.inj H
          go_wp2
          repeat (go_quiet (fail); try go_wp2)
          go_ret
          exact ⟨by first | rfl | (simp [errW_none, errW_some] <;> rfl) | (simp [*, errW_none, errW_some] <;> rfl), by repeat (first | (with_reducible first | exact HB.out | apply below_alloc | apply pw_below_drewN | apply below_drew1) | exact HB.out)⟩
        · replace c8 := Bool.eq_false_iff.mpr c8
          subst c8
          have H1 : ((diff_Splice.f kj4 a0 a1).bind fun bt292 => ((offshootref28_Splice.f kj4 a0 a1).bind fun bt295 => (if bt292.1 = bt295.1 then (if bt292.2.1 = bt295.2.1 then (if bt292.2.2.toList = bt295.2.2.toList then (if bt292.1 < 0 then (some false) else (if bt292.2.1 < 0 then (some false) else (if (wrap64 (bt292.1 + bt292.2.1)) > (a0.size : Int) then (some false) else (if 0 ≤ bt292.1 then (if bt292.1 ≤ (a0.size : Int) then (if (a0.extract 0 (bt292.1 : Int).toNat).size + bt292.2.2.size ≤ 9223372036854775807 then (if 0 ≤ (wrap64 (bt292.1 + bt292.2.1)) then (if (wrap64 (bt292.1 + bt292.2.1)) ≤ (a0.size : Int) then (if ((a0.extract 0 (bt292.1 : Int).toNat) ++ bt292.2.2).size + (a0.extract ((wrap64 (bt292.1 + bt292.2.1)) : Int).toNat a0.size).size ≤ 9223372036854775807 then (if (((a0.extract 0 (bt292.1 : Int).toNat) ++ bt292.2.2) ++ (a0.extract ((wrap64 (bt292.1 + bt292.2.1)) : Int).toNat a0.size)).toList = a1.toList then (if bt292.1 ≤ (wrap64 (bt292.1 + bt292.2.1)) then (if ((a0.extract (bt292.1 : Int).toNat ((wrap64 (bt292.1 + bt292.2.1)) : Int).toNat).size : Int) = 0 then (some true) else (if (bt292.2.2.size : Int) = 0 then (some true) else (if 0 < ((a0.extract (bt292.1 : Int).toNat ((wrap64 (bt292.1 + bt292.2.1)) : Int).toNat).size : Int) then (if 0 < (bt292.2.2.size : Int) then (if (bt (a0.extract (bt292.1 : Int).toNat ((wrap64 (bt292.1 + bt292.2.1)) : Int).toNat) 0) = (bt bt292.2.2 0) then (some false) else (if 0 ≤ (wrap64 (((a0.extract (bt292.1 : Int).toNat ((wrap64 (bt292.1 + bt292.2.1)) : Int).toNat).size : Int) - 1)) then (if (wrap64 (((a0.extract (bt292.1 : Int).toNat ((wrap64 (bt292.1 + bt292.2.1)) : Int).toNat).size : Int) - 1)) < ((a0.extract (bt292.1 : Int).toNat ((wrap64 (bt292.1 + bt292.2.1)) : Int).toNat).size : Int) then (if 0 ≤ (wrap64 ((bt292.2.2.size : Int) - 1)) then (if (wrap64 ((bt292.2.2.size : Int) - 1)) < (bt292.2.2.size : Int) then (some ((bt (a0.extract (bt292.1 : Int).toNat ((wrap64 (bt292.1 + bt292.2.1)) : Int).toNat) (wrap64 (((a0.extract (bt292.1 : Int).toNat ((wrap64 (bt292.1 + bt292.2.1)) : Int).toNat).size : Int) - 1))) != (bt bt292.2.2 (wrap64 ((bt292.2.2.size : Int) - 1))))) else (none)) else (none)) else (none)) else (none))) else (none)) else (none)))) else (none)) else (some false)) else (none)) else (none)) else (none)) else (none)) else (none)) else (none))))) else (some false)) else (some false)) else (some false)))) = some r := by rw [if_neg (show ¬ (false = true) by decide)] at H; exact H
          clear H
          have H := H1
          clear H1
          replace H := Option.bind_eq_some_iff.mp H
          obtain ⟨⟨t292, t293, t294⟩, A90, H⟩ := H
          replace H : ((offshootref28_Splice.f kj4 a0 a1).bind fun bt295 => (if t292 = bt295.1 then (if t293 = bt295.2.1 then (if t294.toList = bt295.2.2.toList then (if t292 < 0 then (some false) else (if t293 < 0 then (some false) else (if (wrap64 (t292 + t293)) > (a0.size : Int) then (some false) else (if 0 ≤ t292 then (if t292 ≤ (a0.size : Int) then (if (a0.extract 0 (t292 : Int).toNat).size + t294.size ≤ 9223372036854775807 then (if 0 ≤ (wrap64 (t292 + t293)) then (if (wrap64 (t292 + t293)) ≤ (a0.size : Int) then (if ((a0.extract 0 (t292 : Int).toNat) ++ t294).size + (a0.extract ((wrap64 (t292 + t293)) : Int).toNat a0.size).size ≤ 9223372036854775807 then (if (((a0.extract 0 (t292 : Int).toNat) ++ t294) ++ (a0.extract ((wrap64 (t292 + t293)) : Int).toNat a0.size)).toList = a1.toList then (if t292 ≤ (wrap64 (t292 + t293)) then (if ((a0.extract (t292 : Int).toNat ((wrap64 (t292 + t293)) : Int).toNat).size : Int) = 0 then (some true) else (if (t294.size : Int) = 0 then (some true) else (if 0 < ((a0.extract (t292 : Int).toNat ((wrap64 (t292 + t293)) : Int).toNat).size : Int) then (if 0 < (t294.size : Int) then (if (bt (a0.extract (t292 : Int).toNat ((wrap64 (t292 + t293)) : Int).toNat) 0) = (bt t294 0) then (some false) else (if 0 ≤ (wrap64 (((a0.extract (t292 : Int).toNat ((wrap64 (t292 + t293)) : Int).toNat).size : Int) - 1)) then (if (wrap64 (((a0.extract (t292 : Int).toNat ((wrap64 (t292 + t293)) : Int).toNat).size : Int) - 1)) < ((a0.extract (t292 : Int).toNat ((wrap64 (t292 + t293)) : Int).toNat).size : Int) then (if 0 ≤ (wrap64 ((t294.size : Int) - 1)) then (if (wrap64 ((t294.size : Int) - 1)) < (t294.size : Int) then (some ((bt (a0.extract (t292 : Int).toNat ((wrap64 (t292 + t293)) : Int).toNat) (wrap64 (((a0.extract (t292 : Int).toNat ((wrap64 (t292 + t293)) : Int).toNat).size : Int) - 1))) != (bt t294 (wrap64 ((t294.size : Int) - 1))))) else (none)) else (none)) else (none)) else (none))) else (none)) else (none)))) else (none)) else (some false)) else (none)) else (none)) else (none)) else (none)) else (none)) else (none))))) else (some false)) else (some false)) else (some false))) = some r := H
          have A9 := Aside0.mk A90
          clear A90
          replace H := Option.bind_eq_some_iff.mp H
          obtain ⟨⟨t295, t296, t297⟩, A100, H⟩ := H
          replace H : (if t292 = t295 then (if t293 = t296 then (if t294.toList = t297.toList then (if t292 < 0 then (some false) else (if t293 < 0 then (some false) else (if (wrap64 (t292 + t293)) > (a0.size : Int) then (some false) else (if 0 ≤ t292 then (if t292 ≤ (a0.size : Int) then (if (a0.extract 0 (t292 : Int).toNat).size + t294.size ≤ 9223372036854775807 then (if 0 ≤ (wrap64 (t292 + t293)) then (if (wrap64 (t292 + t293)) ≤ (a0.size : Int) then (if ((a0.extract 0 (t292 : Int).toNat) ++ t294).size + (a0.extract ((wrap64 (t292 + t293)) : Int).toNat a0.size).size ≤ 9223372036854775807 then (if (((a0.extract 0 (t292 : Int).toNat) ++ t294) ++ (a0.extract ((wrap64 (t292 + t293)) : Int).toNat a0.size)).toList = a1.toList then (if t292 ≤ (wrap64 (t292 + t293)) then (if ((a0.extract (t292 : Int).toNat ((wrap64 (t292 + t293)) : Int).toNat).size : Int) = 0 then (some true) else (if (t294.size : Int) = 0 then (some true) else (if 0 < ((a0.extract (t292 : Int).toNat ((wrap64 (t292 + t293)) : Int).toNat).size : Int) then (if 0 < (t294.size : Int) then (if (bt (a0.extract (t292 : Int).toNat ((wrap64 (t292 + t293)) : Int).toNat) 0) = (bt t294 0) then (some false) else (if 0 ≤ (wrap64 (((a0.extract (t292 : Int).toNat ((wrap64 (t292 + t293)) : Int).toNat).size : Int) - 1)) then (if (wrap64 (((a0.extract (t292 : Int).toNat ((wrap64 (t292 + t293)) : Int).toNat).size : Int) - 1)) < ((a0.extract (t292 : Int).toNat ((wrap64 (t292 + t293)) : Int).toNat).size : Int) then (if 0 ≤ (wrap64 ((t294.size : Int) - 1)) then (if (wrap64 ((t294.size : Int) - 1)) < (t294.size : Int) then (some ((bt (a0.extract (t292 : Int).toNat ((wrap64 (t292 + t293)) : Int).toNat) (wrap64 (((a0.extract (t292 : Int).toNat ((wrap64 (t292 + t293)) : Int).toNat).size : Int) - 1))) != (bt t294 (wrap64 ((t294.size : Int) - 1))))) else (none)) else (none)) else (none)) else (none))) else (none)) else (none)))) else (none)) else (some false)) else (none)) else (none)) else (none)) else (none)) else (none)) else (none))))) else (some false)) else (some false)) else (some false)) = some r := H
          have A10 := Aside0.mk A100
          clear A100
          by_cases c11 : t292 = t295
          · rw [if_pos c11] at H
            have c11b0 : (t292 == t295) = true := beq_iff_eq.mpr c11
            have c11b1 : (t292 != t295) = false := bne_eq_false_iff_eq.mpr c11
            clear c11
            by_cases c12 : t293 = t296
            · rw [if_pos c12] at H
              have c12b0 : (t293 == t296) = true := beq_iff_eq.mpr c12
              have c12b1 : (t293 != t296) = false := bne_eq_false_iff_eq.mpr c12
              clear c12
              by_cases c13 : t294.toList = t297.toList
              · rw [if_pos c13] at H
                have c13b0 : (t294.toList == t297.toList) = true := beq_iff_eq.mpr c13
                have c13b1 : (t294.toList != t297.toList) = false := bne_eq_false_iff_eq.mpr c13
                clear c13
                by_cases c14 : t292 < 0
                · rw [if_pos c14] at H
                  have c14b0 : decide (t292 < 0) = true := decide_eq_true c14
                  clear c14
                  obtain rfl := Option.some.inj H
                  go_wp2_with (first | (go_at_call 16; (with_reducible refine (diff_Splice.calls kj4 a0 a1 t292 t293 t294 _ A9.out).mono ?_); rintro e w15 ⟨rfl, hb⟩; have n0_ := Aside0.mk (below_step (by repeat (first | (with_reducible first | exact HB.out | apply below_alloc | apply pw_below_drewN | apply below_drew1) | exact HB.out)) hb); clear HB; have HB := n0_; clear n0_; (try clear hb); (try clear hb2); (try clear hk); (try clear hi)) | (go_at_call 17; (with_reducible refine (offshootref28_Splice.calls kj4 a0 a1 t295 t296 t297 _ A10.out).mono ?_); rintro e w' ⟨rfl, ⟨nd, rfl⟩⟩; (try first | exact ⟨rfl, _, World.drewN_drewN _ _ _⟩ | exact ⟨rfl, _, Eq.trans (World.drewN_drewN _ _ _) (congrArg (World.drewN _) (Nat.add_assoc _ _ _))⟩)))
                  repeat (go_quiet (first | (go_at_call 16; (with_reducible refine (diff_Splice.calls kj4 a0 a1 t292 t293 t294 _ A9.out).mono ?_); rintro e w15 ⟨rfl, hb⟩; have n0_ := Aside0.mk (below_step (by repeat (first | (with_reducible first | exact HB.out | apply below_alloc | apply pw_below_drewN | apply below_drew1) | exact HB.out)) hb); clear HB; have HB := n0_; clear n0_; (try clear hb); (try clear hb2); (try clear hk); (try clear hi)) | (go_at_call 17; (with_reducible refine (offshootref28_Splice.calls kj4 a0 a1 t295 t296 t297 _ A10.out).mono ?_); rintro e w' ⟨rfl, ⟨nd, rfl⟩⟩; (try first | exact ⟨rfl, _, World.drewN_drewN _ _ _⟩ | exact ⟨rfl, _, Eq.trans (World.drewN_drewN _ _ _) (congrArg (World.drewN _) (Nat.add_assoc _ _ _))⟩))); try go_wp2_with (first | (go_at_call 16; (with_reducible refine (diff_Splice.calls kj4 a0 a1 t292 t293 t294 _ A9.out).mono ?_); rintro e w15 ⟨rfl, hb⟩; have n0_ := Aside0.mk (below_step (by repeat (first | (with_reducible first | exact HB.out | apply below_alloc | apply pw_below_drewN | apply below_drew1) | exact HB.out)) hb); clear HB; have HB := n0_; clear n0_; (try clear hb); (try clear hb2); (try clear hk); (try clear hi)) | (go_at_call 17; (with_reducible refine (offshootref28_Splice.calls kj4 a0 a1 t295 t296 t297 _ A10.out).mono ?_); rintro e w' ⟨rfl, ⟨nd, rfl⟩⟩; (try first | exact ⟨rfl, _, World.drewN_drewN _ _ _⟩ | exact ⟨rfl, _, Eq.trans (World.drewN_drewN _ _ _) (congrArg (World.drewN _) (Nat.add_assoc _ _ _))⟩))))
                  go_ret
                  exact ⟨by first | rfl | (simp [errW_none, errW_some] <;> rfl) | (simp [*, errW_none, errW_some] <;> rfl), by repeat (first | (with_reducible first | exact HB.out | apply below_alloc | apply pw_below_drewN | apply below_drew1) | exact HB.out)⟩
                · rw [if_neg c14] at H
                  have c14b0 : decide (t292 < 0) = false := decide_eq_false c14
                  clear c14
                  by_cases c16 : t293 < 0
                  · rw [if_pos c16] at H
                    have c16b0 : decide (t293 < 0) = true := decide_eq_true c16
                    clear c16
                    obtain rfl := Option.some.inj H
                    go_wp2_with (first | (go_at_call 16; (with_reducible refine (diff_Splice.calls kj4 a0 a1 t292 t293 t294 _ A9.out).mono ?_); rintro e w17 ⟨rfl, hb⟩; have n0_ := Aside0.mk (below_step (by repeat (first | (with_reducible first | exact HB.out | apply below_alloc | apply pw_below_drewN | apply below_drew1) | exact HB.out)) hb); clear HB; have HB := n0_; clear n0_; (try clear hb); (try clear hb2); (try clear hk); (try clear hi)) | (go_at_call 17; (with_reducible refine (offshootref28_Splice.calls kj4 a0 a1 t295 t296 t297 _ A10.out).mono ?_); rintro e w' ⟨rfl, ⟨nd, rfl⟩⟩; (try first | exact ⟨rfl, _, World.drewN_drewN _ _ _⟩ | exact ⟨rfl, _, Eq.trans (World.drewN_drewN _ _ _) (congrArg (World.drewN _) (Nat.add_assoc _ _ _))⟩)))
                    repeat (go_quiet (first | (go_at_call 16; (with_reducible refine (diff_Splice.calls kj4 a0 a1 t292 t293 t294 _ A9.out).mono ?_); rintro e w17 ⟨rfl, hb⟩; have n0_ := Aside0.mk (below_step (by repeat (first | (with_reducible first | exact HB.out | apply below_alloc | apply pw_below_drewN | apply below_drew1) | exact HB.out)) hb); clear HB; have HB := n0_; clear n0_; (try clear hb); (try clear hb2); (try clear hk); (try clear hi)) | (go_at_call 17; (with_reducible refine (offshootref28_Splice.calls kj4 a0 a1 t295 t296 t297 _ A10.out).mono ?_); rintro e w' ⟨rfl, ⟨nd, rfl⟩⟩; (try first | exact ⟨rfl, _, World.drewN_drewN _ _ _⟩ | exact ⟨rfl, _, Eq.trans (World.drewN_drewN _ _ _) (congrArg (World.drewN _) (Nat.add_assoc _ _ _))⟩))); try go_wp2_with (first | (go_at_call 16; (with_reducible refine (diff_Splice.calls kj4 a0 a1 t292 t293 t294 _ A9.out).mono ?_); rintro e w17 ⟨rfl, hb⟩; have n0_ := Aside0.mk (below_step (by repeat (first | (with_reducible first | exact HB.out | apply below_alloc | apply pw_below_drewN | apply below_drew1) | exact HB.out)) hb); clear HB; have HB := n0_; clear n0_; (try clear hb); (try clear hb2); (try clear hk); (try clear hi)) | (go_at_call 17; (with_reducible refine (offshootref28_Splice.calls kj4 a0 a1 t295 t296 t297 _ A10.out).mono ?_); rintro e w' ⟨rfl, ⟨nd, rfl⟩⟩; (try first | exact ⟨rfl, _, World.drewN_drewN _ _ _⟩ | exact ⟨rfl, _, Eq.trans (World.drewN_drewN _ _ _) (congrArg (World.drewN _) (Nat.add_assoc _ _ _))⟩))))
                    go_ret
                    exact ⟨by first | rfl | (simp [errW_none, errW_some] <;> rfl) | (simp [*, errW_none, errW_some] <;> rfl), by repeat (first | (with_reducible first | exact HB.out | apply below_alloc | apply pw_below_drewN | apply below_drew1) | exact HB.out)⟩
                  · rw [if_neg c16] at H
                    have c16b0 : decide (t293 < 0) = false := decide_eq_false c16
                    clear c16
                    by_cases c18 : (wrap64 (t292 + t293)) > (a0.size : Int)
                    · rw [if_pos c18] at H
                      have c18b0 : decide ((a0.size : Int) < (wrap64 (t292 + t293))) = true := decide_eq_true c18
                      clear c18
                      obtain rfl := Option.some.inj H
                      go_wp2_with (first | (go_at_call 16; (with_reducible refine (diff_Splice.calls kj4 a0 a1 t292 t293 t294 _ A9.out).mono ?_); rintro e w19 ⟨rfl, hb⟩; have n0_ := Aside0.mk (below_step (by repeat (first | (with_reducible first | exact HB.out | apply below_alloc | apply pw_below_drewN | apply below_drew1) | exact HB.out)) hb); clear HB; have HB := n0_; clear n0_; (try clear hb); (try clear hb2); (try clear hk); (try clear hi)) | (go_at_call 17; (with_reducible refine (offshootref28_Splice.calls kj4 a0 a1 t295 t296 t297 _ A10.out).mono ?_); rintro e w' ⟨rfl, ⟨nd, rfl⟩⟩; (try first | exact ⟨rfl, _, World.drewN_drewN _ _ _⟩ | exact ⟨rfl, _, Eq.trans (World.drewN_drewN _ _ _) (congrArg (World.drewN _) (Nat.add_assoc _ _ _))⟩)))
                      repeat (go_quiet (first | (go_at_call 16; (with_reducible refine (diff_Splice.calls kj4 a0 a1 t292 t293 t294 _ A9.out).mono ?_); rintro e w19 ⟨rfl, hb⟩; have n0_ := Aside0.mk (below_step (by repeat (first | (with_reducible first | exact HB.out | apply below_alloc | apply pw_below_drewN | apply below_drew1) | exact HB.out)) hb); clear HB; have HB := n0_; clear n0_; (try clear hb); (try clear hb2); (try clear hk); (try clear hi)) | (go_at_call 17; (with_reducible refine (offshootref28_Splice.calls kj4 a0 a1 t295 t296 t297 _ A10.out).mono ?_); rintro e w' ⟨rfl, ⟨nd, rfl⟩⟩; (try first | exact ⟨rfl, _, World.drewN_drewN _ _ _⟩ | exact ⟨rfl, _, Eq.trans (World.drewN_drewN _ _ _) (congrArg (World.drewN _) (Nat.add_assoc _ _ _))⟩))); try go_wp2_with (first | (go_at_call 16; (with_reducible refine (diff_Splice.calls kj4 a0 a1 t292 t293 t294 _ A9.out).mono ?_); rintro e w19 ⟨rfl, hb⟩; have n0_ := Aside0.mk (below_step (by repeat (first | (with_reducible first | exact HB.out | apply below_alloc | apply pw_below_drewN | apply below_drew1) | exact HB.out)) hb); clear HB; have HB := n0_; clear n0_; (try clear hb); (try clear hb2); (try clear hk); (try clear hi)) | (go_at_call 17; (with_reducible refine (offshootref28_Splice.calls kj4 a0 a1 t295 t296 t297 _ A10.out).mono ?_); rintro e w' ⟨rfl, ⟨nd, rfl⟩⟩; (try first | exact ⟨rfl, _, World.drewN_drewN _ _ _⟩ | exact ⟨rfl, _, Eq.trans (World.drewN_drewN _ _ _) (congrArg (World.drewN _) (Nat.add_assoc _ _ _))⟩))))
                      go_ret
                      exact ⟨by first | rfl | (simp [errW_none, errW_some] <;> rfl) | (simp [*, errW_none, errW_some] <;> rfl), by repeat (first | (with_reducible first | exact HB.out | apply below_alloc | apply pw_below_drewN | apply below_drew1) | exact HB.out)⟩
                    · rw [if_neg c18] at H
                      have c18b0 : decide ((a0.size : Int) < (wrap64 (t292 + t293))) = false := decide_eq_false c18
                      clear c18
                      by_cases c20 : 0 ≤ t292
                      · rw [if_pos c20] at H
                        have c20b0 := eq_true c20
                        have c20b1 : decide (0 ≤ t292) = true := decide_eq_true c20
                        clear c20
                        by_cases c21 : t292 ≤ (a0.size : Int)
                        · rw [if_pos c21] at H
                          have c21b0 := eq_true c21
                          have c21b1 : decide (t292 ≤ (a0.size : Int)) = true := decide_eq_true c21
                          clear c21
                          by_cases c22 : (a0.extract 0 (t292 : Int).toNat).size + t294.size ≤ 9223372036854775807
                          · rw [if_pos c22] at H
                            have c22b0 := eq_true c22
                            have c22b1 : decide ((a0.extract 0 (t292 : Int).toNat).size + t294.size ≤ 9223372036854775807) = true := decide_eq_true c22
                            try have c22b2 : (9223372036854775807 < (a0.extract 0 (t292 : Int).toNat).size + t294.size) = False := eq_false (Nat.not_lt.2 c22)
                            obtain ⟨ji23, hji23⟩ : ∃ j_ : Int, (wrap64 (t292 + t293)) = j_ := ⟨_, rfl⟩
                            replace H : (if 0 ≤ (ji23) then (if (ji23) ≤ (a0.size : Int) then (if ((a0.extract 0 (t292 : Int).toNat) ++ t294).size + (a0.extract ((ji23) : Int).toNat a0.size).size ≤ 9223372036854775807 then (if (((a0.extract 0 (t292 : Int).toNat) ++ t294) ++ (a0.extract ((ji23) : Int).toNat a0.size)).toList = a1.toList then (if t292 ≤ (ji23) then (if ((a0.extract (t292 : Int).toNat ((ji23) : Int).toNat).size : Int) = 0 then (some true) else (if (t294.size : Int) = 0 then (some true) else (if 0 < ((a0.extract (t292 : Int).toNat ((ji23) : Int).toNat).size : Int) then (if 0 < (t294.size : Int) then (if (bt (a0.extract (t292 : Int).toNat ((ji23) : Int).toNat) 0) = (bt t294 0) then (some false) else (if 0 ≤ (wrap64 (((a0.extract (t292 : Int).toNat ((ji23) : Int).toNat).size : Int) - 1)) then (if (wrap64 (((a0.extract (t292 : Int).toNat ((ji23) : Int).toNat).size : Int) - 1)) < ((a0.extract (t292 : Int).toNat ((ji23) : Int).toNat).size : Int) then (if 0 ≤ (wrap64 ((t294.size : Int) - 1)) then (if (wrap64 ((t294.size : Int) - 1)) < (t294.size : Int) then (some ((bt (a0.extract (t292 : Int).toNat ((ji23) : Int).toNat) (wrap64 (((a0.extract (t292 : Int).toNat ((ji23) : Int).toNat).size : Int) - 1))) != (bt t294 (wrap64 ((t294.size : Int) - 1))))) else (none)) else (none)) else (none)) else (none))) else (none)) else (none)))) else (none)) else (some false)) else (none)) else (none)) else (none)) = some r := by first | (rw [hji23] at H; exact H) | (simp only [hji23] at H ⊢; exact H)
                            (try rw [hji23] at c18b0)
                            (try rw [hji23] at A9)
                            (try rw [hji23] at A10)
                            have hji23w : (IntKind.i64.wrap (t292 + t293)) = ji23 := (i64_w _).trans hji23
                            by_cases c24 : 0 ≤ (ji23)
                            · rw [if_pos c24] at H
                              have c24b0 := eq_true c24
                              have c24b1 : decide (0 ≤ (ji23)) = true := decide_eq_true c24
                              clear c24
                              by_cases c25 : (ji23) ≤ (a0.size : Int)
                              · rw [if_pos c25] at H
                                have c25b0 := eq_true c25
                                have c25b1 : decide ((ji23) ≤ (a0.size : Int)) = true := decide_eq_true c25
                                clear c25
                                by_cases c26 : ((a0.extract 0 (t292 : Int).toNat) ++ t294).size + (a0.extract ((ji23) : Int).toNat a0.size).size ≤ 9223372036854775807
                                · rw [if_pos c26] at H
                                  have c26b0 := eq_true c26
                                  have c26b1 : decide (((a0.extract 0 (t292 : Int).toNat) ++ t294).size + (a0.extract ((ji23) : Int).toNat a0.size).size ≤ 9223372036854775807) = true := decide_eq_true c26
                                  try have c26b2 : (9223372036854775807 < ((a0.extract 0 (t292 : Int).toNat) ++ t294).size + (a0.extract ((ji23) : Int).toNat a0.size).size) = False := eq_false (Nat.not_lt.2 c26)
                                  by_cases c27 : (((a0.extract 0 (t292 : Int).toNat) ++ t294) ++ (a0.extract ((ji23) : Int).toNat a0.size)).toList = a1.toList
                                  · rw [if_pos c27] at H
                                    have c27b0 : ((((a0.extract 0 (t292 : Int).toNat) ++ t294) ++ (a0.extract ((ji23) : Int).toNat a0.size)).toList == a1.toList) = true := beq_iff_eq.mpr c27
                                    have c27b1 : ((((a0.extract 0 (t292 : Int).toNat) ++ t294) ++ (a0.extract ((ji23) : Int).toNat a0.size)).toList != a1.toList) = false := bne_eq_false_iff_eq.mpr c27
                                    clear c27
                                    have c28b0 := eq_true (of_decide_eq_true (by first | (with_reducible assumption) | assumption) : 0 ≤ t292)
                                    by_cases c29 : t292 ≤ (ji23)
                                    · rw [if_pos c29] at H
                                      have c29b0 := eq_true c29
                                      have c29b1 : decide (t292 ≤ (ji23)) = true := decide_eq_true c29
                                      clear c29
                                      have c30b0 := eq_true (of_decide_eq_true (by first | (with_reducible assumption) | assumption) : (ji23) ≤ (a0.size : Int))
                                      obtain ⟨gg, hgg⟩ : ∃ g_ : ByteArray, a0.extract (t292 : Int).toNat ((ji23) : Int).toNat = g_ := ⟨_, rfl⟩
                                      simp only [hgg] at H
                                      by_cases c31 : (gg.size : Int) = 0
                                      · rw [if_pos c31] at H
                                        have c31b0 : ((gg.size : Int) == 0) = true := beq_iff_eq.mpr c31
                                        have c31b1 : ((gg.size : Int) != 0) = false := bne_eq_false_iff_eq.mpr c31
                                        clear c31
                                        obtain rfl := Option.some.inj H
                                        go_wp2_with (first | (go_at_call 16; (with_reducible refine (diff_Splice.calls kj4 a0 a1 t292 t293 t294 _ A9.out).mono ?_); rintro e w32 ⟨rfl, hb⟩; have n0_ := Aside0.mk (below_step (by repeat (first | (with_reducible first | exact HB.out | apply below_alloc | apply pw_below_drewN | apply below_drew1) | exact HB.out)) hb); clear HB; have HB := n0_; clear n0_; (try clear hb); (try clear hb2); (try clear hk); (try clear hi)) | (go_at_call 17; (with_reducible refine (offshootref28_Splice.calls kj4 a0 a1 t295 t296 t297 _ A10.out).mono ?_); rintro e w' ⟨rfl, ⟨nd, rfl⟩⟩; (try first | exact ⟨rfl, _, World.drewN_drewN _ _ _⟩ | exact ⟨rfl, _, Eq.trans (World.drewN_drewN _ _ _) (congrArg (World.drewN _) (Nat.add_assoc _ _ _))⟩)))
                                        repeat (go_quiet (first | (go_at_call 16; (with_reducible refine (diff_Splice.calls kj4 a0 a1 t292 t293 t294 _ A9.out).mono ?_); rintro e w32 ⟨rfl, hb⟩; have n0_ := Aside0.mk (below_step (by repeat (first | (with_reducible first | exact HB.out | apply below_alloc | apply pw_below_drewN | apply below_drew1) | exact HB.out)) hb); clear HB; have HB := n0_; clear n0_; (try clear hb); (try clear hb2); (try clear hk); (try clear hi)) | (go_at_call 17; (with_reducible refine (offshootref28_Splice.calls kj4 a0 a1 t295 t296 t297 _ A10.out).mono ?_); rintro e w' ⟨rfl, ⟨nd, rfl⟩⟩; (try first | exact ⟨rfl, _, World.drewN_drewN _ _ _⟩ | exact ⟨rfl, _, Eq.trans (World.drewN_drewN _ _ _) (congrArg (World.drewN _) (Nat.add_assoc _ _ _))⟩))); try go_wp2_with (first | (go_at_call 16; (with_reducible refine (diff_Splice.calls kj4 a0 a1 t292 t293 t294 _ A9.out).mono ?_); rintro e w32 ⟨rfl, hb⟩; have n0_ := Aside0.mk (below_step (by repeat (first | (with_reducible first | exact HB.out | apply below_alloc | apply pw_below_drewN | apply below_drew1) | exact HB.out)) hb); clear HB; have HB := n0_; clear n0_; (try clear hb); (try clear hb2); (try clear hk); (try clear hi)) | (go_at_call 17; (with_reducible refine (offshootref28_Splice.calls kj4 a0 a1 t295 t296 t297 _ A10.out).mono ?_); rintro e w' ⟨rfl, ⟨nd, rfl⟩⟩; (try first | exact ⟨rfl, _, World.drewN_drewN _ _ _⟩ | exact ⟨rfl, _, Eq.trans (World.drewN_drewN _ _ _) (congrArg (World.drewN _) (Nat.add_assoc _ _ _))⟩))))
                                        go_ret
                                        exact ⟨by first | rfl | (simp [errW_none, errW_some] <;> rfl) | (simp only [← hji23]; first | rfl | (simp [errW_none, errW_some] <;> rfl)) | (simp [*, errW_none, errW_some] <;> rfl), by repeat (first | (with_reducible first | exact HB.out | apply below_alloc | apply pw_below_drewN | apply below_drew1) | exact HB.out)⟩
                                      · rw [if_neg c31] at H
                                        have c31b0 : ((gg.size : Int) == 0) = false := beq_eq_false_iff_ne.mpr c31
                                        have c31b1 : ((gg.size : Int) != 0) = true := bne_iff_ne.mpr c31
                                        by_cases c33 : (t294.size : Int) = 0
                                        · rw [if_pos c33] at H
                                          have c33b0 : ((t294.size : Int) == 0) = true := beq_iff_eq.mpr c33
                                          have c33b1 : ((t294.size : Int) != 0) = false := bne_eq_false_iff_eq.mpr c33
                                          clear c33
                                          obtain rfl := Option.some.inj H
                                          go_wp2_with (first | (go_at_call 16; (with_reducible refine (diff_Splice.calls kj4 a0 a1 t292 t293 t294 _ A9.out).mono ?_); rintro e w34 ⟨rfl, hb⟩; have n0_ := Aside0.mk (below_step (by repeat (first | (with_reducible first | exact HB.out | apply below_alloc | apply pw_below_drewN | apply below_drew1) | exact HB.out)) hb); clear HB; have HB := n0_; clear n0_; (try clear hb); (try clear hb2); (try clear hk); (try clear hi)) | (go_at_call 17; (with_reducible refine (offshootref28_Splice.calls kj4 a0 a1 t295 t296 t297 _ A10.out).mono ?_); rintro e w' ⟨rfl, ⟨nd, rfl⟩⟩; (try first | exact ⟨rfl, _, World.drewN_drewN _ _ _⟩ | exact ⟨rfl, _, Eq.trans (World.drewN_drewN _ _ _) (congrArg (World.drewN _) (Nat.add_assoc _ _ _))⟩)))
                                          repeat (go_quiet (first | (go_at_call 16; (with_reducible refine (diff_Splice.calls kj4 a0 a1 t292 t293 t294 _ A9.out).mono ?_); rintro e w34 ⟨rfl, hb⟩; have n0_ := Aside0.mk (below_step (by repeat (first | (with_reducible first | exact HB.out | apply below_alloc | apply pw_below_drewN | apply below_drew1) | exact HB.out)) hb); clear HB; have HB := n0_; clear n0_; (try clear hb); (try clear hb2); (try clear hk); (try clear hi)) | (go_at_call 17; (with_reducible refine (offshootref28_Splice.calls kj4 a0 a1 t295 t296 t297 _ A10.out).mono ?_); rintro e w' ⟨rfl, ⟨nd, rfl⟩⟩; (try first | exact ⟨rfl, _, World.drewN_drewN _ _ _⟩ | exact ⟨rfl, _, Eq.trans (World.drewN_drewN _ _ _) (congrArg (World.drewN _) (Nat.add_assoc _ _ _))⟩))); try go_wp2_with (first | (go_at_call 16; (with_reducible refine (diff_Splice.calls kj4 a0 a1 t292 t293 t294 _ A9.out).mono ?_); rintro e w34 ⟨rfl, hb⟩; have n0_ := Aside0.mk (below_step (by repeat (first | (with_reducible first | exact HB.out | apply below_alloc | apply pw_below_drewN | apply below_drew1) | exact HB.out)) hb); clear HB; have HB := n0_; clear n0_; (try clear hb); (try clear hb2); (try clear hk); (try clear hi)) | (go_at_call 17; (with_reducible refine (offshootref28_Splice.calls kj4 a0 a1 t295 t296 t297 _ A10.out).mono ?_); rintro e w' ⟨rfl, ⟨nd, rfl⟩⟩; (try first | exact ⟨rfl, _, World.drewN_drewN _ _ _⟩ | exact ⟨rfl, _, Eq.trans (World.drewN_drewN _ _ _) (congrArg (World.drewN _) (Nat.add_assoc _ _ _))⟩))))
                                          go_ret
                                          exact ⟨by first | rfl | (simp [errW_none, errW_some] <;> rfl) | (simp only [← hji23]; first | rfl | (simp [errW_none, errW_some] <;> rfl)) | (simp [*, errW_none, errW_some] <;> rfl), by repeat (first | (with_reducible first | exact HB.out | apply below_alloc | apply pw_below_drewN | apply below_drew1) | exact HB.out)⟩
                                        · rw [if_neg c33] at H
                                          have c33b0 : ((t294.size : Int) == 0) = false := beq_eq_false_iff_ne.mpr c33
                                          have c33b1 : ((t294.size : Int) != 0) = true := bne_iff_ne.mpr c33
                                          by_cases c35 : 0 < (gg.size : Int)
                                          · rw [if_pos c35] at H
                                            have c35b0 : decide (0 < (gg.size : Int)) = true := decide_eq_true c35
                                            have c35b1 : decide (0 < gg.size) = true := decide_eq_true (by omega)
                                            clear c35
                                            by_cases c37 : 0 < (t294.size : Int)
                                            · rw [if_pos c37] at H
                                              have c37b0 : decide (0 < (t294.size : Int)) = true := decide_eq_true c37
                                              have c37b1 : decide (0 < t294.size) = true := decide_eq_true (by omega)
                                              clear c37
                                              by_cases c39 : (bt gg 0) = (bt t294 0)
                                              · rw [if_pos c39] at H
                                                have c39b0 : ((bt gg 0) == (bt t294 0)) = true := beq_iff_eq.mpr c39
                                                have c39b1 : ((bt gg 0) != (bt t294 0)) = false := bne_eq_false_iff_eq.mpr c39
                                                clear c39
                                                obtain rfl := Option.some.inj H
                                                go_wp2_with (first | (go_at_call 16; (with_reducible refine (diff_Splice.calls kj4 a0 a1 t292 t293 t294 _ A9.out).mono ?_); rintro e w40 ⟨rfl, hb⟩; have n0_ := Aside0.mk (below_step (by repeat (first | (with_reducible first | exact HB.out | apply below_alloc | apply pw_below_drewN | apply below_drew1) | exact HB.out)) hb); clear HB; have HB := n0_; clear n0_; (try clear hb); (try clear hb2); (try clear hk); (try clear hi)) | (go_at_call 17; (with_reducible refine (offshootref28_Splice.calls kj4 a0 a1 t295 t296 t297 _ A10.out).mono ?_); rintro e w' ⟨rfl, ⟨nd, rfl⟩⟩; (try first | exact ⟨rfl, _, World.drewN_drewN _ _ _⟩ | exact ⟨rfl, _, Eq.trans (World.drewN_drewN _ _ _) (congrArg (World.drewN _) (Nat.add_assoc _ _ _))⟩); have p36 : 0 ≤ (0 : Int) := (by omega); have q36 : 0 < gg.size := (by have : (0 : Int) < (gg.size : Int) := of_decide_eq_true (by first | (with_reducible assumption) | assumption); omega); have hx36 : ∀ h : 0 < gg.size, ((gg[0]'h).toNat : Int) = bt gg 0 := bt_at gg 0; clear p36; have qi36 : (0 < (gg.size : Int)) = True := eq_true (of_decide_eq_true (by first | (with_reducible assumption) | assumption)); replace q36 := eq_true q36; have p38 : 0 ≤ (0 : Int) := (by omega); have q38 : 0 < t294.size := (by have : (0 : Int) < (t294.size : Int) := of_decide_eq_true (by first | (with_reducible assumption) | assumption); omega); have hx38 : ∀ h : 0 < t294.size, ((t294[0]'h).toNat : Int) = bt t294 0 := bt_at t294 0; clear p38; have qi38 : (0 < (t294.size : Int)) = True := eq_true (of_decide_eq_true (by first | (with_reducible assumption) | assumption)); replace q38 := eq_true q38))
                                                repeat (go_quiet (first | (go_at_call 16; (with_reducible refine (diff_Splice.calls kj4 a0 a1 t292 t293 t294 _ A9.out).mono ?_); rintro e w40 ⟨rfl, hb⟩; have n0_ := Aside0.mk (below_step (by repeat (first | (with_reducible first | exact HB.out | apply below_alloc | apply pw_below_drewN | apply below_drew1) | exact HB.out)) hb); clear HB; have HB := n0_; clear n0_; (try clear hb); (try clear hb2); (try clear hk); (try clear hi)) | (go_at_call 17; (with_reducible refine (offshootref28_Splice.calls kj4 a0 a1 t295 t296 t297 _ A10.out).mono ?_); rintro e w' ⟨rfl, ⟨nd, rfl⟩⟩; (try first | exact ⟨rfl, _, World.drewN_drewN _ _ _⟩ | exact ⟨rfl, _, Eq.trans (World.drewN_drewN _ _ _) (congrArg (World.drewN _) (Nat.add_assoc _ _ _))⟩); have p36 : 0 ≤ (0 : Int) := (by omega); have q36 : 0 < gg.size := (by have : (0 : Int) < (gg.size : Int) := of_decide_eq_true (by first | (with_reducible assumption) | assumption); omega); have hx36 : ∀ h : 0 < gg.size, ((gg[0]'h).toNat : Int) = bt gg 0 := bt_at gg 0; clear p36; have qi36 : (0 < (gg.size : Int)) = True := eq_true (of_decide_eq_true (by first | (with_reducible assumption) | assumption)); replace q36 := eq_true q36; have p38 : 0 ≤ (0 : Int) := (by omega); have q38 : 0 < t294.size := (by have : (0 : Int) < (t294.size : Int) := of_decide_eq_true (by first | (with_reducible assumption) | assumption); omega); have hx38 : ∀ h : 0 < t294.size, ((t294[0]'h).toNat : Int) = bt t294 0 := bt_at t294 0; clear p38; have qi38 : (0 < (t294.size : Int)) = True := eq_true (of_decide_eq_true (by first | (with_reducible assumption) | assumption)); replace q38 := eq_true q38)); try go_wp2_with (first | (go_at_call 16; (with_reducible refine (diff_Splice.calls kj4 a0 a1 t292 t293 t294 _ A9.out).mono ?_); rintro e w40 ⟨rfl, hb⟩; have n0_ := Aside0.mk (below_step (by repeat (first | (with_reducible first | exact HB.out | apply below_alloc | apply pw_below_drewN | apply below_drew1) | exact HB.out)) hb); clear HB; have HB := n0_; clear n0_; (try clear hb); (try clear hb2); (try clear hk); (try clear hi)) | (go_at_call 17; (with_reducible refine (offshootref28_Splice.calls kj4 a0 a1 t295 t296 t297 _ A10.out).mono ?_); rintro e w' ⟨rfl, ⟨nd, rfl⟩⟩; (try first | exact ⟨rfl, _, World.drewN_drewN _ _ _⟩ | exact ⟨rfl, _, Eq.trans (World.drewN_drewN _ _ _) (congrArg (World.drewN _) (Nat.add_assoc _ _ _))⟩); have p36 : 0 ≤ (0 : Int) := (by omega); have q36 : 0 < gg.size := (by have : (0 : Int) < (gg.size : Int) := of_decide_eq_true (by first | (with_reducible assumption) | assumption); omega); have hx36 : ∀ h : 0 < gg.size, ((gg[0]'h).toNat : Int) = bt gg 0 := bt_at gg 0; clear p36; have qi36 : (0 < (gg.size : Int)) = True := eq_true (of_decide_eq_true (by first | (with_reducible assumption) | assumption)); replace q36 := eq_true q36; have p38 : 0 ≤ (0 : Int) := (by omega); have q38 : 0 < t294.size := (by have : (0 : Int) < (t294.size : Int) := of_decide_eq_true (by first | (with_reducible assumption) | assumption); omega); have hx38 : ∀ h : 0 < t294.size, ((t294[0]'h).toNat : Int) = bt t294 0 := bt_at t294 0; clear p38; have qi38 : (0 < (t294.size : Int)) = True := eq_true (of_decide_eq_true (by first | (with_reducible assumption) | assumption)); replace q38 := eq_true q38)))
                                                go_ret
                                                exact ⟨by first | rfl | (simp [errW_none, errW_some] <;> rfl) | (simp only [← hji23]; first | rfl | (simp [errW_none, errW_some] <;> rfl)) | (simp [*, errW_none, errW_some] <;> rfl), by repeat (first | (with_reducible first | exact HB.out | apply below_alloc | apply pw_below_drewN | apply below_drew1) | exact HB.out)⟩
                                              · rw [if_neg c39] at H
                                                have c39b0 : ((bt gg 0) == (bt t294 0)) = false := beq_eq_false_iff_ne.mpr c39
                                                have c39b1 : ((bt gg 0) != (bt t294 0)) = true := bne_iff_ne.mpr c39
                                                obtain ⟨ji41, hji41⟩ : ∃ j_ : Int, (wrap64 ((gg.size : Int) - 1)) = j_ := ⟨_, rfl⟩
                                                replace H : (if 0 ≤ (ji41) then (if (ji41) < (gg.size : Int) then (if 0 ≤ (wrap64 ((t294.size : Int) - 1)) then (if (wrap64 ((t294.size : Int) - 1)) < (t294.size : Int) then (some ((bt gg (ji41)) != (bt t294 (wrap64 ((t294.size : Int) - 1))))) else (none)) else (none)) else (none)) else (none)) = some r := by first | (rw [hji41] at H; exact H) | (simp only [hji41] at H ⊢; exact H)
                                                (try rw [hji41] at A9)
                                                (try rw [hji41] at A10)
                                                have hji41w : (IntKind.i64.wrap ((gg.size : Int) - 1)) = ji41 := (i64_w _).trans hji41
                                                by_cases c42 : 0 ≤ (ji41)
                                                · rw [if_pos c42] at H
                                                  have c42b0 : decide (0 ≤ (ji41)) = true := decide_eq_true c42
                                                  clear c42
                                                  by_cases c43 : (ji41) < (gg.size : Int)
                                                  · rw [if_pos c43] at H
                                                    have c43b0 : decide ((ji41) < (gg.size : Int)) = true := decide_eq_true c43
                                                    clear c43
                                                    obtain ⟨ji45, hji45⟩ : ∃ j_ : Int, (wrap64 ((t294.size : Int) - 1)) = j_ := ⟨_, rfl⟩
                                                    replace H : (if 0 ≤ (ji45) then (if (ji45) < (t294.size : Int) then (some ((bt gg (ji41)) != (bt t294 (ji45)))) else (none)) else (none)) = some r := by first | (rw [hji45] at H; exact H) | (simp only [hji45] at H ⊢; exact H)
                                                    (try rw [hji45] at A9)
                                                    (try rw [hji45] at A10)
                                                    have hji45w : (IntKind.i64.wrap ((t294.size : Int) - 1)) = ji45 := (i64_w _).trans hji45
                                                    by_cases c46 : 0 ≤ (ji45)
                                                    · rw [if_pos c46] at H
                                                      have c46b0 : decide (0 ≤ (ji45)) = true := decide_eq_true c46
                                                      clear c46
                                                      by_cases c47 : (ji45) < (t294.size : Int)
                                                      · rw [if_pos c47] at H
                                                        have c47b0 : decide ((ji45) < (t294.size : Int)) = true := decide_eq_true c47
                                                        clear c47
                                                        obtain rfl := Option.some.inj H
                                                        go_wp2_with (first | (go_at_call 16; (with_reducible refine (diff_Splice.calls kj4 a0 a1 t292 t293 t294 _ A9.out).mono ?_); rintro e w49 ⟨rfl, hb⟩; have n0_ := Aside0.mk (below_step (by repeat (first | (with_reducible first | exact HB.out | apply below_alloc | apply pw_below_drewN | apply below_drew1) | exact HB.out)) hb); clear HB; have HB := n0_; clear n0_; (try clear hb); (try clear hb2); (try clear hk); (try clear hi)) | (go_at_call 17; (with_reducible refine (offshootref28_Splice.calls kj4 a0 a1 t295 t296 t297 _ A10.out).mono ?_); rintro e w' ⟨rfl, ⟨nd, rfl⟩⟩; (try first | exact ⟨rfl, _, World.drewN_drewN _ _ _⟩ | exact ⟨rfl, _, Eq.trans (World.drewN_drewN _ _ _) (congrArg (World.drewN _) (Nat.add_assoc _ _ _))⟩); have p36 : 0 ≤ (0 : Int) := (by omega); have q36 : 0 < gg.size := (by have : (0 : Int) < (gg.size : Int) := of_decide_eq_true (by first | (with_reducible assumption) | assumption); omega); have hx36 : ∀ h : 0 < gg.size, ((gg[0]'h).toNat : Int) = bt gg 0 := bt_at gg 0; clear p36; have qi36 : (0 < (gg.size : Int)) = True := eq_true (of_decide_eq_true (by first | (with_reducible assumption) | assumption)); replace q36 := eq_true q36; have p38 : 0 ≤ (0 : Int) := (by omega); have q38 : 0 < t294.size := (by have : (0 : Int) < (t294.size : Int) := of_decide_eq_true (by first | (with_reducible assumption) | assumption); omega); have hx38 : ∀ h : 0 < t294.size, ((t294[0]'h).toNat : Int) = bt t294 0 := bt_at t294 0; clear p38; have qi38 : (0 < (t294.size : Int)) = True := eq_true (of_decide_eq_true (by first | (with_reducible assumption) | assumption)); replace q38 := eq_true q38; have p44 : 0 ≤ ((ji41) : Int) := of_decide_eq_true (by first | (with_reducible assumption) | assumption); have q44 : (ji41) < (gg.size : Int) := of_decide_eq_true (by first | (with_reducible assumption) | assumption); have hx44 := bt_at gg (ji41); replace p44 := eq_true p44; replace q44 := eq_true q44; have p48 : 0 ≤ ((ji45) : Int) := of_decide_eq_true (by first | (with_reducible assumption) | assumption); have q48 : (ji45) < (t294.size : Int) := of_decide_eq_true (by first | (with_reducible assumption) | assumption); have hx48 := bt_at t294 (ji45); replace p48 := eq_true p48; replace q48 := eq_true q48))
                                                        repeat (go_quiet (first | (go_at_call 16; (with_reducible refine (diff_Splice.calls kj4 a0 a1 t292 t293 t294 _ A9.out).mono ?_); rintro e w49 ⟨rfl, hb⟩; have n0_ := Aside0.mk (below_step (by repeat (first | (with_reducible first | exact HB.out | apply below_alloc | apply pw_below_drewN | apply below_drew1) | exact HB.out)) hb); clear HB; have HB := n0_; clear n0_; (try clear hb); (try clear hb2); (try clear hk); (try clear hi)) | (go_at_call 17; (with_reducible refine (offshootref28_Splice.calls kj4 a0 a1 t295 t296 t297 _ A10.out).mono ?_); rintro e w' ⟨rfl, ⟨nd, rfl⟩⟩; (try first | exact ⟨rfl, _, World.drewN_drewN _ _ _⟩ | exact ⟨rfl, _, Eq.trans (World.drewN_drewN _ _ _) (congrArg (World.drewN _) (Nat.add_assoc _ _ _))⟩); have p36 : 0 ≤ (0 : Int) := (by omega); have q36 : 0 < gg.size := (by have : (0 : Int) < (gg.size : Int) := of_decide_eq_true (by first | (with_reducible assumption) | assumption); omega); have hx36 : ∀ h : 0 < gg.size, ((gg[0]'h).toNat : Int) = bt gg 0 := bt_at gg 0; clear p36; have qi36 : (0 < (gg.size : Int)) = True := eq_true (of_decide_eq_true (by first | (with_reducible assumption) | assumption)); replace q36 := eq_true q36; have p38 : 0 ≤ (0 : Int) := (by omega); have q38 : 0 < t294.size := (by have : (0 : Int) < (t294.size : Int) := of_decide_eq_true (by first | (with_reducible assumption) | assumption); omega); have hx38 : ∀ h : 0 < t294.size, ((t294[0]'h).toNat : Int) = bt t294 0 := bt_at t294 0; clear p38; have qi38 : (0 < (t294.size : Int)) = True := eq_true (of_decide_eq_true (by first | (with_reducible assumption) | assumption)); replace q38 := eq_true q38; have p44 : 0 ≤ ((ji41) : Int) := of_decide_eq_true (by first | (with_reducible assumption) | assumption); have q44 : (ji41) < (gg.size : Int) := of_decide_eq_true (by first | (with_reducible assumption) | assumption); have hx44 := bt_at gg (ji41); replace p44 := eq_true p44; replace q44 := eq_true q44; have p48 : 0 ≤ ((ji45) : Int) := of_decide_eq_true (by first | (with_reducible assumption) | assumption); have q48 : (ji45) < (t294.size : Int) := of_decide_eq_true (by first | (with_reducible assumption) | assumption); have hx48 := bt_at t294 (ji45); replace p48 := eq_true p48; replace q48 := eq_true q48)); try go_wp2_with (first | (go_at_call 16; (with_reducible refine (diff_Splice.calls kj4 a0 a1 t292 t293 t294 _ A9.out).mono ?_); rintro e w49 ⟨rfl, hb⟩; have n0_ := Aside0.mk (below_step (by repeat (first | (with_reducible first | exact HB.out | apply below_alloc | apply pw_below_drewN | apply below_drew1) | exact HB.out)) hb); clear HB; have HB := n0_; clear n0_; (try clear hb); (try clear hb2); (try clear hk); (try clear hi)) | (go_at_call 17; (with_reducible refine (offshootref28_Splice.calls kj4 a0 a1 t295 t296 t297 _ A10.out).mono ?_); rintro e w' ⟨rfl, ⟨nd, rfl⟩⟩; (try first | exact ⟨rfl, _, World.drewN_drewN _ _ _⟩ | exact ⟨rfl, _, Eq.trans (World.drewN_drewN _ _ _) (congrArg (World.drewN _) (Nat.add_assoc _ _ _))⟩); have p36 : 0 ≤ (0 : Int) := (by omega); have q36 : 0 < gg.size := (by have : (0 : Int) < (gg.size : Int) := of_decide_eq_true (by first | (with_reducible assumption) | assumption); omega); have hx36 : ∀ h : 0 < gg.size, ((gg[0]'h).toNat : Int) = bt gg 0 := bt_at gg 0; clear p36; have qi36 : (0 < (gg.size : Int)) = True := eq_true (of_decide_eq_true (by first | (with_reducible assumption) | assumption)); replace q36 := eq_true q36; have p38 : 0 ≤ (0 : Int) := (by omega); have q38 : 0 < t294.size := (by have : (0 : Int) < (t294.size : Int) := of_decide_eq_true (by first | (with_reducible assumption) | assumption); omega); have hx38 : ∀ h : 0 < t294.size, ((t294[0]'h).toNat : Int) = bt t294 0 := bt_at t294 0; clear p38; have qi38 : (0 < (t294.size : Int)) = True := eq_true (of_decide_eq_true (by first | (with_reducible assumption) | assumption)); replace q38 := eq_true q38; have p44 : 0 ≤ ((ji41) : Int) := of_decide_eq_true (by first | (with_reducible assumption) | assumption); have q44 : (ji41) < (gg.size : Int) := of_decide_eq_true (by first | (with_reducible assumption) | assumption); have hx44 := bt_at gg (ji41); replace p44 := eq_true p44; replace q44 := eq_true q44; have p48 : 0 ≤ ((ji45) : Int) := of_decide_eq_true (by first | (with_reducible assumption) | assumption); have q48 : (ji45) < (t294.size : Int) := of_decide_eq_true (by first | (with_reducible assumption) | assumption); have hx48 := bt_at t294 (ji45); replace p48 := eq_true p48; replace q48 := eq_true q48)))
                                                        go_ret
                                                        exact ⟨by first | rfl | (simp [errW_none, errW_some] <;> rfl) | (simp only [← hji23, ← hji41, ← hji45]; first | rfl | (simp [errW_none, errW_some] <;> rfl)) | (simp [*, errW_none, errW_some] <;> rfl), by repeat (first | (with_reducible first | exact HB.out | apply below_alloc | apply pw_below_drewN | apply below_drew1) | exact HB.out)⟩
                                                      · rw [if_neg c47] at H
                                                        exact absurd H (by simp)
                                                    · rw [if_neg c46] at H
                                                      exact absurd H (by simp)
                                                  · rw [if_neg c43] at H
                                                    exact absurd H (by simp)
                                                · rw [if_neg c42] at H
                                                  exact absurd H (by simp)
                                            · rw [if_neg c37] at H
                                              exact absurd H (by simp)
                                          · rw [if_neg c35] at H
                                            exact absurd H (by simp)
                                    · rw [if_neg c29] at H
                                      exact absurd H (by simp)
                                  · rw [if_neg c27] at H
                                    have c27b0 : ((((a0.extract 0 (t292 : Int).toNat) ++ t294) ++ (a0.extract ((ji23) : Int).toNat a0.size)).toList == a1.toList) = false := beq_eq_false_iff_ne.mpr c27
                                    have c27b1 : ((((a0.extract 0 (t292 : Int).toNat) ++ t294) ++ (a0.extract ((ji23) : Int).toNat a0.size)).toList != a1.toList) = true := bne_iff_ne.mpr c27
                                    obtain rfl := Option.some.inj H
                                    go_wp2_with (first | (go_at_call 16; (with_reducible refine (diff_Splice.calls kj4 a0 a1 t292 t293 t294 _ A9.out).mono ?_); rintro e w50 ⟨rfl, hb⟩; have n0_ := Aside0.mk (below_step (by repeat (first | (with_reducible first | exact HB.out | apply below_alloc | apply pw_below_drewN | apply below_drew1) | exact HB.out)) hb); clear HB; have HB := n0_; clear n0_; (try clear hb); (try clear hb2); (try clear hk); (try clear hi)) | (go_at_call 17; (with_reducible refine (offshootref28_Splice.calls kj4 a0 a1 t295 t296 t297 _ A10.out).mono ?_); rintro e w' ⟨rfl, ⟨nd, rfl⟩⟩; (try first | exact ⟨rfl, _, World.drewN_drewN _ _ _⟩ | exact ⟨rfl, _, Eq.trans (World.drewN_drewN _ _ _) (congrArg (World.drewN _) (Nat.add_assoc _ _ _))⟩)))
                                    repeat (go_quiet (first | (go_at_call 16; (with_reducible refine (diff_Splice.calls kj4 a0 a1 t292 t293 t294 _ A9.out).mono ?_); rintro e w50 ⟨rfl, hb⟩; have n0_ := Aside0.mk (below_step (by repeat (first | (with_reducible first | exact HB.out | apply below_alloc | apply pw_below_drewN | apply below_drew1) | exact HB.out)) hb); clear HB; have HB := n0_; clear n0_; (try clear hb); (try clear hb2); (try clear hk); (try clear hi)) | (go_at_call 17; (with_reducible refine (offshootref28_Splice.calls kj4 a0 a1 t295 t296 t297 _ A10.out).mono ?_); rintro e w' ⟨rfl, ⟨nd, rfl⟩⟩; (try first | exact ⟨rfl, _, World.drewN_drewN _ _ _⟩ | exact ⟨rfl, _, Eq.trans (World.drewN_drewN _ _ _) (congrArg (World.drewN _) (Nat.add_assoc _ _ _))⟩))); try go_wp2_with (first | (go_at_call 16; (with_reducible refine (diff_Splice.calls kj4 a0 a1 t292 t293 t294 _ A9.out).mono ?_); rintro e w50 ⟨rfl, hb⟩; have n0_ := Aside0.mk (below_step (by repeat (first | (with_reducible first | exact HB.out | apply below_alloc | apply pw_below_drewN | apply below_drew1) | exact HB.out)) hb); clear HB; have HB := n0_; clear n0_; (try clear hb); (try clear hb2); (try clear hk); (try clear hi)) | (go_at_call 17; (with_reducible refine (offshootref28_Splice.calls kj4 a0 a1 t295 t296 t297 _ A10.out).mono ?_); rintro e w' ⟨rfl, ⟨nd, rfl⟩⟩; (try first | exact ⟨rfl, _, World.drewN_drewN _ _ _⟩ | exact ⟨rfl, _, Eq.trans (World.drewN_drewN _ _ _) (congrArg (World.drewN _) (Nat.add_assoc _ _ _))⟩))))
                                    go_ret
                                    exact ⟨by first | rfl | (simp [errW_none, errW_some] <;> rfl) | (simp only [← hji23]; first | rfl | (simp [errW_none, errW_some] <;> rfl)) | (simp [*, errW_none, errW_some] <;> rfl), by repeat (first | (with_reducible first | exact HB.out | apply below_alloc | apply pw_below_drewN | apply below_drew1) | exact HB.out)⟩
                                · rw [if_neg c26] at H
                                  exact absurd H (by simp)
                              · rw [if_neg c25] at H
                                exact absurd H (by simp)
                            · rw [if_neg c24] at H
                              exact absurd H (by simp)
                          · rw [if_neg c22] at H
                            exact absurd H (by simp)
                        · rw [if_neg c21] at H
                          exact absurd H (by simp)
                      · rw [if_neg c20] at H
                        exact absurd H (by simp)
              · rw [if_neg c13] at H
                have c13b0 : (t294.toList == t297.toList) = false := beq_eq_false_iff_ne.mpr c13
                have c13b1 : (t294.toList != t297.toList) = true := bne_iff_ne.mpr c13
                obtain rfl := Option.some.inj H
                go_wp2_with (first | (go_at_call 16; (with_reducible refine (diff_Splice.calls kj4 a0 a1 t292 t293 t294 _ A9.out).mono ?_); rintro e w51 ⟨rfl, hb⟩; have n0_ := Aside0.mk (below_step (by repeat (first | (with_reducible first | exact HB.out | apply below_alloc | apply pw_below_drewN | apply below_drew1) | exact HB.out)) hb); clear HB; have HB := n0_; clear n0_; (try clear hb); (try clear hb2); (try clear hk); (try clear hi)) | (go_at_call 17; (with_reducible refine (offshootref28_Splice.calls kj4 a0 a1 t295 t296 t297 _ A10.out).mono ?_); rintro e w' ⟨rfl, ⟨nd, rfl⟩⟩; (try first | exact ⟨rfl, _, World.drewN_drewN _ _ _⟩ | exact ⟨rfl, _, Eq.trans (World.drewN_drewN _ _ _) (congrArg (World.drewN _) (Nat.add_assoc _ _ _))⟩)))
                repeat (go_quiet (first | (go_at_call 16; (with_reducible refine (diff_Splice.calls kj4 a0 a1 t292 t293 t294 _ A9.out).mono ?_); rintro e w51 ⟨rfl, hb⟩; have n0_ := Aside0.mk (below_step (by repeat (first | (with_reducible first | exact HB.out | apply below_alloc | apply pw_below_drewN | apply below_drew1) | exact HB.out)) hb); clear HB; have HB := n0_; clear n0_; (try clear hb); (try clear hb2); (try clear hk); (try clear hi)) | (go_at_call 17; (with_reducible refine (offshootref28_Splice.calls kj4 a0 a1 t295 t296 t297 _ A10.out).mono ?_); rintro e w' ⟨rfl, ⟨nd, rfl⟩⟩; (try first | exact ⟨rfl, _, World.drewN_drewN _ _ _⟩ | exact ⟨rfl, _, Eq.trans (World.drewN_drewN _ _ _) (congrArg (World.drewN _) (Nat.add_assoc _ _ _))⟩))); try go_wp2_with (first | (go_at_call 16; (with_reducible refine (diff_Splice.calls kj4 a0 a1 t292 t293 t294 _ A9.out).mono ?_); rintro e w51 ⟨rfl, hb⟩; have n0_ := Aside0.mk (below_step (by repeat (first | (with_reducible first | exact HB.out | apply below_alloc | apply pw_below_drewN | apply below_drew1) | exact HB.out)) hb); clear HB; have HB := n0_; clear n0_; (try clear hb); (try clear hb2); (try clear hk); (try clear hi)) | (go_at_call 17; (with_reducible refine (offshootref28_Splice.calls kj4 a0 a1 t295 t296 t297 _ A10.out).mono ?_); rintro e w' ⟨rfl, ⟨nd, rfl⟩⟩; (try first | exact ⟨rfl, _, World.drewN_drewN _ _ _⟩ | exact ⟨rfl, _, Eq.trans (World.drewN_drewN _ _ _) (congrArg (World.drewN _) (Nat.add_assoc _ _ _))⟩))))
                go_ret
                exact ⟨by first | rfl | (simp [errW_none, errW_some] <;> rfl) | (simp [*, errW_none, errW_some] <;> rfl), by repeat (first | (with_reducible first | exact HB.out | apply below_alloc | apply pw_below_drewN | apply below_drew1) | exact HB.out)⟩
            · rw [if_neg c12] at H
              have c12b0 : (t293 == t296) = false := beq_eq_false_iff_ne.mpr c12
              have c12b1 : (t293 != t296) = true := bne_iff_ne.mpr c12
              obtain rfl := Option.some.inj H
              go_wp2_with (first | (go_at_call 16; (with_reducible refine (diff_Splice.calls kj4 a0 a1 t292 t293 t294 _ A9.out).mono ?_); rintro e w52 ⟨rfl, hb⟩; have n0_ := Aside0.mk (below_step (by repeat (first | (with_reducible first | exact HB.out | apply below_alloc | apply pw_below_drewN | apply below_drew1) | exact HB.out)) hb); clear HB; have HB := n0_; clear n0_; (try clear hb); (try clear hb2); (try clear hk); (try clear hi)) | (go_at_call 17; (with_reducible refine (offshootref28_Splice.calls kj4 a0 a1 t295 t296 t297 _ A10.out).mono ?_); rintro e w' ⟨rfl, ⟨nd, rfl⟩⟩; (try first | exact ⟨rfl, _, World.drewN_drewN _ _ _⟩ | exact ⟨rfl, _, Eq.trans (World.drewN_drewN _ _ _) (congrArg (World.drewN _) (Nat.add_assoc _ _ _))⟩)))
              repeat (go_quiet (first | (go_at_call 16; (with_reducible refine (diff_Splice.calls kj4 a0 a1 t292 t293 t294 _ A9.out).mono ?_); rintro e w52 ⟨rfl, hb⟩; have n0_ := Aside0.mk (below_step (by repeat (first | (with_reducible first | exact HB.out | apply below_alloc | apply pw_below_drewN | apply below_drew1) | exact HB.out)) hb); clear HB; have HB := n0_; clear n0_; (try clear hb); (try clear hb2); (try clear hk); (try clear hi)) | (go_at_call 17; (with_reducible refine (offshootref28_Splice.calls kj4 a0 a1 t295 t296 t297 _ A10.out).mono ?_); rintro e w' ⟨rfl, ⟨nd, rfl⟩⟩; (try first | exact ⟨rfl, _, World.drewN_drewN _ _ _⟩ | exact ⟨rfl, _, Eq.trans (World.drewN_drewN _ _ _) (congrArg (World.drewN _) (Nat.add_assoc _ _ _))⟩))); try go_wp2_with (first | (go_at_call 16; (with_reducible refine (diff_Splice.calls kj4 a0 a1 t292 t293 t294 _ A9.out).mono ?_); rintro e w52 ⟨rfl, hb⟩; have n0_ := Aside0.mk (below_step (by repeat (first | (with_reducible first | exact HB.out | apply below_alloc | apply pw_below_drewN | apply below_drew1) | exact HB.out)) hb); clear HB; have HB := n0_; clear n0_; (try clear hb); (try clear hb2); (try clear hk); (try clear hi)) | (go_at_call 17; (with_reducible refine (offshootref28_Splice.calls kj4 a0 a1 t295 t296 t297 _ A10.out).mono ?_); rintro e w' ⟨rfl, ⟨nd, rfl⟩⟩; (try first | exact ⟨rfl, _, World.drewN_drewN _ _ _⟩ | exact ⟨rfl, _, Eq.trans (World.drewN_drewN _ _ _) (congrArg (World.drewN _) (Nat.add_assoc _ _ _))⟩))))
              go_ret
              exact ⟨by first | rfl | (simp [errW_none, errW_some] <;> rfl) | (simp [*, errW_none, errW_some] <;> rfl), by repeat (first | (with_reducible first | exact HB.out | apply below_alloc | apply pw_below_drewN | apply below_drew1) | exact HB.out)⟩
          · rw [if_neg c11] at H
            have c11b0 : (t292 == t295) = false := beq_eq_false_iff_ne.mpr c11
            have c11b1 : (t292 != t295) = true := bne_iff_ne.mpr c11
            obtain rfl := Option.some.inj H
            go_wp2_with (first | (go_at_call 16; (with_reducible refine (diff_Splice.calls kj4 a0 a1 t292 t293 t294 _ A9.out).mono ?_); rintro e w53 ⟨rfl, hb⟩; have n0_ := Aside0.mk (below_step (by repeat (first | (with_reducible first | exact HB.out | apply below_alloc | apply pw_below_drewN | apply below_drew1) | exact HB.out)) hb); clear HB; have HB := n0_; clear n0_; (try clear hb); (try clear hb2); (try clear hk); (try clear hi)) | (go_at_call 17; (with_reducible refine (offshootref28_Splice.calls kj4 a0 a1 t295 t296 t297 _ A10.out).mono ?_); rintro e w' ⟨rfl, ⟨nd, rfl⟩⟩; (try first | exact ⟨rfl, _, World.drewN_drewN _ _ _⟩ | exact ⟨rfl, _, Eq.trans (World.drewN_drewN _ _ _) (congrArg (World.drewN _) (Nat.add_assoc _ _ _))⟩)))
            repeat (go_quiet (first | (go_at_call 16; (with_reducible refine (diff_Splice.calls kj4 a0 a1 t292 t293 t294 _ A9.out).mono ?_); rintro e w53 ⟨rfl, hb⟩; have n0_ := Aside0.mk (below_step (by repeat (first | (with_reducible first | exact HB.out | apply below_alloc | apply pw_below_drewN | apply below_drew1) | exact HB.out)) hb); clear HB; have HB := n0_; clear n0_; (try clear hb); (try clear hb2); (try clear hk); (try clear hi)) | (go_at_call 17; (with_reducible refine (offshootref28_Splice.calls kj4 a0 a1 t295 t296 t297 _ A10.out).mono ?_); rintro e w' ⟨rfl, ⟨nd, rfl⟩⟩; (try first | exact ⟨rfl, _, World.drewN_drewN _ _ _⟩ | exact ⟨rfl, _, Eq.trans (World.drewN_drewN _ _ _) (congrArg (World.drewN _) (Nat.add_assoc _ _ _))⟩))); try go_wp2_with (first | (go_at_call 16; (with_reducible refine (diff_Splice.calls kj4 a0 a1 t292 t293 t294 _ A9.out).mono ?_); rintro e w53 ⟨rfl, hb⟩; have n0_ := Aside0.mk (below_step (by repeat (first | (with_reducible first | exact HB.out | apply below_alloc | apply pw_below_drewN | apply below_drew1) | exact HB.out)) hb); clear HB; have HB := n0_; clear n0_; (try clear hb); (try clear hb2); (try clear hk); (try clear hi)) | (go_at_call 17; (with_reducible refine (offshootref28_Splice.calls kj4 a0 a1 t295 t296 t297 _ A10.out).mono ?_); rintro e w' ⟨rfl, ⟨nd, rfl⟩⟩; (try first | exact ⟨rfl, _, World.drewN_drewN _ _ _⟩ | exact ⟨rfl, _, Eq.trans (World.drewN_drewN _ _ _) (congrArg (World.drewN _) (Nat.add_assoc _ _ _))⟩))))
            go_ret
            exact ⟨by first | rfl | (simp [errW_none, errW_some] <;> rfl) | (simp [*, errW_none, errW_some] <;> rfl), by repeat (first | (with_reducible first | exact HB.out | apply below_alloc | apply pw_below_drewN | apply below_drew1) | exact HB.out)⟩
  · replace c4 := Bool.eq_false_iff.mpr c4
    subst c4
    have H1 : (some false) = some r := by rw [if_neg (show ¬ (false = true) by decide)] at H; exact H
    clear H
    have H := H1
    clear H1
    obtain rfl := Option.some.inj H
    go_enter Try.func6, Try.ntmps6
    go_wp2_with (first | (go_at_call 8; (with_reducible refine (offshootlaw28_alive.calls  false _ A3.out).mono ?_); rintro e w54 ⟨rfl, hb⟩; have n0_ := Aside0.mk (below_step (by repeat (first | (with_reducible first | exact HB.out | apply below_alloc | apply pw_below_drewN | apply below_drew1) | exact HB.out)) hb); clear HB; have HB := n0_; clear n0_; (try clear hb); (try clear hb2); (try clear hk); (try clear hi)))
    repeat (go_quiet (first | (go_at_call 8; (with_reducible refine (offshootlaw28_alive.calls  false _ A3.out).mono ?_); rintro e w54 ⟨rfl, hb⟩; have n0_ := Aside0.mk (below_step (by repeat (first | (with_reducible first | exact HB.out | apply below_alloc | apply pw_below_drewN | apply below_drew1) | exact HB.out)) hb); clear HB; have HB := n0_; clear n0_; (try clear hb); (try clear hb2); (try clear hk); (try clear hi))); try go_wp2_with (first | (go_at_call 8; (with_reducible refine (offshootlaw28_alive.calls  false _ A3.out).mono ?_); rintro e w54 ⟨rfl, hb⟩; have n0_ := Aside0.mk (below_step (by repeat (first | (with_reducible first | exact HB.out | apply below_alloc | apply pw_below_drewN | apply below_drew1) | exact HB.out)) hb); clear HB; have HB := n0_; clear n0_; (try clear hb); (try clear hb2); (try clear hk); (try clear hi))))
    go_ret
    exact ⟨by first | rfl | (simp [errW_none, errW_some] <;> rfl) | (simp [*, errW_none, errW_some] <;> rfl), by repeat (first | (with_reducible first | exact HB.out | apply below_alloc | apply pw_below_drewN | apply below_drew1) | exact HB.out)⟩

/-- THE ONE PURE STATEMENT of offshootlaw28_DiffSplice: yours. -/
def offshootlaw28_DiffSplice.Pure : Prop := ∀ (a0 : ByteArray) (a1 : ByteArray), a0.size ≤ 140737488351232 → a1.size ≤ 140737488351232 → ∃ k, offshootlaw28_DiffSplice.f k a0 a1 = some true
theorem offshootlaw28_DiffSplice.walk (P : offshootlaw28_DiffSplice.Pure) (a0 : ByteArray) (a1 : ByteArray) (w : World) (w0 : a0.size ≤ 140737488351232) (w1 : a1.size ≤ 140737488351232) :
    Calls Try.prog 6 #[.string a0, .string a1] w fun e w' => e = .returned (.bool true) ∧ Below w.heap.size w w' := by
  obtain ⟨k, h⟩ := P a0 a1 w0 w1
  refine (offshootlaw28_DiffSplice.calls k a0 a1 true w h).mono ?_
  rintro e w' ⟨rfl, hd⟩
  exact ⟨rfl, hd⟩

/-! ### diff_Back: function 18 -/
def diff_Back.f (k : Nat) (l0 : List (S36)) (l1 : List (S38)) : Option ((List (S38)) × Int) := (diff_Patch.f k l0 l1).bind fun bt298 => (if bt298.2 = 0 then ((diff_Diff.f bt298.1 l0).bind fun bt302 => (some (bt302.1, bt302.2))) else (some (([] : List (S38)), bt298.2)))
theorem diff_Back.mono : ∀ a0 a1 k, LeO (diff_Back.f k a0 a1) (diff_Back.f (k + 1) a0 a1) := by
  intro a0 a1 k
  unfold diff_Back.f
  repeat' first
      | (with_reducible exact diff_Patch.mono _ _ _)
      | (with_reducible exact LeO.refl _)
      | (with_reducible exact LeO.none _)
      | (with_reducible refine LeO.ite ?_ ?_)
      | (with_reducible refine LeO.bind ?_ (fun _ => ?_))
      | exact diff_Patch.mono _ _ _
      | exact LeO.none _
      | refine LeO.ite ?_ ?_
      | refine LeO.bind ?_ (fun _ => ?_)
set_option maxHeartbeats 8000000 in
set_option maxRecDepth 100000 in
theorem diff_Back.calls (k : Nat) (A0 : Option Addr) (c0 : Nat) (l0 : List (S36)) (A1 : Option Addr) (c1 : Nat) (l1 : List (S38)) (r1 : List (S38)) (r2 : Int) (w : World) (hr0 : Kd.C k36 w A0 l0.length l0) (hc0 : l0.length ≤ c0) (hr1 : Kd.C k38 w A1 l1.length l1) (hc1 : l1.length ≤ c1) (h : diff_Back.f k l0 l1 = some (r1, r2)) :
    Calls Try.prog 18 #[.slice A0 l0.length c0, .slice A1 l1.length c1] w fun e w' => ∃ v0_ : Value, e = .returned (.tuple #[v0_, .int .i64 r2]) ∧ Kd.R k38 38 w' w.heap.size (fun _ => True) v0_ r1 ∧ Below w.heap.size w w' := by
  have HR0 := Aside0.mk hr0
  have HC0 := Aside0.mk hc0
  clear hr0 hc0
  have HR1 := Aside0.mk hr1
  have HC1 := Aside0.mk hc1
  clear hr1 hc1
  have HB := Aside0.mk (Below.refl w.heap.size w)
  have H : ((diff_Patch.f k l0 l1).bind fun bt298 => (if bt298.2 = 0 then ((diff_Diff.f bt298.1 l0).bind fun bt302 => (some (bt302.1, bt302.2))) else (some (([] : List (S38)), bt298.2)))) = some (r1, r2) := h
  clear h
  replace H := Option.bind_eq_some_iff.mp H
  obtain ⟨⟨t298, t301⟩, A30, H⟩ := H
  replace H : (if t301 = 0 then ((diff_Diff.f t298 l0).bind fun bt302 => (some (bt302.1, bt302.2))) else (some (([] : List (S38)), t301))) = some (r1, r2) := H
  have A3 := Aside0.mk A30
  clear A30
  by_cases c4 : t301 = 0
  · rw [if_pos c4] at H
    have c4b0 : (t301 == 0) = true := beq_iff_eq.mpr c4
    have c4b1 : (t301 != 0) = false := bne_eq_false_iff_eq.mpr c4
    clear c4
    replace H := Option.bind_eq_some_iff.mp H
    obtain ⟨⟨t302, t303⟩, A50, H⟩ := H
    replace H : (some (t302, t303)) = some (r1, r2) := H
    have A5 := Aside0.mk A50
    clear A50
    simp only [Option.some.injEq, Prod.mk.injEq] at H
    obtain ⟨rfl, rfl⟩ := H
    go_enter Try.func18, Try.ntmps18
    go_wp2_with (first | ((with_reducible refine gate_callee (f := 13) rfl ?_); refine goesL_ (some 11) rfl rfl Try.func13 (by kernel_rfl) rfl #[.slice A0 l0.length c0, .slice A1 l1.length c1] rfl (by (try simp only [List.map_toArray, List.map_cons, List.map_nil]); first | done | rfl | (simp only [List.length_drop, List.length_take]; rfl)) ?_; (with_reducible refine (diff_Patch.calls k (fun k_ => k_ < w.heap.size) _ _ l0 _ _ l1 t298 t301 _ ?side1 ?side2 ?side3 A3.out).mono ?_); (case side1 => exact Kd.V_mk HC0.out (Kd.F_below (Kd.C_F k36_heap HR0.out) (by repeat (first | (with_reducible first | exact HB.out | apply below_alloc | apply pw_below_drewN | apply below_drew1) | exact HB.out)))); (case side2 => repeat (first | exact HR1.out | (with_reducible refine Kd.C_alloc ?_ _) | (with_reducible refine Kd.C_drewN ?_ _) | (with_reducible refine Kd.C_drew ?_))); (case side3 => exact HC1.out); rintro e w6 ⟨v299, rfl, ho0, hb⟩; refine ⟨_, rfl, ?_⟩; have n0_ := Aside0.mk (Kd.R_lower (Kd.R_mono (ok' := fun k_ => True) ho0 (fun _ hk_ => trivial)) (below_size (by repeat (first | (with_reducible first | exact HB.out | apply below_alloc | apply pw_below_drewN | apply below_drew1) | exact HB.out)))); have n1_ := Aside0.mk (below_step (by repeat (first | (with_reducible first | exact HB.out | apply below_alloc | apply pw_below_drewN | apply below_drew1) | exact HB.out)) hb); clear HB; have HO300 := n0_; have HB := n1_; clear n0_ n1_; (try clear hb); (try clear hb2); (try clear hk); (try clear hi); (try clear ho0); obtain ⟨Ao7, co7, eo7⟩ := Kd.R_slice HO300.out; subst eo7) | ((with_reducible refine gate_callee (f := 10) rfl ?_); refine goesL_ (some 19) rfl rfl Try.func10 (by kernel_rfl) rfl #[.slice Ao7 t298.length co7, .slice A0 l0.length c0] rfl (by (try simp only [List.map_toArray, List.map_cons, List.map_nil]); first | done | rfl | (simp only [List.length_drop, List.length_take]; rfl)) ?_; (with_reducible refine (diff_Diff.calls _ _ t298 _ _ l0 t302 t303 _ ?side1 ?side2 ?side3 ?side4 A5.out).mono ?_); (case side1 => repeat (first | exact (Kd.R_reads' HO300.out).2.2 | (with_reducible refine Kd.C_alloc ?_ _) | (with_reducible refine Kd.C_drewN ?_ _) | (with_reducible refine Kd.C_drew ?_))); (case side2 => exact (Kd.R_reads' HO300.out).2.1); (case side3 => repeat (first | exact (Kd.C_below HR0.out HB.out) | (with_reducible refine Kd.C_alloc ?_ _) | (with_reducible refine Kd.C_drewN ?_ _) | (with_reducible refine Kd.C_drew ?_))); (case side4 => exact HC0.out); rintro e w8 ⟨v304, rfl, ho0, hb⟩; refine ⟨_, rfl, ?_⟩; have n0_ := Aside0.mk (Kd.R_below (by (with_reducible repeat (first | apply Kd.R_alloc | apply Kd.R_drewN | apply Kd.R_drew)); exact HO300.out) hb); have n1_ := Aside0.mk (Kd.R_lower ho0 (below_size (by repeat (first | (with_reducible first | exact HB.out | apply below_alloc | apply pw_below_drewN | apply below_drew1) | exact HB.out)))); have n2_ := Aside0.mk (below_step (by repeat (first | (with_reducible first | exact HB.out | apply below_alloc | apply pw_below_drewN | apply below_drew1) | exact HB.out)) hb); clear HO300; clear HB; have HO300 := n0_; have HO305 := n1_; have HB := n2_; clear n0_ n1_ n2_; (try clear hb); (try clear hb2); (try clear hk); (try clear hi); (try clear ho0)))
    go_ret2
    exact ⟨_, by first | rfl | (simp [errW_none, errW_some] <;> rfl) | (simp [*, errW_none, errW_some] <;> rfl), by (with_reducible repeat (first | apply Kd.R_alloc | apply Kd.R_drewN | apply Kd.R_drew)); exact HO305.out, by repeat (first | (with_reducible first | exact HB.out | apply below_alloc | apply pw_below_drewN | apply below_drew1) | exact HB.out)⟩
  · rw [if_neg c4] at H
    have c4b0 : (t301 == 0) = false := beq_eq_false_iff_ne.mpr c4
    have c4b1 : (t301 != 0) = true := bne_iff_ne.mpr c4
    simp only [Option.some.injEq, Prod.mk.injEq] at H
    obtain ⟨rfl, rfl⟩ := H
    go_enter Try.func18, Try.ntmps18
    go_wp2_with (first | ((with_reducible refine gate_callee (f := 13) rfl ?_); refine goesL_ (some 11) rfl rfl Try.func13 (by kernel_rfl) rfl #[.slice A0 l0.length c0, .slice A1 l1.length c1] rfl (by (try simp only [List.map_toArray, List.map_cons, List.map_nil]); first | done | rfl | (simp only [List.length_drop, List.length_take]; rfl)) ?_; (with_reducible refine (diff_Patch.calls k (fun k_ => k_ < w.heap.size) _ _ l0 _ _ l1 t298 t301 _ ?side1 ?side2 ?side3 A3.out).mono ?_); (case side1 => exact Kd.V_mk HC0.out (Kd.F_below (Kd.C_F k36_heap HR0.out) (by repeat (first | (with_reducible first | exact HB.out | apply below_alloc | apply pw_below_drewN | apply below_drew1) | exact HB.out)))); (case side2 => repeat (first | exact HR1.out | (with_reducible refine Kd.C_alloc ?_ _) | (with_reducible refine Kd.C_drewN ?_ _) | (with_reducible refine Kd.C_drew ?_))); (case side3 => exact HC1.out); rintro e w9 ⟨v299, rfl, ho0, hb⟩; refine ⟨_, rfl, ?_⟩; have n0_ := Aside0.mk (Kd.R_lower (Kd.R_mono (ok' := fun k_ => True) ho0 (fun _ hk_ => trivial)) (below_size (by repeat (first | (with_reducible first | exact HB.out | apply below_alloc | apply pw_below_drewN | apply below_drew1) | exact HB.out)))); have n1_ := Aside0.mk (below_step (by repeat (first | (with_reducible first | exact HB.out | apply below_alloc | apply pw_below_drewN | apply below_drew1) | exact HB.out)) hb); clear HB; have HO300 := n0_; have HB := n1_; clear n0_ n1_; (try clear hb); (try clear hb2); (try clear hk); (try clear hi); (try clear ho0)))
    go_ret2
    exact ⟨_, by first | rfl | (simp [errW_none, errW_some] <;> rfl) | (simp [*, errW_none, errW_some] <;> rfl), by first | exact Kd.R_nil _ _ _ _ _ | exact Kd.N_nil _ _ _ _ _ | exact Kd.V_nil _ _ _ _ _ | exact Kd.Q_nil _ _ _ _ _ | exact Kd.S_nil _ _ _ _ _, by repeat (first | (with_reducible first | exact HB.out | apply below_alloc | apply pw_below_drewN | apply below_drew1) | exact HB.out)⟩

end Go.Proofs.Ytbaihnpanoibdaa.Q
