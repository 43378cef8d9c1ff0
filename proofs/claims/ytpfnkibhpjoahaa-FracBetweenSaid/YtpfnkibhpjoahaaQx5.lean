/- Each function that the laws of layer 4 call computes what its Lean function here says. Written by the kit's print.py (see wip/tools/fracprint.sh of this session); one proof, strings.Compare's, by hand. -/
import Derived.Test.YtpfnkibhpjoahaaQx0
import Derived.Test.YtpfnkibhpjoahaaQx1
import Derived.Test.YtpfnkibhpjoahaaQx2
import Derived.Test.YtpfnkibhpjoahaaQx3
namespace Go.Proofs.Ytpfnkibhpjoahaa.Q
open Go.RowKit Go.Proofs.YtpfnkibhpjoahaaW.PrintWords Go.Proofs.YtpfnkibhpjoahaaW.PrintLast Go.Proofs.YtpfnkibhpjoahaaW.PrintMore
attribute [local go_sem] max2_int min2_int max_two min_two max_three min_three max_four min_four   -- for this text's walks alone
set_option linter.unusedVariables false
set_option linter.unusedSimpArgs false

/-! ### offshootlaw04_FracBetween: function 4 -/
def offshootlaw04_FracBetween.j0 : Nat → ByteArray → ByteArray → Bool → Option (Bool)
  | 0, _, _, _ => none
  | k + 1, x0, x1, x17 => if x17 = true then (some true) else ((frac_Between.f k x0 x1).bind fun bt182 => (if bt182.2 = 0 then ((frac_Right.f bt182.1).bind fun t184 => (if t184 = true then (if x0.toList = ([] : List UInt8) then (if x1.toList = ([] : List UInt8) then (some true) else ((frac_Order.f bt182.1 x1).bind fun t185 => (some (decide (t185 < 0))))) else ((frac_Order.f x0 bt182.1).bind fun t186 => (if t186 < 0 then (if x1.toList = ([] : List UInt8) then (some true) else ((frac_Order.f bt182.1 x1).bind fun t187 => (some (decide (t187 < 0))))) else (some false)))) else (some false))) else (if x0.toList = ([] : List UInt8) then (if x1.toList = ([] : List UInt8) then (if bt182.2 = 15 then (if bt182.1.toList = ([] : List UInt8) then (if (x0.size : Int) ≥ 31 then (some true) else (some (decide ((x1.size : Int) ≥ 31)))) else (some false)) else (some false)) else ((frac_Right.f x1).bind fun t188 => (if t188 = true then (if bt182.2 = 15 then (if bt182.1.toList = ([] : List UInt8) then (if (x0.size : Int) ≥ 31 then (some true) else (some (decide ((x1.size : Int) ≥ 31)))) else (some false)) else (some false)) else (if bt182.2 = 15 then (if bt182.1.toList = ([] : List UInt8) then (some true) else (some false)) else (some false))))) else ((frac_Right.f x0).bind fun t189 => (if t189 = true then (if x1.toList = ([] : List UInt8) then (if bt182.2 = 15 then (if bt182.1.toList = ([] : List UInt8) then (if (x0.size : Int) ≥ 31 then (some true) else (some (decide ((x1.size : Int) ≥ 31)))) else (some false)) else (some false)) else ((frac_Right.f x1).bind fun t190 => (if t190 = true then ((frac_Order.f x0 x1).bind fun t191 => (if bt182.2 = 15 then (if bt182.1.toList = ([] : List UInt8) then (if t191 < 0 then (if (x0.size : Int) ≥ 31 then (some true) else (some (decide ((x1.size : Int) ≥ 31)))) else (some true)) else (some false)) else (some false))) else (if bt182.2 = 15 then (if bt182.1.toList = ([] : List UInt8) then (some true) else (some false)) else (some false))))) else (if bt182.2 = 15 then (if bt182.1.toList = ([] : List UInt8) then (some true) else (some false)) else (some false)))))))
def offshootlaw04_FracBetween.f (k : Nat) (a0 : ByteArray) (a1 : ByteArray) : Option (Bool) := (offshootlaw04_alive.f k).bind fun t181 => (if t181 = true then (if (a0.size : Int) > 1000 then (offshootlaw04_FracBetween.j0 k a0 a1 true) else (offshootlaw04_FracBetween.j0 k a0 a1 (decide ((a1.size : Int) > 1000)))) else (some false))
theorem offshootlaw04_FracBetween.mono_l : ∀ k, (∀ y0 y1 y2, LeO (offshootlaw04_FracBetween.j0 k y0 y1 y2) (offshootlaw04_FracBetween.j0 (k + 1) y0 y1 y2))
  | 0 => fun _ _ _ r h => by simp [offshootlaw04_FracBetween.j0] at h
  | k + 1 => by
    have ih0 := offshootlaw04_FracBetween.mono_l k
    · intro y0 y1 y2
      unfold offshootlaw04_FracBetween.j0
      repeat' first
      | (with_reducible exact ih0 _ _ _)
      | (with_reducible exact frac_Between.mono _ _ _)
      | (with_reducible exact offshootlaw04_alive.mono _)
      | (with_reducible exact LeO.refl _)
      | (with_reducible exact LeO.none _)
      | (with_reducible refine LeO.ite ?_ ?_)
      | (with_reducible refine LeO.bind ?_ (fun _ => ?_))
      | exact ih0 _ _ _
      | exact frac_Between.mono _ _ _
      | exact offshootlaw04_alive.mono _
      | exact LeO.none _
      | refine LeO.ite ?_ ?_
      | refine LeO.bind ?_ (fun _ => ?_)
theorem offshootlaw04_FracBetween.mono : ∀ a0 a1 k, LeO (offshootlaw04_FracBetween.f k a0 a1) (offshootlaw04_FracBetween.f (k + 1) a0 a1) := by
  intro a0 a1 k
  have ih0 := offshootlaw04_FracBetween.mono_l k
  unfold offshootlaw04_FracBetween.f
  repeat' first
      | (with_reducible exact ih0 _ _ _)
      | (with_reducible exact frac_Between.mono _ _ _)
      | (with_reducible exact offshootlaw04_alive.mono _)
      | (with_reducible exact LeO.refl _)
      | (with_reducible exact LeO.none _)
      | (with_reducible refine LeO.ite ?_ ?_)
      | (with_reducible refine LeO.bind ?_ (fun _ => ?_))
      | exact ih0 _ _ _
      | exact frac_Between.mono _ _ _
      | exact offshootlaw04_alive.mono _
      | exact LeO.none _
      | refine LeO.ite ?_ ?_
      | refine LeO.bind ?_ (fun _ => ?_)
set_option maxHeartbeats 8000000 in
set_option maxRecDepth 100000 in
theorem offshootlaw04_FracBetween.calls (k : Nat) (a0 : ByteArray) (a1 : ByteArray) (r : Bool) (w : World) (h : offshootlaw04_FracBetween.f k a0 a1 = some r) :
    Calls Try.prog 4 #[.string a0, .string a1] w fun e w' => e = .returned (.bool r) ∧ Below w.heap.size w w' := by
  have HB := Aside0.mk (Below.refl w.heap.size w)
  have H : ((offshootlaw04_alive.f k).bind fun t181 => (if t181 = true then (if (a0.size : Int) > 1000 then (offshootlaw04_FracBetween.j0 k a0 a1 true) else (offshootlaw04_FracBetween.j0 k a0 a1 (decide ((a1.size : Int) > 1000)))) else (some false))) = some r := h
  clear h
  replace H := Option.bind_eq_some_iff.mp H
  obtain ⟨t181, A30, H⟩ := H
  replace H : (if t181 = true then (if (a0.size : Int) > 1000 then (offshootlaw04_FracBetween.j0 k a0 a1 true) else (offshootlaw04_FracBetween.j0 k a0 a1 (decide ((a1.size : Int) > 1000)))) else (some false)) = some r := H
  have A3 := Aside0.mk A30
  clear A30
  by_cases c4 : t181 = true
  · subst c4
    have H1 : (if (a0.size : Int) > 1000 then (offshootlaw04_FracBetween.j0 k a0 a1 true) else (offshootlaw04_FracBetween.j0 k a0 a1 (decide ((a1.size : Int) > 1000)))) = some r := by rw [if_pos rfl] at H; exact H
    clear H
    have H := H1
    clear H1
    have HC5 := Aside0.mk H
    clear H
    go_enter Try.func4, Try.ntmps4
    go_upto_region 3 with (first | ((with_reducible refine gate_callee (f := 7) rfl ?_); refine goesL_ (some 8) rfl rfl Try.func7 (by kernel_rfl) rfl #[] rfl (by (try simp only [List.map_toArray, List.map_cons, List.map_nil]); first | done | rfl | (simp only [List.length_drop, List.length_take]; rfl)) ?_; (with_reducible refine (offshootlaw04_alive.calls k  true _ A3.out).mono ?_); rintro e w6 ⟨rfl, hb⟩; refine ⟨_, rfl, ?_⟩; have n0_ := Aside0.mk (below_step (by repeat (first | (with_reducible first | exact HB.out | apply below_alloc | apply pw_below_drewN | apply below_drew1) | exact HB.out)) hb); clear HB; have HB := n0_; clear n0_; (try clear hb); (try clear hb2); (try clear hk); (try clear hi)))
    (try simp only [Act.put, List.setIfInBounds_toArray, List.set_cons_zero, List.set_cons_succ])
    go_cut [17] (fun v17 wc => ∃ (kq : Nat) (x17_4 : Bool), v17 = .bool x17_4 ∧ Aside0 (offshootlaw04_FracBetween.j0 kq a0 a1 x17_4 = some r) ∧ Aside0 (kq ≤ k) ∧ Aside0 (Below w.heap.size w wc))
    case first =>
      have H := HC5.out
      clear HC5
      by_cases c7 : (a0.size : Int) > 1000
      · rw [if_pos c7] at H
        have c7b0 : decide (1000 < (a0.size : Int)) = true := decide_eq_true c7
        have c7b1 : decide (1000 < a0.size) = true := decide_eq_true (by omega)
        clear c7
        (first | rw [c7b0] | (simp only [i64_w, i32_w]; rw [c7b0]) | skip)
        have H' := Aside0.mk H
        clear H
        go_wp2
        go_meet
        case rel => exact ⟨_, (true), (by first | rfl | (simp; done) | (simp [*]; done) | exact congrArg Value.bool (notEmpty_ne _)), H', ⟨by first | omega | exact Nat.le_refl _⟩, ⟨by repeat (first | (with_reducible first | exact HB.out | apply below_alloc | apply pw_below_drewN | apply below_drew1) | exact HB.out)⟩⟩
      · rw [if_neg c7] at H
        have c7b0 : decide (1000 < (a0.size : Int)) = false := decide_eq_false c7
        have c7b1 : decide (1000 < a0.size) = false := decide_eq_false (by omega)
        clear c7
        (first | rw [c7b0] | (simp only [i64_w, i32_w]; rw [c7b0]) | skip)
        have H' := Aside0.mk H
        clear H
        go_wp2
        go_meet
        case rel => exact ⟨_, (decide ((a1.size : Int) > 1000)), (by first | rfl | (simp; done) | (simp [*]; done) | exact congrArg Value.bool (notEmpty_ne _)), H', ⟨by first | omega | exact Nat.le_refl _⟩, ⟨by repeat (first | (with_reducible first | exact HB.out | apply below_alloc | apply pw_below_drewN | apply below_drew1) | exact HB.out)⟩⟩
    case rest =>
      clear HC5
      try clear p2
      try clear c4
      try clear c7
      try clear c7b0
      try clear c7b1
      obtain ⟨kq, x17_4, rfl, HA, HJ4, HB⟩ := hcut
      cases kq with
      | zero => exact absurd HA.out (by simp [offshootlaw04_FracBetween.j0])
      | succ kj4 =>
        have H := HA.out
        clear HA
        simp only [offshootlaw04_FracBetween.j0] at H
        by_cases c8 : x17_4 = true
        · subst c8
          have H1 : (some true) = some r := by rw [if_pos rfl] at H; exact H
          clear H
          have H := H1
          clear H1
          obtain rfl := Option.some.inj H
          go_wp2
          go_ret
          exact ⟨by first | rfl | (simp [errW_none, errW_some] <;> rfl) | (simp [*, errW_none, errW_some] <;> rfl), by repeat (first | (with_reducible first | exact HB.out | apply below_alloc | apply pw_below_drewN | apply below_drew1) | exact HB.out)⟩
        · replace c8 := Bool.eq_false_iff.mpr c8
          subst c8
          have H1 : ((frac_Between.f kj4 a0 a1).bind fun bt182 => (if bt182.2 = 0 then ((frac_Right.f bt182.1).bind fun t184 => (if t184 = true then (if a0.toList = ([] : List UInt8) then (if a1.toList = ([] : List UInt8) then (some true) else ((frac_Order.f bt182.1 a1).bind fun t185 => (some (decide (t185 < 0))))) else ((frac_Order.f a0 bt182.1).bind fun t186 => (if t186 < 0 then (if a1.toList = ([] : List UInt8) then (some true) else ((frac_Order.f bt182.1 a1).bind fun t187 => (some (decide (t187 < 0))))) else (some false)))) else (some false))) else (if a0.toList = ([] : List UInt8) then (if a1.toList = ([] : List UInt8) then (if bt182.2 = 15 then (if bt182.1.toList = ([] : List UInt8) then (if (a0.size : Int) ≥ 31 then (some true) else (some (decide ((a1.size : Int) ≥ 31)))) else (some false)) else (some false)) else ((frac_Right.f a1).bind fun t188 => (if t188 = true then (if bt182.2 = 15 then (if bt182.1.toList = ([] : List UInt8) then (if (a0.size : Int) ≥ 31 then (some true) else (some (decide ((a1.size : Int) ≥ 31)))) else (some false)) else (some false)) else (if bt182.2 = 15 then (if bt182.1.toList = ([] : List UInt8) then (some true) else (some false)) else (some false))))) else ((frac_Right.f a0).bind fun t189 => (if t189 = true then (if a1.toList = ([] : List UInt8) then (if bt182.2 = 15 then (if bt182.1.toList = ([] : List UInt8) then (if (a0.size : Int) ≥ 31 then (some true) else (some (decide ((a1.size : Int) ≥ 31)))) else (some false)) else (some false)) else ((frac_Right.f a1).bind fun t190 => (if t190 = true then ((frac_Order.f a0 a1).bind fun t191 => (if bt182.2 = 15 then (if bt182.1.toList = ([] : List UInt8) then (if t191 < 0 then (if (a0.size : Int) ≥ 31 then (some true) else (some (decide ((a1.size : Int) ≥ 31)))) else (some true)) else (some false)) else (some false))) else (if bt182.2 = 15 then (if bt182.1.toList = ([] : List UInt8) then (some true) else (some false)) else (some false))))) else (if bt182.2 = 15 then (if bt182.1.toList = ([] : List UInt8) then (some true) else (some false)) else (some false))))))) = some r := by rw [if_neg (show ¬ (false = true) by decide)] at H; exact H
          clear H
          have H := H1
          clear H1
          replace H := Option.bind_eq_some_iff.mp H
          obtain ⟨⟨t182, t183⟩, A90, H⟩ := H
          replace H : (if t183 = 0 then ((frac_Right.f t182).bind fun t184 => (if t184 = true then (if a0.toList = ([] : List UInt8) then (if a1.toList = ([] : List UInt8) then (some true) else ((frac_Order.f t182 a1).bind fun t185 => (some (decide (t185 < 0))))) else ((frac_Order.f a0 t182).bind fun t186 => (if t186 < 0 then (if a1.toList = ([] : List UInt8) then (some true) else ((frac_Order.f t182 a1).bind fun t187 => (some (decide (t187 < 0))))) else (some false)))) else (some false))) else (if a0.toList = ([] : List UInt8) then (if a1.toList = ([] : List UInt8) then (if t183 = 15 then (if t182.toList = ([] : List UInt8) then (if (a0.size : Int) ≥ 31 then (some true) else (some (decide ((a1.size : Int) ≥ 31)))) else (some false)) else (some false)) else ((frac_Right.f a1).bind fun t188 => (if t188 = true then (if t183 = 15 then (if t182.toList = ([] : List UInt8) then (if (a0.size : Int) ≥ 31 then (some true) else (some (decide ((a1.size : Int) ≥ 31)))) else (some false)) else (some false)) else (if t183 = 15 then (if t182.toList = ([] : List UInt8) then (some true) else (some false)) else (some false))))) else ((frac_Right.f a0).bind fun t189 => (if t189 = true then (if a1.toList = ([] : List UInt8) then (if t183 = 15 then (if t182.toList = ([] : List UInt8) then (if (a0.size : Int) ≥ 31 then (some true) else (some (decide ((a1.size : Int) ≥ 31)))) else (some false)) else (some false)) else ((frac_Right.f a1).bind fun t190 => (if t190 = true then ((frac_Order.f a0 a1).bind fun t191 => (if t183 = 15 then (if t182.toList = ([] : List UInt8) then (if t191 < 0 then (if (a0.size : Int) ≥ 31 then (some true) else (some (decide ((a1.size : Int) ≥ 31)))) else (some true)) else (some false)) else (some false))) else (if t183 = 15 then (if t182.toList = ([] : List UInt8) then (some true) else (some false)) else (some false))))) else (if t183 = 15 then (if t182.toList = ([] : List UInt8) then (some true) else (some false)) else (some false)))))) = some r := H
          have A9 := Aside0.mk A90
          clear A90
          by_cases c10 : t183 = 0
          · rw [if_pos c10] at H
            have c10b0 : (t183 == 0) = true := beq_iff_eq.mpr c10
            have c10b1 : (t183 != 0) = false := bne_eq_false_iff_eq.mpr c10
            clear c10
            replace H := Option.bind_eq_some_iff.mp H
            obtain ⟨t184, A110, H⟩ := H
            replace H : (if t184 = true then (if a0.toList = ([] : List UInt8) then (if a1.toList = ([] : List UInt8) then (some true) else ((frac_Order.f t182 a1).bind fun t185 => (some (decide (t185 < 0))))) else ((frac_Order.f a0 t182).bind fun t186 => (if t186 < 0 then (if a1.toList = ([] : List UInt8) then (some true) else ((frac_Order.f t182 a1).bind fun t187 => (some (decide (t187 < 0))))) else (some false)))) else (some false)) = some r := H
            have A11 := Aside0.mk A110
            clear A110
            by_cases c12 : t184 = true
            · subst c12
              have H1 : (if a0.toList = ([] : List UInt8) then (if a1.toList = ([] : List UInt8) then (some true) else ((frac_Order.f t182 a1).bind fun t185 => (some (decide (t185 < 0))))) else ((frac_Order.f a0 t182).bind fun t186 => (if t186 < 0 then (if a1.toList = ([] : List UInt8) then (some true) else ((frac_Order.f t182 a1).bind fun t187 => (some (decide (t187 < 0))))) else (some false)))) = some r := by rw [if_pos rfl] at H; exact H
              clear H
              have H := H1
              clear H1
              by_cases c13 : a0.toList = ([] : List UInt8)
              · rw [if_pos c13] at H
                have c13b0 : (a0.toList == ([] : List UInt8)) = true := beq_iff_eq.mpr c13
                have c13b1 : (a0.toList != ([] : List UInt8)) = false := bne_eq_false_iff_eq.mpr c13
                have c13i : (!a0.toList.isEmpty) = false := by simpa using c13b1
                clear c13
                by_cases c14 : a1.toList = ([] : List UInt8)
                · rw [if_pos c14] at H
                  have c14b0 : (a1.toList == ([] : List UInt8)) = true := beq_iff_eq.mpr c14
                  have c14b1 : (a1.toList != ([] : List UInt8)) = false := bne_eq_false_iff_eq.mpr c14
                  have c14i : (!a1.toList.isEmpty) = false := by simpa using c14b1
                  clear c14
                  obtain rfl := Option.some.inj H
                  go_wp2_with (first | ((with_reducible refine gate_callee (f := 8) rfl ?_); refine goesL_ (some 21) rfl rfl Try.func8 (by kernel_rfl) rfl #[.string a0, .string a1] rfl (by (try simp only [List.map_toArray, List.map_cons, List.map_nil]); first | done | rfl | (simp only [List.length_drop, List.length_take]; rfl)) ?_; (with_reducible refine (frac_Between.calls kj4 a0 a1 t182 t183 _ A9.out).mono ?_); rintro e w15 ⟨rfl, hb⟩; refine ⟨_, rfl, ?_⟩; have n0_ := Aside0.mk (below_step (by repeat (first | (with_reducible first | exact HB.out | apply below_alloc | apply pw_below_drewN | apply below_drew1) | exact HB.out)) hb); clear HB; have HB := n0_; clear n0_; (try clear hb); (try clear hb2); (try clear hk); (try clear hi)) | ((with_reducible refine gate_callee (f := 10) rfl ?_); refine goesL_ (some 75) rfl rfl Try.func10 (by kernel_rfl) rfl #[.string t182] rfl (by (try simp only [List.map_toArray, List.map_cons, List.map_nil]); first | done | rfl | (simp only [List.length_drop, List.length_take]; rfl)) ?_; (with_reducible refine (frac_Right.calls t182 true _ A11.out).mono ?_); rintro e w' ⟨rfl, ⟨nd, rfl⟩⟩; refine ⟨_, rfl, ?_⟩))
                  go_ret
                  exact ⟨by first | rfl | (simp [errW_none, errW_some] <;> rfl) | (simp [*, errW_none, errW_some] <;> rfl), by repeat (first | (with_reducible first | exact HB.out | apply below_alloc | apply pw_below_drewN | apply below_drew1) | exact HB.out)⟩
                · rw [if_neg c14] at H
                  have c14b0 : (a1.toList == ([] : List UInt8)) = false := beq_eq_false_iff_ne.mpr c14
                  have c14b1 : (a1.toList != ([] : List UInt8)) = true := bne_iff_ne.mpr c14
                  have c14i : (!a1.toList.isEmpty) = true := by simpa using c14b1
                  replace H := Option.bind_eq_some_iff.mp H
                  obtain ⟨t185, A160, H⟩ := H
                  replace H : (some (decide (t185 < 0))) = some r := H
                  have A16 := Aside0.mk A160
                  clear A160
                  obtain rfl := Option.some.inj H
                  go_wp2_with (first | ((with_reducible refine gate_callee (f := 8) rfl ?_); refine goesL_ (some 21) rfl rfl Try.func8 (by kernel_rfl) rfl #[.string a0, .string a1] rfl (by (try simp only [List.map_toArray, List.map_cons, List.map_nil]); first | done | rfl | (simp only [List.length_drop, List.length_take]; rfl)) ?_; (with_reducible refine (frac_Between.calls kj4 a0 a1 t182 t183 _ A9.out).mono ?_); rintro e w17 ⟨rfl, hb⟩; refine ⟨_, rfl, ?_⟩; have n0_ := Aside0.mk (below_step (by repeat (first | (with_reducible first | exact HB.out | apply below_alloc | apply pw_below_drewN | apply below_drew1) | exact HB.out)) hb); clear HB; have HB := n0_; clear n0_; (try clear hb); (try clear hb2); (try clear hk); (try clear hi)) | ((with_reducible refine gate_callee (f := 10) rfl ?_); refine goesL_ (some 75) rfl rfl Try.func10 (by kernel_rfl) rfl #[.string t182] rfl (by (try simp only [List.map_toArray, List.map_cons, List.map_nil]); first | done | rfl | (simp only [List.length_drop, List.length_take]; rfl)) ?_; (with_reducible refine (frac_Right.calls t182 true _ A11.out).mono ?_); rintro e w' ⟨rfl, ⟨nd, rfl⟩⟩; refine ⟨_, rfl, ?_⟩) | (go_at_call 12; (with_reducible refine (frac_Order.calls t182 a1 t185 _ A16.out).mono ?_); rintro e w' ⟨rfl, ⟨nd, rfl⟩⟩))
                  go_ret
                  exact ⟨by first | rfl | (simp [errW_none, errW_some] <;> rfl) | (simp [*, errW_none, errW_some] <;> rfl), by repeat (first | (with_reducible first | exact HB.out | apply below_alloc | apply pw_below_drewN | apply below_drew1) | exact HB.out)⟩
              · rw [if_neg c13] at H
                have c13b0 : (a0.toList == ([] : List UInt8)) = false := beq_eq_false_iff_ne.mpr c13
                have c13b1 : (a0.toList != ([] : List UInt8)) = true := bne_iff_ne.mpr c13
                have c13i : (!a0.toList.isEmpty) = true := by simpa using c13b1
                replace H := Option.bind_eq_some_iff.mp H
                obtain ⟨t186, A180, H⟩ := H
                replace H : (if t186 < 0 then (if a1.toList = ([] : List UInt8) then (some true) else ((frac_Order.f t182 a1).bind fun t187 => (some (decide (t187 < 0))))) else (some false)) = some r := H
                have A18 := Aside0.mk A180
                clear A180
                by_cases c19 : t186 < 0
                · rw [if_pos c19] at H
                  have c19b0 : decide (t186 < 0) = true := decide_eq_true c19
                  clear c19
                  by_cases c20 : a1.toList = ([] : List UInt8)
                  · rw [if_pos c20] at H
                    have c20b0 : (a1.toList == ([] : List UInt8)) = true := beq_iff_eq.mpr c20
                    have c20b1 : (a1.toList != ([] : List UInt8)) = false := bne_eq_false_iff_eq.mpr c20
                    have c20i : (!a1.toList.isEmpty) = false := by simpa using c20b1
                    clear c20
                    obtain rfl := Option.some.inj H
                    go_wp2_with (first | ((with_reducible refine gate_callee (f := 8) rfl ?_); refine goesL_ (some 21) rfl rfl Try.func8 (by kernel_rfl) rfl #[.string a0, .string a1] rfl (by (try simp only [List.map_toArray, List.map_cons, List.map_nil]); first | done | rfl | (simp only [List.length_drop, List.length_take]; rfl)) ?_; (with_reducible refine (frac_Between.calls kj4 a0 a1 t182 t183 _ A9.out).mono ?_); rintro e w21 ⟨rfl, hb⟩; refine ⟨_, rfl, ?_⟩; have n0_ := Aside0.mk (below_step (by repeat (first | (with_reducible first | exact HB.out | apply below_alloc | apply pw_below_drewN | apply below_drew1) | exact HB.out)) hb); clear HB; have HB := n0_; clear n0_; (try clear hb); (try clear hb2); (try clear hk); (try clear hi)) | ((with_reducible refine gate_callee (f := 10) rfl ?_); refine goesL_ (some 75) rfl rfl Try.func10 (by kernel_rfl) rfl #[.string t182] rfl (by (try simp only [List.map_toArray, List.map_cons, List.map_nil]); first | done | rfl | (simp only [List.length_drop, List.length_take]; rfl)) ?_; (with_reducible refine (frac_Right.calls t182 true _ A11.out).mono ?_); rintro e w' ⟨rfl, ⟨nd, rfl⟩⟩; refine ⟨_, rfl, ?_⟩) | (go_at_call 12; (with_reducible refine (frac_Order.calls a0 t182 t186 _ A18.out).mono ?_); rintro e w' ⟨rfl, ⟨nd, rfl⟩⟩))
                    go_ret
                    exact ⟨by first | rfl | (simp [errW_none, errW_some] <;> rfl) | (simp [*, errW_none, errW_some] <;> rfl), by repeat (first | (with_reducible first | exact HB.out | apply below_alloc | apply pw_below_drewN | apply below_drew1) | exact HB.out)⟩
                  · rw [if_neg c20] at H
                    have c20b0 : (a1.toList == ([] : List UInt8)) = false := beq_eq_false_iff_ne.mpr c20
                    have c20b1 : (a1.toList != ([] : List UInt8)) = true := bne_iff_ne.mpr c20
                    have c20i : (!a1.toList.isEmpty) = true := by simpa using c20b1
                    replace H := Option.bind_eq_some_iff.mp H
                    obtain ⟨t187, A220, H⟩ := H
                    replace H : (some (decide (t187 < 0))) = some r := H
                    have A22 := Aside0.mk A220
                    clear A220
                    obtain rfl := Option.some.inj H
                    go_wp2_with (first | ((with_reducible refine gate_callee (f := 8) rfl ?_); refine goesL_ (some 21) rfl rfl Try.func8 (by kernel_rfl) rfl #[.string a0, .string a1] rfl (by (try simp only [List.map_toArray, List.map_cons, List.map_nil]); first | done | rfl | (simp only [List.length_drop, List.length_take]; rfl)) ?_; (with_reducible refine (frac_Between.calls kj4 a0 a1 t182 t183 _ A9.out).mono ?_); rintro e w23 ⟨rfl, hb⟩; refine ⟨_, rfl, ?_⟩; have n0_ := Aside0.mk (below_step (by repeat (first | (with_reducible first | exact HB.out | apply below_alloc | apply pw_below_drewN | apply below_drew1) | exact HB.out)) hb); clear HB; have HB := n0_; clear n0_; (try clear hb); (try clear hb2); (try clear hk); (try clear hi)) | ((with_reducible refine gate_callee (f := 10) rfl ?_); refine goesL_ (some 75) rfl rfl Try.func10 (by kernel_rfl) rfl #[.string t182] rfl (by (try simp only [List.map_toArray, List.map_cons, List.map_nil]); first | done | rfl | (simp only [List.length_drop, List.length_take]; rfl)) ?_; (with_reducible refine (frac_Right.calls t182 true _ A11.out).mono ?_); rintro e w' ⟨rfl, ⟨nd, rfl⟩⟩; refine ⟨_, rfl, ?_⟩) | (go_at_call 12; (with_reducible refine (frac_Order.calls a0 t182 t186 _ A18.out).mono ?_); rintro e w' ⟨rfl, ⟨nd, rfl⟩⟩) | (go_at_call 12; (with_reducible refine (frac_Order.calls t182 a1 t187 _ A22.out).mono ?_); rintro e w' ⟨rfl, ⟨nd, rfl⟩⟩))
                    go_ret
                    exact ⟨by first | rfl | (simp [errW_none, errW_some] <;> rfl) | (simp [*, errW_none, errW_some] <;> rfl), by repeat (first | (with_reducible first | exact HB.out | apply below_alloc | apply pw_below_drewN | apply below_drew1) | exact HB.out)⟩
                · rw [if_neg c19] at H
                  have c19b0 : decide (t186 < 0) = false := decide_eq_false c19
                  clear c19
                  obtain rfl := Option.some.inj H
                  go_wp2_with (first | ((with_reducible refine gate_callee (f := 8) rfl ?_); refine goesL_ (some 21) rfl rfl Try.func8 (by kernel_rfl) rfl #[.string a0, .string a1] rfl (by (try simp only [List.map_toArray, List.map_cons, List.map_nil]); first | done | rfl | (simp only [List.length_drop, List.length_take]; rfl)) ?_; (with_reducible refine (frac_Between.calls kj4 a0 a1 t182 t183 _ A9.out).mono ?_); rintro e w24 ⟨rfl, hb⟩; refine ⟨_, rfl, ?_⟩; have n0_ := Aside0.mk (below_step (by repeat (first | (with_reducible first | exact HB.out | apply below_alloc | apply pw_below_drewN | apply below_drew1) | exact HB.out)) hb); clear HB; have HB := n0_; clear n0_; (try clear hb); (try clear hb2); (try clear hk); (try clear hi)) | ((with_reducible refine gate_callee (f := 10) rfl ?_); refine goesL_ (some 75) rfl rfl Try.func10 (by kernel_rfl) rfl #[.string t182] rfl (by (try simp only [List.map_toArray, List.map_cons, List.map_nil]); first | done | rfl | (simp only [List.length_drop, List.length_take]; rfl)) ?_; (with_reducible refine (frac_Right.calls t182 true _ A11.out).mono ?_); rintro e w' ⟨rfl, ⟨nd, rfl⟩⟩; refine ⟨_, rfl, ?_⟩) | (go_at_call 12; (with_reducible refine (frac_Order.calls a0 t182 t186 _ A18.out).mono ?_); rintro e w' ⟨rfl, ⟨nd, rfl⟩⟩))
                  go_ret
                  exact ⟨by first | rfl | (simp [errW_none, errW_some] <;> rfl) | (simp [*, errW_none, errW_some] <;> rfl), by repeat (first | (with_reducible first | exact HB.out | apply below_alloc | apply pw_below_drewN | apply below_drew1) | exact HB.out)⟩
            · replace c12 := Bool.eq_false_iff.mpr c12
              subst c12
              have H1 : (some false) = some r := by rw [if_neg (show ¬ (false = true) by decide)] at H; exact H
              clear H
              have H := H1
              clear H1
              obtain rfl := Option.some.inj H
              go_wp2_with (first | ((with_reducible refine gate_callee (f := 8) rfl ?_); refine goesL_ (some 21) rfl rfl Try.func8 (by kernel_rfl) rfl #[.string a0, .string a1] rfl (by (try simp only [List.map_toArray, List.map_cons, List.map_nil]); first | done | rfl | (simp only [List.length_drop, List.length_take]; rfl)) ?_; (with_reducible refine (frac_Between.calls kj4 a0 a1 t182 t183 _ A9.out).mono ?_); rintro e w25 ⟨rfl, hb⟩; refine ⟨_, rfl, ?_⟩; have n0_ := Aside0.mk (below_step (by repeat (first | (with_reducible first | exact HB.out | apply below_alloc | apply pw_below_drewN | apply below_drew1) | exact HB.out)) hb); clear HB; have HB := n0_; clear n0_; (try clear hb); (try clear hb2); (try clear hk); (try clear hi)) | ((with_reducible refine gate_callee (f := 10) rfl ?_); refine goesL_ (some 75) rfl rfl Try.func10 (by kernel_rfl) rfl #[.string t182] rfl (by (try simp only [List.map_toArray, List.map_cons, List.map_nil]); first | done | rfl | (simp only [List.length_drop, List.length_take]; rfl)) ?_; (with_reducible refine (frac_Right.calls t182 false _ A11.out).mono ?_); rintro e w' ⟨rfl, ⟨nd, rfl⟩⟩; refine ⟨_, rfl, ?_⟩))
              go_ret
              exact ⟨by first | rfl | (simp [errW_none, errW_some] <;> rfl) | (simp [*, errW_none, errW_some] <;> rfl), by repeat (first | (with_reducible first | exact HB.out | apply below_alloc | apply pw_below_drewN | apply below_drew1) | exact HB.out)⟩
          · rw [if_neg c10] at H
            have c10b0 : (t183 == 0) = false := beq_eq_false_iff_ne.mpr c10
            have c10b1 : (t183 != 0) = true := bne_iff_ne.mpr c10
            by_cases c26 : a0.toList = ([] : List UInt8)
            · rw [if_pos c26] at H
              have c26b0 : (a0.toList == ([] : List UInt8)) = true := beq_iff_eq.mpr c26
              have c26b1 : (a0.toList != ([] : List UInt8)) = false := bne_eq_false_iff_eq.mpr c26
              have c26i : (!a0.toList.isEmpty) = false := by simpa using c26b1
              clear c26
              by_cases c27 : a1.toList = ([] : List UInt8)
              · rw [if_pos c27] at H
                have c27b0 : (a1.toList == ([] : List UInt8)) = true := beq_iff_eq.mpr c27
                have c27b1 : (a1.toList != ([] : List UInt8)) = false := bne_eq_false_iff_eq.mpr c27
                have c27i : (!a1.toList.isEmpty) = false := by simpa using c27b1
                clear c27
                by_cases c28 : t183 = 15
                · rw [if_pos c28] at H
                  have c28b0 : (t183 == 15) = true := beq_iff_eq.mpr c28
                  have c28b1 : (t183 != 15) = false := bne_eq_false_iff_eq.mpr c28
                  clear c28
                  by_cases c29 : t182.toList = ([] : List UInt8)
                  · rw [if_pos c29] at H
                    have c29b0 : (t182.toList == ([] : List UInt8)) = true := beq_iff_eq.mpr c29
                    have c29b1 : (t182.toList != ([] : List UInt8)) = false := bne_eq_false_iff_eq.mpr c29
                    have c29i : (!t182.toList.isEmpty) = false := by simpa using c29b1
                    clear c29
                    by_cases c30 : (a0.size : Int) ≥ 31
                    · rw [if_pos c30] at H
                      have c30b0 : decide (31 ≤ (a0.size : Int)) = true := decide_eq_true c30
                      have c30b1 : decide (31 ≤ a0.size) = true := decide_eq_true (by omega)
                      clear c30
                      obtain rfl := Option.some.inj H
                      go_wp2_with (first | ((with_reducible refine gate_callee (f := 8) rfl ?_); refine goesL_ (some 21) rfl rfl Try.func8 (by kernel_rfl) rfl #[.string a0, .string a1] rfl (by (try simp only [List.map_toArray, List.map_cons, List.map_nil]); first | done | rfl | (simp only [List.length_drop, List.length_take]; rfl)) ?_; (with_reducible refine (frac_Between.calls kj4 a0 a1 t182 t183 _ A9.out).mono ?_); rintro e w31 ⟨rfl, hb⟩; refine ⟨_, rfl, ?_⟩; have n0_ := Aside0.mk (below_step (by repeat (first | (with_reducible first | exact HB.out | apply below_alloc | apply pw_below_drewN | apply below_drew1) | exact HB.out)) hb); clear HB; have HB := n0_; clear n0_; (try clear hb); (try clear hb2); (try clear hk); (try clear hi)))
                      go_ret
                      exact ⟨by first | rfl | (simp [errW_none, errW_some] <;> rfl) | (simp [*, errW_none, errW_some] <;> rfl), by repeat (first | (with_reducible first | exact HB.out | apply below_alloc | apply pw_below_drewN | apply below_drew1) | exact HB.out)⟩
                    · rw [if_neg c30] at H
                      have c30b0 : decide (31 ≤ (a0.size : Int)) = false := decide_eq_false c30
                      have c30b1 : decide (31 ≤ a0.size) = false := decide_eq_false (by omega)
                      clear c30
                      obtain rfl := Option.some.inj H
                      go_wp2_with (first | ((with_reducible refine gate_callee (f := 8) rfl ?_); refine goesL_ (some 21) rfl rfl Try.func8 (by kernel_rfl) rfl #[.string a0, .string a1] rfl (by (try simp only [List.map_toArray, List.map_cons, List.map_nil]); first | done | rfl | (simp only [List.length_drop, List.length_take]; rfl)) ?_; (with_reducible refine (frac_Between.calls kj4 a0 a1 t182 t183 _ A9.out).mono ?_); rintro e w32 ⟨rfl, hb⟩; refine ⟨_, rfl, ?_⟩; have n0_ := Aside0.mk (below_step (by repeat (first | (with_reducible first | exact HB.out | apply below_alloc | apply pw_below_drewN | apply below_drew1) | exact HB.out)) hb); clear HB; have HB := n0_; clear n0_; (try clear hb); (try clear hb2); (try clear hk); (try clear hi)))
                      go_ret
                      exact ⟨by first | rfl | (simp [errW_none, errW_some] <;> rfl) | (simp [*, errW_none, errW_some] <;> rfl), by repeat (first | (with_reducible first | exact HB.out | apply below_alloc | apply pw_below_drewN | apply below_drew1) | exact HB.out)⟩
                  · rw [if_neg c29] at H
                    have c29b0 : (t182.toList == ([] : List UInt8)) = false := beq_eq_false_iff_ne.mpr c29
                    have c29b1 : (t182.toList != ([] : List UInt8)) = true := bne_iff_ne.mpr c29
                    have c29i : (!t182.toList.isEmpty) = true := by simpa using c29b1
                    obtain rfl := Option.some.inj H
                    go_wp2_with (first | ((with_reducible refine gate_callee (f := 8) rfl ?_); refine goesL_ (some 21) rfl rfl Try.func8 (by kernel_rfl) rfl #[.string a0, .string a1] rfl (by (try simp only [List.map_toArray, List.map_cons, List.map_nil]); first | done | rfl | (simp only [List.length_drop, List.length_take]; rfl)) ?_; (with_reducible refine (frac_Between.calls kj4 a0 a1 t182 t183 _ A9.out).mono ?_); rintro e w33 ⟨rfl, hb⟩; refine ⟨_, rfl, ?_⟩; have n0_ := Aside0.mk (below_step (by repeat (first | (with_reducible first | exact HB.out | apply below_alloc | apply pw_below_drewN | apply below_drew1) | exact HB.out)) hb); clear HB; have HB := n0_; clear n0_; (try clear hb); (try clear hb2); (try clear hk); (try clear hi)))
                    go_ret
                    exact ⟨by first | rfl | (simp [errW_none, errW_some] <;> rfl) | (simp [*, errW_none, errW_some] <;> rfl), by repeat (first | (with_reducible first | exact HB.out | apply below_alloc | apply pw_below_drewN | apply below_drew1) | exact HB.out)⟩
                · rw [if_neg c28] at H
                  have c28b0 : (t183 == 15) = false := beq_eq_false_iff_ne.mpr c28
                  have c28b1 : (t183 != 15) = true := bne_iff_ne.mpr c28
                  obtain rfl := Option.some.inj H
                  go_wp2_with (first | ((with_reducible refine gate_callee (f := 8) rfl ?_); refine goesL_ (some 21) rfl rfl Try.func8 (by kernel_rfl) rfl #[.string a0, .string a1] rfl (by (try simp only [List.map_toArray, List.map_cons, List.map_nil]); first | done | rfl | (simp only [List.length_drop, List.length_take]; rfl)) ?_; (with_reducible refine (frac_Between.calls kj4 a0 a1 t182 t183 _ A9.out).mono ?_); rintro e w34 ⟨rfl, hb⟩; refine ⟨_, rfl, ?_⟩; have n0_ := Aside0.mk (below_step (by repeat (first | (with_reducible first | exact HB.out | apply below_alloc | apply pw_below_drewN | apply below_drew1) | exact HB.out)) hb); clear HB; have HB := n0_; clear n0_; (try clear hb); (try clear hb2); (try clear hk); (try clear hi)))
                  go_ret
                  exact ⟨by first | rfl | (simp [errW_none, errW_some] <;> rfl) | (simp [*, errW_none, errW_some] <;> rfl), by repeat (first | (with_reducible first | exact HB.out | apply below_alloc | apply pw_below_drewN | apply below_drew1) | exact HB.out)⟩
              · rw [if_neg c27] at H
                have c27b0 : (a1.toList == ([] : List UInt8)) = false := beq_eq_false_iff_ne.mpr c27
                have c27b1 : (a1.toList != ([] : List UInt8)) = true := bne_iff_ne.mpr c27
                have c27i : (!a1.toList.isEmpty) = true := by simpa using c27b1
                replace H := Option.bind_eq_some_iff.mp H
                obtain ⟨t188, A350, H⟩ := H
                replace H : (if t188 = true then (if t183 = 15 then (if t182.toList = ([] : List UInt8) then (if (a0.size : Int) ≥ 31 then (some true) else (some (decide ((a1.size : Int) ≥ 31)))) else (some false)) else (some false)) else (if t183 = 15 then (if t182.toList = ([] : List UInt8) then (some true) else (some false)) else (some false))) = some r := H
                have A35 := Aside0.mk A350
                clear A350
                by_cases c36 : t188 = true
                · subst c36
                  have H1 : (if t183 = 15 then (if t182.toList = ([] : List UInt8) then (if (a0.size : Int) ≥ 31 then (some true) else (some (decide ((a1.size : Int) ≥ 31)))) else (some false)) else (some false)) = some r := by rw [if_pos rfl] at H; exact H
                  clear H
                  have H := H1
                  clear H1
                  by_cases c37 : t183 = 15
                  · rw [if_pos c37] at H
                    have c37b0 : (t183 == 15) = true := beq_iff_eq.mpr c37
                    have c37b1 : (t183 != 15) = false := bne_eq_false_iff_eq.mpr c37
                    clear c37
                    by_cases c38 : t182.toList = ([] : List UInt8)
                    · rw [if_pos c38] at H
                      have c38b0 : (t182.toList == ([] : List UInt8)) = true := beq_iff_eq.mpr c38
                      have c38b1 : (t182.toList != ([] : List UInt8)) = false := bne_eq_false_iff_eq.mpr c38
                      have c38i : (!t182.toList.isEmpty) = false := by simpa using c38b1
                      clear c38
                      by_cases c39 : (a0.size : Int) ≥ 31
                      · rw [if_pos c39] at H
                        have c39b0 : decide (31 ≤ (a0.size : Int)) = true := decide_eq_true c39
                        have c39b1 : decide (31 ≤ a0.size) = true := decide_eq_true (by omega)
                        clear c39
                        obtain rfl := Option.some.inj H
                        go_wp2_with (first | ((with_reducible refine gate_callee (f := 8) rfl ?_); refine goesL_ (some 21) rfl rfl Try.func8 (by kernel_rfl) rfl #[.string a0, .string a1] rfl (by (try simp only [List.map_toArray, List.map_cons, List.map_nil]); first | done | rfl | (simp only [List.length_drop, List.length_take]; rfl)) ?_; (with_reducible refine (frac_Between.calls kj4 a0 a1 t182 t183 _ A9.out).mono ?_); rintro e w40 ⟨rfl, hb⟩; refine ⟨_, rfl, ?_⟩; have n0_ := Aside0.mk (below_step (by repeat (first | (with_reducible first | exact HB.out | apply below_alloc | apply pw_below_drewN | apply below_drew1) | exact HB.out)) hb); clear HB; have HB := n0_; clear n0_; (try clear hb); (try clear hb2); (try clear hk); (try clear hi)) | (go_at_call 10; (with_reducible refine (frac_Right.calls a1 true _ A35.out).mono ?_); rintro e w' ⟨rfl, ⟨nd, rfl⟩⟩))
                        go_ret
                        exact ⟨by first | rfl | (simp [errW_none, errW_some] <;> rfl) | (simp [*, errW_none, errW_some] <;> rfl), by repeat (first | (with_reducible first | exact HB.out | apply below_alloc | apply pw_below_drewN | apply below_drew1) | exact HB.out)⟩
                      · rw [if_neg c39] at H
                        have c39b0 : decide (31 ≤ (a0.size : Int)) = false := decide_eq_false c39
                        have c39b1 : decide (31 ≤ a0.size) = false := decide_eq_false (by omega)
                        clear c39
                        obtain rfl := Option.some.inj H
                        go_wp2_with (first | ((with_reducible refine gate_callee (f := 8) rfl ?_); refine goesL_ (some 21) rfl rfl Try.func8 (by kernel_rfl) rfl #[.string a0, .string a1] rfl (by (try simp only [List.map_toArray, List.map_cons, List.map_nil]); first | done | rfl | (simp only [List.length_drop, List.length_take]; rfl)) ?_; (with_reducible refine (frac_Between.calls kj4 a0 a1 t182 t183 _ A9.out).mono ?_); rintro e w41 ⟨rfl, hb⟩; refine ⟨_, rfl, ?_⟩; have n0_ := Aside0.mk (below_step (by repeat (first | (with_reducible first | exact HB.out | apply below_alloc | apply pw_below_drewN | apply below_drew1) | exact HB.out)) hb); clear HB; have HB := n0_; clear n0_; (try clear hb); (try clear hb2); (try clear hk); (try clear hi)) | (go_at_call 10; (with_reducible refine (frac_Right.calls a1 true _ A35.out).mono ?_); rintro e w' ⟨rfl, ⟨nd, rfl⟩⟩))
                        go_ret
                        exact ⟨by first | rfl | (simp [errW_none, errW_some] <;> rfl) | (simp [*, errW_none, errW_some] <;> rfl), by repeat (first | (with_reducible first | exact HB.out | apply below_alloc | apply pw_below_drewN | apply below_drew1) | exact HB.out)⟩
                    · rw [if_neg c38] at H
                      have c38b0 : (t182.toList == ([] : List UInt8)) = false := beq_eq_false_iff_ne.mpr c38
                      have c38b1 : (t182.toList != ([] : List UInt8)) = true := bne_iff_ne.mpr c38
                      have c38i : (!t182.toList.isEmpty) = true := by simpa using c38b1
                      obtain rfl := Option.some.inj H
                      go_wp2_with (first | ((with_reducible refine gate_callee (f := 8) rfl ?_); refine goesL_ (some 21) rfl rfl Try.func8 (by kernel_rfl) rfl #[.string a0, .string a1] rfl (by (try simp only [List.map_toArray, List.map_cons, List.map_nil]); first | done | rfl | (simp only [List.length_drop, List.length_take]; rfl)) ?_; (with_reducible refine (frac_Between.calls kj4 a0 a1 t182 t183 _ A9.out).mono ?_); rintro e w42 ⟨rfl, hb⟩; refine ⟨_, rfl, ?_⟩; have n0_ := Aside0.mk (below_step (by repeat (first | (with_reducible first | exact HB.out | apply below_alloc | apply pw_below_drewN | apply below_drew1) | exact HB.out)) hb); clear HB; have HB := n0_; clear n0_; (try clear hb); (try clear hb2); (try clear hk); (try clear hi)) | (go_at_call 10; (with_reducible refine (frac_Right.calls a1 true _ A35.out).mono ?_); rintro e w' ⟨rfl, ⟨nd, rfl⟩⟩))
                      go_ret
                      exact ⟨by first | rfl | (simp [errW_none, errW_some] <;> rfl) | (simp [*, errW_none, errW_some] <;> rfl), by repeat (first | (with_reducible first | exact HB.out | apply below_alloc | apply pw_below_drewN | apply below_drew1) | exact HB.out)⟩
                  · rw [if_neg c37] at H
                    have c37b0 : (t183 == 15) = false := beq_eq_false_iff_ne.mpr c37
                    have c37b1 : (t183 != 15) = true := bne_iff_ne.mpr c37
                    obtain rfl := Option.some.inj H
                    go_wp2_with (first | ((with_reducible refine gate_callee (f := 8) rfl ?_); refine goesL_ (some 21) rfl rfl Try.func8 (by kernel_rfl) rfl #[.string a0, .string a1] rfl (by (try simp only [List.map_toArray, List.map_cons, List.map_nil]); first | done | rfl | (simp only [List.length_drop, List.length_take]; rfl)) ?_; (with_reducible refine (frac_Between.calls kj4 a0 a1 t182 t183 _ A9.out).mono ?_); rintro e w43 ⟨rfl, hb⟩; refine ⟨_, rfl, ?_⟩; have n0_ := Aside0.mk (below_step (by repeat (first | (with_reducible first | exact HB.out | apply below_alloc | apply pw_below_drewN | apply below_drew1) | exact HB.out)) hb); clear HB; have HB := n0_; clear n0_; (try clear hb); (try clear hb2); (try clear hk); (try clear hi)) | (go_at_call 10; (with_reducible refine (frac_Right.calls a1 true _ A35.out).mono ?_); rintro e w' ⟨rfl, ⟨nd, rfl⟩⟩))
                    go_ret
                    exact ⟨by first | rfl | (simp [errW_none, errW_some] <;> rfl) | (simp [*, errW_none, errW_some] <;> rfl), by repeat (first | (with_reducible first | exact HB.out | apply below_alloc | apply pw_below_drewN | apply below_drew1) | exact HB.out)⟩
                · replace c36 := Bool.eq_false_iff.mpr c36
                  subst c36
                  have H1 : (if t183 = 15 then (if t182.toList = ([] : List UInt8) then (some true) else (some false)) else (some false)) = some r := by rw [if_neg (show ¬ (false = true) by decide)] at H; exact H
                  clear H
                  have H := H1
                  clear H1
                  by_cases c44 : t183 = 15
                  · rw [if_pos c44] at H
                    have c44b0 : (t183 == 15) = true := beq_iff_eq.mpr c44
                    have c44b1 : (t183 != 15) = false := bne_eq_false_iff_eq.mpr c44
                    clear c44
                    by_cases c45 : t182.toList = ([] : List UInt8)
                    · rw [if_pos c45] at H
                      have c45b0 : (t182.toList == ([] : List UInt8)) = true := beq_iff_eq.mpr c45
                      have c45b1 : (t182.toList != ([] : List UInt8)) = false := bne_eq_false_iff_eq.mpr c45
                      have c45i : (!t182.toList.isEmpty) = false := by simpa using c45b1
                      clear c45
                      obtain rfl := Option.some.inj H
                      go_wp2_with (first | ((with_reducible refine gate_callee (f := 8) rfl ?_); refine goesL_ (some 21) rfl rfl Try.func8 (by kernel_rfl) rfl #[.string a0, .string a1] rfl (by (try simp only [List.map_toArray, List.map_cons, List.map_nil]); first | done | rfl | (simp only [List.length_drop, List.length_take]; rfl)) ?_; (with_reducible refine (frac_Between.calls kj4 a0 a1 t182 t183 _ A9.out).mono ?_); rintro e w46 ⟨rfl, hb⟩; refine ⟨_, rfl, ?_⟩; have n0_ := Aside0.mk (below_step (by repeat (first | (with_reducible first | exact HB.out | apply below_alloc | apply pw_below_drewN | apply below_drew1) | exact HB.out)) hb); clear HB; have HB := n0_; clear n0_; (try clear hb); (try clear hb2); (try clear hk); (try clear hi)) | (go_at_call 10; (with_reducible refine (frac_Right.calls a1 false _ A35.out).mono ?_); rintro e w' ⟨rfl, ⟨nd, rfl⟩⟩))
                      go_ret
                      exact ⟨by first | rfl | (simp [errW_none, errW_some] <;> rfl) | (simp [*, errW_none, errW_some] <;> rfl), by repeat (first | (with_reducible first | exact HB.out | apply below_alloc | apply pw_below_drewN | apply below_drew1) | exact HB.out)⟩
                    · rw [if_neg c45] at H
                      have c45b0 : (t182.toList == ([] : List UInt8)) = false := beq_eq_false_iff_ne.mpr c45
                      have c45b1 : (t182.toList != ([] : List UInt8)) = true := bne_iff_ne.mpr c45
                      have c45i : (!t182.toList.isEmpty) = true := by simpa using c45b1
                      obtain rfl := Option.some.inj H
                      go_wp2_with (first | ((with_reducible refine gate_callee (f := 8) rfl ?_); refine goesL_ (some 21) rfl rfl Try.func8 (by kernel_rfl) rfl #[.string a0, .string a1] rfl (by (try simp only [List.map_toArray, List.map_cons, List.map_nil]); first | done | rfl | (simp only [List.length_drop, List.length_take]; rfl)) ?_; (with_reducible refine (frac_Between.calls kj4 a0 a1 t182 t183 _ A9.out).mono ?_); rintro e w47 ⟨rfl, hb⟩; refine ⟨_, rfl, ?_⟩; have n0_ := Aside0.mk (below_step (by repeat (first | (with_reducible first | exact HB.out | apply below_alloc | apply pw_below_drewN | apply below_drew1) | exact HB.out)) hb); clear HB; have HB := n0_; clear n0_; (try clear hb); (try clear hb2); (try clear hk); (try clear hi)) | (go_at_call 10; (with_reducible refine (frac_Right.calls a1 false _ A35.out).mono ?_); rintro e w' ⟨rfl, ⟨nd, rfl⟩⟩))
                      go_ret
                      exact ⟨by first | rfl | (simp [errW_none, errW_some] <;> rfl) | (simp [*, errW_none, errW_some] <;> rfl), by repeat (first | (with_reducible first | exact HB.out | apply below_alloc | apply pw_below_drewN | apply below_drew1) | exact HB.out)⟩
                  · rw [if_neg c44] at H
                    have c44b0 : (t183 == 15) = false := beq_eq_false_iff_ne.mpr c44
                    have c44b1 : (t183 != 15) = true := bne_iff_ne.mpr c44
                    obtain rfl := Option.some.inj H
                    go_wp2_with (first | ((with_reducible refine gate_callee (f := 8) rfl ?_); refine goesL_ (some 21) rfl rfl Try.func8 (by kernel_rfl) rfl #[.string a0, .string a1] rfl (by (try simp only [List.map_toArray, List.map_cons, List.map_nil]); first | done | rfl | (simp only [List.length_drop, List.length_take]; rfl)) ?_; (with_reducible refine (frac_Between.calls kj4 a0 a1 t182 t183 _ A9.out).mono ?_); rintro e w48 ⟨rfl, hb⟩; refine ⟨_, rfl, ?_⟩; have n0_ := Aside0.mk (below_step (by repeat (first | (with_reducible first | exact HB.out | apply below_alloc | apply pw_below_drewN | apply below_drew1) | exact HB.out)) hb); clear HB; have HB := n0_; clear n0_; (try clear hb); (try clear hb2); (try clear hk); (try clear hi)) | (go_at_call 10; (with_reducible refine (frac_Right.calls a1 false _ A35.out).mono ?_); rintro e w' ⟨rfl, ⟨nd, rfl⟩⟩))
                    go_ret
                    exact ⟨by first | rfl | (simp [errW_none, errW_some] <;> rfl) | (simp [*, errW_none, errW_some] <;> rfl), by repeat (first | (with_reducible first | exact HB.out | apply below_alloc | apply pw_below_drewN | apply below_drew1) | exact HB.out)⟩
            · rw [if_neg c26] at H
              have c26b0 : (a0.toList == ([] : List UInt8)) = false := beq_eq_false_iff_ne.mpr c26
              have c26b1 : (a0.toList != ([] : List UInt8)) = true := bne_iff_ne.mpr c26
              have c26i : (!a0.toList.isEmpty) = true := by simpa using c26b1
              replace H := Option.bind_eq_some_iff.mp H
              obtain ⟨t189, A490, H⟩ := H
              replace H : (if t189 = true then (if a1.toList = ([] : List UInt8) then (if t183 = 15 then (if t182.toList = ([] : List UInt8) then (if (a0.size : Int) ≥ 31 then (some true) else (some (decide ((a1.size : Int) ≥ 31)))) else (some false)) else (some false)) else ((frac_Right.f a1).bind fun t190 => (if t190 = true then ((frac_Order.f a0 a1).bind fun t191 => (if t183 = 15 then (if t182.toList = ([] : List UInt8) then (if t191 < 0 then (if (a0.size : Int) ≥ 31 then (some true) else (some (decide ((a1.size : Int) ≥ 31)))) else (some true)) else (some false)) else (some false))) else (if t183 = 15 then (if t182.toList = ([] : List UInt8) then (some true) else (some false)) else (some false))))) else (if t183 = 15 then (if t182.toList = ([] : List UInt8) then (some true) else (some false)) else (some false))) = some r := H
              have A49 := Aside0.mk A490
              clear A490
              by_cases c50 : t189 = true
              · subst c50
                have H1 : (if a1.toList = ([] : List UInt8) then (if t183 = 15 then (if t182.toList = ([] : List UInt8) then (if (a0.size : Int) ≥ 31 then (some true) else (some (decide ((a1.size : Int) ≥ 31)))) else (some false)) else (some false)) else ((frac_Right.f a1).bind fun t190 => (if t190 = true then ((frac_Order.f a0 a1).bind fun t191 => (if t183 = 15 then (if t182.toList = ([] : List UInt8) then (if t191 < 0 then (if (a0.size : Int) ≥ 31 then (some true) else (some (decide ((a1.size : Int) ≥ 31)))) else (some true)) else (some false)) else (some false))) else (if t183 = 15 then (if t182.toList = ([] : List UInt8) then (some true) else (some false)) else (some false))))) = some r := by rw [if_pos rfl] at H; exact H
                clear H
                have H := H1
                clear H1
                by_cases c51 : a1.toList = ([] : List UInt8)
                · rw [if_pos c51] at H
                  have c51b0 : (a1.toList == ([] : List UInt8)) = true := beq_iff_eq.mpr c51
                  have c51b1 : (a1.toList != ([] : List UInt8)) = false := bne_eq_false_iff_eq.mpr c51
                  have c51i : (!a1.toList.isEmpty) = false := by simpa using c51b1
                  clear c51
                  by_cases c52 : t183 = 15
                  · rw [if_pos c52] at H
                    have c52b0 : (t183 == 15) = true := beq_iff_eq.mpr c52
                    have c52b1 : (t183 != 15) = false := bne_eq_false_iff_eq.mpr c52
                    clear c52
                    by_cases c53 : t182.toList = ([] : List UInt8)
                    · rw [if_pos c53] at H
                      have c53b0 : (t182.toList == ([] : List UInt8)) = true := beq_iff_eq.mpr c53
                      have c53b1 : (t182.toList != ([] : List UInt8)) = false := bne_eq_false_iff_eq.mpr c53
                      have c53i : (!t182.toList.isEmpty) = false := by simpa using c53b1
                      clear c53
                      by_cases c54 : (a0.size : Int) ≥ 31
                      · rw [if_pos c54] at H
                        have c54b0 : decide (31 ≤ (a0.size : Int)) = true := decide_eq_true c54
                        have c54b1 : decide (31 ≤ a0.size) = true := decide_eq_true (by omega)
                        clear c54
                        obtain rfl := Option.some.inj H
                        go_wp2_with (first | ((with_reducible refine gate_callee (f := 8) rfl ?_); refine goesL_ (some 21) rfl rfl Try.func8 (by kernel_rfl) rfl #[.string a0, .string a1] rfl (by (try simp only [List.map_toArray, List.map_cons, List.map_nil]); first | done | rfl | (simp only [List.length_drop, List.length_take]; rfl)) ?_; (with_reducible refine (frac_Between.calls kj4 a0 a1 t182 t183 _ A9.out).mono ?_); rintro e w55 ⟨rfl, hb⟩; refine ⟨_, rfl, ?_⟩; have n0_ := Aside0.mk (below_step (by repeat (first | (with_reducible first | exact HB.out | apply below_alloc | apply pw_below_drewN | apply below_drew1) | exact HB.out)) hb); clear HB; have HB := n0_; clear n0_; (try clear hb); (try clear hb2); (try clear hk); (try clear hi)) | (go_at_call 10; (with_reducible refine (frac_Right.calls a0 true _ A49.out).mono ?_); rintro e w' ⟨rfl, ⟨nd, rfl⟩⟩))
                        go_ret
                        exact ⟨by first | rfl | (simp [errW_none, errW_some] <;> rfl) | (simp [*, errW_none, errW_some] <;> rfl), by repeat (first | (with_reducible first | exact HB.out | apply below_alloc | apply pw_below_drewN | apply below_drew1) | exact HB.out)⟩
                      · rw [if_neg c54] at H
                        have c54b0 : decide (31 ≤ (a0.size : Int)) = false := decide_eq_false c54
                        have c54b1 : decide (31 ≤ a0.size) = false := decide_eq_false (by omega)
                        clear c54
                        obtain rfl := Option.some.inj H
                        go_wp2_with (first | ((with_reducible refine gate_callee (f := 8) rfl ?_); refine goesL_ (some 21) rfl rfl Try.func8 (by kernel_rfl) rfl #[.string a0, .string a1] rfl (by (try simp only [List.map_toArray, List.map_cons, List.map_nil]); first | done | rfl | (simp only [List.length_drop, List.length_take]; rfl)) ?_; (with_reducible refine (frac_Between.calls kj4 a0 a1 t182 t183 _ A9.out).mono ?_); rintro e w56 ⟨rfl, hb⟩; refine ⟨_, rfl, ?_⟩; have n0_ := Aside0.mk (below_step (by repeat (first | (with_reducible first | exact HB.out | apply below_alloc | apply pw_below_drewN | apply below_drew1) | exact HB.out)) hb); clear HB; have HB := n0_; clear n0_; (try clear hb); (try clear hb2); (try clear hk); (try clear hi)) | (go_at_call 10; (with_reducible refine (frac_Right.calls a0 true _ A49.out).mono ?_); rintro e w' ⟨rfl, ⟨nd, rfl⟩⟩))
                        go_ret
                        exact ⟨by first | rfl | (simp [errW_none, errW_some] <;> rfl) | (simp [*, errW_none, errW_some] <;> rfl), by repeat (first | (with_reducible first | exact HB.out | apply below_alloc | apply pw_below_drewN | apply below_drew1) | exact HB.out)⟩
                    · rw [if_neg c53] at H
                      have c53b0 : (t182.toList == ([] : List UInt8)) = false := beq_eq_false_iff_ne.mpr c53
                      have c53b1 : (t182.toList != ([] : List UInt8)) = true := bne_iff_ne.mpr c53
                      have c53i : (!t182.toList.isEmpty) = true := by simpa using c53b1
                      obtain rfl := Option.some.inj H
                      go_wp2_with (first | ((with_reducible refine gate_callee (f := 8) rfl ?_); refine goesL_ (some 21) rfl rfl Try.func8 (by kernel_rfl) rfl #[.string a0, .string a1] rfl (by (try simp only [List.map_toArray, List.map_cons, List.map_nil]); first | done | rfl | (simp only [List.length_drop, List.length_take]; rfl)) ?_; (with_reducible refine (frac_Between.calls kj4 a0 a1 t182 t183 _ A9.out).mono ?_); rintro e w57 ⟨rfl, hb⟩; refine ⟨_, rfl, ?_⟩; have n0_ := Aside0.mk (below_step (by repeat (first | (with_reducible first | exact HB.out | apply below_alloc | apply pw_below_drewN | apply below_drew1) | exact HB.out)) hb); clear HB; have HB := n0_; clear n0_; (try clear hb); (try clear hb2); (try clear hk); (try clear hi)) | (go_at_call 10; (with_reducible refine (frac_Right.calls a0 true _ A49.out).mono ?_); rintro e w' ⟨rfl, ⟨nd, rfl⟩⟩))
                      go_ret
                      exact ⟨by first | rfl | (simp [errW_none, errW_some] <;> rfl) | (simp [*, errW_none, errW_some] <;> rfl), by repeat (first | (with_reducible first | exact HB.out | apply below_alloc | apply pw_below_drewN | apply below_drew1) | exact HB.out)⟩
                  · rw [if_neg c52] at H
                    have c52b0 : (t183 == 15) = false := beq_eq_false_iff_ne.mpr c52
                    have c52b1 : (t183 != 15) = true := bne_iff_ne.mpr c52
                    obtain rfl := Option.some.inj H
                    go_wp2_with (first | ((with_reducible refine gate_callee (f := 8) rfl ?_); refine goesL_ (some 21) rfl rfl Try.func8 (by kernel_rfl) rfl #[.string a0, .string a1] rfl (by (try simp only [List.map_toArray, List.map_cons, List.map_nil]); first | done | rfl | (simp only [List.length_drop, List.length_take]; rfl)) ?_; (with_reducible refine (frac_Between.calls kj4 a0 a1 t182 t183 _ A9.out).mono ?_); rintro e w58 ⟨rfl, hb⟩; refine ⟨_, rfl, ?_⟩; have n0_ := Aside0.mk (below_step (by repeat (first | (with_reducible first | exact HB.out | apply below_alloc | apply pw_below_drewN | apply below_drew1) | exact HB.out)) hb); clear HB; have HB := n0_; clear n0_; (try clear hb); (try clear hb2); (try clear hk); (try clear hi)) | (go_at_call 10; (with_reducible refine (frac_Right.calls a0 true _ A49.out).mono ?_); rintro e w' ⟨rfl, ⟨nd, rfl⟩⟩))
                    go_ret
                    exact ⟨by first | rfl | (simp [errW_none, errW_some] <;> rfl) | (simp [*, errW_none, errW_some] <;> rfl), by repeat (first | (with_reducible first | exact HB.out | apply below_alloc | apply pw_below_drewN | apply below_drew1) | exact HB.out)⟩
                · rw [if_neg c51] at H
                  have c51b0 : (a1.toList == ([] : List UInt8)) = false := beq_eq_false_iff_ne.mpr c51
                  have c51b1 : (a1.toList != ([] : List UInt8)) = true := bne_iff_ne.mpr c51
                  have c51i : (!a1.toList.isEmpty) = true := by simpa using c51b1
                  replace H := Option.bind_eq_some_iff.mp H
                  obtain ⟨t190, A590, H⟩ := H
                  replace H : (if t190 = true then ((frac_Order.f a0 a1).bind fun t191 => (if t183 = 15 then (if t182.toList = ([] : List UInt8) then (if t191 < 0 then (if (a0.size : Int) ≥ 31 then (some true) else (some (decide ((a1.size : Int) ≥ 31)))) else (some true)) else (some false)) else (some false))) else (if t183 = 15 then (if t182.toList = ([] : List UInt8) then (some true) else (some false)) else (some false))) = some r := H
                  have A59 := Aside0.mk A590
                  clear A590
                  by_cases c60 : t190 = true
                  · subst c60
                    have H1 : ((frac_Order.f a0 a1).bind fun t191 => (if t183 = 15 then (if t182.toList = ([] : List UInt8) then (if t191 < 0 then (if (a0.size : Int) ≥ 31 then (some true) else (some (decide ((a1.size : Int) ≥ 31)))) else (some true)) else (some false)) else (some false))) = some r := by rw [if_pos rfl] at H; exact H
                    clear H
                    have H := H1
                    clear H1
                    replace H := Option.bind_eq_some_iff.mp H
                    obtain ⟨t191, A610, H⟩ := H
                    replace H : (if t183 = 15 then (if t182.toList = ([] : List UInt8) then (if t191 < 0 then (if (a0.size : Int) ≥ 31 then (some true) else (some (decide ((a1.size : Int) ≥ 31)))) else (some true)) else (some false)) else (some false)) = some r := H
                    have A61 := Aside0.mk A610
                    clear A610
                    by_cases c62 : t183 = 15
                    · rw [if_pos c62] at H
                      have c62b0 : (t183 == 15) = true := beq_iff_eq.mpr c62
                      have c62b1 : (t183 != 15) = false := bne_eq_false_iff_eq.mpr c62
                      clear c62
                      by_cases c63 : t182.toList = ([] : List UInt8)
                      · rw [if_pos c63] at H
                        have c63b0 : (t182.toList == ([] : List UInt8)) = true := beq_iff_eq.mpr c63
                        have c63b1 : (t182.toList != ([] : List UInt8)) = false := bne_eq_false_iff_eq.mpr c63
                        have c63i : (!t182.toList.isEmpty) = false := by simpa using c63b1
                        clear c63
                        by_cases c64 : t191 < 0
                        · rw [if_pos c64] at H
                          have c64b0 : decide (t191 < 0) = true := decide_eq_true c64
                          clear c64
                          by_cases c65 : (a0.size : Int) ≥ 31
                          · rw [if_pos c65] at H
                            have c65b0 : decide (31 ≤ (a0.size : Int)) = true := decide_eq_true c65
                            have c65b1 : decide (31 ≤ a0.size) = true := decide_eq_true (by omega)
                            clear c65
                            obtain rfl := Option.some.inj H
                            go_wp2_with (first | ((with_reducible refine gate_callee (f := 8) rfl ?_); refine goesL_ (some 21) rfl rfl Try.func8 (by kernel_rfl) rfl #[.string a0, .string a1] rfl (by (try simp only [List.map_toArray, List.map_cons, List.map_nil]); first | done | rfl | (simp only [List.length_drop, List.length_take]; rfl)) ?_; (with_reducible refine (frac_Between.calls kj4 a0 a1 t182 t183 _ A9.out).mono ?_); rintro e w66 ⟨rfl, hb⟩; refine ⟨_, rfl, ?_⟩; have n0_ := Aside0.mk (below_step (by repeat (first | (with_reducible first | exact HB.out | apply below_alloc | apply pw_below_drewN | apply below_drew1) | exact HB.out)) hb); clear HB; have HB := n0_; clear n0_; (try clear hb); (try clear hb2); (try clear hk); (try clear hi)) | (go_at_call 10; (with_reducible refine (frac_Right.calls a0 true _ A49.out).mono ?_); rintro e w' ⟨rfl, ⟨nd, rfl⟩⟩) | (go_at_call 10; (with_reducible refine (frac_Right.calls a1 true _ A59.out).mono ?_); rintro e w' ⟨rfl, ⟨nd, rfl⟩⟩) | (go_at_call 12; (with_reducible refine (frac_Order.calls a0 a1 t191 _ A61.out).mono ?_); rintro e w' ⟨rfl, ⟨nd, rfl⟩⟩))
                            go_ret
                            exact ⟨by first | rfl | (simp [errW_none, errW_some] <;> rfl) | (simp [*, errW_none, errW_some] <;> rfl), by repeat (first | (with_reducible first | exact HB.out | apply below_alloc | apply pw_below_drewN | apply below_drew1) | exact HB.out)⟩
                          · rw [if_neg c65] at H
                            have c65b0 : decide (31 ≤ (a0.size : Int)) = false := decide_eq_false c65
                            have c65b1 : decide (31 ≤ a0.size) = false := decide_eq_false (by omega)
                            clear c65
                            obtain rfl := Option.some.inj H
                            go_wp2_with (first | ((with_reducible refine gate_callee (f := 8) rfl ?_); refine goesL_ (some 21) rfl rfl Try.func8 (by kernel_rfl) rfl #[.string a0, .string a1] rfl (by (try simp only [List.map_toArray, List.map_cons, List.map_nil]); first | done | rfl | (simp only [List.length_drop, List.length_take]; rfl)) ?_; (with_reducible refine (frac_Between.calls kj4 a0 a1 t182 t183 _ A9.out).mono ?_); rintro e w67 ⟨rfl, hb⟩; refine ⟨_, rfl, ?_⟩; have n0_ := Aside0.mk (below_step (by repeat (first | (with_reducible first | exact HB.out | apply below_alloc | apply pw_below_drewN | apply below_drew1) | exact HB.out)) hb); clear HB; have HB := n0_; clear n0_; (try clear hb); (try clear hb2); (try clear hk); (try clear hi)) | (go_at_call 10; (with_reducible refine (frac_Right.calls a0 true _ A49.out).mono ?_); rintro e w' ⟨rfl, ⟨nd, rfl⟩⟩) | (go_at_call 10; (with_reducible refine (frac_Right.calls a1 true _ A59.out).mono ?_); rintro e w' ⟨rfl, ⟨nd, rfl⟩⟩) | (go_at_call 12; (with_reducible refine (frac_Order.calls a0 a1 t191 _ A61.out).mono ?_); rintro e w' ⟨rfl, ⟨nd, rfl⟩⟩))
                            go_ret
                            exact ⟨by first | rfl | (simp [errW_none, errW_some] <;> rfl) | (simp [*, errW_none, errW_some] <;> rfl), by repeat (first | (with_reducible first | exact HB.out | apply below_alloc | apply pw_below_drewN | apply below_drew1) | exact HB.out)⟩
                        · rw [if_neg c64] at H
                          have c64b0 : decide (t191 < 0) = false := decide_eq_false c64
                          clear c64
                          obtain rfl := Option.some.inj H
                          go_wp2_with (first | ((with_reducible refine gate_callee (f := 8) rfl ?_); refine goesL_ (some 21) rfl rfl Try.func8 (by kernel_rfl) rfl #[.string a0, .string a1] rfl (by (try simp only [List.map_toArray, List.map_cons, List.map_nil]); first | done | rfl | (simp only [List.length_drop, List.length_take]; rfl)) ?_; (with_reducible refine (frac_Between.calls kj4 a0 a1 t182 t183 _ A9.out).mono ?_); rintro e w68 ⟨rfl, hb⟩; refine ⟨_, rfl, ?_⟩; have n0_ := Aside0.mk (below_step (by repeat (first | (with_reducible first | exact HB.out | apply below_alloc | apply pw_below_drewN | apply below_drew1) | exact HB.out)) hb); clear HB; have HB := n0_; clear n0_; (try clear hb); (try clear hb2); (try clear hk); (try clear hi)) | (go_at_call 10; (with_reducible refine (frac_Right.calls a0 true _ A49.out).mono ?_); rintro e w' ⟨rfl, ⟨nd, rfl⟩⟩) | (go_at_call 10; (with_reducible refine (frac_Right.calls a1 true _ A59.out).mono ?_); rintro e w' ⟨rfl, ⟨nd, rfl⟩⟩) | (go_at_call 12; (with_reducible refine (frac_Order.calls a0 a1 t191 _ A61.out).mono ?_); rintro e w' ⟨rfl, ⟨nd, rfl⟩⟩))
                          go_ret
                          exact ⟨by first | rfl | (simp [errW_none, errW_some] <;> rfl) | (simp [*, errW_none, errW_some] <;> rfl), by repeat (first | (with_reducible first | exact HB.out | apply below_alloc | apply pw_below_drewN | apply below_drew1) | exact HB.out)⟩
                      · rw [if_neg c63] at H
                        have c63b0 : (t182.toList == ([] : List UInt8)) = false := beq_eq_false_iff_ne.mpr c63
                        have c63b1 : (t182.toList != ([] : List UInt8)) = true := bne_iff_ne.mpr c63
                        have c63i : (!t182.toList.isEmpty) = true := by simpa using c63b1
                        obtain rfl := Option.some.inj H
                        go_wp2_with (first | ((with_reducible refine gate_callee (f := 8) rfl ?_); refine goesL_ (some 21) rfl rfl Try.func8 (by kernel_rfl) rfl #[.string a0, .string a1] rfl (by (try simp only [List.map_toArray, List.map_cons, List.map_nil]); first | done | rfl | (simp only [List.length_drop, List.length_take]; rfl)) ?_; (with_reducible refine (frac_Between.calls kj4 a0 a1 t182 t183 _ A9.out).mono ?_); rintro e w69 ⟨rfl, hb⟩; refine ⟨_, rfl, ?_⟩; have n0_ := Aside0.mk (below_step (by repeat (first | (with_reducible first | exact HB.out | apply below_alloc | apply pw_below_drewN | apply below_drew1) | exact HB.out)) hb); clear HB; have HB := n0_; clear n0_; (try clear hb); (try clear hb2); (try clear hk); (try clear hi)) | (go_at_call 10; (with_reducible refine (frac_Right.calls a0 true _ A49.out).mono ?_); rintro e w' ⟨rfl, ⟨nd, rfl⟩⟩) | (go_at_call 10; (with_reducible refine (frac_Right.calls a1 true _ A59.out).mono ?_); rintro e w' ⟨rfl, ⟨nd, rfl⟩⟩) | (go_at_call 12; (with_reducible refine (frac_Order.calls a0 a1 t191 _ A61.out).mono ?_); rintro e w' ⟨rfl, ⟨nd, rfl⟩⟩))
                        go_ret
                        exact ⟨by first | rfl | (simp [errW_none, errW_some] <;> rfl) | (simp [*, errW_none, errW_some] <;> rfl), by repeat (first | (with_reducible first | exact HB.out | apply below_alloc | apply pw_below_drewN | apply below_drew1) | exact HB.out)⟩
                    · rw [if_neg c62] at H
                      have c62b0 : (t183 == 15) = false := beq_eq_false_iff_ne.mpr c62
                      have c62b1 : (t183 != 15) = true := bne_iff_ne.mpr c62
                      obtain rfl := Option.some.inj H
                      go_wp2_with (first | ((with_reducible refine gate_callee (f := 8) rfl ?_); refine goesL_ (some 21) rfl rfl Try.func8 (by kernel_rfl) rfl #[.string a0, .string a1] rfl (by (try simp only [List.map_toArray, List.map_cons, List.map_nil]); first | done | rfl | (simp only [List.length_drop, List.length_take]; rfl)) ?_; (with_reducible refine (frac_Between.calls kj4 a0 a1 t182 t183 _ A9.out).mono ?_); rintro e w70 ⟨rfl, hb⟩; refine ⟨_, rfl, ?_⟩; have n0_ := Aside0.mk (below_step (by repeat (first | (with_reducible first | exact HB.out | apply below_alloc | apply pw_below_drewN | apply below_drew1) | exact HB.out)) hb); clear HB; have HB := n0_; clear n0_; (try clear hb); (try clear hb2); (try clear hk); (try clear hi)) | (go_at_call 10; (with_reducible refine (frac_Right.calls a0 true _ A49.out).mono ?_); rintro e w' ⟨rfl, ⟨nd, rfl⟩⟩) | (go_at_call 10; (with_reducible refine (frac_Right.calls a1 true _ A59.out).mono ?_); rintro e w' ⟨rfl, ⟨nd, rfl⟩⟩) | (go_at_call 12; (with_reducible refine (frac_Order.calls a0 a1 t191 _ A61.out).mono ?_); rintro e w' ⟨rfl, ⟨nd, rfl⟩⟩))
                      go_ret
                      exact ⟨by first | rfl | (simp [errW_none, errW_some] <;> rfl) | (simp [*, errW_none, errW_some] <;> rfl), by repeat (first | (with_reducible first | exact HB.out | apply below_alloc | apply pw_below_drewN | apply below_drew1) | exact HB.out)⟩
                  · replace c60 := Bool.eq_false_iff.mpr c60
                    subst c60
                    have H1 : (if t183 = 15 then (if t182.toList = ([] : List UInt8) then (some true) else (some false)) else (some false)) = some r := by rw [if_neg (show ¬ (false = true) by decide)] at H; exact H
                    clear H
                    have H := H1
                    clear H1
                    by_cases c71 : t183 = 15
                    · rw [if_pos c71] at H
                      have c71b0 : (t183 == 15) = true := beq_iff_eq.mpr c71
                      have c71b1 : (t183 != 15) = false := bne_eq_false_iff_eq.mpr c71
                      clear c71
                      by_cases c72 : t182.toList = ([] : List UInt8)
                      · rw [if_pos c72] at H
                        have c72b0 : (t182.toList == ([] : List UInt8)) = true := beq_iff_eq.mpr c72
                        have c72b1 : (t182.toList != ([] : List UInt8)) = false := bne_eq_false_iff_eq.mpr c72
                        have c72i : (!t182.toList.isEmpty) = false := by simpa using c72b1
                        clear c72
                        obtain rfl := Option.some.inj H
                        go_wp2_with (first | ((with_reducible refine gate_callee (f := 8) rfl ?_); refine goesL_ (some 21) rfl rfl Try.func8 (by kernel_rfl) rfl #[.string a0, .string a1] rfl (by (try simp only [List.map_toArray, List.map_cons, List.map_nil]); first | done | rfl | (simp only [List.length_drop, List.length_take]; rfl)) ?_; (with_reducible refine (frac_Between.calls kj4 a0 a1 t182 t183 _ A9.out).mono ?_); rintro e w73 ⟨rfl, hb⟩; refine ⟨_, rfl, ?_⟩; have n0_ := Aside0.mk (below_step (by repeat (first | (with_reducible first | exact HB.out | apply below_alloc | apply pw_below_drewN | apply below_drew1) | exact HB.out)) hb); clear HB; have HB := n0_; clear n0_; (try clear hb); (try clear hb2); (try clear hk); (try clear hi)) | (go_at_call 10; (with_reducible refine (frac_Right.calls a0 true _ A49.out).mono ?_); rintro e w' ⟨rfl, ⟨nd, rfl⟩⟩) | (go_at_call 10; (with_reducible refine (frac_Right.calls a1 false _ A59.out).mono ?_); rintro e w' ⟨rfl, ⟨nd, rfl⟩⟩))
                        go_ret
                        exact ⟨by first | rfl | (simp [errW_none, errW_some] <;> rfl) | (simp [*, errW_none, errW_some] <;> rfl), by repeat (first | (with_reducible first | exact HB.out | apply below_alloc | apply pw_below_drewN | apply below_drew1) | exact HB.out)⟩
                      · rw [if_neg c72] at H
                        have c72b0 : (t182.toList == ([] : List UInt8)) = false := beq_eq_false_iff_ne.mpr c72
                        have c72b1 : (t182.toList != ([] : List UInt8)) = true := bne_iff_ne.mpr c72
                        have c72i : (!t182.toList.isEmpty) = true := by simpa using c72b1
                        obtain rfl := Option.some.inj H
                        go_wp2_with (first | ((with_reducible refine gate_callee (f := 8) rfl ?_); refine goesL_ (some 21) rfl rfl Try.func8 (by kernel_rfl) rfl #[.string a0, .string a1] rfl (by (try simp only [List.map_toArray, List.map_cons, List.map_nil]); first | done | rfl | (simp only [List.length_drop, List.length_take]; rfl)) ?_; (with_reducible refine (frac_Between.calls kj4 a0 a1 t182 t183 _ A9.out).mono ?_); rintro e w74 ⟨rfl, hb⟩; refine ⟨_, rfl, ?_⟩; have n0_ := Aside0.mk (below_step (by repeat (first | (with_reducible first | exact HB.out | apply below_alloc | apply pw_below_drewN | apply below_drew1) | exact HB.out)) hb); clear HB; have HB := n0_; clear n0_; (try clear hb); (try clear hb2); (try clear hk); (try clear hi)) | (go_at_call 10; (with_reducible refine (frac_Right.calls a0 true _ A49.out).mono ?_); rintro e w' ⟨rfl, ⟨nd, rfl⟩⟩) | (go_at_call 10; (with_reducible refine (frac_Right.calls a1 false _ A59.out).mono ?_); rintro e w' ⟨rfl, ⟨nd, rfl⟩⟩))
                        go_ret
                        exact ⟨by first | rfl | (simp [errW_none, errW_some] <;> rfl) | (simp [*, errW_none, errW_some] <;> rfl), by repeat (first | (with_reducible first | exact HB.out | apply below_alloc | apply pw_below_drewN | apply below_drew1) | exact HB.out)⟩
                    · rw [if_neg c71] at H
                      have c71b0 : (t183 == 15) = false := beq_eq_false_iff_ne.mpr c71
                      have c71b1 : (t183 != 15) = true := bne_iff_ne.mpr c71
                      obtain rfl := Option.some.inj H
                      go_wp2_with (first | ((with_reducible refine gate_callee (f := 8) rfl ?_); refine goesL_ (some 21) rfl rfl Try.func8 (by kernel_rfl) rfl #[.string a0, .string a1] rfl (by (try simp only [List.map_toArray, List.map_cons, List.map_nil]); first | done | rfl | (simp only [List.length_drop, List.length_take]; rfl)) ?_; (with_reducible refine (frac_Between.calls kj4 a0 a1 t182 t183 _ A9.out).mono ?_); rintro e w75 ⟨rfl, hb⟩; refine ⟨_, rfl, ?_⟩; have n0_ := Aside0.mk (below_step (by repeat (first | (with_reducible first | exact HB.out | apply below_alloc | apply pw_below_drewN | apply below_drew1) | exact HB.out)) hb); clear HB; have HB := n0_; clear n0_; (try clear hb); (try clear hb2); (try clear hk); (try clear hi)) | (go_at_call 10; (with_reducible refine (frac_Right.calls a0 true _ A49.out).mono ?_); rintro e w' ⟨rfl, ⟨nd, rfl⟩⟩) | (go_at_call 10; (with_reducible refine (frac_Right.calls a1 false _ A59.out).mono ?_); rintro e w' ⟨rfl, ⟨nd, rfl⟩⟩))
                      go_ret
                      exact ⟨by first | rfl | (simp [errW_none, errW_some] <;> rfl) | (simp [*, errW_none, errW_some] <;> rfl), by repeat (first | (with_reducible first | exact HB.out | apply below_alloc | apply pw_below_drewN | apply below_drew1) | exact HB.out)⟩
              · replace c50 := Bool.eq_false_iff.mpr c50
                subst c50
                have H1 : (if t183 = 15 then (if t182.toList = ([] : List UInt8) then (some true) else (some false)) else (some false)) = some r := by rw [if_neg (show ¬ (false = true) by decide)] at H; exact H
                clear H
                have H := H1
                clear H1
                by_cases c76 : t183 = 15
                · rw [if_pos c76] at H
                  have c76b0 : (t183 == 15) = true := beq_iff_eq.mpr c76
                  have c76b1 : (t183 != 15) = false := bne_eq_false_iff_eq.mpr c76
                  clear c76
                  by_cases c77 : t182.toList = ([] : List UInt8)
                  · rw [if_pos c77] at H
                    have c77b0 : (t182.toList == ([] : List UInt8)) = true := beq_iff_eq.mpr c77
                    have c77b1 : (t182.toList != ([] : List UInt8)) = false := bne_eq_false_iff_eq.mpr c77
                    have c77i : (!t182.toList.isEmpty) = false := by simpa using c77b1
                    clear c77
                    obtain rfl := Option.some.inj H
                    go_wp2_with (first | ((with_reducible refine gate_callee (f := 8) rfl ?_); refine goesL_ (some 21) rfl rfl Try.func8 (by kernel_rfl) rfl #[.string a0, .string a1] rfl (by (try simp only [List.map_toArray, List.map_cons, List.map_nil]); first | done | rfl | (simp only [List.length_drop, List.length_take]; rfl)) ?_; (with_reducible refine (frac_Between.calls kj4 a0 a1 t182 t183 _ A9.out).mono ?_); rintro e w78 ⟨rfl, hb⟩; refine ⟨_, rfl, ?_⟩; have n0_ := Aside0.mk (below_step (by repeat (first | (with_reducible first | exact HB.out | apply below_alloc | apply pw_below_drewN | apply below_drew1) | exact HB.out)) hb); clear HB; have HB := n0_; clear n0_; (try clear hb); (try clear hb2); (try clear hk); (try clear hi)) | (go_at_call 10; (with_reducible refine (frac_Right.calls a0 false _ A49.out).mono ?_); rintro e w' ⟨rfl, ⟨nd, rfl⟩⟩))
                    go_ret
                    exact ⟨by first | rfl | (simp [errW_none, errW_some] <;> rfl) | (simp [*, errW_none, errW_some] <;> rfl), by repeat (first | (with_reducible first | exact HB.out | apply below_alloc | apply pw_below_drewN | apply below_drew1) | exact HB.out)⟩
                  · rw [if_neg c77] at H
                    have c77b0 : (t182.toList == ([] : List UInt8)) = false := beq_eq_false_iff_ne.mpr c77
                    have c77b1 : (t182.toList != ([] : List UInt8)) = true := bne_iff_ne.mpr c77
                    have c77i : (!t182.toList.isEmpty) = true := by simpa using c77b1
                    obtain rfl := Option.some.inj H
                    go_wp2_with (first | ((with_reducible refine gate_callee (f := 8) rfl ?_); refine goesL_ (some 21) rfl rfl Try.func8 (by kernel_rfl) rfl #[.string a0, .string a1] rfl (by (try simp only [List.map_toArray, List.map_cons, List.map_nil]); first | done | rfl | (simp only [List.length_drop, List.length_take]; rfl)) ?_; (with_reducible refine (frac_Between.calls kj4 a0 a1 t182 t183 _ A9.out).mono ?_); rintro e w79 ⟨rfl, hb⟩; refine ⟨_, rfl, ?_⟩; have n0_ := Aside0.mk (below_step (by repeat (first | (with_reducible first | exact HB.out | apply below_alloc | apply pw_below_drewN | apply below_drew1) | exact HB.out)) hb); clear HB; have HB := n0_; clear n0_; (try clear hb); (try clear hb2); (try clear hk); (try clear hi)) | (go_at_call 10; (with_reducible refine (frac_Right.calls a0 false _ A49.out).mono ?_); rintro e w' ⟨rfl, ⟨nd, rfl⟩⟩))
                    go_ret
                    exact ⟨by first | rfl | (simp [errW_none, errW_some] <;> rfl) | (simp [*, errW_none, errW_some] <;> rfl), by repeat (first | (with_reducible first | exact HB.out | apply below_alloc | apply pw_below_drewN | apply below_drew1) | exact HB.out)⟩
                · rw [if_neg c76] at H
                  have c76b0 : (t183 == 15) = false := beq_eq_false_iff_ne.mpr c76
                  have c76b1 : (t183 != 15) = true := bne_iff_ne.mpr c76
                  obtain rfl := Option.some.inj H
                  go_wp2_with (first | ((with_reducible refine gate_callee (f := 8) rfl ?_); refine goesL_ (some 21) rfl rfl Try.func8 (by kernel_rfl) rfl #[.string a0, .string a1] rfl (by (try simp only [List.map_toArray, List.map_cons, List.map_nil]); first | done | rfl | (simp only [List.length_drop, List.length_take]; rfl)) ?_; (with_reducible refine (frac_Between.calls kj4 a0 a1 t182 t183 _ A9.out).mono ?_); rintro e w80 ⟨rfl, hb⟩; refine ⟨_, rfl, ?_⟩; have n0_ := Aside0.mk (below_step (by repeat (first | (with_reducible first | exact HB.out | apply below_alloc | apply pw_below_drewN | apply below_drew1) | exact HB.out)) hb); clear HB; have HB := n0_; clear n0_; (try clear hb); (try clear hb2); (try clear hk); (try clear hi)) | (go_at_call 10; (with_reducible refine (frac_Right.calls a0 false _ A49.out).mono ?_); rintro e w' ⟨rfl, ⟨nd, rfl⟩⟩))
                  go_ret
                  exact ⟨by first | rfl | (simp [errW_none, errW_some] <;> rfl) | (simp [*, errW_none, errW_some] <;> rfl), by repeat (first | (with_reducible first | exact HB.out | apply below_alloc | apply pw_below_drewN | apply below_drew1) | exact HB.out)⟩
  · replace c4 := Bool.eq_false_iff.mpr c4
    subst c4
    have H1 : (some false) = some r := by rw [if_neg (show ¬ (false = true) by decide)] at H; exact H
    clear H
    have H := H1
    clear H1
    obtain rfl := Option.some.inj H
    go_enter Try.func4, Try.ntmps4
    go_wp2_with (first | ((with_reducible refine gate_callee (f := 7) rfl ?_); refine goesL_ (some 8) rfl rfl Try.func7 (by kernel_rfl) rfl #[] rfl (by (try simp only [List.map_toArray, List.map_cons, List.map_nil]); first | done | rfl | (simp only [List.length_drop, List.length_take]; rfl)) ?_; (with_reducible refine (offshootlaw04_alive.calls k  false _ A3.out).mono ?_); rintro e w81 ⟨rfl, hb⟩; refine ⟨_, rfl, ?_⟩; have n0_ := Aside0.mk (below_step (by repeat (first | (with_reducible first | exact HB.out | apply below_alloc | apply pw_below_drewN | apply below_drew1) | exact HB.out)) hb); clear HB; have HB := n0_; clear n0_; (try clear hb); (try clear hb2); (try clear hk); (try clear hi)))
    go_ret
    exact ⟨by first | rfl | (simp [errW_none, errW_some] <;> rfl) | (simp [*, errW_none, errW_some] <;> rfl), by repeat (first | (with_reducible first | exact HB.out | apply below_alloc | apply pw_below_drewN | apply below_drew1) | exact HB.out)⟩

/-- THE ONE PURE STATEMENT of offshootlaw04_FracBetween: yours. -/
def offshootlaw04_FracBetween.Pure : Prop := ∀ (a0 : ByteArray) (a1 : ByteArray), a0.size ≤ 140737488351232 → a1.size ≤ 140737488351232 → ∃ k, offshootlaw04_FracBetween.f k a0 a1 = some true
theorem offshootlaw04_FracBetween.walk (P : offshootlaw04_FracBetween.Pure) (a0 : ByteArray) (a1 : ByteArray) (w : World) (w0 : a0.size ≤ 140737488351232) (w1 : a1.size ≤ 140737488351232) :
    Calls Try.prog 4 #[.string a0, .string a1] w fun e w' => e = .returned (.bool true) ∧ Below w.heap.size w w' := by
  obtain ⟨k, h⟩ := P a0 a1 w0 w1
  refine (offshootlaw04_FracBetween.calls k a0 a1 true w h).mono ?_
  rintro e w' ⟨rfl, hd⟩
  exact ⟨rfl, hd⟩

end Go.Proofs.Ytpfnkibhpjoahaa.Q
