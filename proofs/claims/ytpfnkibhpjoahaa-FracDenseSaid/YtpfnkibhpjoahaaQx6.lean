/- Each function that the laws of layer 4 call computes what its Lean function here says. Written by the kit's print.py (see wip/tools/fracprint.sh of this session); one proof, strings.Compare's, by hand. -/
import Derived.Test.YtpfnkibhpjoahaaQx0
import Derived.Test.YtpfnkibhpjoahaaQx1
import Derived.Test.YtpfnkibhpjoahaaQx2
import Derived.Test.YtpfnkibhpjoahaaQx3
namespace Go.Proofs.Ytpfnkibhpjoahaa.Q
open Go.RowKit Go.Proofs.YtpfnkibhpjoahaaW.PrintWords Go.Proofs.YtpfnkibhpjoahaaW.PrintLast Go.Proofs.YtpfnkibhpjoahaaW.PrintMore
attribute [local go_sem] max2_int min2_int max_two min_two max_three min_three max_four min_four   -- for this text's walks alone
set_option linter.unusedVariables false
set_option linter.unusedSimpArgs false

/-! ### offshootlaw04_FracDense: function 5 -/
mutual
def offshootlaw04_FracDense.l0 : Nat → List Int → List ByteArray → Int → Option (Bool)
  | 0, _, _, _ => none
  | k + 1, x0, x3, x4 => if x4 < (x0.length : Int) then (if 0 ≤ x4 then (if (wrap64 ((x3.length : Int) + 1)) = 0 then (none) else (if (Int.tmod (Go.bits .and .i64 (rd x0 x4) 1023) (wrap64 ((x3.length : Int) + 1))) > 0 then (if 0 ≤ (wrap64 ((Int.tmod (Go.bits .and .i64 (rd x0 x4) 1023) (wrap64 ((x3.length : Int) + 1))) - 1)) then (if (wrap64 ((Int.tmod (Go.bits .and .i64 (rd x0 x4) 1023) (wrap64 ((x3.length : Int) + 1))) - 1)) < (x3.length : Int) then (offshootlaw04_FracDense.j1 k x0 x3 x4 (Int.tmod (Go.bits .and .i64 (rd x0 x4) 1023) (wrap64 ((x3.length : Int) + 1))) (rdOf ByteArray.empty x3 (wrap64 ((Int.tmod (Go.bits .and .i64 (rd x0 x4) 1023) (wrap64 ((x3.length : Int) + 1))) - 1))) (⟨#[]⟩ : ByteArray)) else (none)) else (none)) else (offshootlaw04_FracDense.j1 k x0 x3 x4 (Int.tmod (Go.bits .and .i64 (rd x0 x4) 1023) (wrap64 ((x3.length : Int) + 1))) (⟨#[]⟩ : ByteArray) (⟨#[]⟩ : ByteArray)))) else (none)) else (offshootlaw04_FracDense.l1 k x3 1)
def offshootlaw04_FracDense.j1 : Nat → List Int → List ByteArray → Int → Int → ByteArray → ByteArray → Option (Bool)
  | 0, _, _, _, _, _, _ => none
  | k + 1, x0, x3, x4, x5, x6, x7 => if x5 < (x3.length : Int) then (if 0 ≤ x5 then ((frac_Between.f k x6 (rdOf ByteArray.empty x3 x5)).bind fun bt199 => (if bt199.2 = 0 then ((some (([] : List ByteArray) : List ByteArray)).bind fun y201 => (if x5 ≤ (x3.length : Int) then ((some (x3.take (x5 : Int).toNat : List ByteArray)).bind fun y204 => (if y201.length + y204.length < 8796093022208 then ((some (y201 ++ y204 : List ByteArray)).bind fun y208 => (if y208.length < 8796093022208 then ((some (y208 ++ [bt199.1] : List ByteArray)).bind fun y211 => ((some (x3.drop (x5 : Int).toNat : List ByteArray)).bind fun y214 => (if y211.length + y214.length < 8796093022208 then (offshootlaw04_FracDense.l0 k x0 (y211 ++ y214) (wrap64 (x4 + 1))) else (none)))) else (none))) else (none))) else (none))) else (if (x6.size : Int) ≥ 31 then (some true) else (some (decide (((rdOf ByteArray.empty x3 x5).size : Int) ≥ 31)))))) else (none)) else ((frac_Between.f k x6 x7).bind fun bt221 => (if bt221.2 = 0 then ((some (([] : List ByteArray) : List ByteArray)).bind fun y223 => (if 0 ≤ x5 then (if x5 ≤ (x3.length : Int) then ((some (x3.take (x5 : Int).toNat : List ByteArray)).bind fun y226 => (if y223.length + y226.length < 8796093022208 then ((some (y223 ++ y226 : List ByteArray)).bind fun y230 => (if y230.length < 8796093022208 then ((some (y230 ++ [bt221.1] : List ByteArray)).bind fun y233 => ((some (x3.drop (x5 : Int).toNat : List ByteArray)).bind fun y236 => (if y233.length + y236.length < 8796093022208 then (offshootlaw04_FracDense.l0 k x0 (y233 ++ y236) (wrap64 (x4 + 1))) else (none)))) else (none))) else (none))) else (none)) else (none))) else (if (x6.size : Int) ≥ 31 then (some true) else (some (decide ((x7.size : Int) ≥ 31))))))
def offshootlaw04_FracDense.l1 : Nat → List ByteArray → Int → Option (Bool)
  | 0, _, _ => none
  | k + 1, x3, x11 => if x11 < (x3.length : Int) then (if 0 ≤ (wrap64 (x11 - 1)) then (if (wrap64 (x11 - 1)) < (x3.length : Int) then (if 0 ≤ x11 then ((frac_Order.f (rdOf ByteArray.empty x3 (wrap64 (x11 - 1))) (rdOf ByteArray.empty x3 x11)).bind fun t245 => (if t245 ≥ 0 then (some false) else (offshootlaw04_FracDense.l1 k x3 (wrap64 (x11 + 1))))) else (none)) else (none)) else (none)) else (some true)
end
def offshootlaw04_FracDense.f (k : Nat) (l0 : List Int) : Option (Bool) := (offshootlaw04_alive.f k).bind fun t192 => (if t192 = true then (if (l0.length : Int) > 300 then (some true) else (offshootlaw04_FracDense.l0 k l0 (([] : List ByteArray)) 0)) else (some false))
theorem offshootlaw04_FracDense.mono_l : ∀ k, (∀ y0 y1 y2, LeO (offshootlaw04_FracDense.l0 k y0 y1 y2) (offshootlaw04_FracDense.l0 (k + 1) y0 y1 y2)) ∧ (∀ y0 y1 y2 y3 y4 y5, LeO (offshootlaw04_FracDense.j1 k y0 y1 y2 y3 y4 y5) (offshootlaw04_FracDense.j1 (k + 1) y0 y1 y2 y3 y4 y5)) ∧ (∀ y0 y1, LeO (offshootlaw04_FracDense.l1 k y0 y1) (offshootlaw04_FracDense.l1 (k + 1) y0 y1))
  | 0 => ⟨fun _ _ _ r h => by simp [offshootlaw04_FracDense.l0] at h, fun _ _ _ _ _ _ r h => by simp [offshootlaw04_FracDense.j1] at h, fun _ _ r h => by simp [offshootlaw04_FracDense.l1] at h⟩
  | k + 1 => by
    obtain ⟨ih0, ih1, ih2⟩ := offshootlaw04_FracDense.mono_l k
    refine ⟨?_, ?_, ?_⟩
    · intro y0 y1 y2
      unfold offshootlaw04_FracDense.l0
      repeat' first
      | (with_reducible exact ih0 _ _ _)
      | (with_reducible exact ih1 _ _ _ _ _ _)
      | (with_reducible exact ih2 _ _)
      | (with_reducible exact frac_Between.mono _ _ _)
      | (with_reducible exact offshootlaw04_alive.mono _)
      | (with_reducible exact LeO.refl _)
      | (with_reducible exact LeO.none _)
      | (with_reducible refine LeO.ite ?_ ?_)
      | (with_reducible refine LeO.bind ?_ (fun _ => ?_))
      | exact ih0 _ _ _
      | exact ih1 _ _ _ _ _ _
      | exact ih2 _ _
      | exact frac_Between.mono _ _ _
      | exact offshootlaw04_alive.mono _
      | exact LeO.none _
      | refine LeO.ite ?_ ?_
      | refine LeO.bind ?_ (fun _ => ?_)
    · intro y0 y1 y2 y3 y4 y5
      unfold offshootlaw04_FracDense.j1
      repeat' first
      | (with_reducible exact ih0 _ _ _)
      | (with_reducible exact ih1 _ _ _ _ _ _)
      | (with_reducible exact ih2 _ _)
      | (with_reducible exact frac_Between.mono _ _ _)
      | (with_reducible exact offshootlaw04_alive.mono _)
      | (with_reducible exact LeO.refl _)
      | (with_reducible exact LeO.none _)
      | (with_reducible refine LeO.ite ?_ ?_)
      | (with_reducible refine LeO.bind ?_ (fun _ => ?_))
      | exact ih0 _ _ _
      | exact ih1 _ _ _ _ _ _
      | exact ih2 _ _
      | exact frac_Between.mono _ _ _
      | exact offshootlaw04_alive.mono _
      | exact LeO.none _
      | refine LeO.ite ?_ ?_
      | refine LeO.bind ?_ (fun _ => ?_)
    · intro y0 y1
      unfold offshootlaw04_FracDense.l1
      repeat' first
      | (with_reducible exact ih0 _ _ _)
      | (with_reducible exact ih1 _ _ _ _ _ _)
      | (with_reducible exact ih2 _ _)
      | (with_reducible exact frac_Between.mono _ _ _)
      | (with_reducible exact offshootlaw04_alive.mono _)
      | (with_reducible exact LeO.refl _)
      | (with_reducible exact LeO.none _)
      | (with_reducible refine LeO.ite ?_ ?_)
      | (with_reducible refine LeO.bind ?_ (fun _ => ?_))
      | exact ih0 _ _ _
      | exact ih1 _ _ _ _ _ _
      | exact ih2 _ _
      | exact frac_Between.mono _ _ _
      | exact offshootlaw04_alive.mono _
      | exact LeO.none _
      | refine LeO.ite ?_ ?_
      | refine LeO.bind ?_ (fun _ => ?_)
theorem offshootlaw04_FracDense.mono : ∀ a0 k, LeO (offshootlaw04_FracDense.f k a0) (offshootlaw04_FracDense.f (k + 1) a0) := by
  intro a0 k
  obtain ⟨ih0, ih1, ih2⟩ := offshootlaw04_FracDense.mono_l k
  unfold offshootlaw04_FracDense.f
  repeat' first
      | (with_reducible exact ih0 _ _ _)
      | (with_reducible exact ih1 _ _ _ _ _ _)
      | (with_reducible exact ih2 _ _)
      | (with_reducible exact frac_Between.mono _ _ _)
      | (with_reducible exact offshootlaw04_alive.mono _)
      | (with_reducible exact LeO.refl _)
      | (with_reducible exact LeO.none _)
      | (with_reducible refine LeO.ite ?_ ?_)
      | (with_reducible refine LeO.bind ?_ (fun _ => ?_))
      | exact ih0 _ _ _
      | exact ih1 _ _ _ _ _ _
      | exact ih2 _ _
      | exact frac_Between.mono _ _ _
      | exact offshootlaw04_alive.mono _
      | exact LeO.none _
      | refine LeO.ite ?_ ?_
      | refine LeO.bind ?_ (fun _ => ?_)
set_option maxHeartbeats 8000000 in
set_option maxRecDepth 100000 in
theorem offshootlaw04_FracDense.calls (k : Nat) (A0 : Option Addr) (c0 : Nat) (l0 : List Int) (r : Bool) (w : World) (hr0 : Kd.C (Kd.int .i64) w A0 l0.length l0) (hc0 : l0.length ≤ c0) (h : offshootlaw04_FracDense.f k l0 = some r) :
    Calls Try.prog 5 #[.slice A0 l0.length c0] w fun e w' => e = .returned (.bool r) ∧ Below w.heap.size w w' := by
  have HR0 := Aside0.mk hr0
  have HC0 := Aside0.mk hc0
  clear hr0 hc0
  have HB := Aside0.mk (Below.refl w.heap.size w)
  have H : ((offshootlaw04_alive.f k).bind fun t192 => (if t192 = true then (if (l0.length : Int) > 300 then (some true) else (offshootlaw04_FracDense.l0 k l0 (([] : List ByteArray)) 0)) else (some false))) = some r := h
  clear h
  replace H := Option.bind_eq_some_iff.mp H
  obtain ⟨t192, A20, H⟩ := H
  replace H : (if t192 = true then (if (l0.length : Int) > 300 then (some true) else (offshootlaw04_FracDense.l0 k l0 (([] : List ByteArray)) 0)) else (some false)) = some r := H
  have A2 := Aside0.mk A20
  clear A20
  by_cases c3 : t192 = true
  · subst c3
    have H1 : (if (l0.length : Int) > 300 then (some true) else (offshootlaw04_FracDense.l0 k l0 (([] : List ByteArray)) 0)) = some r := by rw [if_pos rfl] at H; exact H
    clear H
    have H := H1
    clear H1
    by_cases c4 : (l0.length : Int) > 300
    · rw [if_pos c4] at H
      have c4b0 : decide (300 < (l0.length : Int)) = true := decide_eq_true c4
      have c4b1 : decide (300 < l0.length) = true := decide_eq_true (by omega)
      clear c4
      obtain rfl := Option.some.inj H
      go_enter Try.func5, Try.ntmps5
      go_wp2_with (first | (go_at_call 7; (with_reducible refine (offshootlaw04_alive.calls k  true _ A2.out).mono ?_); rintro e w5 ⟨rfl, hb⟩; have n0_ := Aside0.mk (below_step (by repeat (first | (with_reducible first | exact HB.out | apply below_alloc | apply pw_below_drewN | apply below_drew1) | exact HB.out)) hb); clear HB; have HB := n0_; clear n0_; (try clear hb); (try clear hb2); (try clear hk); (try clear hi)))
      repeat (go_quiet (first | (go_at_call 7; (with_reducible refine (offshootlaw04_alive.calls k  true _ A2.out).mono ?_); rintro e w5 ⟨rfl, hb⟩; have n0_ := Aside0.mk (below_step (by repeat (first | (with_reducible first | exact HB.out | apply below_alloc | apply pw_below_drewN | apply below_drew1) | exact HB.out)) hb); clear HB; have HB := n0_; clear n0_; (try clear hb); (try clear hb2); (try clear hk); (try clear hi))); try go_wp2_with (first | (go_at_call 7; (with_reducible refine (offshootlaw04_alive.calls k  true _ A2.out).mono ?_); rintro e w5 ⟨rfl, hb⟩; have n0_ := Aside0.mk (below_step (by repeat (first | (with_reducible first | exact HB.out | apply below_alloc | apply pw_below_drewN | apply below_drew1) | exact HB.out)) hb); clear HB; have HB := n0_; clear n0_; (try clear hb); (try clear hb2); (try clear hk); (try clear hi))))
      go_ret
      exact ⟨by first | rfl | (simp [errW_none, errW_some] <;> rfl) | (simp [*, errW_none, errW_some] <;> rfl), by repeat (first | (with_reducible first | exact HB.out | apply below_alloc | apply pw_below_drewN | apply below_drew1) | exact HB.out)⟩
    · rw [if_neg c4] at H
      have c4b0 : decide (300 < (l0.length : Int)) = false := decide_eq_false c4
      have c4b1 : decide (300 < l0.length) = false := decide_eq_false (by omega)
      clear c4
      obtain ⟨y193, hy193⟩ : ∃ y_ : List ByteArray, y_ = (([] : List ByteArray)) := ⟨_, rfl⟩
      replace H : (offshootlaw04_FracDense.l0 k l0 y193 0) = some r := by first | (rw [hy193]; with_reducible exact H) | (have H2_ := (Option.bind_some _ _).symm.trans H; rw [hy193]; with_reducible exact H2_) | (have H2_ := (Option.bind_some _ _).symm.trans H; with_reducible exact H2_) | with_reducible exact H | (rw [hy193]; exact H) | exact H
      have Ny193 := Aside0.mk hy193
      clear hy193
      have H' := Aside0.mk H
      clear H
      go_enter Try.func5, Try.ntmps5
      go_wp2_with (first | (go_at_call 7; (with_reducible refine (offshootlaw04_alive.calls k  true _ A2.out).mono ?_); rintro e w6 ⟨rfl, hb⟩; have n0_ := Aside0.mk (below_step (by repeat (first | (with_reducible first | exact HB.out | apply below_alloc | apply pw_below_drewN | apply below_drew1) | exact HB.out)) hb); clear HB; have HB := n0_; clear n0_; (try clear hb); (try clear hb2); (try clear hk); (try clear hi)) | ((with_reducible refine gate_dst (N := 17) rfl ?_); (try (refine gate_guard (by rfl) ?_; dsimp only)); refine Kd.R_lit Kd.string _ 9 ?hg (N := 17) ?hd (xs := ([] : List ByteArray)) (inner := []) (ok := fun _ => True) (okp := fun _ => True) ?hr ?hp (fun _ hk => hk) trivial (Below.refl _ _) (Nat.le_refl _) (by simp) ?_; (case hd => rfl); (case hg => rfl); (case hr => first | (go_simp; done) | (go_simp; rfl)); (case hp => exact (Reps.none _ _)); intro v194 w7 ho8 hb hg_ hnew_; clear hg_ hnew_; (first | rw [← Ny193.out] at ho8 | (simp only [Int.reduceToNat] at ho8; rw [← Ny193.out] at ho8)); have n0_ := Aside0.mk (Kd.R_lower ho8 (below_size (by repeat (first | (with_reducible first | exact HB.out | apply below_alloc | apply pw_below_drewN | apply below_drew1) | exact HB.out)))); have n1_ := Aside0.mk (below_step (by repeat (first | (with_reducible first | exact HB.out | apply below_alloc | apply pw_below_drewN | apply below_drew1) | exact HB.out)) hb); clear HB; have HO195 := n0_; have HB := n1_; clear n0_ n1_; clear hb ho8))
      repeat (go_quiet (first | (go_at_call 7; (with_reducible refine (offshootlaw04_alive.calls k  true _ A2.out).mono ?_); rintro e w6 ⟨rfl, hb⟩; have n0_ := Aside0.mk (below_step (by repeat (first | (with_reducible first | exact HB.out | apply below_alloc | apply pw_below_drewN | apply below_drew1) | exact HB.out)) hb); clear HB; have HB := n0_; clear n0_; (try clear hb); (try clear hb2); (try clear hk); (try clear hi)) | ((with_reducible refine gate_dst (N := 17) rfl ?_); (try (refine gate_guard (by rfl) ?_; dsimp only)); refine Kd.R_lit Kd.string _ 9 ?hg (N := 17) ?hd (xs := ([] : List ByteArray)) (inner := []) (ok := fun _ => True) (okp := fun _ => True) ?hr ?hp (fun _ hk => hk) trivial (Below.refl _ _) (Nat.le_refl _) (by simp) ?_; (case hd => rfl); (case hg => rfl); (case hr => first | (go_simp; done) | (go_simp; rfl)); (case hp => exact (Reps.none _ _)); intro v194 w7 ho8 hb hg_ hnew_; clear hg_ hnew_; (first | rw [← Ny193.out] at ho8 | (simp only [Int.reduceToNat] at ho8; rw [← Ny193.out] at ho8)); have n0_ := Aside0.mk (Kd.R_lower ho8 (below_size (by repeat (first | (with_reducible first | exact HB.out | apply below_alloc | apply pw_below_drewN | apply below_drew1) | exact HB.out)))); have n1_ := Aside0.mk (below_step (by repeat (first | (with_reducible first | exact HB.out | apply below_alloc | apply pw_below_drewN | apply below_drew1) | exact HB.out)) hb); clear HB; have HO195 := n0_; have HB := n1_; clear n0_ n1_; clear hb ho8)); try go_wp2_with (first | (go_at_call 7; (with_reducible refine (offshootlaw04_alive.calls k  true _ A2.out).mono ?_); rintro e w6 ⟨rfl, hb⟩; have n0_ := Aside0.mk (below_step (by repeat (first | (with_reducible first | exact HB.out | apply below_alloc | apply pw_below_drewN | apply below_drew1) | exact HB.out)) hb); clear HB; have HB := n0_; clear n0_; (try clear hb); (try clear hb2); (try clear hk); (try clear hi)) | ((with_reducible refine gate_dst (N := 17) rfl ?_); (try (refine gate_guard (by rfl) ?_; dsimp only)); refine Kd.R_lit Kd.string _ 9 ?hg (N := 17) ?hd (xs := ([] : List ByteArray)) (inner := []) (ok := fun _ => True) (okp := fun _ => True) ?hr ?hp (fun _ hk => hk) trivial (Below.refl _ _) (Nat.le_refl _) (by simp) ?_; (case hd => rfl); (case hg => rfl); (case hr => first | (go_simp; done) | (go_simp; rfl)); (case hp => exact (Reps.none _ _)); intro v194 w7 ho8 hb hg_ hnew_; clear hg_ hnew_; (first | rw [← Ny193.out] at ho8 | (simp only [Int.reduceToNat] at ho8; rw [← Ny193.out] at ho8)); have n0_ := Aside0.mk (Kd.R_lower ho8 (below_size (by repeat (first | (with_reducible first | exact HB.out | apply below_alloc | apply pw_below_drewN | apply below_drew1) | exact HB.out)))); have n1_ := Aside0.mk (below_step (by repeat (first | (with_reducible first | exact HB.out | apply below_alloc | apply pw_below_drewN | apply below_drew1) | exact HB.out)) hb); clear HB; have HO195 := n0_; have HB := n1_; clear n0_ n1_; clear hb ho8)))
      go_loopg [3, 4] k (fun kq v3 v4 w' => ∃ (x3_1 : List ByteArray) (x4_1 : Int), v4 = .int .i64 x4_1 ∧ Aside0 (offshootlaw04_FracDense.l0 kq l0 x3_1 x4_1 = some r) ∧ Aside0 (kq ≤ k) ∧ Aside0 (Kd.R Kd.string 9 w' w.heap.size (fun _ => True) v3 x3_1) ∧ Aside0 (Below w.heap.size w w'))
      case atStart => exact ⟨(y193), (0), (by first | rfl | (simp; done) | (simp [*]; done) | exact congrArg Value.bool (notEmpty_ne _)), H', ⟨Nat.le_refl _⟩, ⟨by (with_reducible repeat (first | apply Kd.R_alloc | apply Kd.R_drewN | apply Kd.R_drew)); exact HO195.out⟩, ⟨by repeat (first | (with_reducible first | exact HB.out | apply below_alloc | apply pw_below_drewN | apply below_drew1) | exact HB.out)⟩⟩
      case round =>
        clear H'
        try clear p2
        try clear c3
        try clear c4
        try clear c4b0
        try clear c4b1
        try clear c5
        obtain ⟨x3_1, x4_1, rfl, HA, HK1, HO_3, HB⟩ := hrel
        cases gk with
        | zero => exact absurd HA.out (by simp [offshootlaw04_FracDense.l0])
        | succ k1 =>
          have H := HA.out
          clear HA
          simp only [offshootlaw04_FracDense.l0] at H
          by_cases c9 : x4_1 < (l0.length : Int)
          · rw [if_pos c9] at H
            have c9b0 : decide (x4_1 < (l0.length : Int)) = true := decide_eq_true c9
            clear c9
            by_cases c10 : 0 ≤ x4_1
            · rw [if_pos c10] at H
              have c10b0 : decide (0 ≤ x4_1) = true := decide_eq_true c10
              clear c10
              by_cases c11 : (wrap64 ((x3_1.length : Int) + 1)) = 0
              · rw [if_pos c11] at H
                exact absurd H (by simp)
              · rw [if_neg c11] at H
                have c11b0 : ((wrap64 ((x3_1.length : Int) + 1)) == 0) = false := beq_eq_false_iff_ne.mpr c11
                have c11b1 : ((wrap64 ((x3_1.length : Int) + 1)) != 0) = true := bne_iff_ne.mpr c11
                have HC12 := Aside0.mk H
                clear H
                have p196 : 0 ≤ (x4_1 : Int) := of_decide_eq_true (by first | (with_reducible assumption) | assumption)
                have q196 : x4_1 < (l0.length : Int) := of_decide_eq_true (by first | (with_reducible assumption) | assumption)
                obtain ⟨ad196, e196, hx196_0⟩ := Kd.at_int HR0.out x4_1 p196 q196
                cases e196
                replace hx196_0 := (HB.out.cell (World.block_lt_of_cell? w _ hx196_0)).trans hx196_0
                replace p196 := eq_true p196
                replace q196 := eq_true q196
                obtain ⟨Ao13, co13, eo13⟩ := Kd.R_slice HO_3.out
                subst eo13
                go_upto_if 34 with (fail)
                repeat (go_quiet (fail); go_upto_if 34 with (fail))
                go_cut [6] (fun v6 wc => ∃ (kq : Nat) (x6_11 : ByteArray), v6 = .string x6_11 ∧ Aside0 (offshootlaw04_FracDense.j1 kq l0 x3_1 x4_1 (Int.tmod (Go.bits .and .i64 (rd l0 x4_1) 1023) (wrap64 ((x3_1.length : Int) + 1))) x6_11 (⟨#[]⟩ : ByteArray) = some r) ∧ Aside0 (kq ≤ k1) ∧ Aside0 (Kd.R Kd.string 9 wc w.heap.size (fun _ => True) (.slice Ao13 x3_1.length co13) x3_1) ∧ Aside0 (Below w.heap.size w wc))
                case first =>
                  have H := HC12.out
                  clear HC12
                  by_cases c14 : (Int.tmod (Go.bits .and .i64 (rd l0 x4_1) 1023) (wrap64 ((x3_1.length : Int) + 1))) > 0
                  · rw [if_pos c14] at H
                    have c14b0 : decide (0 < (Int.tmod (Go.bits .and .i64 (rd l0 x4_1) 1023) (wrap64 ((x3_1.length : Int) + 1)))) = true := decide_eq_true c14
                    clear c14
                    (first | rw [c14b0] | (simp only [i64_w, i32_w]; rw [c14b0]) | skip)
                    obtain ⟨ji15, hji15⟩ : ∃ j_ : Int, (wrap64 ((Int.tmod (Go.bits .and .i64 (rd l0 x4_1) 1023) (wrap64 ((x3_1.length : Int) + 1))) - 1)) = j_ := ⟨_, rfl⟩
                    replace H : (if 0 ≤ (ji15) then (if (ji15) < (x3_1.length : Int) then (offshootlaw04_FracDense.j1 k1 l0 x3_1 x4_1 (Int.tmod (Go.bits .and .i64 (rd l0 x4_1) 1023) (wrap64 ((x3_1.length : Int) + 1))) (rdOf ByteArray.empty x3_1 (ji15)) (⟨#[]⟩ : ByteArray)) else (none)) else (none)) = some r := by first | (rw [hji15] at H; exact H) | (simp only [hji15] at H ⊢; exact H)
                    have hji15w : (IntKind.i64.wrap ((Int.tmod (Go.bits .and .i64 (rd l0 x4_1) 1023) (wrap64 ((x3_1.length : Int) + 1))) - 1)) = ji15 := (i64_w _).trans hji15
                    by_cases c16 : 0 ≤ (ji15)
                    · rw [if_pos c16] at H
                      have c16b0 : decide (0 ≤ (ji15)) = true := decide_eq_true c16
                      clear c16
                      by_cases c17 : (ji15) < (x3_1.length : Int)
                      · rw [if_pos c17] at H
                        have c17b0 : decide ((ji15) < (x3_1.length : Int)) = true := decide_eq_true c17
                        clear c17
                        have H' := Aside0.mk H
                        clear H
                        have p197 : 0 ≤ ((ji15) : Int) := of_decide_eq_true (by first | (with_reducible assumption) | assumption)
                        have q197 : (ji15) < (x3_1.length : Int) := of_decide_eq_true (by first | (with_reducible assumption) | assumption)
                        obtain ⟨ad197, e197, hx197_0⟩ := Kd.at_string (Kd.R_reads' HO_3.out).2.2 (ji15) p197 q197
                        cases e197
                        replace p197 := eq_true p197
                        replace q197 := eq_true q197
                        go_wp2
                        repeat (go_quiet (fail); try go_wp2)
                        go_meet
                        case rel => exact ⟨_, (rdOf ByteArray.empty x3_1 (ji15)), (by first | rfl | (simp; done) | (simp only [← hji15] <;> (first | rfl | simp)) | (simp [*]; done)), H', ⟨by have := HK1.out; first | omega | exact Nat.le_refl _⟩, ⟨by (with_reducible repeat (first | apply Kd.R_alloc | apply Kd.R_drewN | apply Kd.R_drew)); exact HO_3.out⟩, ⟨by repeat (first | (with_reducible first | exact HB.out | apply below_alloc | apply pw_below_drewN | apply below_drew1) | exact HB.out)⟩⟩
                      · rw [if_neg c17] at H
                        exact absurd H (by simp)
                    · rw [if_neg c16] at H
                      exact absurd H (by simp)
                  · rw [if_neg c14] at H
                    have c14b0 : decide (0 < (Int.tmod (Go.bits .and .i64 (rd l0 x4_1) 1023) (wrap64 ((x3_1.length : Int) + 1)))) = false := decide_eq_false c14
                    clear c14
                    (first | rw [c14b0] | (simp only [i64_w, i32_w]; rw [c14b0]) | skip)
                    have H' := Aside0.mk H
                    clear H
                    go_wp2
                    repeat (go_quiet (fail); try go_wp2)
                    go_meet
                    case rel => exact ⟨_, ((⟨#[]⟩ : ByteArray)), (by first | rfl | (simp; done) | (simp [*]; done) | exact congrArg Value.bool (notEmpty_ne _)), H', ⟨by have := HK1.out; first | omega | exact Nat.le_refl _⟩, ⟨by (with_reducible repeat (first | apply Kd.R_alloc | apply Kd.R_drewN | apply Kd.R_drew)); exact HO_3.out⟩, ⟨by repeat (first | (with_reducible first | exact HB.out | apply below_alloc | apply pw_below_drewN | apply below_drew1) | exact HB.out)⟩⟩
                case rest =>
                  clear HC12
                  try clear c1
                  try clear p1
                  try clear q1
                  try clear hx1
                  try clear p2
                  try clear c3
                  try clear c4
                  try clear c4b0
                  try clear c4b1
                  try clear c5
                  try clear p6
                  try clear c9
                  try clear c9b0
                  try clear c10
                  try clear c10b0
                  try clear c11
                  try clear c11b0
                  try clear c11b1
                  try clear c14
                  try clear c14b0
                  try clear c16
                  try clear c16b0
                  try clear c17
                  try clear c17b0
                  try clear hx196_0
                  try clear hx197_0
                  try clear p196
                  try clear p197
                  try clear p2
                  try clear q196
                  try clear q197
                  obtain ⟨kq, x6_11, rfl, HA, HJ11, HO_3, HB⟩ := hcut
                  cases kq with
                  | zero => exact absurd HA.out (by simp [offshootlaw04_FracDense.j1])
                  | succ kj11 =>
                    have H := HA.out
                    clear HA
                    simp only [offshootlaw04_FracDense.j1] at H
                    by_cases c18 : (Int.tmod (Go.bits .and .i64 (rd l0 x4_1) 1023) (wrap64 ((x3_1.length : Int) + 1))) < (x3_1.length : Int)
                    · rw [if_pos c18] at H
                      have c18b0 : decide ((Int.tmod (Go.bits .and .i64 (rd l0 x4_1) 1023) (wrap64 ((x3_1.length : Int) + 1))) < (x3_1.length : Int)) = true := decide_eq_true c18
                      clear c18
                      obtain ⟨ji19, hji19⟩ : ∃ j_ : Int, (Int.tmod (Go.bits .and .i64 (rd l0 x4_1) 1023) (wrap64 ((x3_1.length : Int) + 1))) = j_ := ⟨_, rfl⟩
                      replace H : (if 0 ≤ (ji19) then ((frac_Between.f kj11 x6_11 (rdOf ByteArray.empty x3_1 (ji19))).bind fun bt199 => (if bt199.2 = 0 then ((some (([] : List ByteArray) : List ByteArray)).bind fun y201 => (if (ji19) ≤ (x3_1.length : Int) then ((some (x3_1.take ((ji19) : Int).toNat : List ByteArray)).bind fun y204 => (if y201.length + y204.length < 8796093022208 then ((some (y201 ++ y204 : List ByteArray)).bind fun y208 => (if y208.length < 8796093022208 then ((some (y208 ++ [bt199.1] : List ByteArray)).bind fun y211 => ((some (x3_1.drop ((ji19) : Int).toNat : List ByteArray)).bind fun y214 => (if y211.length + y214.length < 8796093022208 then (offshootlaw04_FracDense.l0 kj11 l0 (y211 ++ y214) (wrap64 (x4_1 + 1))) else (none)))) else (none))) else (none))) else (none))) else (if (x6_11.size : Int) ≥ 31 then (some true) else (some (decide (((rdOf ByteArray.empty x3_1 (ji19)).size : Int) ≥ 31)))))) else (none)) = some r := by first | (rw [hji19] at H; exact H) | (simp only [hji19] at H ⊢; exact H)
                      (try rw [hji19] at c18b0)
                      by_cases c20 : 0 ≤ (ji19)
                      · rw [if_pos c20] at H
                        have c20b0 : decide (0 ≤ (ji19)) = true := decide_eq_true c20
                        clear c20
                        replace H := Option.bind_eq_some_iff.mp H
                        obtain ⟨⟨t199, t200⟩, A210, H⟩ := H
                        replace H : (if t200 = 0 then ((some (([] : List ByteArray) : List ByteArray)).bind fun y201 => (if (ji19) ≤ (x3_1.length : Int) then ((some (x3_1.take ((ji19) : Int).toNat : List ByteArray)).bind fun y204 => (if y201.length + y204.length < 8796093022208 then ((some (y201 ++ y204 : List ByteArray)).bind fun y208 => (if y208.length < 8796093022208 then ((some (y208 ++ [t199] : List ByteArray)).bind fun y211 => ((some (x3_1.drop ((ji19) : Int).toNat : List ByteArray)).bind fun y214 => (if y211.length + y214.length < 8796093022208 then (offshootlaw04_FracDense.l0 kj11 l0 (y211 ++ y214) (wrap64 (x4_1 + 1))) else (none)))) else (none))) else (none))) else (none))) else (if (x6_11.size : Int) ≥ 31 then (some true) else (some (decide (((rdOf ByteArray.empty x3_1 (ji19)).size : Int) ≥ 31))))) = some r := H
                        have A21 := Aside0.mk A210
                        clear A210
                        by_cases c22 : t200 = 0
                        · rw [if_pos c22] at H
                          have c22b0 : (t200 == 0) = true := beq_iff_eq.mpr c22
                          have c22b1 : (t200 != 0) = false := bne_eq_false_iff_eq.mpr c22
                          clear c22
                          obtain ⟨y201, hy201⟩ : ∃ y_ : List ByteArray, y_ = (([] : List ByteArray)) := ⟨_, rfl⟩
                          replace H : (if (ji19) ≤ (x3_1.length : Int) then ((some (x3_1.take ((ji19) : Int).toNat : List ByteArray)).bind fun y204 => (if y201.length + y204.length < 8796093022208 then ((some (y201 ++ y204 : List ByteArray)).bind fun y208 => (if y208.length < 8796093022208 then ((some (y208 ++ [t199] : List ByteArray)).bind fun y211 => ((some (x3_1.drop ((ji19) : Int).toNat : List ByteArray)).bind fun y214 => (if y211.length + y214.length < 8796093022208 then (offshootlaw04_FracDense.l0 kj11 l0 (y211 ++ y214) (wrap64 (x4_1 + 1))) else (none)))) else (none))) else (none))) else (none)) = some r := by first | (rw [hy201]; with_reducible exact H) | (have H2_ := (Option.bind_some _ _).symm.trans H; rw [hy201]; with_reducible exact H2_) | (have H2_ := (Option.bind_some _ _).symm.trans H; with_reducible exact H2_) | with_reducible exact H | (rw [hy201]; exact H) | exact H
                          have Ny201 := Aside0.mk hy201
                          clear hy201
                          have c23b0 := eq_true (of_decide_eq_true (by first | (with_reducible assumption) | assumption) : 0 ≤ (ji19))
                          by_cases c24 : (ji19) ≤ (x3_1.length : Int)
                          · rw [if_pos c24] at H
                            have c24b0 := eq_true c24
                            have c24b1 : decide ((ji19) ≤ (x3_1.length : Int)) = true := decide_eq_true c24
                            clear c24
                            obtain ⟨y204, hy204⟩ : ∃ y_ : List ByteArray, y_ = (x3_1.take ((ji19) : Int).toNat) := ⟨_, rfl⟩
                            replace H : (if y201.length + y204.length < 8796093022208 then ((some (y201 ++ y204 : List ByteArray)).bind fun y208 => (if y208.length < 8796093022208 then ((some (y208 ++ [t199] : List ByteArray)).bind fun y211 => ((some (x3_1.drop ((ji19) : Int).toNat : List ByteArray)).bind fun y214 => (if y211.length + y214.length < 8796093022208 then (offshootlaw04_FracDense.l0 kj11 l0 (y211 ++ y214) (wrap64 (x4_1 + 1))) else (none)))) else (none))) else (none)) = some r := by first | (rw [hy204]; with_reducible exact H) | (have H2_ := (Option.bind_some _ _).symm.trans H; rw [hy204]; with_reducible exact H2_) | (have H2_ := (Option.bind_some _ _).symm.trans H; with_reducible exact H2_) | with_reducible exact H | (rw [hy204]; exact H) | exact H
                            have Ny204 := Aside0.mk hy204
                            clear hy204
                            by_cases c25 : y201.length + y204.length < 8796093022208
                            · rw [if_pos c25] at H
                              have LMc25 := Aside0.mk c25
                              clear c25
                              obtain ⟨y208, hy208⟩ : ∃ y_ : List ByteArray, y_ = (y201 ++ y204) := ⟨_, rfl⟩
                              replace H : (if y208.length < 8796093022208 then ((some (y208 ++ [t199] : List ByteArray)).bind fun y211 => ((some (x3_1.drop ((ji19) : Int).toNat : List ByteArray)).bind fun y214 => (if y211.length + y214.length < 8796093022208 then (offshootlaw04_FracDense.l0 kj11 l0 (y211 ++ y214) (wrap64 (x4_1 + 1))) else (none)))) else (none)) = some r := by first | (rw [hy208]; with_reducible exact H) | (have H2_ := (Option.bind_some _ _).symm.trans H; rw [hy208]; with_reducible exact H2_) | (have H2_ := (Option.bind_some _ _).symm.trans H; with_reducible exact H2_) | with_reducible exact H | (rw [hy208]; exact H) | exact H
                              have Ny208 := Aside0.mk hy208
                              clear hy208
                              by_cases c26 : y208.length < 8796093022208
                              · rw [if_pos c26] at H
                                have LMc26 := Aside0.mk c26
                                clear c26
                                obtain ⟨y211, hy211⟩ : ∃ y_ : List ByteArray, y_ = (y208 ++ [t199]) := ⟨_, rfl⟩
                                replace H : ((some (x3_1.drop ((ji19) : Int).toNat : List ByteArray)).bind fun y214 => (if y211.length + y214.length < 8796093022208 then (offshootlaw04_FracDense.l0 kj11 l0 (y211 ++ y214) (wrap64 (x4_1 + 1))) else (none))) = some r := by first | (rw [hy211]; with_reducible exact H) | (have H2_ := (Option.bind_some _ _).symm.trans H; rw [hy211]; with_reducible exact H2_) | (have H2_ := (Option.bind_some _ _).symm.trans H; with_reducible exact H2_) | with_reducible exact H | (rw [hy211]; exact H) | exact H
                                have Ny211 := Aside0.mk hy211
                                clear hy211
                                have c27b0 := eq_true (of_decide_eq_true (by first | (with_reducible assumption) | assumption) : 0 ≤ (ji19))
                                have c28b0 := eq_true (of_decide_eq_true (by first | (with_reducible assumption) | assumption) : (ji19) ≤ (x3_1.length : Int))
                                obtain ⟨y214, hy214⟩ : ∃ y_ : List ByteArray, y_ = (x3_1.drop ((ji19) : Int).toNat) := ⟨_, rfl⟩
                                replace H : (if y211.length + y214.length < 8796093022208 then (offshootlaw04_FracDense.l0 kj11 l0 (y211 ++ y214) (wrap64 (x4_1 + 1))) else (none)) = some r := by first | (rw [hy214]; with_reducible exact H) | (have H2_ := (Option.bind_some _ _).symm.trans H; rw [hy214]; with_reducible exact H2_) | (have H2_ := (Option.bind_some _ _).symm.trans H; with_reducible exact H2_) | with_reducible exact H | (rw [hy214]; exact H) | exact H
                                have Ny214 := Aside0.mk hy214
                                clear hy214
                                by_cases c29 : y211.length + y214.length < 8796093022208
                                · rw [if_pos c29] at H
                                  have LMc29 := Aside0.mk c29
                                  clear c29
                                  obtain ⟨y218, hy218⟩ : ∃ y_ : List ByteArray, y_ = (y211 ++ y214) := ⟨_, rfl⟩
                                  replace H : (offshootlaw04_FracDense.l0 kj11 l0 y218 (wrap64 (x4_1 + 1))) = some r := by first | (rw [hy218]; with_reducible exact H) | (have H2_ := (Option.bind_some _ _).symm.trans H; rw [hy218]; with_reducible exact H2_) | (have H2_ := (Option.bind_some _ _).symm.trans H; with_reducible exact H2_) | with_reducible exact H | (rw [hy218]; exact H) | exact H
                                  have Ny218 := Aside0.mk hy218
                                  clear hy218
                                  have H' := Aside0.mk H
                                  clear H
                                  have p198 : 0 ≤ ((ji19) : Int) := of_decide_eq_true (by first | (with_reducible assumption) | assumption)
                                  have q198 : (ji19) < (x3_1.length : Int) := of_decide_eq_true (by first | (with_reducible assumption) | assumption)
                                  obtain ⟨ad198, e198, hx198_0⟩ := Kd.at_string (Kd.R_reads' HO_3.out).2.2 (ji19) p198 q198
                                  cases e198
                                  replace p198 := eq_true p198
                                  replace q198 := eq_true q198
                                  go_wp2_with (first | (go_at_call 8; (with_reducible refine (frac_Between.calls kj11 x6_11 (rdOf ByteArray.empty x3_1 (ji19)) t199 t200 _ A21.out).mono ?_); rintro e w30 ⟨rfl, hb⟩; have n0_ := Aside0.mk (Kd.R_below (by (with_reducible repeat (first | apply Kd.R_alloc | apply Kd.R_drewN | apply Kd.R_drew)); exact HO_3.out) hb); have n1_ := Aside0.mk (below_step (by repeat (first | (with_reducible first | exact HB.out | apply below_alloc | apply pw_below_drewN | apply below_drew1) | exact HB.out)) hb); clear HO_3; clear HB; have HO_3 := n0_; have HB := n1_; clear n0_ n1_; (try clear hb); (try clear hb2); (try clear hk); (try clear hi)) | ((with_reducible refine gate_dst (N := 64) rfl ?_); (try (refine gate_guard (by rfl) ?_; dsimp only)); refine Kd.R_lit Kd.string _ 9 ?hg (N := 64) ?hd (xs := ([] : List ByteArray)) (inner := []) (ok := fun _ => True) (okp := fun _ => True) ?hr ?hp (fun _ hk => hk) trivial (Below.refl _ _) (Nat.le_refl _) (by simp) ?_; (case hd => rfl); (case hg => rfl); (case hr => first | (go_simp; done) | (go_simp; rfl)); (case hp => exact (Reps.none _ _)); intro v202 w31 ho32 hb hg_ hnew_; clear hg_ hnew_; (first | rw [← Ny201.out] at ho32 | (simp only [Int.reduceToNat] at ho32; rw [← Ny201.out] at ho32)); have n0_ := Aside0.mk (Kd.R_elder' (by (with_reducible repeat (first | apply Kd.R_alloc | apply Kd.R_drewN | apply Kd.R_drew)); exact HO_3.out) (Kd.R_base ho32) hb); have n1_ := Aside0.mk (Kd.R_lower (Kd.R_new' ho32 (Kd.R_lt (by (with_reducible repeat (first | apply Kd.R_alloc | apply Kd.R_drewN | apply Kd.R_drew)); exact HO_3.out))) (below_size (by repeat (first | (with_reducible first | exact HB.out | apply below_alloc | apply pw_below_drewN | apply below_drew1) | exact HB.out)))); have n2_ := Aside0.mk (below_step (by repeat (first | (with_reducible first | exact HB.out | apply below_alloc | apply pw_below_drewN | apply below_drew1) | exact HB.out)) hb); clear HO_3; clear HB; have HO_3 := n0_; have HO203 := n1_; have HB := n2_; clear n0_ n1_ n2_; clear hb ho32; have q33 : ((ji19) : Int) ≤ ((x3_1.length : Int) : Int) := of_decide_eq_true (by first | (with_reducible assumption) | assumption); obtain ⟨i033, hi033, _, hsz33, _⟩ := info_parts info9; have hroom33 : x3_1.length ≤ co13 := (Kd.R_reads' HO_3.out).2.1; have hC33 : Kd.C Kd.string _ (some ad198) x3_1.length x3_1 := (Kd.R_reads' HO_3.out).2.2; have hcut33 := cut_to (P := Try.prog) 28 9 .i64 Try.underlying28 hi033 (some ad198) x3_1.length co13 (ji19) (of_decide_eq_true (by first | (with_reducible assumption) | assumption)) q33 hroom33; have hr33 := Kd.C_take (m := ((ji19) : Int).toNat) hC33 (by omega); have hy33 : y204.length = ((ji19) : Int).toNat := (by rw [Ny204.out, List.length_take]; omega); rw [← Ny204.out] at hr33; rw [← hy33] at hcut33; have HR207 := Aside0.mk hr33; have HC207 := Aside0.mk (show y204.length ≤ co13 from by omega); clear hr33 hC33 hroom33 hi033 hsz33; have KY33 := Aside0.mk hy33; clear hy33; have KL33 := Aside0.mk (show ((ji19) : Int).toNat ≤ x3_1.length from by omega); replace q33 := eq_true q33) | ((with_reducible refine gate_builtin (b := .append) (xs := #[.tmp 65, .tmp 68]) rfl ?_); (try (refine gate_guard (by rfl) ?_; dsimp only)); at_builtin; refine Kd.R_append_rows Kd.string (w0 := w) w.heap.size rfl (.tmp 65) (.tmp 68) 28 9 (.string ⟨#[]⟩) 16 rfl Try.underlying28 info9 rfl (by decide) (by omega) v202 y201 y204 _ _ _ (fun k_ => some k_ ≠ (.slice (some ad198) x3_1.length co13 : Value).ownBlock) (fun _ => False) rfl rfl ?aO ?aR (fun _ _ h => h) (fun _ h => h.elim) ?aF ?aB ?aS ?aL ?_; (case aR => repeat (first | exact (by repeat (first | (with_reducible exact HR207.out) | (with_reducible refine Kd.C_alloc ?_ _) | (with_reducible refine Kd.C_drewN ?_ _) | (with_reducible refine Kd.C_drew ?_) | exact HR207.out)) | (with_reducible refine Kd.C_alloc ?_ _) | (with_reducible refine Kd.C_drewN ?_ _) | (with_reducible refine Kd.C_drew ?_))); (case aB => exact (by repeat (first | (with_reducible first | exact HB.out | apply below_alloc | apply pw_below_drewN | apply below_drew1) | exact HB.out))); (case aF => exact (fun k_ hk => Kd.fresh' (Kd.R_lt (by (with_reducible repeat (first | apply Kd.R_alloc | apply Kd.R_drewN | apply Kd.R_drew)); exact HO_3.out)) k_ hk)); (case aO => exact (by (with_reducible repeat (first | apply Kd.R_alloc | apply Kd.R_drewN | apply Kd.R_drew)); exact Kd.R_mono HO203.out (fun _ hk => hk.2))); (case aS => exact (below_size (by repeat (first | (with_reducible first | exact HB.out | apply below_alloc | apply pw_below_drewN | apply below_drew1) | exact HB.out)))); (case aL => have := LMc25.out; omega); intro v209 w34 ho hb hg hat; rw [← Ny208.out] at ho; have n0_ := Aside0.mk (Kd.R_after (ok := (fun _ => True)) (by (with_reducible repeat (first | apply Kd.R_alloc | apply Kd.R_drewN | apply Kd.R_drew)); exact HO_3.out) hg hat); have n1_ := Aside0.mk (hb); have n2_ := Aside0.mk ((show Kd.C Kd.string w34 (some ad198) y204.length y204 from by rw [Ny204.out]; exact Kd.C_take (m := ((ji19) : Int).toNat) ((Kd.R_reads' (Kd.R_after (ok := (fun _ => True)) (by (with_reducible repeat (first | apply Kd.R_alloc | apply Kd.R_drewN | apply Kd.R_drew)); exact HO_3.out) hg hat)).2.2) KL33.out)); have n3_ := Aside0.mk (ho); clear HO_3; clear HB; clear HR207; clear HO203; have HO_3 := n0_; have HB := n1_; have HR207 := n2_; have HO210 := n3_; clear n0_ n1_ n2_ n3_; clear ho hb hg hat) | ((with_reducible refine gate_builtin (b := .append) (xs := #[.tmp 70, .tmp 72]) rfl ?_); (try (refine gate_guard (by rfl) ?_; dsimp only)); at_builtin; refine Kd.R_append Kd.string (w0 := w) w.heap.size rfl (.tmp 70) (.tmp 72) 28 9 (.string ⟨#[]⟩) 16 rfl Try.underlying28 info9 rfl (by decide) (by omega) v209 y208 t199 [.string t199] (fun k_ => some k_ ≠ (.slice (some ad198) x3_1.length co13 : Value).ownBlock) (fun _ => False) rfl rfl ?aP (fun _ hk => hk.elim) ?aF ?aO ?aB ?aS ?aL ?_; (case aP => exact rfl); (case aB => exact (by repeat (first | (with_reducible first | exact HB.out | apply below_alloc | apply pw_below_drewN | apply below_drew1) | exact HB.out))); (case aF => exact (fun k_ hk => Kd.fresh' (Kd.R_lt (by (with_reducible repeat (first | apply Kd.R_alloc | apply Kd.R_drewN | apply Kd.R_drew)); exact HO_3.out)) k_ hk)); (case aO => exact (by (with_reducible repeat (first | apply Kd.R_alloc | apply Kd.R_drewN | apply Kd.R_drew)); exact HO210.out)); (case aS => exact (below_size (by repeat (first | (with_reducible first | exact HB.out | apply below_alloc | apply pw_below_drewN | apply below_drew1) | exact HB.out)))); (case aL => have := LMc26.out; omega); intro v212 w35 ho hb hg hat; rw [← Ny211.out] at ho; have n0_ := Aside0.mk (Kd.R_after (ok := (fun _ => True)) (by (with_reducible repeat (first | apply Kd.R_alloc | apply Kd.R_drewN | apply Kd.R_drew)); exact HO_3.out) hg hat); have n1_ := Aside0.mk (hb); have n2_ := Aside0.mk ((show Kd.C Kd.string w35 (some ad198) y204.length y204 from by rw [Ny204.out]; exact Kd.C_take (m := ((ji19) : Int).toNat) ((Kd.R_reads' (Kd.R_after (ok := (fun _ => True)) (by (with_reducible repeat (first | apply Kd.R_alloc | apply Kd.R_drewN | apply Kd.R_drew)); exact HO_3.out) hg hat)).2.2) KL33.out)); have n3_ := Aside0.mk (ho); clear HO_3; clear HB; clear HR207; clear HO210; have HO_3 := n0_; have HB := n1_; have HR207 := n2_; have HO213 := n3_; clear n0_ n1_ n2_ n3_; clear ho hb hg hat; have q36 : ((ji19) : Int) ≤ ((x3_1.length : Int) : Int) := of_decide_eq_true (by first | (with_reducible assumption) | assumption); obtain ⟨i036, hi036, _, hsz36, _⟩ := info_parts info9; have hroom36 : x3_1.length ≤ co13 := (Kd.R_reads' HO_3.out).2.1; have hC36 : Kd.C Kd.string _ (some ad198) x3_1.length x3_1 := (Kd.R_reads' HO_3.out).2.2; have q036 : (0 : Int) ≤ ((ji19) : Int) := of_decide_eq_true (by first | (with_reducible assumption) | assumption); have hcut36 := cut_from (P := Try.prog) 28 9 .i64 Try.underlying28 hi036 1 hsz36 (some ad198) x3_1.length co13 (ji19) q036 q36; have hr36 := Kd.C_drop (m := ((ji19) : Int).toNat) (c := co13) hC36 (by omega) hroom36; obtain ⟨A36, hA36⟩ : ∃ A1, A1 = (if co13 = ((ji19) : Int).toNat then (some ad198) else ((some ad198) : Option Addr).map (·.add (((ji19) : Int).toNat * 1))) := ⟨_, rfl⟩; obtain ⟨c36, hc36⟩ : ∃ c1, c1 = co13 - ((ji19) : Int).toNat := ⟨_, rfl⟩; have hy36 : y214.length = x3_1.length - ((ji19) : Int).toNat := (by rw [Ny214.out, List.length_drop] <;> omega); rw [show (x3_1).drop ((ji19) : Int).toNat = y214 from Ny214.out.symm] at hr36; replace hr36 : Kd.C Kd.string _ A36 y214.length y214 := (by rw [hA36]; exact hr36); rw [← hy36, ← hA36, ← hc36] at hcut36; have HR217 := Aside0.mk hr36; have HC217 := Aside0.mk (show y214.length ≤ c36 from by rw [hy36, hc36]; exact Nat.sub_le_sub_right hroom36 _); clear hr36 hC36 hroom36 hi036 hsz36 hc36; have KY36 := Aside0.mk hy36; have KA36 := Aside0.mk hA36; clear hy36 hA36; have KL36 := Aside0.mk (show ((ji19) : Int).toNat ≤ x3_1.length from by omega); replace q36 := eq_true q36) | ((with_reducible refine gate_builtin (b := .append) (xs := #[.tmp 74, .tmp 77]) rfl ?_); (try (refine gate_guard (by rfl) ?_; dsimp only)); at_builtin; refine Kd.R_append_rows Kd.string (w0 := w) w.heap.size rfl (.tmp 74) (.tmp 77) 28 9 (.string ⟨#[]⟩) 16 rfl Try.underlying28 info9 rfl (by decide) (by omega) v212 y211 y214 _ _ _ (fun k_ => some k_ ≠ (.slice (some ad198) x3_1.length co13 : Value).ownBlock) (fun _ => False) rfl rfl ?aO ?aR (fun _ _ h => h) (fun _ h => h.elim) ?aF ?aB ?aS ?aL ?_; (case aR => repeat (first | exact (by repeat (first | (with_reducible exact HR217.out) | (with_reducible refine Kd.C_alloc ?_ _) | (with_reducible refine Kd.C_drewN ?_ _) | (with_reducible refine Kd.C_drew ?_) | exact HR217.out)) | (with_reducible refine Kd.C_alloc ?_ _) | (with_reducible refine Kd.C_drewN ?_ _) | (with_reducible refine Kd.C_drew ?_))); (case aB => exact (by repeat (first | (with_reducible first | exact HB.out | apply below_alloc | apply pw_below_drewN | apply below_drew1) | exact HB.out))); (case aF => exact (fun k_ hk => Kd.fresh' (Kd.R_lt (by (with_reducible repeat (first | apply Kd.R_alloc | apply Kd.R_drewN | apply Kd.R_drew)); exact HO_3.out)) k_ hk)); (case aO => exact (by (with_reducible repeat (first | apply Kd.R_alloc | apply Kd.R_drewN | apply Kd.R_drew)); exact HO213.out)); (case aS => exact (below_size (by repeat (first | (with_reducible first | exact HB.out | apply below_alloc | apply pw_below_drewN | apply below_drew1) | exact HB.out)))); (case aL => have := LMc29.out; omega); intro v219 w37 ho hb hg hat; rw [← Ny218.out] at ho; have n0_ := Aside0.mk (Kd.R_after (ok := (fun _ => True)) (by (with_reducible repeat (first | apply Kd.R_alloc | apply Kd.R_drewN | apply Kd.R_drew)); exact HO_3.out) hg hat); have n1_ := Aside0.mk (hb); have n2_ := Aside0.mk ((show Kd.C Kd.string w37 (some ad198) y204.length y204 from by rw [Ny204.out]; exact Kd.C_take (m := ((ji19) : Int).toNat) ((Kd.R_reads' (Kd.R_after (ok := (fun _ => True)) (by (with_reducible repeat (first | apply Kd.R_alloc | apply Kd.R_drewN | apply Kd.R_drew)); exact HO_3.out) hg hat)).2.2) KL33.out)); have n3_ := Aside0.mk ((show Kd.C Kd.string w37 A36 y214.length y214 from by rw [Ny214.out, KA36.out]; exact Kd.C_drop (m := ((ji19) : Int).toNat) (c := co13) ((Kd.R_reads' (Kd.R_after (ok := (fun _ => True)) (by (with_reducible repeat (first | apply Kd.R_alloc | apply Kd.R_drewN | apply Kd.R_drew)); exact HO_3.out) hg hat)).2.2) KL36.out ((Kd.R_reads' (Kd.R_after (ok := (fun _ => True)) (by (with_reducible repeat (first | apply Kd.R_alloc | apply Kd.R_drewN | apply Kd.R_drew)); exact HO_3.out) hg hat)).2.1))); have n4_ := Aside0.mk (ho); clear HO_3; clear HB; clear HR207; clear HR217; clear HO213; have HO_3 := n0_; have HB := n1_; have HR207 := n2_; have HR217 := n3_; have HO220 := n4_; clear n0_ n1_ n2_ n3_ n4_; clear ho hb hg hat))
                                  repeat (go_quiet (first | (go_at_call 8; (with_reducible refine (frac_Between.calls kj11 x6_11 (rdOf ByteArray.empty x3_1 (ji19)) t199 t200 _ A21.out).mono ?_); rintro e w30 ⟨rfl, hb⟩; have n0_ := Aside0.mk (Kd.R_below (by (with_reducible repeat (first | apply Kd.R_alloc | apply Kd.R_drewN | apply Kd.R_drew)); exact HO_3.out) hb); have n1_ := Aside0.mk (below_step (by repeat (first | (with_reducible first | exact HB.out | apply below_alloc | apply pw_below_drewN | apply below_drew1) | exact HB.out)) hb); clear HO_3; clear HB; have HO_3 := n0_; have HB := n1_; clear n0_ n1_; (try clear hb); (try clear hb2); (try clear hk); (try clear hi)) | ((with_reducible refine gate_dst (N := 64) rfl ?_); (try (refine gate_guard (by rfl) ?_; dsimp only)); refine Kd.R_lit Kd.string _ 9 ?hg (N := 64) ?hd (xs := ([] : List ByteArray)) (inner := []) (ok := fun _ => True) (okp := fun _ => True) ?hr ?hp (fun _ hk => hk) trivial (Below.refl _ _) (Nat.le_refl _) (by simp) ?_; (case hd => rfl); (case hg => rfl); (case hr => first | (go_simp; done) | (go_simp; rfl)); (case hp => exact (Reps.none _ _)); intro v202 w31 ho32 hb hg_ hnew_; clear hg_ hnew_; (first | rw [← Ny201.out] at ho32 | (simp only [Int.reduceToNat] at ho32; rw [← Ny201.out] at ho32)); have n0_ := Aside0.mk (Kd.R_elder' (by (with_reducible repeat (first | apply Kd.R_alloc | apply Kd.R_drewN | apply Kd.R_drew)); exact HO_3.out) (Kd.R_base ho32) hb); have n1_ := Aside0.mk (Kd.R_lower (Kd.R_new' ho32 (Kd.R_lt (by (with_reducible repeat (first | apply Kd.R_alloc | apply Kd.R_drewN | apply Kd.R_drew)); exact HO_3.out))) (below_size (by repeat (first | (with_reducible first | exact HB.out | apply below_alloc | apply pw_below_drewN | apply below_drew1) | exact HB.out)))); have n2_ := Aside0.mk (below_step (by repeat (first | (with_reducible first | exact HB.out | apply below_alloc | apply pw_below_drewN | apply below_drew1) | exact HB.out)) hb); clear HO_3; clear HB; have HO_3 := n0_; have HO203 := n1_; have HB := n2_; clear n0_ n1_ n2_; clear hb ho32; have q33 : ((ji19) : Int) ≤ ((x3_1.length : Int) : Int) := of_decide_eq_true (by first | (with_reducible assumption) | assumption); obtain ⟨i033, hi033, _, hsz33, _⟩ := info_parts info9; have hroom33 : x3_1.length ≤ co13 := (Kd.R_reads' HO_3.out).2.1; have hC33 : Kd.C Kd.string _ (some ad198) x3_1.length x3_1 := (Kd.R_reads' HO_3.out).2.2; have hcut33 := cut_to (P := Try.prog) 28 9 .i64 Try.underlying28 hi033 (some ad198) x3_1.length co13 (ji19) (of_decide_eq_true (by first | (with_reducible assumption) | assumption)) q33 hroom33; have hr33 := Kd.C_take (m := ((ji19) : Int).toNat) hC33 (by omega); have hy33 : y204.length = ((ji19) : Int).toNat := (by rw [Ny204.out, List.length_take]; omega); rw [← Ny204.out] at hr33; rw [← hy33] at hcut33; have HR207 := Aside0.mk hr33; have HC207 := Aside0.mk (show y204.length ≤ co13 from by omega); clear hr33 hC33 hroom33 hi033 hsz33; have KY33 := Aside0.mk hy33; clear hy33; have KL33 := Aside0.mk (show ((ji19) : Int).toNat ≤ x3_1.length from by omega); replace q33 := eq_true q33) | ((with_reducible refine gate_builtin (b := .append) (xs := #[.tmp 65, .tmp 68]) rfl ?_); (try (refine gate_guard (by rfl) ?_; dsimp only)); at_builtin; refine Kd.R_append_rows Kd.string (w0 := w) w.heap.size rfl (.tmp 65) (.tmp 68) 28 9 (.string ⟨#[]⟩) 16 rfl Try.underlying28 info9 rfl (by decide) (by omega) v202 y201 y204 _ _ _ (fun k_ => some k_ ≠ (.slice (some ad198) x3_1.length co13 : Value).ownBlock) (fun _ => False) rfl rfl ?aO ?aR (fun _ _ h => h) (fun _ h => h.elim) ?aF ?aB ?aS ?aL ?_; (case aR => repeat (first | exact (by repeat (first | (with_reducible exact HR207.out) | (with_reducible refine Kd.C_alloc ?_ _) | (with_reducible refine Kd.C_drewN ?_ _) | (with_reducible refine Kd.C_drew ?_) | exact HR207.out)) | (with_reducible refine Kd.C_alloc ?_ _) | (with_reducible refine Kd.C_drewN ?_ _) | (with_reducible refine Kd.C_drew ?_))); (case aB => exact (by repeat (first | (with_reducible first | exact HB.out | apply below_alloc | apply pw_below_drewN | apply below_drew1) | exact HB.out))); (case aF => exact (fun k_ hk => Kd.fresh' (Kd.R_lt (by (with_reducible repeat (first | apply Kd.R_alloc | apply Kd.R_drewN | apply Kd.R_drew)); exact HO_3.out)) k_ hk)); (case aO => exact (by (with_reducible repeat (first | apply Kd.R_alloc | apply Kd.R_drewN | apply Kd.R_drew)); exact Kd.R_mono HO203.out (fun _ hk => hk.2))); (case aS => exact (below_size (by repeat (first | (with_reducible first | exact HB.out | apply below_alloc | apply pw_below_drewN | apply below_drew1) | exact HB.out)))); (case aL => have := LMc25.out; omega); intro v209 w34 ho hb hg hat; rw [← Ny208.out] at ho; have n0_ := Aside0.mk (Kd.R_after (ok := (fun _ => True)) (by (with_reducible repeat (first | apply Kd.R_alloc | apply Kd.R_drewN | apply Kd.R_drew)); exact HO_3.out) hg hat); have n1_ := Aside0.mk (hb); have n2_ := Aside0.mk ((show Kd.C Kd.string w34 (some ad198) y204.length y204 from by rw [Ny204.out]; exact Kd.C_take (m := ((ji19) : Int).toNat) ((Kd.R_reads' (Kd.R_after (ok := (fun _ => True)) (by (with_reducible repeat (first | apply Kd.R_alloc | apply Kd.R_drewN | apply Kd.R_drew)); exact HO_3.out) hg hat)).2.2) KL33.out)); have n3_ := Aside0.mk (ho); clear HO_3; clear HB; clear HR207; clear HO203; have HO_3 := n0_; have HB := n1_; have HR207 := n2_; have HO210 := n3_; clear n0_ n1_ n2_ n3_; clear ho hb hg hat) | ((with_reducible refine gate_builtin (b := .append) (xs := #[.tmp 70, .tmp 72]) rfl ?_); (try (refine gate_guard (by rfl) ?_; dsimp only)); at_builtin; refine Kd.R_append Kd.string (w0 := w) w.heap.size rfl (.tmp 70) (.tmp 72) 28 9 (.string ⟨#[]⟩) 16 rfl Try.underlying28 info9 rfl (by decide) (by omega) v209 y208 t199 [.string t199] (fun k_ => some k_ ≠ (.slice (some ad198) x3_1.length co13 : Value).ownBlock) (fun _ => False) rfl rfl ?aP (fun _ hk => hk.elim) ?aF ?aO ?aB ?aS ?aL ?_; (case aP => exact rfl); (case aB => exact (by repeat (first | (with_reducible first | exact HB.out | apply below_alloc | apply pw_below_drewN | apply below_drew1) | exact HB.out))); (case aF => exact (fun k_ hk => Kd.fresh' (Kd.R_lt (by (with_reducible repeat (first | apply Kd.R_alloc | apply Kd.R_drewN | apply Kd.R_drew)); exact HO_3.out)) k_ hk)); (case aO => exact (by (with_reducible repeat (first | apply Kd.R_alloc | apply Kd.R_drewN | apply Kd.R_drew)); exact HO210.out)); (case aS => exact (below_size (by repeat (first | (with_reducible first | exact HB.out | apply below_alloc | apply pw_below_drewN | apply below_drew1) | exact HB.out)))); (case aL => have := LMc26.out; omega); intro v212 w35 ho hb hg hat; rw [← Ny211.out] at ho; have n0_ := Aside0.mk (Kd.R_after (ok := (fun _ => True)) (by (with_reducible repeat (first | apply Kd.R_alloc | apply Kd.R_drewN | apply Kd.R_drew)); exact HO_3.out) hg hat); have n1_ := Aside0.mk (hb); have n2_ := Aside0.mk ((show Kd.C Kd.string w35 (some ad198) y204.length y204 from by rw [Ny204.out]; exact Kd.C_take (m := ((ji19) : Int).toNat) ((Kd.R_reads' (Kd.R_after (ok := (fun _ => True)) (by (with_reducible repeat (first | apply Kd.R_alloc | apply Kd.R_drewN | apply Kd.R_drew)); exact HO_3.out) hg hat)).2.2) KL33.out)); have n3_ := Aside0.mk (ho); clear HO_3; clear HB; clear HR207; clear HO210; have HO_3 := n0_; have HB := n1_; have HR207 := n2_; have HO213 := n3_; clear n0_ n1_ n2_ n3_; clear ho hb hg hat; have q36 : ((ji19) : Int) ≤ ((x3_1.length : Int) : Int) := of_decide_eq_true (by first | (with_reducible assumption) | assumption); obtain ⟨i036, hi036, _, hsz36, _⟩ := info_parts info9; have hroom36 : x3_1.length ≤ co13 := (Kd.R_reads' HO_3.out).2.1; have hC36 : Kd.C Kd.string _ (some ad198) x3_1.length x3_1 := (Kd.R_reads' HO_3.out).2.2; have q036 : (0 : Int) ≤ ((ji19) : Int) := of_decide_eq_true (by first | (with_reducible assumption) | assumption); have hcut36 := cut_from (P := Try.prog) 28 9 .i64 Try.underlying28 hi036 1 hsz36 (some ad198) x3_1.length co13 (ji19) q036 q36; have hr36 := Kd.C_drop (m := ((ji19) : Int).toNat) (c := co13) hC36 (by omega) hroom36; obtain ⟨A36, hA36⟩ : ∃ A1, A1 = (if co13 = ((ji19) : Int).toNat then (some ad198) else ((some ad198) : Option Addr).map (·.add (((ji19) : Int).toNat * 1))) := ⟨_, rfl⟩; obtain ⟨c36, hc36⟩ : ∃ c1, c1 = co13 - ((ji19) : Int).toNat := ⟨_, rfl⟩; have hy36 : y214.length = x3_1.length - ((ji19) : Int).toNat := (by rw [Ny214.out, List.length_drop] <;> omega); rw [show (x3_1).drop ((ji19) : Int).toNat = y214 from Ny214.out.symm] at hr36; replace hr36 : Kd.C Kd.string _ A36 y214.length y214 := (by rw [hA36]; exact hr36); rw [← hy36, ← hA36, ← hc36] at hcut36; have HR217 := Aside0.mk hr36; have HC217 := Aside0.mk (show y214.length ≤ c36 from by rw [hy36, hc36]; exact Nat.sub_le_sub_right hroom36 _); clear hr36 hC36 hroom36 hi036 hsz36 hc36; have KY36 := Aside0.mk hy36; have KA36 := Aside0.mk hA36; clear hy36 hA36; have KL36 := Aside0.mk (show ((ji19) : Int).toNat ≤ x3_1.length from by omega); replace q36 := eq_true q36) | ((with_reducible refine gate_builtin (b := .append) (xs := #[.tmp 74, .tmp 77]) rfl ?_); (try (refine gate_guard (by rfl) ?_; dsimp only)); at_builtin; refine Kd.R_append_rows Kd.string (w0 := w) w.heap.size rfl (.tmp 74) (.tmp 77) 28 9 (.string ⟨#[]⟩) 16 rfl Try.underlying28 info9 rfl (by decide) (by omega) v212 y211 y214 _ _ _ (fun k_ => some k_ ≠ (.slice (some ad198) x3_1.length co13 : Value).ownBlock) (fun _ => False) rfl rfl ?aO ?aR (fun _ _ h => h) (fun _ h => h.elim) ?aF ?aB ?aS ?aL ?_; (case aR => repeat (first | exact (by repeat (first | (with_reducible exact HR217.out) | (with_reducible refine Kd.C_alloc ?_ _) | (with_reducible refine Kd.C_drewN ?_ _) | (with_reducible refine Kd.C_drew ?_) | exact HR217.out)) | (with_reducible refine Kd.C_alloc ?_ _) | (with_reducible refine Kd.C_drewN ?_ _) | (with_reducible refine Kd.C_drew ?_))); (case aB => exact (by repeat (first | (with_reducible first | exact HB.out | apply below_alloc | apply pw_below_drewN | apply below_drew1) | exact HB.out))); (case aF => exact (fun k_ hk => Kd.fresh' (Kd.R_lt (by (with_reducible repeat (first | apply Kd.R_alloc | apply Kd.R_drewN | apply Kd.R_drew)); exact HO_3.out)) k_ hk)); (case aO => exact (by (with_reducible repeat (first | apply Kd.R_alloc | apply Kd.R_drewN | apply Kd.R_drew)); exact HO213.out)); (case aS => exact (below_size (by repeat (first | (with_reducible first | exact HB.out | apply below_alloc | apply pw_below_drewN | apply below_drew1) | exact HB.out)))); (case aL => have := LMc29.out; omega); intro v219 w37 ho hb hg hat; rw [← Ny218.out] at ho; have n0_ := Aside0.mk (Kd.R_after (ok := (fun _ => True)) (by (with_reducible repeat (first | apply Kd.R_alloc | apply Kd.R_drewN | apply Kd.R_drew)); exact HO_3.out) hg hat); have n1_ := Aside0.mk (hb); have n2_ := Aside0.mk ((show Kd.C Kd.string w37 (some ad198) y204.length y204 from by rw [Ny204.out]; exact Kd.C_take (m := ((ji19) : Int).toNat) ((Kd.R_reads' (Kd.R_after (ok := (fun _ => True)) (by (with_reducible repeat (first | apply Kd.R_alloc | apply Kd.R_drewN | apply Kd.R_drew)); exact HO_3.out) hg hat)).2.2) KL33.out)); have n3_ := Aside0.mk ((show Kd.C Kd.string w37 A36 y214.length y214 from by rw [Ny214.out, KA36.out]; exact Kd.C_drop (m := ((ji19) : Int).toNat) (c := co13) ((Kd.R_reads' (Kd.R_after (ok := (fun _ => True)) (by (with_reducible repeat (first | apply Kd.R_alloc | apply Kd.R_drewN | apply Kd.R_drew)); exact HO_3.out) hg hat)).2.2) KL36.out ((Kd.R_reads' (Kd.R_after (ok := (fun _ => True)) (by (with_reducible repeat (first | apply Kd.R_alloc | apply Kd.R_drewN | apply Kd.R_drew)); exact HO_3.out) hg hat)).2.1))); have n4_ := Aside0.mk (ho); clear HO_3; clear HB; clear HR207; clear HR217; clear HO213; have HO_3 := n0_; have HB := n1_; have HR207 := n2_; have HR217 := n3_; have HO220 := n4_; clear n0_ n1_ n2_ n3_ n4_; clear ho hb hg hat)); try go_wp2_with (first | (go_at_call 8; (with_reducible refine (frac_Between.calls kj11 x6_11 (rdOf ByteArray.empty x3_1 (ji19)) t199 t200 _ A21.out).mono ?_); rintro e w30 ⟨rfl, hb⟩; have n0_ := Aside0.mk (Kd.R_below (by (with_reducible repeat (first | apply Kd.R_alloc | apply Kd.R_drewN | apply Kd.R_drew)); exact HO_3.out) hb); have n1_ := Aside0.mk (below_step (by repeat (first | (with_reducible first | exact HB.out | apply below_alloc | apply pw_below_drewN | apply below_drew1) | exact HB.out)) hb); clear HO_3; clear HB; have HO_3 := n0_; have HB := n1_; clear n0_ n1_; (try clear hb); (try clear hb2); (try clear hk); (try clear hi)) | ((with_reducible refine gate_dst (N := 64) rfl ?_); (try (refine gate_guard (by rfl) ?_; dsimp only)); refine Kd.R_lit Kd.string _ 9 ?hg (N := 64) ?hd (xs := ([] : List ByteArray)) (inner := []) (ok := fun _ => True) (okp := fun _ => True) ?hr ?hp (fun _ hk => hk) trivial (Below.refl _ _) (Nat.le_refl _) (by simp) ?_; (case hd => rfl); (case hg => rfl); (case hr => first | (go_simp; done) | (go_simp; rfl)); (case hp => exact (Reps.none _ _)); intro v202 w31 ho32 hb hg_ hnew_; clear hg_ hnew_; (first | rw [← Ny201.out] at ho32 | (simp only [Int.reduceToNat] at ho32; rw [← Ny201.out] at ho32)); have n0_ := Aside0.mk (Kd.R_elder' (by (with_reducible repeat (first | apply Kd.R_alloc | apply Kd.R_drewN | apply Kd.R_drew)); exact HO_3.out) (Kd.R_base ho32) hb); have n1_ := Aside0.mk (Kd.R_lower (Kd.R_new' ho32 (Kd.R_lt (by (with_reducible repeat (first | apply Kd.R_alloc | apply Kd.R_drewN | apply Kd.R_drew)); exact HO_3.out))) (below_size (by repeat (first | (with_reducible first | exact HB.out | apply below_alloc | apply pw_below_drewN | apply below_drew1) | exact HB.out)))); have n2_ := Aside0.mk (below_step (by repeat (first | (with_reducible first | exact HB.out | apply below_alloc | apply pw_below_drewN | apply below_drew1) | exact HB.out)) hb); clear HO_3; clear HB; have HO_3 := n0_; have HO203 := n1_; have HB := n2_; clear n0_ n1_ n2_; clear hb ho32; have q33 : ((ji19) : Int) ≤ ((x3_1.length : Int) : Int) := of_decide_eq_true (by first | (with_reducible assumption) | assumption); obtain ⟨i033, hi033, _, hsz33, _⟩ := info_parts info9; have hroom33 : x3_1.length ≤ co13 := (Kd.R_reads' HO_3.out).2.1; have hC33 : Kd.C Kd.string _ (some ad198) x3_1.length x3_1 := (Kd.R_reads' HO_3.out).2.2; have hcut33 := cut_to (P := Try.prog) 28 9 .i64 Try.underlying28 hi033 (some ad198) x3_1.length co13 (ji19) (of_decide_eq_true (by first | (with_reducible assumption) | assumption)) q33 hroom33; have hr33 := Kd.C_take (m := ((ji19) : Int).toNat) hC33 (by omega); have hy33 : y204.length = ((ji19) : Int).toNat := (by rw [Ny204.out, List.length_take]; omega); rw [← Ny204.out] at hr33; rw [← hy33] at hcut33; have HR207 := Aside0.mk hr33; have HC207 := Aside0.mk (show y204.length ≤ co13 from by omega); clear hr33 hC33 hroom33 hi033 hsz33; have KY33 := Aside0.mk hy33; clear hy33; have KL33 := Aside0.mk (show ((ji19) : Int).toNat ≤ x3_1.length from by omega); replace q33 := eq_true q33) | ((with_reducible refine gate_builtin (b := .append) (xs := #[.tmp 65, .tmp 68]) rfl ?_); (try (refine gate_guard (by rfl) ?_; dsimp only)); at_builtin; refine Kd.R_append_rows Kd.string (w0 := w) w.heap.size rfl (.tmp 65) (.tmp 68) 28 9 (.string ⟨#[]⟩) 16 rfl Try.underlying28 info9 rfl (by decide) (by omega) v202 y201 y204 _ _ _ (fun k_ => some k_ ≠ (.slice (some ad198) x3_1.length co13 : Value).ownBlock) (fun _ => False) rfl rfl ?aO ?aR (fun _ _ h => h) (fun _ h => h.elim) ?aF ?aB ?aS ?aL ?_; (case aR => repeat (first | exact (by repeat (first | (with_reducible exact HR207.out) | (with_reducible refine Kd.C_alloc ?_ _) | (with_reducible refine Kd.C_drewN ?_ _) | (with_reducible refine Kd.C_drew ?_) | exact HR207.out)) | (with_reducible refine Kd.C_alloc ?_ _) | (with_reducible refine Kd.C_drewN ?_ _) | (with_reducible refine Kd.C_drew ?_))); (case aB => exact (by repeat (first | (with_reducible first | exact HB.out | apply below_alloc | apply pw_below_drewN | apply below_drew1) | exact HB.out))); (case aF => exact (fun k_ hk => Kd.fresh' (Kd.R_lt (by (with_reducible repeat (first | apply Kd.R_alloc | apply Kd.R_drewN | apply Kd.R_drew)); exact HO_3.out)) k_ hk)); (case aO => exact (by (with_reducible repeat (first | apply Kd.R_alloc | apply Kd.R_drewN | apply Kd.R_drew)); exact Kd.R_mono HO203.out (fun _ hk => hk.2))); (case aS => exact (below_size (by repeat (first | (with_reducible first | exact HB.out | apply below_alloc | apply pw_below_drewN | apply below_drew1) | exact HB.out)))); (case aL => have := LMc25.out; omega); intro v209 w34 ho hb hg hat; rw [← Ny208.out] at ho; have n0_ := Aside0.mk (Kd.R_after (ok := (fun _ => True)) (by (with_reducible repeat (first | apply Kd.R_alloc | apply Kd.R_drewN | apply Kd.R_drew)); exact HO_3.out) hg hat); have n1_ := Aside0.mk (hb); have n2_ := Aside0.mk ((show Kd.C Kd.string w34 (some ad198) y204.length y204 from by rw [Ny204.out]; exact Kd.C_take (m := ((ji19) : Int).toNat) ((Kd.R_reads' (Kd.R_after (ok := (fun _ => True)) (by (with_reducible repeat (first | apply Kd.R_alloc | apply Kd.R_drewN | apply Kd.R_drew)); exact HO_3.out) hg hat)).2.2) KL33.out)); have n3_ := Aside0.mk (ho); clear HO_3; clear HB; clear HR207; clear HO203; have HO_3 := n0_; have HB := n1_; have HR207 := n2_; have HO210 := n3_; clear n0_ n1_ n2_ n3_; clear ho hb hg hat) | ((with_reducible refine gate_builtin (b := .append) (xs := #[.tmp 70, .tmp 72]) rfl ?_); (try (refine gate_guard (by rfl) ?_; dsimp only)); at_builtin; refine Kd.R_append Kd.string (w0 := w) w.heap.size rfl (.tmp 70) (.tmp 72) 28 9 (.string ⟨#[]⟩) 16 rfl Try.underlying28 info9 rfl (by decide) (by omega) v209 y208 t199 [.string t199] (fun k_ => some k_ ≠ (.slice (some ad198) x3_1.length co13 : Value).ownBlock) (fun _ => False) rfl rfl ?aP (fun _ hk => hk.elim) ?aF ?aO ?aB ?aS ?aL ?_; (case aP => exact rfl); (case aB => exact (by repeat (first | (with_reducible first | exact HB.out | apply below_alloc | apply pw_below_drewN | apply below_drew1) | exact HB.out))); (case aF => exact (fun k_ hk => Kd.fresh' (Kd.R_lt (by (with_reducible repeat (first | apply Kd.R_alloc | apply Kd.R_drewN | apply Kd.R_drew)); exact HO_3.out)) k_ hk)); (case aO => exact (by (with_reducible repeat (first | apply Kd.R_alloc | apply Kd.R_drewN | apply Kd.R_drew)); exact HO210.out)); (case aS => exact (below_size (by repeat (first | (with_reducible first | exact HB.out | apply below_alloc | apply pw_below_drewN | apply below_drew1) | exact HB.out)))); (case aL => have := LMc26.out; omega); intro v212 w35 ho hb hg hat; rw [← Ny211.out] at ho; have n0_ := Aside0.mk (Kd.R_after (ok := (fun _ => True)) (by (with_reducible repeat (first | apply Kd.R_alloc | apply Kd.R_drewN | apply Kd.R_drew)); exact HO_3.out) hg hat); have n1_ := Aside0.mk (hb); have n2_ := Aside0.mk ((show Kd.C Kd.string w35 (some ad198) y204.length y204 from by rw [Ny204.out]; exact Kd.C_take (m := ((ji19) : Int).toNat) ((Kd.R_reads' (Kd.R_after (ok := (fun _ => True)) (by (with_reducible repeat (first | apply Kd.R_alloc | apply Kd.R_drewN | apply Kd.R_drew)); exact HO_3.out) hg hat)).2.2) KL33.out)); have n3_ := Aside0.mk (ho); clear HO_3; clear HB; clear HR207; clear HO210; have HO_3 := n0_; have HB := n1_; have HR207 := n2_; have HO213 := n3_; clear n0_ n1_ n2_ n3_; clear ho hb hg hat; have q36 : ((ji19) : Int) ≤ ((x3_1.length : Int) : Int) := of_decide_eq_true (by first | (with_reducible assumption) | assumption); obtain ⟨i036, hi036, _, hsz36, _⟩ := info_parts info9; have hroom36 : x3_1.length ≤ co13 := (Kd.R_reads' HO_3.out).2.1; have hC36 : Kd.C Kd.string _ (some ad198) x3_1.length x3_1 := (Kd.R_reads' HO_3.out).2.2; have q036 : (0 : Int) ≤ ((ji19) : Int) := of_decide_eq_true (by first | (with_reducible assumption) | assumption); have hcut36 := cut_from (P := Try.prog) 28 9 .i64 Try.underlying28 hi036 1 hsz36 (some ad198) x3_1.length co13 (ji19) q036 q36; have hr36 := Kd.C_drop (m := ((ji19) : Int).toNat) (c := co13) hC36 (by omega) hroom36; obtain ⟨A36, hA36⟩ : ∃ A1, A1 = (if co13 = ((ji19) : Int).toNat then (some ad198) else ((some ad198) : Option Addr).map (·.add (((ji19) : Int).toNat * 1))) := ⟨_, rfl⟩; obtain ⟨c36, hc36⟩ : ∃ c1, c1 = co13 - ((ji19) : Int).toNat := ⟨_, rfl⟩; have hy36 : y214.length = x3_1.length - ((ji19) : Int).toNat := (by rw [Ny214.out, List.length_drop] <;> omega); rw [show (x3_1).drop ((ji19) : Int).toNat = y214 from Ny214.out.symm] at hr36; replace hr36 : Kd.C Kd.string _ A36 y214.length y214 := (by rw [hA36]; exact hr36); rw [← hy36, ← hA36, ← hc36] at hcut36; have HR217 := Aside0.mk hr36; have HC217 := Aside0.mk (show y214.length ≤ c36 from by rw [hy36, hc36]; exact Nat.sub_le_sub_right hroom36 _); clear hr36 hC36 hroom36 hi036 hsz36 hc36; have KY36 := Aside0.mk hy36; have KA36 := Aside0.mk hA36; clear hy36 hA36; have KL36 := Aside0.mk (show ((ji19) : Int).toNat ≤ x3_1.length from by omega); replace q36 := eq_true q36) | ((with_reducible refine gate_builtin (b := .append) (xs := #[.tmp 74, .tmp 77]) rfl ?_); (try (refine gate_guard (by rfl) ?_; dsimp only)); at_builtin; refine Kd.R_append_rows Kd.string (w0 := w) w.heap.size rfl (.tmp 74) (.tmp 77) 28 9 (.string ⟨#[]⟩) 16 rfl Try.underlying28 info9 rfl (by decide) (by omega) v212 y211 y214 _ _ _ (fun k_ => some k_ ≠ (.slice (some ad198) x3_1.length co13 : Value).ownBlock) (fun _ => False) rfl rfl ?aO ?aR (fun _ _ h => h) (fun _ h => h.elim) ?aF ?aB ?aS ?aL ?_; (case aR => repeat (first | exact (by repeat (first | (with_reducible exact HR217.out) | (with_reducible refine Kd.C_alloc ?_ _) | (with_reducible refine Kd.C_drewN ?_ _) | (with_reducible refine Kd.C_drew ?_) | exact HR217.out)) | (with_reducible refine Kd.C_alloc ?_ _) | (with_reducible refine Kd.C_drewN ?_ _) | (with_reducible refine Kd.C_drew ?_))); (case aB => exact (by repeat (first | (with_reducible first | exact HB.out | apply below_alloc | apply pw_below_drewN | apply below_drew1) | exact HB.out))); (case aF => exact (fun k_ hk => Kd.fresh' (Kd.R_lt (by (with_reducible repeat (first | apply Kd.R_alloc | apply Kd.R_drewN | apply Kd.R_drew)); exact HO_3.out)) k_ hk)); (case aO => exact (by (with_reducible repeat (first | apply Kd.R_alloc | apply Kd.R_drewN | apply Kd.R_drew)); exact HO213.out)); (case aS => exact (below_size (by repeat (first | (with_reducible first | exact HB.out | apply below_alloc | apply pw_below_drewN | apply below_drew1) | exact HB.out)))); (case aL => have := LMc29.out; omega); intro v219 w37 ho hb hg hat; rw [← Ny218.out] at ho; have n0_ := Aside0.mk (Kd.R_after (ok := (fun _ => True)) (by (with_reducible repeat (first | apply Kd.R_alloc | apply Kd.R_drewN | apply Kd.R_drew)); exact HO_3.out) hg hat); have n1_ := Aside0.mk (hb); have n2_ := Aside0.mk ((show Kd.C Kd.string w37 (some ad198) y204.length y204 from by rw [Ny204.out]; exact Kd.C_take (m := ((ji19) : Int).toNat) ((Kd.R_reads' (Kd.R_after (ok := (fun _ => True)) (by (with_reducible repeat (first | apply Kd.R_alloc | apply Kd.R_drewN | apply Kd.R_drew)); exact HO_3.out) hg hat)).2.2) KL33.out)); have n3_ := Aside0.mk ((show Kd.C Kd.string w37 A36 y214.length y214 from by rw [Ny214.out, KA36.out]; exact Kd.C_drop (m := ((ji19) : Int).toNat) (c := co13) ((Kd.R_reads' (Kd.R_after (ok := (fun _ => True)) (by (with_reducible repeat (first | apply Kd.R_alloc | apply Kd.R_drewN | apply Kd.R_drew)); exact HO_3.out) hg hat)).2.2) KL36.out ((Kd.R_reads' (Kd.R_after (ok := (fun _ => True)) (by (with_reducible repeat (first | apply Kd.R_alloc | apply Kd.R_drewN | apply Kd.R_drew)); exact HO_3.out) hg hat)).2.1))); have n4_ := Aside0.mk (ho); clear HO_3; clear HB; clear HR207; clear HR217; clear HO213; have HO_3 := n0_; have HB := n1_; have HR207 := n2_; have HR217 := n3_; have HO220 := n4_; clear n0_ n1_ n2_ n3_ n4_; clear ho hb hg hat)))
                                  go_roundg kj11
                                  case measure => have := HK1.out; have := HJ11.out; omega
                                  case rel => exact ⟨(y218), (wrap64 (x4_1 + 1)), (by first | rfl | (simp; done) | (simp [*]; done) | exact congrArg Value.bool (notEmpty_ne _)), H', ⟨by have := HK1.out; have := HJ11.out; omega⟩, ⟨by (with_reducible repeat (first | apply Kd.R_alloc | apply Kd.R_drewN | apply Kd.R_drew)); exact Kd.R_mono HO220.out (fun _ hk => trivial)⟩, ⟨by repeat (first | (with_reducible first | exact HB.out | apply below_alloc | apply pw_below_drewN | apply below_drew1) | exact HB.out)⟩⟩
                                · rw [if_neg c29] at H
                                  exact absurd H (by simp)
                              · rw [if_neg c26] at H
                                exact absurd H (by simp)
                            · rw [if_neg c25] at H
                              exact absurd H (by simp)
                          · rw [if_neg c24] at H
                            exact absurd H (by simp)
                        · rw [if_neg c22] at H
                          have c22b0 : (t200 == 0) = false := beq_eq_false_iff_ne.mpr c22
                          have c22b1 : (t200 != 0) = true := bne_iff_ne.mpr c22
                          by_cases c38 : (x6_11.size : Int) ≥ 31
                          · rw [if_pos c38] at H
                            have c38b0 : decide (31 ≤ (x6_11.size : Int)) = true := decide_eq_true c38
                            have c38b1 : decide (31 ≤ x6_11.size) = true := decide_eq_true (by omega)
                            clear c38
                            obtain rfl := Option.some.inj H
                            have p198 : 0 ≤ ((ji19) : Int) := of_decide_eq_true (by first | (with_reducible assumption) | assumption)
                            have q198 : (ji19) < (x3_1.length : Int) := of_decide_eq_true (by first | (with_reducible assumption) | assumption)
                            obtain ⟨ad198, e198, hx198_0⟩ := Kd.at_string (Kd.R_reads' HO_3.out).2.2 (ji19) p198 q198
                            cases e198
                            replace p198 := eq_true p198
                            replace q198 := eq_true q198
                            go_wp2_with (first | (go_at_call 8; (with_reducible refine (frac_Between.calls kj11 x6_11 (rdOf ByteArray.empty x3_1 (ji19)) t199 t200 _ A21.out).mono ?_); rintro e w39 ⟨rfl, hb⟩; have n0_ := Aside0.mk (Kd.R_below (by (with_reducible repeat (first | apply Kd.R_alloc | apply Kd.R_drewN | apply Kd.R_drew)); exact HO_3.out) hb); have n1_ := Aside0.mk (below_step (by repeat (first | (with_reducible first | exact HB.out | apply below_alloc | apply pw_below_drewN | apply below_drew1) | exact HB.out)) hb); clear HO_3; clear HB; have HO_3 := n0_; have HB := n1_; clear n0_ n1_; (try clear hb); (try clear hb2); (try clear hk); (try clear hi)))
                            repeat (go_quiet (first | (go_at_call 8; (with_reducible refine (frac_Between.calls kj11 x6_11 (rdOf ByteArray.empty x3_1 (ji19)) t199 t200 _ A21.out).mono ?_); rintro e w39 ⟨rfl, hb⟩; have n0_ := Aside0.mk (Kd.R_below (by (with_reducible repeat (first | apply Kd.R_alloc | apply Kd.R_drewN | apply Kd.R_drew)); exact HO_3.out) hb); have n1_ := Aside0.mk (below_step (by repeat (first | (with_reducible first | exact HB.out | apply below_alloc | apply pw_below_drewN | apply below_drew1) | exact HB.out)) hb); clear HO_3; clear HB; have HO_3 := n0_; have HB := n1_; clear n0_ n1_; (try clear hb); (try clear hb2); (try clear hk); (try clear hi))); try go_wp2_with (first | (go_at_call 8; (with_reducible refine (frac_Between.calls kj11 x6_11 (rdOf ByteArray.empty x3_1 (ji19)) t199 t200 _ A21.out).mono ?_); rintro e w39 ⟨rfl, hb⟩; have n0_ := Aside0.mk (Kd.R_below (by (with_reducible repeat (first | apply Kd.R_alloc | apply Kd.R_drewN | apply Kd.R_drew)); exact HO_3.out) hb); have n1_ := Aside0.mk (below_step (by repeat (first | (with_reducible first | exact HB.out | apply below_alloc | apply pw_below_drewN | apply below_drew1) | exact HB.out)) hb); clear HO_3; clear HB; have HO_3 := n0_; have HB := n1_; clear n0_ n1_; (try clear hb); (try clear hb2); (try clear hk); (try clear hi))))
                            go_ret
                            exact ⟨by first | rfl | (simp [errW_none, errW_some] <;> rfl) | (simp only [← hji19]; first | rfl | (simp [errW_none, errW_some] <;> rfl)) | (simp [*, errW_none, errW_some] <;> rfl), by repeat (first | (with_reducible first | exact HB.out | apply below_alloc | apply pw_below_drewN | apply below_drew1) | exact HB.out)⟩
                          · rw [if_neg c38] at H
                            have c38b0 : decide (31 ≤ (x6_11.size : Int)) = false := decide_eq_false c38
                            have c38b1 : decide (31 ≤ x6_11.size) = false := decide_eq_false (by omega)
                            clear c38
                            obtain rfl := Option.some.inj H
                            have p198 : 0 ≤ ((ji19) : Int) := of_decide_eq_true (by first | (with_reducible assumption) | assumption)
                            have q198 : (ji19) < (x3_1.length : Int) := of_decide_eq_true (by first | (with_reducible assumption) | assumption)
                            obtain ⟨ad198, e198, hx198_0⟩ := Kd.at_string (Kd.R_reads' HO_3.out).2.2 (ji19) p198 q198
                            cases e198
                            replace p198 := eq_true p198
                            replace q198 := eq_true q198
                            go_wp2_with (first | (go_at_call 8; (with_reducible refine (frac_Between.calls kj11 x6_11 (rdOf ByteArray.empty x3_1 (ji19)) t199 t200 _ A21.out).mono ?_); rintro e w40 ⟨rfl, hb⟩; have n0_ := Aside0.mk (Kd.R_below (by (with_reducible repeat (first | apply Kd.R_alloc | apply Kd.R_drewN | apply Kd.R_drew)); exact HO_3.out) hb); have n1_ := Aside0.mk (below_step (by repeat (first | (with_reducible first | exact HB.out | apply below_alloc | apply pw_below_drewN | apply below_drew1) | exact HB.out)) hb); clear HO_3; clear HB; have HO_3 := n0_; have HB := n1_; clear n0_ n1_; (try clear hb); (try clear hb2); (try clear hk); (try clear hi)))
                            repeat (go_quiet (first | (go_at_call 8; (with_reducible refine (frac_Between.calls kj11 x6_11 (rdOf ByteArray.empty x3_1 (ji19)) t199 t200 _ A21.out).mono ?_); rintro e w40 ⟨rfl, hb⟩; have n0_ := Aside0.mk (Kd.R_below (by (with_reducible repeat (first | apply Kd.R_alloc | apply Kd.R_drewN | apply Kd.R_drew)); exact HO_3.out) hb); have n1_ := Aside0.mk (below_step (by repeat (first | (with_reducible first | exact HB.out | apply below_alloc | apply pw_below_drewN | apply below_drew1) | exact HB.out)) hb); clear HO_3; clear HB; have HO_3 := n0_; have HB := n1_; clear n0_ n1_; (try clear hb); (try clear hb2); (try clear hk); (try clear hi))); try go_wp2_with (first | (go_at_call 8; (with_reducible refine (frac_Between.calls kj11 x6_11 (rdOf ByteArray.empty x3_1 (ji19)) t199 t200 _ A21.out).mono ?_); rintro e w40 ⟨rfl, hb⟩; have n0_ := Aside0.mk (Kd.R_below (by (with_reducible repeat (first | apply Kd.R_alloc | apply Kd.R_drewN | apply Kd.R_drew)); exact HO_3.out) hb); have n1_ := Aside0.mk (below_step (by repeat (first | (with_reducible first | exact HB.out | apply below_alloc | apply pw_below_drewN | apply below_drew1) | exact HB.out)) hb); clear HO_3; clear HB; have HO_3 := n0_; have HB := n1_; clear n0_ n1_; (try clear hb); (try clear hb2); (try clear hk); (try clear hi))))
                            go_ret
                            exact ⟨by first | rfl | (simp [errW_none, errW_some] <;> rfl) | (simp only [← hji19]; first | rfl | (simp [errW_none, errW_some] <;> rfl)) | (simp [*, errW_none, errW_some] <;> rfl), by repeat (first | (with_reducible first | exact HB.out | apply below_alloc | apply pw_below_drewN | apply below_drew1) | exact HB.out)⟩
                      · rw [if_neg c20] at H
                        exact absurd H (by simp)
                    · rw [if_neg c18] at H
                      have c18b0 : decide ((Int.tmod (Go.bits .and .i64 (rd l0 x4_1) 1023) (wrap64 ((x3_1.length : Int) + 1))) < (x3_1.length : Int)) = false := decide_eq_false c18
                      clear c18
                      replace H := Option.bind_eq_some_iff.mp H
                      obtain ⟨⟨t221, t222⟩, A410, H⟩ := H
                      replace H : (if t222 = 0 then ((some (([] : List ByteArray) : List ByteArray)).bind fun y223 => (if 0 ≤ (Int.tmod (Go.bits .and .i64 (rd l0 x4_1) 1023) (wrap64 ((x3_1.length : Int) + 1))) then (if (Int.tmod (Go.bits .and .i64 (rd l0 x4_1) 1023) (wrap64 ((x3_1.length : Int) + 1))) ≤ (x3_1.length : Int) then ((some (x3_1.take ((Int.tmod (Go.bits .and .i64 (rd l0 x4_1) 1023) (wrap64 ((x3_1.length : Int) + 1))) : Int).toNat : List ByteArray)).bind fun y226 => (if y223.length + y226.length < 8796093022208 then ((some (y223 ++ y226 : List ByteArray)).bind fun y230 => (if y230.length < 8796093022208 then ((some (y230 ++ [t221] : List ByteArray)).bind fun y233 => ((some (x3_1.drop ((Int.tmod (Go.bits .and .i64 (rd l0 x4_1) 1023) (wrap64 ((x3_1.length : Int) + 1))) : Int).toNat : List ByteArray)).bind fun y236 => (if y233.length + y236.length < 8796093022208 then (offshootlaw04_FracDense.l0 kj11 l0 (y233 ++ y236) (wrap64 (x4_1 + 1))) else (none)))) else (none))) else (none))) else (none)) else (none))) else (if (x6_11.size : Int) ≥ 31 then (some true) else (some (decide (((⟨#[]⟩ : ByteArray).size : Int) ≥ 31))))) = some r := H
                      have A41 := Aside0.mk A410
                      clear A410
                      by_cases c42 : t222 = 0
                      · rw [if_pos c42] at H
                        have c42b0 : (t222 == 0) = true := beq_iff_eq.mpr c42
                        have c42b1 : (t222 != 0) = false := bne_eq_false_iff_eq.mpr c42
                        clear c42
                        obtain ⟨y223, hy223⟩ : ∃ y_ : List ByteArray, y_ = (([] : List ByteArray)) := ⟨_, rfl⟩
                        replace H : (if 0 ≤ (Int.tmod (Go.bits .and .i64 (rd l0 x4_1) 1023) (wrap64 ((x3_1.length : Int) + 1))) then (if (Int.tmod (Go.bits .and .i64 (rd l0 x4_1) 1023) (wrap64 ((x3_1.length : Int) + 1))) ≤ (x3_1.length : Int) then ((some (x3_1.take ((Int.tmod (Go.bits .and .i64 (rd l0 x4_1) 1023) (wrap64 ((x3_1.length : Int) + 1))) : Int).toNat : List ByteArray)).bind fun y226 => (if y223.length + y226.length < 8796093022208 then ((some (y223 ++ y226 : List ByteArray)).bind fun y230 => (if y230.length < 8796093022208 then ((some (y230 ++ [t221] : List ByteArray)).bind fun y233 => ((some (x3_1.drop ((Int.tmod (Go.bits .and .i64 (rd l0 x4_1) 1023) (wrap64 ((x3_1.length : Int) + 1))) : Int).toNat : List ByteArray)).bind fun y236 => (if y233.length + y236.length < 8796093022208 then (offshootlaw04_FracDense.l0 kj11 l0 (y233 ++ y236) (wrap64 (x4_1 + 1))) else (none)))) else (none))) else (none))) else (none)) else (none)) = some r := by first | (rw [hy223]; with_reducible exact H) | (have H2_ := (Option.bind_some _ _).symm.trans H; rw [hy223]; with_reducible exact H2_) | (have H2_ := (Option.bind_some _ _).symm.trans H; with_reducible exact H2_) | with_reducible exact H | (rw [hy223]; exact H) | exact H
                        have Ny223 := Aside0.mk hy223
                        clear hy223
                        obtain ⟨ji43, hji43⟩ : ∃ j_ : Int, (Int.tmod (Go.bits .and .i64 (rd l0 x4_1) 1023) (wrap64 ((x3_1.length : Int) + 1))) = j_ := ⟨_, rfl⟩
                        replace H : (if 0 ≤ (ji43) then (if (ji43) ≤ (x3_1.length : Int) then ((some (x3_1.take ((ji43) : Int).toNat : List ByteArray)).bind fun y226 => (if y223.length + y226.length < 8796093022208 then ((some (y223 ++ y226 : List ByteArray)).bind fun y230 => (if y230.length < 8796093022208 then ((some (y230 ++ [t221] : List ByteArray)).bind fun y233 => ((some (x3_1.drop ((ji43) : Int).toNat : List ByteArray)).bind fun y236 => (if y233.length + y236.length < 8796093022208 then (offshootlaw04_FracDense.l0 kj11 l0 (y233 ++ y236) (wrap64 (x4_1 + 1))) else (none)))) else (none))) else (none))) else (none)) else (none)) = some r := by first | (rw [hji43] at H; exact H) | (simp only [hji43] at H ⊢; exact H)
                        (try rw [hji43] at c18b0)
                        (try rw [hji43] at A41)
                        by_cases c44 : 0 ≤ (ji43)
                        · rw [if_pos c44] at H
                          have c44b0 := eq_true c44
                          have c44b1 : decide (0 ≤ (ji43)) = true := decide_eq_true c44
                          clear c44
                          by_cases c45 : (ji43) ≤ (x3_1.length : Int)
                          · rw [if_pos c45] at H
                            have c45b0 := eq_true c45
                            have c45b1 : decide ((ji43) ≤ (x3_1.length : Int)) = true := decide_eq_true c45
                            clear c45
                            obtain ⟨y226, hy226⟩ : ∃ y_ : List ByteArray, y_ = (x3_1.take ((ji43) : Int).toNat) := ⟨_, rfl⟩
                            replace H : (if y223.length + y226.length < 8796093022208 then ((some (y223 ++ y226 : List ByteArray)).bind fun y230 => (if y230.length < 8796093022208 then ((some (y230 ++ [t221] : List ByteArray)).bind fun y233 => ((some (x3_1.drop ((ji43) : Int).toNat : List ByteArray)).bind fun y236 => (if y233.length + y236.length < 8796093022208 then (offshootlaw04_FracDense.l0 kj11 l0 (y233 ++ y236) (wrap64 (x4_1 + 1))) else (none)))) else (none))) else (none)) = some r := by first | (rw [hy226]; with_reducible exact H) | (have H2_ := (Option.bind_some _ _).symm.trans H; rw [hy226]; with_reducible exact H2_) | (have H2_ := (Option.bind_some _ _).symm.trans H; with_reducible exact H2_) | with_reducible exact H | (rw [hy226]; exact H) | exact H
                            have Ny226 := Aside0.mk hy226
                            clear hy226
                            by_cases c46 : y223.length + y226.length < 8796093022208
                            · rw [if_pos c46] at H
                              have LMc46 := Aside0.mk c46
                              clear c46
                              obtain ⟨y230, hy230⟩ : ∃ y_ : List ByteArray, y_ = (y223 ++ y226) := ⟨_, rfl⟩
                              replace H : (if y230.length < 8796093022208 then ((some (y230 ++ [t221] : List ByteArray)).bind fun y233 => ((some (x3_1.drop ((ji43) : Int).toNat : List ByteArray)).bind fun y236 => (if y233.length + y236.length < 8796093022208 then (offshootlaw04_FracDense.l0 kj11 l0 (y233 ++ y236) (wrap64 (x4_1 + 1))) else (none)))) else (none)) = some r := by first | (rw [hy230]; with_reducible exact H) | (have H2_ := (Option.bind_some _ _).symm.trans H; rw [hy230]; with_reducible exact H2_) | (have H2_ := (Option.bind_some _ _).symm.trans H; with_reducible exact H2_) | with_reducible exact H | (rw [hy230]; exact H) | exact H
                              have Ny230 := Aside0.mk hy230
                              clear hy230
                              by_cases c47 : y230.length < 8796093022208
                              · rw [if_pos c47] at H
                                have LMc47 := Aside0.mk c47
                                clear c47
                                obtain ⟨y233, hy233⟩ : ∃ y_ : List ByteArray, y_ = (y230 ++ [t221]) := ⟨_, rfl⟩
                                replace H : ((some (x3_1.drop ((ji43) : Int).toNat : List ByteArray)).bind fun y236 => (if y233.length + y236.length < 8796093022208 then (offshootlaw04_FracDense.l0 kj11 l0 (y233 ++ y236) (wrap64 (x4_1 + 1))) else (none))) = some r := by first | (rw [hy233]; with_reducible exact H) | (have H2_ := (Option.bind_some _ _).symm.trans H; rw [hy233]; with_reducible exact H2_) | (have H2_ := (Option.bind_some _ _).symm.trans H; with_reducible exact H2_) | with_reducible exact H | (rw [hy233]; exact H) | exact H
                                have Ny233 := Aside0.mk hy233
                                clear hy233
                                have c48b0 := eq_true (of_decide_eq_true (by first | (with_reducible assumption) | assumption) : 0 ≤ (ji43))
                                have c49b0 := eq_true (of_decide_eq_true (by first | (with_reducible assumption) | assumption) : (ji43) ≤ (x3_1.length : Int))
                                obtain ⟨y236, hy236⟩ : ∃ y_ : List ByteArray, y_ = (x3_1.drop ((ji43) : Int).toNat) := ⟨_, rfl⟩
                                replace H : (if y233.length + y236.length < 8796093022208 then (offshootlaw04_FracDense.l0 kj11 l0 (y233 ++ y236) (wrap64 (x4_1 + 1))) else (none)) = some r := by first | (rw [hy236]; with_reducible exact H) | (have H2_ := (Option.bind_some _ _).symm.trans H; rw [hy236]; with_reducible exact H2_) | (have H2_ := (Option.bind_some _ _).symm.trans H; with_reducible exact H2_) | with_reducible exact H | (rw [hy236]; exact H) | exact H
                                have Ny236 := Aside0.mk hy236
                                clear hy236
                                by_cases c50 : y233.length + y236.length < 8796093022208
                                · rw [if_pos c50] at H
                                  have LMc50 := Aside0.mk c50
                                  clear c50
                                  obtain ⟨y240, hy240⟩ : ∃ y_ : List ByteArray, y_ = (y233 ++ y236) := ⟨_, rfl⟩
                                  replace H : (offshootlaw04_FracDense.l0 kj11 l0 y240 (wrap64 (x4_1 + 1))) = some r := by first | (rw [hy240]; with_reducible exact H) | (have H2_ := (Option.bind_some _ _).symm.trans H; rw [hy240]; with_reducible exact H2_) | (have H2_ := (Option.bind_some _ _).symm.trans H; with_reducible exact H2_) | with_reducible exact H | (rw [hy240]; exact H) | exact H
                                  have Ny240 := Aside0.mk hy240
                                  clear hy240
                                  have H' := Aside0.mk H
                                  clear H
                                  go_wp2_with (first | (go_at_call 8; (with_reducible refine (frac_Between.calls kj11 x6_11 (⟨#[]⟩ : ByteArray) t221 t222 _ A41.out).mono ?_); rintro e w51 ⟨rfl, hb⟩; have n0_ := Aside0.mk (Kd.R_below (by (with_reducible repeat (first | apply Kd.R_alloc | apply Kd.R_drewN | apply Kd.R_drew)); exact HO_3.out) hb); have n1_ := Aside0.mk (below_step (by repeat (first | (with_reducible first | exact HB.out | apply below_alloc | apply pw_below_drewN | apply below_drew1) | exact HB.out)) hb); clear HO_3; clear HB; have HO_3 := n0_; have HB := n1_; clear n0_ n1_; (try clear hb); (try clear hb2); (try clear hk); (try clear hi)) | ((with_reducible refine gate_dst (N := 64) rfl ?_); (try (refine gate_guard (by rfl) ?_; dsimp only)); refine Kd.R_lit Kd.string _ 9 ?hg (N := 64) ?hd (xs := ([] : List ByteArray)) (inner := []) (ok := fun _ => True) (okp := fun _ => True) ?hr ?hp (fun _ hk => hk) trivial (Below.refl _ _) (Nat.le_refl _) (by simp) ?_; (case hd => rfl); (case hg => rfl); (case hr => first | (go_simp; done) | (go_simp; rfl)); (case hp => exact (Reps.none _ _)); intro v224 w52 ho53 hb hg_ hnew_; clear hg_ hnew_; (first | rw [← Ny223.out] at ho53 | (simp only [Int.reduceToNat] at ho53; rw [← Ny223.out] at ho53)); have n0_ := Aside0.mk (Kd.R_elder' (by (with_reducible repeat (first | apply Kd.R_alloc | apply Kd.R_drewN | apply Kd.R_drew)); exact HO_3.out) (Kd.R_base ho53) hb); have n1_ := Aside0.mk (Kd.R_lower (Kd.R_new' ho53 (Kd.R_lt (by (with_reducible repeat (first | apply Kd.R_alloc | apply Kd.R_drewN | apply Kd.R_drew)); exact HO_3.out))) (below_size (by repeat (first | (with_reducible first | exact HB.out | apply below_alloc | apply pw_below_drewN | apply below_drew1) | exact HB.out)))); have n2_ := Aside0.mk (below_step (by repeat (first | (with_reducible first | exact HB.out | apply below_alloc | apply pw_below_drewN | apply below_drew1) | exact HB.out)) hb); clear HO_3; clear HB; have HO_3 := n0_; have HO225 := n1_; have HB := n2_; clear n0_ n1_ n2_; clear hb ho53; have q54 : ((ji43) : Int) ≤ ((x3_1.length : Int) : Int) := of_decide_eq_true (by first | (with_reducible assumption) | assumption); obtain ⟨i054, hi054, _, hsz54, _⟩ := info_parts info9; have hroom54 : x3_1.length ≤ co13 := (Kd.R_reads' HO_3.out).2.1; have hC54 : Kd.C Kd.string _ Ao13 x3_1.length x3_1 := (Kd.R_reads' HO_3.out).2.2; have hcut54 := cut_to (P := Try.prog) 28 9 .i64 Try.underlying28 hi054 Ao13 x3_1.length co13 (ji43) (of_decide_eq_true (by first | (with_reducible assumption) | assumption)) q54 hroom54; have hr54 := Kd.C_take (m := ((ji43) : Int).toNat) hC54 (by omega); have hy54 : y226.length = ((ji43) : Int).toNat := (by rw [Ny226.out, List.length_take]; omega); rw [← Ny226.out] at hr54; rw [← hy54] at hcut54; have HR229 := Aside0.mk hr54; have HC229 := Aside0.mk (show y226.length ≤ co13 from by omega); clear hr54 hC54 hroom54 hi054 hsz54; have KY54 := Aside0.mk hy54; clear hy54; have KL54 := Aside0.mk (show ((ji43) : Int).toNat ≤ x3_1.length from by omega); replace q54 := eq_true q54) | ((with_reducible refine gate_builtin (b := .append) (xs := #[.tmp 65, .tmp 68]) rfl ?_); (try (refine gate_guard (by rfl) ?_; dsimp only)); at_builtin; refine Kd.R_append_rows Kd.string (w0 := w) w.heap.size rfl (.tmp 65) (.tmp 68) 28 9 (.string ⟨#[]⟩) 16 rfl Try.underlying28 info9 rfl (by decide) (by omega) v224 y223 y226 _ _ _ (fun k_ => some k_ ≠ (.slice Ao13 x3_1.length co13 : Value).ownBlock) (fun _ => False) rfl rfl ?aO ?aR (fun _ _ h => h) (fun _ h => h.elim) ?aF ?aB ?aS ?aL ?_; (case aR => repeat (first | exact (by repeat (first | (with_reducible exact HR229.out) | (with_reducible refine Kd.C_alloc ?_ _) | (with_reducible refine Kd.C_drewN ?_ _) | (with_reducible refine Kd.C_drew ?_) | exact HR229.out)) | (with_reducible refine Kd.C_alloc ?_ _) | (with_reducible refine Kd.C_drewN ?_ _) | (with_reducible refine Kd.C_drew ?_))); (case aB => exact (by repeat (first | (with_reducible first | exact HB.out | apply below_alloc | apply pw_below_drewN | apply below_drew1) | exact HB.out))); (case aF => exact (fun k_ hk => Kd.fresh' (Kd.R_lt (by (with_reducible repeat (first | apply Kd.R_alloc | apply Kd.R_drewN | apply Kd.R_drew)); exact HO_3.out)) k_ hk)); (case aO => exact (by (with_reducible repeat (first | apply Kd.R_alloc | apply Kd.R_drewN | apply Kd.R_drew)); exact Kd.R_mono HO225.out (fun _ hk => hk.2))); (case aS => exact (below_size (by repeat (first | (with_reducible first | exact HB.out | apply below_alloc | apply pw_below_drewN | apply below_drew1) | exact HB.out)))); (case aL => have := LMc46.out; omega); intro v231 w55 ho hb hg hat; rw [← Ny230.out] at ho; have n0_ := Aside0.mk (Kd.R_after (ok := (fun _ => True)) (by (with_reducible repeat (first | apply Kd.R_alloc | apply Kd.R_drewN | apply Kd.R_drew)); exact HO_3.out) hg hat); have n1_ := Aside0.mk (hb); have n2_ := Aside0.mk ((show Kd.C Kd.string w55 Ao13 y226.length y226 from by rw [Ny226.out]; exact Kd.C_take (m := ((ji43) : Int).toNat) ((Kd.R_reads' (Kd.R_after (ok := (fun _ => True)) (by (with_reducible repeat (first | apply Kd.R_alloc | apply Kd.R_drewN | apply Kd.R_drew)); exact HO_3.out) hg hat)).2.2) KL54.out)); have n3_ := Aside0.mk (ho); clear HO_3; clear HB; clear HR229; clear HO225; have HO_3 := n0_; have HB := n1_; have HR229 := n2_; have HO232 := n3_; clear n0_ n1_ n2_ n3_; clear ho hb hg hat) | ((with_reducible refine gate_builtin (b := .append) (xs := #[.tmp 70, .tmp 72]) rfl ?_); (try (refine gate_guard (by rfl) ?_; dsimp only)); at_builtin; refine Kd.R_append Kd.string (w0 := w) w.heap.size rfl (.tmp 70) (.tmp 72) 28 9 (.string ⟨#[]⟩) 16 rfl Try.underlying28 info9 rfl (by decide) (by omega) v231 y230 t221 [.string t221] (fun k_ => some k_ ≠ (.slice Ao13 x3_1.length co13 : Value).ownBlock) (fun _ => False) rfl rfl ?aP (fun _ hk => hk.elim) ?aF ?aO ?aB ?aS ?aL ?_; (case aP => exact rfl); (case aB => exact (by repeat (first | (with_reducible first | exact HB.out | apply below_alloc | apply pw_below_drewN | apply below_drew1) | exact HB.out))); (case aF => exact (fun k_ hk => Kd.fresh' (Kd.R_lt (by (with_reducible repeat (first | apply Kd.R_alloc | apply Kd.R_drewN | apply Kd.R_drew)); exact HO_3.out)) k_ hk)); (case aO => exact (by (with_reducible repeat (first | apply Kd.R_alloc | apply Kd.R_drewN | apply Kd.R_drew)); exact HO232.out)); (case aS => exact (below_size (by repeat (first | (with_reducible first | exact HB.out | apply below_alloc | apply pw_below_drewN | apply below_drew1) | exact HB.out)))); (case aL => have := LMc47.out; omega); intro v234 w56 ho hb hg hat; rw [← Ny233.out] at ho; have n0_ := Aside0.mk (Kd.R_after (ok := (fun _ => True)) (by (with_reducible repeat (first | apply Kd.R_alloc | apply Kd.R_drewN | apply Kd.R_drew)); exact HO_3.out) hg hat); have n1_ := Aside0.mk (hb); have n2_ := Aside0.mk ((show Kd.C Kd.string w56 Ao13 y226.length y226 from by rw [Ny226.out]; exact Kd.C_take (m := ((ji43) : Int).toNat) ((Kd.R_reads' (Kd.R_after (ok := (fun _ => True)) (by (with_reducible repeat (first | apply Kd.R_alloc | apply Kd.R_drewN | apply Kd.R_drew)); exact HO_3.out) hg hat)).2.2) KL54.out)); have n3_ := Aside0.mk (ho); clear HO_3; clear HB; clear HR229; clear HO232; have HO_3 := n0_; have HB := n1_; have HR229 := n2_; have HO235 := n3_; clear n0_ n1_ n2_ n3_; clear ho hb hg hat; have q57 : ((ji43) : Int) ≤ ((x3_1.length : Int) : Int) := of_decide_eq_true (by first | (with_reducible assumption) | assumption); obtain ⟨i057, hi057, _, hsz57, _⟩ := info_parts info9; have hroom57 : x3_1.length ≤ co13 := (Kd.R_reads' HO_3.out).2.1; have hC57 : Kd.C Kd.string _ Ao13 x3_1.length x3_1 := (Kd.R_reads' HO_3.out).2.2; have q057 : (0 : Int) ≤ ((ji43) : Int) := of_decide_eq_true (by first | (with_reducible assumption) | assumption); have hcut57 := cut_from (P := Try.prog) 28 9 .i64 Try.underlying28 hi057 1 hsz57 Ao13 x3_1.length co13 (ji43) q057 q57; have hr57 := Kd.C_drop (m := ((ji43) : Int).toNat) (c := co13) hC57 (by omega) hroom57; obtain ⟨A57, hA57⟩ : ∃ A1, A1 = (if co13 = ((ji43) : Int).toNat then Ao13 else (Ao13 : Option Addr).map (·.add (((ji43) : Int).toNat * 1))) := ⟨_, rfl⟩; obtain ⟨c57, hc57⟩ : ∃ c1, c1 = co13 - ((ji43) : Int).toNat := ⟨_, rfl⟩; have hy57 : y236.length = x3_1.length - ((ji43) : Int).toNat := (by rw [Ny236.out, List.length_drop] <;> omega); rw [show (x3_1).drop ((ji43) : Int).toNat = y236 from Ny236.out.symm] at hr57; replace hr57 : Kd.C Kd.string _ A57 y236.length y236 := (by rw [hA57]; exact hr57); rw [← hy57, ← hA57, ← hc57] at hcut57; have HR239 := Aside0.mk hr57; have HC239 := Aside0.mk (show y236.length ≤ c57 from by rw [hy57, hc57]; exact Nat.sub_le_sub_right hroom57 _); clear hr57 hC57 hroom57 hi057 hsz57 hc57; have KY57 := Aside0.mk hy57; have KA57 := Aside0.mk hA57; clear hy57 hA57; have KL57 := Aside0.mk (show ((ji43) : Int).toNat ≤ x3_1.length from by omega); replace q57 := eq_true q57) | ((with_reducible refine gate_builtin (b := .append) (xs := #[.tmp 74, .tmp 77]) rfl ?_); (try (refine gate_guard (by rfl) ?_; dsimp only)); at_builtin; refine Kd.R_append_rows Kd.string (w0 := w) w.heap.size rfl (.tmp 74) (.tmp 77) 28 9 (.string ⟨#[]⟩) 16 rfl Try.underlying28 info9 rfl (by decide) (by omega) v234 y233 y236 _ _ _ (fun k_ => some k_ ≠ (.slice Ao13 x3_1.length co13 : Value).ownBlock) (fun _ => False) rfl rfl ?aO ?aR (fun _ _ h => h) (fun _ h => h.elim) ?aF ?aB ?aS ?aL ?_; (case aR => repeat (first | exact (by repeat (first | (with_reducible exact HR239.out) | (with_reducible refine Kd.C_alloc ?_ _) | (with_reducible refine Kd.C_drewN ?_ _) | (with_reducible refine Kd.C_drew ?_) | exact HR239.out)) | (with_reducible refine Kd.C_alloc ?_ _) | (with_reducible refine Kd.C_drewN ?_ _) | (with_reducible refine Kd.C_drew ?_))); (case aB => exact (by repeat (first | (with_reducible first | exact HB.out | apply below_alloc | apply pw_below_drewN | apply below_drew1) | exact HB.out))); (case aF => exact (fun k_ hk => Kd.fresh' (Kd.R_lt (by (with_reducible repeat (first | apply Kd.R_alloc | apply Kd.R_drewN | apply Kd.R_drew)); exact HO_3.out)) k_ hk)); (case aO => exact (by (with_reducible repeat (first | apply Kd.R_alloc | apply Kd.R_drewN | apply Kd.R_drew)); exact HO235.out)); (case aS => exact (below_size (by repeat (first | (with_reducible first | exact HB.out | apply below_alloc | apply pw_below_drewN | apply below_drew1) | exact HB.out)))); (case aL => have := LMc50.out; omega); intro v241 w58 ho hb hg hat; rw [← Ny240.out] at ho; have n0_ := Aside0.mk (Kd.R_after (ok := (fun _ => True)) (by (with_reducible repeat (first | apply Kd.R_alloc | apply Kd.R_drewN | apply Kd.R_drew)); exact HO_3.out) hg hat); have n1_ := Aside0.mk (hb); have n2_ := Aside0.mk ((show Kd.C Kd.string w58 Ao13 y226.length y226 from by rw [Ny226.out]; exact Kd.C_take (m := ((ji43) : Int).toNat) ((Kd.R_reads' (Kd.R_after (ok := (fun _ => True)) (by (with_reducible repeat (first | apply Kd.R_alloc | apply Kd.R_drewN | apply Kd.R_drew)); exact HO_3.out) hg hat)).2.2) KL54.out)); have n3_ := Aside0.mk ((show Kd.C Kd.string w58 A57 y236.length y236 from by rw [Ny236.out, KA57.out]; exact Kd.C_drop (m := ((ji43) : Int).toNat) (c := co13) ((Kd.R_reads' (Kd.R_after (ok := (fun _ => True)) (by (with_reducible repeat (first | apply Kd.R_alloc | apply Kd.R_drewN | apply Kd.R_drew)); exact HO_3.out) hg hat)).2.2) KL57.out ((Kd.R_reads' (Kd.R_after (ok := (fun _ => True)) (by (with_reducible repeat (first | apply Kd.R_alloc | apply Kd.R_drewN | apply Kd.R_drew)); exact HO_3.out) hg hat)).2.1))); have n4_ := Aside0.mk (ho); clear HO_3; clear HB; clear HR229; clear HR239; clear HO235; have HO_3 := n0_; have HB := n1_; have HR229 := n2_; have HR239 := n3_; have HO242 := n4_; clear n0_ n1_ n2_ n3_ n4_; clear ho hb hg hat))
                                  repeat (go_quiet (first | (go_at_call 8; (with_reducible refine (frac_Between.calls kj11 x6_11 (⟨#[]⟩ : ByteArray) t221 t222 _ A41.out).mono ?_); rintro e w51 ⟨rfl, hb⟩; have n0_ := Aside0.mk (Kd.R_below (by (with_reducible repeat (first | apply Kd.R_alloc | apply Kd.R_drewN | apply Kd.R_drew)); exact HO_3.out) hb); have n1_ := Aside0.mk (below_step (by repeat (first | (with_reducible first | exact HB.out | apply below_alloc | apply pw_below_drewN | apply below_drew1) | exact HB.out)) hb); clear HO_3; clear HB; have HO_3 := n0_; have HB := n1_; clear n0_ n1_; (try clear hb); (try clear hb2); (try clear hk); (try clear hi)) | ((with_reducible refine gate_dst (N := 64) rfl ?_); (try (refine gate_guard (by rfl) ?_; dsimp only)); refine Kd.R_lit Kd.string _ 9 ?hg (N := 64) ?hd (xs := ([] : List ByteArray)) (inner := []) (ok := fun _ => True) (okp := fun _ => True) ?hr ?hp (fun _ hk => hk) trivial (Below.refl _ _) (Nat.le_refl _) (by simp) ?_; (case hd => rfl); (case hg => rfl); (case hr => first | (go_simp; done) | (go_simp; rfl)); (case hp => exact (Reps.none _ _)); intro v224 w52 ho53 hb hg_ hnew_; clear hg_ hnew_; (first | rw [← Ny223.out] at ho53 | (simp only [Int.reduceToNat] at ho53; rw [← Ny223.out] at ho53)); have n0_ := Aside0.mk (Kd.R_elder' (by (with_reducible repeat (first | apply Kd.R_alloc | apply Kd.R_drewN | apply Kd.R_drew)); exact HO_3.out) (Kd.R_base ho53) hb); have n1_ := Aside0.mk (Kd.R_lower (Kd.R_new' ho53 (Kd.R_lt (by (with_reducible repeat (first | apply Kd.R_alloc | apply Kd.R_drewN | apply Kd.R_drew)); exact HO_3.out))) (below_size (by repeat (first | (with_reducible first | exact HB.out | apply below_alloc | apply pw_below_drewN | apply below_drew1) | exact HB.out)))); have n2_ := Aside0.mk (below_step (by repeat (first | (with_reducible first | exact HB.out | apply below_alloc | apply pw_below_drewN | apply below_drew1) | exact HB.out)) hb); clear HO_3; clear HB; have HO_3 := n0_; have HO225 := n1_; have HB := n2_; clear n0_ n1_ n2_; clear hb ho53; have q54 : ((ji43) : Int) ≤ ((x3_1.length : Int) : Int) := of_decide_eq_true (by first | (with_reducible assumption) | assumption); obtain ⟨i054, hi054, _, hsz54, _⟩ := info_parts info9; have hroom54 : x3_1.length ≤ co13 := (Kd.R_reads' HO_3.out).2.1; have hC54 : Kd.C Kd.string _ Ao13 x3_1.length x3_1 := (Kd.R_reads' HO_3.out).2.2; have hcut54 := cut_to (P := Try.prog) 28 9 .i64 Try.underlying28 hi054 Ao13 x3_1.length co13 (ji43) (of_decide_eq_true (by first | (with_reducible assumption) | assumption)) q54 hroom54; have hr54 := Kd.C_take (m := ((ji43) : Int).toNat) hC54 (by omega); have hy54 : y226.length = ((ji43) : Int).toNat := (by rw [Ny226.out, List.length_take]; omega); rw [← Ny226.out] at hr54; rw [← hy54] at hcut54; have HR229 := Aside0.mk hr54; have HC229 := Aside0.mk (show y226.length ≤ co13 from by omega); clear hr54 hC54 hroom54 hi054 hsz54; have KY54 := Aside0.mk hy54; clear hy54; have KL54 := Aside0.mk (show ((ji43) : Int).toNat ≤ x3_1.length from by omega); replace q54 := eq_true q54) | ((with_reducible refine gate_builtin (b := .append) (xs := #[.tmp 65, .tmp 68]) rfl ?_); (try (refine gate_guard (by rfl) ?_; dsimp only)); at_builtin; refine Kd.R_append_rows Kd.string (w0 := w) w.heap.size rfl (.tmp 65) (.tmp 68) 28 9 (.string ⟨#[]⟩) 16 rfl Try.underlying28 info9 rfl (by decide) (by omega) v224 y223 y226 _ _ _ (fun k_ => some k_ ≠ (.slice Ao13 x3_1.length co13 : Value).ownBlock) (fun _ => False) rfl rfl ?aO ?aR (fun _ _ h => h) (fun _ h => h.elim) ?aF ?aB ?aS ?aL ?_; (case aR => repeat (first | exact (by repeat (first | (with_reducible exact HR229.out) | (with_reducible refine Kd.C_alloc ?_ _) | (with_reducible refine Kd.C_drewN ?_ _) | (with_reducible refine Kd.C_drew ?_) | exact HR229.out)) | (with_reducible refine Kd.C_alloc ?_ _) | (with_reducible refine Kd.C_drewN ?_ _) | (with_reducible refine Kd.C_drew ?_))); (case aB => exact (by repeat (first | (with_reducible first | exact HB.out | apply below_alloc | apply pw_below_drewN | apply below_drew1) | exact HB.out))); (case aF => exact (fun k_ hk => Kd.fresh' (Kd.R_lt (by (with_reducible repeat (first | apply Kd.R_alloc | apply Kd.R_drewN | apply Kd.R_drew)); exact HO_3.out)) k_ hk)); (case aO => exact (by (with_reducible repeat (first | apply Kd.R_alloc | apply Kd.R_drewN | apply Kd.R_drew)); exact Kd.R_mono HO225.out (fun _ hk => hk.2))); (case aS => exact (below_size (by repeat (first | (with_reducible first | exact HB.out | apply below_alloc | apply pw_below_drewN | apply below_drew1) | exact HB.out)))); (case aL => have := LMc46.out; omega); intro v231 w55 ho hb hg hat; rw [← Ny230.out] at ho; have n0_ := Aside0.mk (Kd.R_after (ok := (fun _ => True)) (by (with_reducible repeat (first | apply Kd.R_alloc | apply Kd.R_drewN | apply Kd.R_drew)); exact HO_3.out) hg hat); have n1_ := Aside0.mk (hb); have n2_ := Aside0.mk ((show Kd.C Kd.string w55 Ao13 y226.length y226 from by rw [Ny226.out]; exact Kd.C_take (m := ((ji43) : Int).toNat) ((Kd.R_reads' (Kd.R_after (ok := (fun _ => True)) (by (with_reducible repeat (first | apply Kd.R_alloc | apply Kd.R_drewN | apply Kd.R_drew)); exact HO_3.out) hg hat)).2.2) KL54.out)); have n3_ := Aside0.mk (ho); clear HO_3; clear HB; clear HR229; clear HO225; have HO_3 := n0_; have HB := n1_; have HR229 := n2_; have HO232 := n3_; clear n0_ n1_ n2_ n3_; clear ho hb hg hat) | ((with_reducible refine gate_builtin (b := .append) (xs := #[.tmp 70, .tmp 72]) rfl ?_); (try (refine gate_guard (by rfl) ?_; dsimp only)); at_builtin; refine Kd.R_append Kd.string (w0 := w) w.heap.size rfl (.tmp 70) (.tmp 72) 28 9 (.string ⟨#[]⟩) 16 rfl Try.underlying28 info9 rfl (by decide) (by omega) v231 y230 t221 [.string t221] (fun k_ => some k_ ≠ (.slice Ao13 x3_1.length co13 : Value).ownBlock) (fun _ => False) rfl rfl ?aP (fun _ hk => hk.elim) ?aF ?aO ?aB ?aS ?aL ?_; (case aP => exact rfl); (case aB => exact (by repeat (first | (with_reducible first | exact HB.out | apply below_alloc | apply pw_below_drewN | apply below_drew1) | exact HB.out))); (case aF => exact (fun k_ hk => Kd.fresh' (Kd.R_lt (by (with_reducible repeat (first | apply Kd.R_alloc | apply Kd.R_drewN | apply Kd.R_drew)); exact HO_3.out)) k_ hk)); (case aO => exact (by (with_reducible repeat (first | apply Kd.R_alloc | apply Kd.R_drewN | apply Kd.R_drew)); exact HO232.out)); (case aS => exact (below_size (by repeat (first | (with_reducible first | exact HB.out | apply below_alloc | apply pw_below_drewN | apply below_drew1) | exact HB.out)))); (case aL => have := LMc47.out; omega); intro v234 w56 ho hb hg hat; rw [← Ny233.out] at ho; have n0_ := Aside0.mk (Kd.R_after (ok := (fun _ => True)) (by (with_reducible repeat (first | apply Kd.R_alloc | apply Kd.R_drewN | apply Kd.R_drew)); exact HO_3.out) hg hat); have n1_ := Aside0.mk (hb); have n2_ := Aside0.mk ((show Kd.C Kd.string w56 Ao13 y226.length y226 from by rw [Ny226.out]; exact Kd.C_take (m := ((ji43) : Int).toNat) ((Kd.R_reads' (Kd.R_after (ok := (fun _ => True)) (by (with_reducible repeat (first | apply Kd.R_alloc | apply Kd.R_drewN | apply Kd.R_drew)); exact HO_3.out) hg hat)).2.2) KL54.out)); have n3_ := Aside0.mk (ho); clear HO_3; clear HB; clear HR229; clear HO232; have HO_3 := n0_; have HB := n1_; have HR229 := n2_; have HO235 := n3_; clear n0_ n1_ n2_ n3_; clear ho hb hg hat; have q57 : ((ji43) : Int) ≤ ((x3_1.length : Int) : Int) := of_decide_eq_true (by first | (with_reducible assumption) | assumption); obtain ⟨i057, hi057, _, hsz57, _⟩ := info_parts info9; have hroom57 : x3_1.length ≤ co13 := (Kd.R_reads' HO_3.out).2.1; have hC57 : Kd.C Kd.string _ Ao13 x3_1.length x3_1 := (Kd.R_reads' HO_3.out).2.2; have q057 : (0 : Int) ≤ ((ji43) : Int) := of_decide_eq_true (by first | (with_reducible assumption) | assumption); have hcut57 := cut_from (P := Try.prog) 28 9 .i64 Try.underlying28 hi057 1 hsz57 Ao13 x3_1.length co13 (ji43) q057 q57; have hr57 := Kd.C_drop (m := ((ji43) : Int).toNat) (c := co13) hC57 (by omega) hroom57; obtain ⟨A57, hA57⟩ : ∃ A1, A1 = (if co13 = ((ji43) : Int).toNat then Ao13 else (Ao13 : Option Addr).map (·.add (((ji43) : Int).toNat * 1))) := ⟨_, rfl⟩; obtain ⟨c57, hc57⟩ : ∃ c1, c1 = co13 - ((ji43) : Int).toNat := ⟨_, rfl⟩; have hy57 : y236.length = x3_1.length - ((ji43) : Int).toNat := (by rw [Ny236.out, List.length_drop] <;> omega); rw [show (x3_1).drop ((ji43) : Int).toNat = y236 from Ny236.out.symm] at hr57; replace hr57 : Kd.C Kd.string _ A57 y236.length y236 := (by rw [hA57]; exact hr57); rw [← hy57, ← hA57, ← hc57] at hcut57; have HR239 := Aside0.mk hr57; have HC239 := Aside0.mk (show y236.length ≤ c57 from by rw [hy57, hc57]; exact Nat.sub_le_sub_right hroom57 _); clear hr57 hC57 hroom57 hi057 hsz57 hc57; have KY57 := Aside0.mk hy57; have KA57 := Aside0.mk hA57; clear hy57 hA57; have KL57 := Aside0.mk (show ((ji43) : Int).toNat ≤ x3_1.length from by omega); replace q57 := eq_true q57) | ((with_reducible refine gate_builtin (b := .append) (xs := #[.tmp 74, .tmp 77]) rfl ?_); (try (refine gate_guard (by rfl) ?_; dsimp only)); at_builtin; refine Kd.R_append_rows Kd.string (w0 := w) w.heap.size rfl (.tmp 74) (.tmp 77) 28 9 (.string ⟨#[]⟩) 16 rfl Try.underlying28 info9 rfl (by decide) (by omega) v234 y233 y236 _ _ _ (fun k_ => some k_ ≠ (.slice Ao13 x3_1.length co13 : Value).ownBlock) (fun _ => False) rfl rfl ?aO ?aR (fun _ _ h => h) (fun _ h => h.elim) ?aF ?aB ?aS ?aL ?_; (case aR => repeat (first | exact (by repeat (first | (with_reducible exact HR239.out) | (with_reducible refine Kd.C_alloc ?_ _) | (with_reducible refine Kd.C_drewN ?_ _) | (with_reducible refine Kd.C_drew ?_) | exact HR239.out)) | (with_reducible refine Kd.C_alloc ?_ _) | (with_reducible refine Kd.C_drewN ?_ _) | (with_reducible refine Kd.C_drew ?_))); (case aB => exact (by repeat (first | (with_reducible first | exact HB.out | apply below_alloc | apply pw_below_drewN | apply below_drew1) | exact HB.out))); (case aF => exact (fun k_ hk => Kd.fresh' (Kd.R_lt (by (with_reducible repeat (first | apply Kd.R_alloc | apply Kd.R_drewN | apply Kd.R_drew)); exact HO_3.out)) k_ hk)); (case aO => exact (by (with_reducible repeat (first | apply Kd.R_alloc | apply Kd.R_drewN | apply Kd.R_drew)); exact HO235.out)); (case aS => exact (below_size (by repeat (first | (with_reducible first | exact HB.out | apply below_alloc | apply pw_below_drewN | apply below_drew1) | exact HB.out)))); (case aL => have := LMc50.out; omega); intro v241 w58 ho hb hg hat; rw [← Ny240.out] at ho; have n0_ := Aside0.mk (Kd.R_after (ok := (fun _ => True)) (by (with_reducible repeat (first | apply Kd.R_alloc | apply Kd.R_drewN | apply Kd.R_drew)); exact HO_3.out) hg hat); have n1_ := Aside0.mk (hb); have n2_ := Aside0.mk ((show Kd.C Kd.string w58 Ao13 y226.length y226 from by rw [Ny226.out]; exact Kd.C_take (m := ((ji43) : Int).toNat) ((Kd.R_reads' (Kd.R_after (ok := (fun _ => True)) (by (with_reducible repeat (first | apply Kd.R_alloc | apply Kd.R_drewN | apply Kd.R_drew)); exact HO_3.out) hg hat)).2.2) KL54.out)); have n3_ := Aside0.mk ((show Kd.C Kd.string w58 A57 y236.length y236 from by rw [Ny236.out, KA57.out]; exact Kd.C_drop (m := ((ji43) : Int).toNat) (c := co13) ((Kd.R_reads' (Kd.R_after (ok := (fun _ => True)) (by (with_reducible repeat (first | apply Kd.R_alloc | apply Kd.R_drewN | apply Kd.R_drew)); exact HO_3.out) hg hat)).2.2) KL57.out ((Kd.R_reads' (Kd.R_after (ok := (fun _ => True)) (by (with_reducible repeat (first | apply Kd.R_alloc | apply Kd.R_drewN | apply Kd.R_drew)); exact HO_3.out) hg hat)).2.1))); have n4_ := Aside0.mk (ho); clear HO_3; clear HB; clear HR229; clear HR239; clear HO235; have HO_3 := n0_; have HB := n1_; have HR229 := n2_; have HR239 := n3_; have HO242 := n4_; clear n0_ n1_ n2_ n3_ n4_; clear ho hb hg hat)); try go_wp2_with (first | (go_at_call 8; (with_reducible refine (frac_Between.calls kj11 x6_11 (⟨#[]⟩ : ByteArray) t221 t222 _ A41.out).mono ?_); rintro e w51 ⟨rfl, hb⟩; have n0_ := Aside0.mk (Kd.R_below (by (with_reducible repeat (first | apply Kd.R_alloc | apply Kd.R_drewN | apply Kd.R_drew)); exact HO_3.out) hb); have n1_ := Aside0.mk (below_step (by repeat (first | (with_reducible first | exact HB.out | apply below_alloc | apply pw_below_drewN | apply below_drew1) | exact HB.out)) hb); clear HO_3; clear HB; have HO_3 := n0_; have HB := n1_; clear n0_ n1_; (try clear hb); (try clear hb2); (try clear hk); (try clear hi)) | ((with_reducible refine gate_dst (N := 64) rfl ?_); (try (refine gate_guard (by rfl) ?_; dsimp only)); refine Kd.R_lit Kd.string _ 9 ?hg (N := 64) ?hd (xs := ([] : List ByteArray)) (inner := []) (ok := fun _ => True) (okp := fun _ => True) ?hr ?hp (fun _ hk => hk) trivial (Below.refl _ _) (Nat.le_refl _) (by simp) ?_; (case hd => rfl); (case hg => rfl); (case hr => first | (go_simp; done) | (go_simp; rfl)); (case hp => exact (Reps.none _ _)); intro v224 w52 ho53 hb hg_ hnew_; clear hg_ hnew_; (first | rw [← Ny223.out] at ho53 | (simp only [Int.reduceToNat] at ho53; rw [← Ny223.out] at ho53)); have n0_ := Aside0.mk (Kd.R_elder' (by (with_reducible repeat (first | apply Kd.R_alloc | apply Kd.R_drewN | apply Kd.R_drew)); exact HO_3.out) (Kd.R_base ho53) hb); have n1_ := Aside0.mk (Kd.R_lower (Kd.R_new' ho53 (Kd.R_lt (by (with_reducible repeat (first | apply Kd.R_alloc | apply Kd.R_drewN | apply Kd.R_drew)); exact HO_3.out))) (below_size (by repeat (first | (with_reducible first | exact HB.out | apply below_alloc | apply pw_below_drewN | apply below_drew1) | exact HB.out)))); have n2_ := Aside0.mk (below_step (by repeat (first | (with_reducible first | exact HB.out | apply below_alloc | apply pw_below_drewN | apply below_drew1) | exact HB.out)) hb); clear HO_3; clear HB; have HO_3 := n0_; have HO225 := n1_; have HB := n2_; clear n0_ n1_ n2_; clear hb ho53; have q54 : ((ji43) : Int) ≤ ((x3_1.length : Int) : Int) := of_decide_eq_true (by first | (with_reducible assumption) | assumption); obtain ⟨i054, hi054, _, hsz54, _⟩ := info_parts info9; have hroom54 : x3_1.length ≤ co13 := (Kd.R_reads' HO_3.out).2.1; have hC54 : Kd.C Kd.string _ Ao13 x3_1.length x3_1 := (Kd.R_reads' HO_3.out).2.2; have hcut54 := cut_to (P := Try.prog) 28 9 .i64 Try.underlying28 hi054 Ao13 x3_1.length co13 (ji43) (of_decide_eq_true (by first | (with_reducible assumption) | assumption)) q54 hroom54; have hr54 := Kd.C_take (m := ((ji43) : Int).toNat) hC54 (by omega); have hy54 : y226.length = ((ji43) : Int).toNat := (by rw [Ny226.out, List.length_take]; omega); rw [← Ny226.out] at hr54; rw [← hy54] at hcut54; have HR229 := Aside0.mk hr54; have HC229 := Aside0.mk (show y226.length ≤ co13 from by omega); clear hr54 hC54 hroom54 hi054 hsz54; have KY54 := Aside0.mk hy54; clear hy54; have KL54 := Aside0.mk (show ((ji43) : Int).toNat ≤ x3_1.length from by omega); replace q54 := eq_true q54) | ((with_reducible refine gate_builtin (b := .append) (xs := #[.tmp 65, .tmp 68]) rfl ?_); (try (refine gate_guard (by rfl) ?_; dsimp only)); at_builtin; refine Kd.R_append_rows Kd.string (w0 := w) w.heap.size rfl (.tmp 65) (.tmp 68) 28 9 (.string ⟨#[]⟩) 16 rfl Try.underlying28 info9 rfl (by decide) (by omega) v224 y223 y226 _ _ _ (fun k_ => some k_ ≠ (.slice Ao13 x3_1.length co13 : Value).ownBlock) (fun _ => False) rfl rfl ?aO ?aR (fun _ _ h => h) (fun _ h => h.elim) ?aF ?aB ?aS ?aL ?_; (case aR => repeat (first | exact (by repeat (first | (with_reducible exact HR229.out) | (with_reducible refine Kd.C_alloc ?_ _) | (with_reducible refine Kd.C_drewN ?_ _) | (with_reducible refine Kd.C_drew ?_) | exact HR229.out)) | (with_reducible refine Kd.C_alloc ?_ _) | (with_reducible refine Kd.C_drewN ?_ _) | (with_reducible refine Kd.C_drew ?_))); (case aB => exact (by repeat (first | (with_reducible first | exact HB.out | apply below_alloc | apply pw_below_drewN | apply below_drew1) | exact HB.out))); (case aF => exact (fun k_ hk => Kd.fresh' (Kd.R_lt (by (with_reducible repeat (first | apply Kd.R_alloc | apply Kd.R_drewN | apply Kd.R_drew)); exact HO_3.out)) k_ hk)); (case aO => exact (by (with_reducible repeat (first | apply Kd.R_alloc | apply Kd.R_drewN | apply Kd.R_drew)); exact Kd.R_mono HO225.out (fun _ hk => hk.2))); (case aS => exact (below_size (by repeat (first | (with_reducible first | exact HB.out | apply below_alloc | apply pw_below_drewN | apply below_drew1) | exact HB.out)))); (case aL => have := LMc46.out; omega); intro v231 w55 ho hb hg hat; rw [← Ny230.out] at ho; have n0_ := Aside0.mk (Kd.R_after (ok := (fun _ => True)) (by (with_reducible repeat (first | apply Kd.R_alloc | apply Kd.R_drewN | apply Kd.R_drew)); exact HO_3.out) hg hat); have n1_ := Aside0.mk (hb); have n2_ := Aside0.mk ((show Kd.C Kd.string w55 Ao13 y226.length y226 from by rw [Ny226.out]; exact Kd.C_take (m := ((ji43) : Int).toNat) ((Kd.R_reads' (Kd.R_after (ok := (fun _ => True)) (by (with_reducible repeat (first | apply Kd.R_alloc | apply Kd.R_drewN | apply Kd.R_drew)); exact HO_3.out) hg hat)).2.2) KL54.out)); have n3_ := Aside0.mk (ho); clear HO_3; clear HB; clear HR229; clear HO225; have HO_3 := n0_; have HB := n1_; have HR229 := n2_; have HO232 := n3_; clear n0_ n1_ n2_ n3_; clear ho hb hg hat) | ((with_reducible refine gate_builtin (b := .append) (xs := #[.tmp 70, .tmp 72]) rfl ?_); (try (refine gate_guard (by rfl) ?_; dsimp only)); at_builtin; refine Kd.R_append Kd.string (w0 := w) w.heap.size rfl (.tmp 70) (.tmp 72) 28 9 (.string ⟨#[]⟩) 16 rfl Try.underlying28 info9 rfl (by decide) (by omega) v231 y230 t221 [.string t221] (fun k_ => some k_ ≠ (.slice Ao13 x3_1.length co13 : Value).ownBlock) (fun _ => False) rfl rfl ?aP (fun _ hk => hk.elim) ?aF ?aO ?aB ?aS ?aL ?_; (case aP => exact rfl); (case aB => exact (by repeat (first | (with_reducible first | exact HB.out | apply below_alloc | apply pw_below_drewN | apply below_drew1) | exact HB.out))); (case aF => exact (fun k_ hk => Kd.fresh' (Kd.R_lt (by (with_reducible repeat (first | apply Kd.R_alloc | apply Kd.R_drewN | apply Kd.R_drew)); exact HO_3.out)) k_ hk)); (case aO => exact (by (with_reducible repeat (first | apply Kd.R_alloc | apply Kd.R_drewN | apply Kd.R_drew)); exact HO232.out)); (case aS => exact (below_size (by repeat (first | (with_reducible first | exact HB.out | apply below_alloc | apply pw_below_drewN | apply below_drew1) | exact HB.out)))); (case aL => have := LMc47.out; omega); intro v234 w56 ho hb hg hat; rw [← Ny233.out] at ho; have n0_ := Aside0.mk (Kd.R_after (ok := (fun _ => True)) (by (with_reducible repeat (first | apply Kd.R_alloc | apply Kd.R_drewN | apply Kd.R_drew)); exact HO_3.out) hg hat); have n1_ := Aside0.mk (hb); have n2_ := Aside0.mk ((show Kd.C Kd.string w56 Ao13 y226.length y226 from by rw [Ny226.out]; exact Kd.C_take (m := ((ji43) : Int).toNat) ((Kd.R_reads' (Kd.R_after (ok := (fun _ => True)) (by (with_reducible repeat (first | apply Kd.R_alloc | apply Kd.R_drewN | apply Kd.R_drew)); exact HO_3.out) hg hat)).2.2) KL54.out)); have n3_ := Aside0.mk (ho); clear HO_3; clear HB; clear HR229; clear HO232; have HO_3 := n0_; have HB := n1_; have HR229 := n2_; have HO235 := n3_; clear n0_ n1_ n2_ n3_; clear ho hb hg hat; have q57 : ((ji43) : Int) ≤ ((x3_1.length : Int) : Int) := of_decide_eq_true (by first | (with_reducible assumption) | assumption); obtain ⟨i057, hi057, _, hsz57, _⟩ := info_parts info9; have hroom57 : x3_1.length ≤ co13 := (Kd.R_reads' HO_3.out).2.1; have hC57 : Kd.C Kd.string _ Ao13 x3_1.length x3_1 := (Kd.R_reads' HO_3.out).2.2; have q057 : (0 : Int) ≤ ((ji43) : Int) := of_decide_eq_true (by first | (with_reducible assumption) | assumption); have hcut57 := cut_from (P := Try.prog) 28 9 .i64 Try.underlying28 hi057 1 hsz57 Ao13 x3_1.length co13 (ji43) q057 q57; have hr57 := Kd.C_drop (m := ((ji43) : Int).toNat) (c := co13) hC57 (by omega) hroom57; obtain ⟨A57, hA57⟩ : ∃ A1, A1 = (if co13 = ((ji43) : Int).toNat then Ao13 else (Ao13 : Option Addr).map (·.add (((ji43) : Int).toNat * 1))) := ⟨_, rfl⟩; obtain ⟨c57, hc57⟩ : ∃ c1, c1 = co13 - ((ji43) : Int).toNat := ⟨_, rfl⟩; have hy57 : y236.length = x3_1.length - ((ji43) : Int).toNat := (by rw [Ny236.out, List.length_drop] <;> omega); rw [show (x3_1).drop ((ji43) : Int).toNat = y236 from Ny236.out.symm] at hr57; replace hr57 : Kd.C Kd.string _ A57 y236.length y236 := (by rw [hA57]; exact hr57); rw [← hy57, ← hA57, ← hc57] at hcut57; have HR239 := Aside0.mk hr57; have HC239 := Aside0.mk (show y236.length ≤ c57 from by rw [hy57, hc57]; exact Nat.sub_le_sub_right hroom57 _); clear hr57 hC57 hroom57 hi057 hsz57 hc57; have KY57 := Aside0.mk hy57; have KA57 := Aside0.mk hA57; clear hy57 hA57; have KL57 := Aside0.mk (show ((ji43) : Int).toNat ≤ x3_1.length from by omega); replace q57 := eq_true q57) | ((with_reducible refine gate_builtin (b := .append) (xs := #[.tmp 74, .tmp 77]) rfl ?_); (try (refine gate_guard (by rfl) ?_; dsimp only)); at_builtin; refine Kd.R_append_rows Kd.string (w0 := w) w.heap.size rfl (.tmp 74) (.tmp 77) 28 9 (.string ⟨#[]⟩) 16 rfl Try.underlying28 info9 rfl (by decide) (by omega) v234 y233 y236 _ _ _ (fun k_ => some k_ ≠ (.slice Ao13 x3_1.length co13 : Value).ownBlock) (fun _ => False) rfl rfl ?aO ?aR (fun _ _ h => h) (fun _ h => h.elim) ?aF ?aB ?aS ?aL ?_; (case aR => repeat (first | exact (by repeat (first | (with_reducible exact HR239.out) | (with_reducible refine Kd.C_alloc ?_ _) | (with_reducible refine Kd.C_drewN ?_ _) | (with_reducible refine Kd.C_drew ?_) | exact HR239.out)) | (with_reducible refine Kd.C_alloc ?_ _) | (with_reducible refine Kd.C_drewN ?_ _) | (with_reducible refine Kd.C_drew ?_))); (case aB => exact (by repeat (first | (with_reducible first | exact HB.out | apply below_alloc | apply pw_below_drewN | apply below_drew1) | exact HB.out))); (case aF => exact (fun k_ hk => Kd.fresh' (Kd.R_lt (by (with_reducible repeat (first | apply Kd.R_alloc | apply Kd.R_drewN | apply Kd.R_drew)); exact HO_3.out)) k_ hk)); (case aO => exact (by (with_reducible repeat (first | apply Kd.R_alloc | apply Kd.R_drewN | apply Kd.R_drew)); exact HO235.out)); (case aS => exact (below_size (by repeat (first | (with_reducible first | exact HB.out | apply below_alloc | apply pw_below_drewN | apply below_drew1) | exact HB.out)))); (case aL => have := LMc50.out; omega); intro v241 w58 ho hb hg hat; rw [← Ny240.out] at ho; have n0_ := Aside0.mk (Kd.R_after (ok := (fun _ => True)) (by (with_reducible repeat (first | apply Kd.R_alloc | apply Kd.R_drewN | apply Kd.R_drew)); exact HO_3.out) hg hat); have n1_ := Aside0.mk (hb); have n2_ := Aside0.mk ((show Kd.C Kd.string w58 Ao13 y226.length y226 from by rw [Ny226.out]; exact Kd.C_take (m := ((ji43) : Int).toNat) ((Kd.R_reads' (Kd.R_after (ok := (fun _ => True)) (by (with_reducible repeat (first | apply Kd.R_alloc | apply Kd.R_drewN | apply Kd.R_drew)); exact HO_3.out) hg hat)).2.2) KL54.out)); have n3_ := Aside0.mk ((show Kd.C Kd.string w58 A57 y236.length y236 from by rw [Ny236.out, KA57.out]; exact Kd.C_drop (m := ((ji43) : Int).toNat) (c := co13) ((Kd.R_reads' (Kd.R_after (ok := (fun _ => True)) (by (with_reducible repeat (first | apply Kd.R_alloc | apply Kd.R_drewN | apply Kd.R_drew)); exact HO_3.out) hg hat)).2.2) KL57.out ((Kd.R_reads' (Kd.R_after (ok := (fun _ => True)) (by (with_reducible repeat (first | apply Kd.R_alloc | apply Kd.R_drewN | apply Kd.R_drew)); exact HO_3.out) hg hat)).2.1))); have n4_ := Aside0.mk (ho); clear HO_3; clear HB; clear HR229; clear HR239; clear HO235; have HO_3 := n0_; have HB := n1_; have HR229 := n2_; have HR239 := n3_; have HO242 := n4_; clear n0_ n1_ n2_ n3_ n4_; clear ho hb hg hat)))
                                  go_roundg kj11
                                  case measure => have := HK1.out; have := HJ11.out; omega
                                  case rel => exact ⟨(y240), (wrap64 (x4_1 + 1)), (by first | rfl | (simp; done) | (simp [*]; done) | exact congrArg Value.bool (notEmpty_ne _)), H', ⟨by have := HK1.out; have := HJ11.out; omega⟩, ⟨by (with_reducible repeat (first | apply Kd.R_alloc | apply Kd.R_drewN | apply Kd.R_drew)); exact Kd.R_mono HO242.out (fun _ hk => trivial)⟩, ⟨by repeat (first | (with_reducible first | exact HB.out | apply below_alloc | apply pw_below_drewN | apply below_drew1) | exact HB.out)⟩⟩
                                · rw [if_neg c50] at H
                                  exact absurd H (by simp)
                              · rw [if_neg c47] at H
                                exact absurd H (by simp)
                            · rw [if_neg c46] at H
                              exact absurd H (by simp)
                          · rw [if_neg c45] at H
                            exact absurd H (by simp)
                        · rw [if_neg c44] at H
                          exact absurd H (by simp)
                      · rw [if_neg c42] at H
                        have c42b0 : (t222 == 0) = false := beq_eq_false_iff_ne.mpr c42
                        have c42b1 : (t222 != 0) = true := bne_iff_ne.mpr c42
                        by_cases c59 : (x6_11.size : Int) ≥ 31
                        · rw [if_pos c59] at H
                          have c59b0 : decide (31 ≤ (x6_11.size : Int)) = true := decide_eq_true c59
                          have c59b1 : decide (31 ≤ x6_11.size) = true := decide_eq_true (by omega)
                          clear c59
                          obtain rfl := Option.some.inj H
                          go_wp2_with (first | (go_at_call 8; (with_reducible refine (frac_Between.calls kj11 x6_11 (⟨#[]⟩ : ByteArray) t221 t222 _ A41.out).mono ?_); rintro e w60 ⟨rfl, hb⟩; have n0_ := Aside0.mk (Kd.R_below (by (with_reducible repeat (first | apply Kd.R_alloc | apply Kd.R_drewN | apply Kd.R_drew)); exact HO_3.out) hb); have n1_ := Aside0.mk (below_step (by repeat (first | (with_reducible first | exact HB.out | apply below_alloc | apply pw_below_drewN | apply below_drew1) | exact HB.out)) hb); clear HO_3; clear HB; have HO_3 := n0_; have HB := n1_; clear n0_ n1_; (try clear hb); (try clear hb2); (try clear hk); (try clear hi)))
                          repeat (go_quiet (first | (go_at_call 8; (with_reducible refine (frac_Between.calls kj11 x6_11 (⟨#[]⟩ : ByteArray) t221 t222 _ A41.out).mono ?_); rintro e w60 ⟨rfl, hb⟩; have n0_ := Aside0.mk (Kd.R_below (by (with_reducible repeat (first | apply Kd.R_alloc | apply Kd.R_drewN | apply Kd.R_drew)); exact HO_3.out) hb); have n1_ := Aside0.mk (below_step (by repeat (first | (with_reducible first | exact HB.out | apply below_alloc | apply pw_below_drewN | apply below_drew1) | exact HB.out)) hb); clear HO_3; clear HB; have HO_3 := n0_; have HB := n1_; clear n0_ n1_; (try clear hb); (try clear hb2); (try clear hk); (try clear hi))); try go_wp2_with (first | (go_at_call 8; (with_reducible refine (frac_Between.calls kj11 x6_11 (⟨#[]⟩ : ByteArray) t221 t222 _ A41.out).mono ?_); rintro e w60 ⟨rfl, hb⟩; have n0_ := Aside0.mk (Kd.R_below (by (with_reducible repeat (first | apply Kd.R_alloc | apply Kd.R_drewN | apply Kd.R_drew)); exact HO_3.out) hb); have n1_ := Aside0.mk (below_step (by repeat (first | (with_reducible first | exact HB.out | apply below_alloc | apply pw_below_drewN | apply below_drew1) | exact HB.out)) hb); clear HO_3; clear HB; have HO_3 := n0_; have HB := n1_; clear n0_ n1_; (try clear hb); (try clear hb2); (try clear hk); (try clear hi))))
                          go_ret
                          exact ⟨by first | rfl | (simp [errW_none, errW_some] <;> rfl) | (simp [*, errW_none, errW_some] <;> rfl), by repeat (first | (with_reducible first | exact HB.out | apply below_alloc | apply pw_below_drewN | apply below_drew1) | exact HB.out)⟩
                        · rw [if_neg c59] at H
                          have c59b0 : decide (31 ≤ (x6_11.size : Int)) = false := decide_eq_false c59
                          have c59b1 : decide (31 ≤ x6_11.size) = false := decide_eq_false (by omega)
                          clear c59
                          obtain rfl := Option.some.inj H
                          go_wp2_with (first | (go_at_call 8; (with_reducible refine (frac_Between.calls kj11 x6_11 (⟨#[]⟩ : ByteArray) t221 t222 _ A41.out).mono ?_); rintro e w61 ⟨rfl, hb⟩; have n0_ := Aside0.mk (Kd.R_below (by (with_reducible repeat (first | apply Kd.R_alloc | apply Kd.R_drewN | apply Kd.R_drew)); exact HO_3.out) hb); have n1_ := Aside0.mk (below_step (by repeat (first | (with_reducible first | exact HB.out | apply below_alloc | apply pw_below_drewN | apply below_drew1) | exact HB.out)) hb); clear HO_3; clear HB; have HO_3 := n0_; have HB := n1_; clear n0_ n1_; (try clear hb); (try clear hb2); (try clear hk); (try clear hi)))
                          repeat (go_quiet (first | (go_at_call 8; (with_reducible refine (frac_Between.calls kj11 x6_11 (⟨#[]⟩ : ByteArray) t221 t222 _ A41.out).mono ?_); rintro e w61 ⟨rfl, hb⟩; have n0_ := Aside0.mk (Kd.R_below (by (with_reducible repeat (first | apply Kd.R_alloc | apply Kd.R_drewN | apply Kd.R_drew)); exact HO_3.out) hb); have n1_ := Aside0.mk (below_step (by repeat (first | (with_reducible first | exact HB.out | apply below_alloc | apply pw_below_drewN | apply below_drew1) | exact HB.out)) hb); clear HO_3; clear HB; have HO_3 := n0_; have HB := n1_; clear n0_ n1_; (try clear hb); (try clear hb2); (try clear hk); (try clear hi))); try go_wp2_with (first | (go_at_call 8; (with_reducible refine (frac_Between.calls kj11 x6_11 (⟨#[]⟩ : ByteArray) t221 t222 _ A41.out).mono ?_); rintro e w61 ⟨rfl, hb⟩; have n0_ := Aside0.mk (Kd.R_below (by (with_reducible repeat (first | apply Kd.R_alloc | apply Kd.R_drewN | apply Kd.R_drew)); exact HO_3.out) hb); have n1_ := Aside0.mk (below_step (by repeat (first | (with_reducible first | exact HB.out | apply below_alloc | apply pw_below_drewN | apply below_drew1) | exact HB.out)) hb); clear HO_3; clear HB; have HO_3 := n0_; have HB := n1_; clear n0_ n1_; (try clear hb); (try clear hb2); (try clear hk); (try clear hi))))
                          go_ret
                          exact ⟨by first | rfl | (simp [errW_none, errW_some] <;> rfl) | (simp [*, errW_none, errW_some] <;> rfl), by repeat (first | (with_reducible first | exact HB.out | apply below_alloc | apply pw_below_drewN | apply below_drew1) | exact HB.out)⟩
            · rw [if_neg c10] at H
              exact absurd H (by simp)
          · rw [if_neg c9] at H
            have c9b0 : decide (x4_1 < (l0.length : Int)) = false := decide_eq_false c9
            clear c9
            have H' := Aside0.mk H
            clear H
            go_wp2
            repeat (go_quiet (fail); try go_wp2)
            go_loopg [11] k1 (fun kq v11 w' => ∃ (x11_2 : Int), v11 = .int .i64 x11_2 ∧ Aside0 (offshootlaw04_FracDense.l1 kq x3_1 x11_2 = some r) ∧ Aside0 (kq ≤ k1) ∧ Aside0 (Kd.R Kd.string 9 w' w.heap.size (fun _ => True) u3 x3_1) ∧ Aside0 (Below w.heap.size w w'))
            case atStart => exact ⟨(1), (by first | rfl | (simp; done) | (simp [*]; done) | exact congrArg Value.bool (notEmpty_ne _)), H', ⟨Nat.le_refl _⟩, ⟨by (with_reducible repeat (first | apply Kd.R_alloc | apply Kd.R_drewN | apply Kd.R_drew)); exact HO_3.out⟩, ⟨by repeat (first | (with_reducible first | exact HB.out | apply below_alloc | apply pw_below_drewN | apply below_drew1) | exact HB.out)⟩⟩
            case round =>
              clear H'
              try clear c1
              try clear p1
              try clear q1
              try clear hx1
              try clear c2
              try clear p2
              try clear c3
              try clear q3
              try clear c4
              try clear c4b0
              try clear c4b1
              try clear c5
              try clear q5
              try clear p6
              try clear c9
              try clear c9b0
              try clear c10
              try clear c10b0
              try clear c11
              try clear c11b0
              try clear c11b1
              try clear c14
              try clear c14b0
              try clear c16
              try clear c16b0
              try clear c17
              try clear c17b0
              try clear c18
              try clear c18b0
              try clear p19
              try clear q19
              try clear hx19
              try clear c20
              try clear c20b0
              try clear c22
              try clear c22b0
              try clear c22b1
              try clear c23
              try clear c23b0
              try clear c24
              try clear c24b0
              try clear c24b1
              try clear c25
              try clear c26
              try clear c27
              try clear c27b0
              try clear c28
              try clear c28b0
              try clear c29
              try clear q33
              try clear c36
              try clear q36
              try clear c38
              try clear c38b0
              try clear c38b1
              try clear c42
              try clear c42b0
              try clear c42b1
              try clear c44
              try clear c44b0
              try clear c44b1
              try clear c45
              try clear c45b0
              try clear c45b1
              try clear c46
              try clear c47
              try clear c48
              try clear c48b0
              try clear c49
              try clear c49b0
              try clear c50
              try clear q54
              try clear c57
              try clear q57
              try clear c59
              try clear c59b0
              try clear c59b1
              try clear hx196_0
              try clear hx197_0
              try clear hx198_0
              try clear p1
              try clear p196
              try clear p197
              try clear p198
              try clear p2
              try clear p6
              try clear q036
              try clear q057
              try clear q1
              try clear q196
              try clear q197
              try clear q198
              try clear q33
              try clear q36
              try clear q54
              try clear q57
              obtain ⟨x11_2, rfl, HA, HK2, HO_3, HB⟩ := hrel
              cases gk with
              | zero => exact absurd HA.out (by simp [offshootlaw04_FracDense.l1])
              | succ k2 =>
                have H := HA.out
                clear HA
                simp only [offshootlaw04_FracDense.l1] at H
                by_cases c62 : x11_2 < (x3_1.length : Int)
                · rw [if_pos c62] at H
                  have c62b0 : decide (x11_2 < (x3_1.length : Int)) = true := decide_eq_true c62
                  clear c62
                  obtain ⟨ji63, hji63⟩ : ∃ j_ : Int, (wrap64 (x11_2 - 1)) = j_ := ⟨_, rfl⟩
                  replace H : (if 0 ≤ (ji63) then (if (ji63) < (x3_1.length : Int) then (if 0 ≤ x11_2 then ((frac_Order.f (rdOf ByteArray.empty x3_1 (ji63)) (rdOf ByteArray.empty x3_1 x11_2)).bind fun t245 => (if t245 ≥ 0 then (some false) else (offshootlaw04_FracDense.l1 k2 x3_1 (wrap64 (x11_2 + 1))))) else (none)) else (none)) else (none)) = some r := by first | (rw [hji63] at H; exact H) | (simp only [hji63] at H ⊢; exact H)
                  have hji63w : (IntKind.i64.wrap (x11_2 - 1)) = ji63 := (i64_w _).trans hji63
                  by_cases c64 : 0 ≤ (ji63)
                  · rw [if_pos c64] at H
                    have c64b0 : decide (0 ≤ (ji63)) = true := decide_eq_true c64
                    clear c64
                    by_cases c65 : (ji63) < (x3_1.length : Int)
                    · rw [if_pos c65] at H
                      have c65b0 : decide ((ji63) < (x3_1.length : Int)) = true := decide_eq_true c65
                      clear c65
                      by_cases c66 : 0 ≤ x11_2
                      · rw [if_pos c66] at H
                        have c66b0 : decide (0 ≤ x11_2) = true := decide_eq_true c66
                        clear c66
                        replace H := Option.bind_eq_some_iff.mp H
                        obtain ⟨t245, A670, H⟩ := H
                        replace H : (if t245 ≥ 0 then (some false) else (offshootlaw04_FracDense.l1 k2 x3_1 (wrap64 (x11_2 + 1)))) = some r := H
                        have A67 := Aside0.mk A670
                        clear A670
                        by_cases c68 : t245 ≥ 0
                        · rw [if_pos c68] at H
                          have c68b0 : decide (0 ≤ t245) = true := decide_eq_true c68
                          clear c68
                          obtain rfl := Option.some.inj H
                          obtain ⟨Ao69, co69, eo69⟩ := Kd.R_slice HO_3.out
                          subst eo69
                          have p243 : 0 ≤ ((ji63) : Int) := of_decide_eq_true (by first | (with_reducible assumption) | assumption)
                          have q243 : (ji63) < (x3_1.length : Int) := of_decide_eq_true (by first | (with_reducible assumption) | assumption)
                          obtain ⟨ad243, e243, hx243_0⟩ := Kd.at_string (Kd.R_reads' HO_3.out).2.2 (ji63) p243 q243
                          cases e243
                          replace p243 := eq_true p243
                          replace q243 := eq_true q243
                          have p244 : 0 ≤ (x11_2 : Int) := of_decide_eq_true (by first | (with_reducible assumption) | assumption)
                          have q244 : x11_2 < (x3_1.length : Int) := of_decide_eq_true (by first | (with_reducible assumption) | assumption)
                          obtain ⟨ad244, e244, hx244_0⟩ := Kd.at_string (Kd.R_reads' HO_3.out).2.2 x11_2 p244 q244
                          obtain rfl : ad243 = ad244 := (by injection e244)
                          replace p244 := eq_true p244
                          replace q244 := eq_true q244
                          go_wp2_with (first | (go_at_call 12; (with_reducible refine (frac_Order.calls (rdOf ByteArray.empty x3_1 (ji63)) (rdOf ByteArray.empty x3_1 x11_2) t245 _ A67.out).mono ?_); rintro e w' ⟨rfl, ⟨nd, rfl⟩⟩; (try first | exact ⟨rfl, _, World.drewN_drewN _ _ _⟩ | exact ⟨rfl, _, Eq.trans (World.drewN_drewN _ _ _) (congrArg (World.drewN _) (Nat.add_assoc _ _ _))⟩)))
                          repeat (go_quiet (first | (go_at_call 12; (with_reducible refine (frac_Order.calls (rdOf ByteArray.empty x3_1 (ji63)) (rdOf ByteArray.empty x3_1 x11_2) t245 _ A67.out).mono ?_); rintro e w' ⟨rfl, ⟨nd, rfl⟩⟩; (try first | exact ⟨rfl, _, World.drewN_drewN _ _ _⟩ | exact ⟨rfl, _, Eq.trans (World.drewN_drewN _ _ _) (congrArg (World.drewN _) (Nat.add_assoc _ _ _))⟩))); try go_wp2_with (first | (go_at_call 12; (with_reducible refine (frac_Order.calls (rdOf ByteArray.empty x3_1 (ji63)) (rdOf ByteArray.empty x3_1 x11_2) t245 _ A67.out).mono ?_); rintro e w' ⟨rfl, ⟨nd, rfl⟩⟩; (try first | exact ⟨rfl, _, World.drewN_drewN _ _ _⟩ | exact ⟨rfl, _, Eq.trans (World.drewN_drewN _ _ _) (congrArg (World.drewN _) (Nat.add_assoc _ _ _))⟩))))
                          go_ret
                          exact ⟨by first | rfl | (simp [errW_none, errW_some] <;> rfl) | (simp only [← hji63]; first | rfl | (simp [errW_none, errW_some] <;> rfl)) | (simp [*, errW_none, errW_some] <;> rfl), by repeat (first | (with_reducible first | exact HB.out | apply below_alloc | apply pw_below_drewN | apply below_drew1) | exact HB.out)⟩
                        · rw [if_neg c68] at H
                          have c68b0 : decide (0 ≤ t245) = false := decide_eq_false c68
                          clear c68
                          have H' := Aside0.mk H
                          clear H
                          obtain ⟨Ao70, co70, eo70⟩ := Kd.R_slice HO_3.out
                          subst eo70
                          have p243 : 0 ≤ ((ji63) : Int) := of_decide_eq_true (by first | (with_reducible assumption) | assumption)
                          have q243 : (ji63) < (x3_1.length : Int) := of_decide_eq_true (by first | (with_reducible assumption) | assumption)
                          obtain ⟨ad243, e243, hx243_0⟩ := Kd.at_string (Kd.R_reads' HO_3.out).2.2 (ji63) p243 q243
                          cases e243
                          replace p243 := eq_true p243
                          replace q243 := eq_true q243
                          have p244 : 0 ≤ (x11_2 : Int) := of_decide_eq_true (by first | (with_reducible assumption) | assumption)
                          have q244 : x11_2 < (x3_1.length : Int) := of_decide_eq_true (by first | (with_reducible assumption) | assumption)
                          obtain ⟨ad244, e244, hx244_0⟩ := Kd.at_string (Kd.R_reads' HO_3.out).2.2 x11_2 p244 q244
                          obtain rfl : ad243 = ad244 := (by injection e244)
                          replace p244 := eq_true p244
                          replace q244 := eq_true q244
                          go_wp2_with (first | (go_at_call 12; (with_reducible refine (frac_Order.calls (rdOf ByteArray.empty x3_1 (ji63)) (rdOf ByteArray.empty x3_1 x11_2) t245 _ A67.out).mono ?_); rintro e w' ⟨rfl, ⟨nd, rfl⟩⟩; (try first | exact ⟨rfl, _, World.drewN_drewN _ _ _⟩ | exact ⟨rfl, _, Eq.trans (World.drewN_drewN _ _ _) (congrArg (World.drewN _) (Nat.add_assoc _ _ _))⟩)))
                          repeat (go_quiet (first | (go_at_call 12; (with_reducible refine (frac_Order.calls (rdOf ByteArray.empty x3_1 (ji63)) (rdOf ByteArray.empty x3_1 x11_2) t245 _ A67.out).mono ?_); rintro e w' ⟨rfl, ⟨nd, rfl⟩⟩; (try first | exact ⟨rfl, _, World.drewN_drewN _ _ _⟩ | exact ⟨rfl, _, Eq.trans (World.drewN_drewN _ _ _) (congrArg (World.drewN _) (Nat.add_assoc _ _ _))⟩))); try go_wp2_with (first | (go_at_call 12; (with_reducible refine (frac_Order.calls (rdOf ByteArray.empty x3_1 (ji63)) (rdOf ByteArray.empty x3_1 x11_2) t245 _ A67.out).mono ?_); rintro e w' ⟨rfl, ⟨nd, rfl⟩⟩; (try first | exact ⟨rfl, _, World.drewN_drewN _ _ _⟩ | exact ⟨rfl, _, Eq.trans (World.drewN_drewN _ _ _) (congrArg (World.drewN _) (Nat.add_assoc _ _ _))⟩))))
                          go_roundg k2
                          case measure => have := HK1.out; have := HK2.out; omega
                          case rel => exact ⟨(wrap64 (x11_2 + 1)), (by first | rfl | (simp; done) | (simp [*]; done) | exact congrArg Value.bool (notEmpty_ne _)), H', ⟨by have := HK1.out; have := HK2.out; omega⟩, ⟨by (with_reducible repeat (first | apply Kd.R_alloc | apply Kd.R_drewN | apply Kd.R_drew)); exact HO_3.out⟩, ⟨by repeat (first | (with_reducible first | exact HB.out | apply below_alloc | apply pw_below_drewN | apply below_drew1) | exact HB.out)⟩⟩
                      · rw [if_neg c66] at H
                        exact absurd H (by simp)
                    · rw [if_neg c65] at H
                      exact absurd H (by simp)
                  · rw [if_neg c64] at H
                    exact absurd H (by simp)
                · rw [if_neg c62] at H
                  have c62b0 : decide (x11_2 < (x3_1.length : Int)) = false := decide_eq_false c62
                  clear c62
                  obtain rfl := Option.some.inj H
                  obtain ⟨Ao71, co71, eo71⟩ := Kd.R_slice HO_3.out
                  subst eo71
                  go_wp2
                  repeat (go_quiet (fail); try go_wp2)
                  go_ret
                  exact ⟨by first | rfl | (simp [errW_none, errW_some] <;> rfl) | (simp [*, errW_none, errW_some] <;> rfl), by repeat (first | (with_reducible first | exact HB.out | apply below_alloc | apply pw_below_drewN | apply below_drew1) | exact HB.out)⟩
  · replace c3 := Bool.eq_false_iff.mpr c3
    subst c3
    have H1 : (some false) = some r := by rw [if_neg (show ¬ (false = true) by decide)] at H; exact H
    clear H
    have H := H1
    clear H1
    obtain rfl := Option.some.inj H
    go_enter Try.func5, Try.ntmps5
    go_wp2_with (first | (go_at_call 7; (with_reducible refine (offshootlaw04_alive.calls k  false _ A2.out).mono ?_); rintro e w72 ⟨rfl, hb⟩; have n0_ := Aside0.mk (below_step (by repeat (first | (with_reducible first | exact HB.out | apply below_alloc | apply pw_below_drewN | apply below_drew1) | exact HB.out)) hb); clear HB; have HB := n0_; clear n0_; (try clear hb); (try clear hb2); (try clear hk); (try clear hi)))
    repeat (go_quiet (first | (go_at_call 7; (with_reducible refine (offshootlaw04_alive.calls k  false _ A2.out).mono ?_); rintro e w72 ⟨rfl, hb⟩; have n0_ := Aside0.mk (below_step (by repeat (first | (with_reducible first | exact HB.out | apply below_alloc | apply pw_below_drewN | apply below_drew1) | exact HB.out)) hb); clear HB; have HB := n0_; clear n0_; (try clear hb); (try clear hb2); (try clear hk); (try clear hi))); try go_wp2_with (first | (go_at_call 7; (with_reducible refine (offshootlaw04_alive.calls k  false _ A2.out).mono ?_); rintro e w72 ⟨rfl, hb⟩; have n0_ := Aside0.mk (below_step (by repeat (first | (with_reducible first | exact HB.out | apply below_alloc | apply pw_below_drewN | apply below_drew1) | exact HB.out)) hb); clear HB; have HB := n0_; clear n0_; (try clear hb); (try clear hb2); (try clear hk); (try clear hi))))
    go_ret
    exact ⟨by first | rfl | (simp [errW_none, errW_some] <;> rfl) | (simp [*, errW_none, errW_some] <;> rfl), by repeat (first | (with_reducible first | exact HB.out | apply below_alloc | apply pw_below_drewN | apply below_drew1) | exact HB.out)⟩

/-- THE ONE PURE STATEMENT of offshootlaw04_FracDense: yours. -/
def offshootlaw04_FracDense.Pure : Prop := ∀ (l0 : List Int), l0.length ≤ maxLen → l0.length * 8 ≤ 140737488351232 → (∀ x ∈ l0, (Lit.int .i64 x).wf = true) → ∃ k, offshootlaw04_FracDense.f k l0 = some true
theorem offshootlaw04_FracDense.walk (P : offshootlaw04_FracDense.Pure) (a0 : Option Addr) (len0 cap0 : Nat) (z0 : List Int) (w : World) (w0 : (a0 = none ∧ len0 = 0 ∧ cap0 = 0 ∧ z0 = []) ∨ ∃ x, a0 = some x ∧ len0 ≤ cap0 ∧ cap0 ≤ maxLen ∧ z0.length = cap0 ∧ (∀ i, i < z0.length → w.cell? (x.add i) = some (.int .i64 (z0.getD i 0))) ∧ ∀ n ∈ z0, (Lit.int .i64 n).wf = true) (y0 : len0 * 8 ≤ 140737488351232) :
    Calls Try.prog 5 #[.slice a0 len0 cap0] w fun e w' => e = .returned (.bool true) ∧ Below w.heap.size w w' := by
  obtain ⟨l0, rfl, hr0, hm0, hw0, hc0⟩ := ReadsInt.ofRowC w0
  obtain ⟨k, h⟩ := P l0 hm0 y0 hw0
  refine (offshootlaw04_FracDense.calls k _ _ l0 true w (Kd.C_of_reads (d := (0 : Int)) (h1 := fun _ => rfl) hr0) hc0 h).mono ?_
  rintro e w' ⟨rfl, hd⟩
  exact ⟨rfl, hd⟩

-- NOT PRINTED: function 6 (offshootlaw04_FracRow)

end Go.Proofs.Ytpfnkibhpjoahaa.Q
