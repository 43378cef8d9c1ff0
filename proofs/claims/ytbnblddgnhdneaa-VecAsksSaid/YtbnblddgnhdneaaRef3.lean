/- The contracts of the reference's methods: Covers, Join, Missing, Of; both. -/
import Derived.Test.YtbnblddgnhdneaaRef2
namespace Go.Proofs.Ytbnblddgnhdneaa.Vec
open Go.RowKit Go.Proofs.YtbnblddgnhdneaaW.PrintWords Go.Proofs.YtbnblddgnhdneaaW.PrintLast Go.Proofs.YtbnblddgnhdneaaW.PrintMore Go.Proofs.Ytbnblddgnhdneaa.Mem
attribute [local go_sem] max2_int min2_int max_two min_two
set_option linter.unusedVariables false
set_option linter.unusedSimpArgs false

set_option maxHeartbeats 1000000 in
theorem refCovers_ok {w : World} {b b2 : Nat} {xs ys : List Int} (hv : VecAt w 53 b xs) (hy : VecAt w 53 b2 ys) :
    Calls Try.prog 24 #[.pointer (some ⟨b, 0, none⟩), .pointer (some ⟨b2, 0, none⟩)] w fun e w' => e = .returned (.bool (coversB xs ys)) ∧ Keep (fun _ => False) w w' := by
  have HV := Lib.hid hv; have HY := Lib.hid hy
  clear hv hy
  go_enter Try.func24, Try.ntmps24
  go_wp2
  go_loopw [5] (fun i wr => ∃ k : Nat, k ≤ 16 ∧ i = .int .i64 k ∧ (∀ j : Nat, j < k → ys.getD j 0 ≤ xs.getD j 0) ∧ Keep (fun _ => False) w wr) (fun i _ => 16 - (intOf i).toNat)
  case atStart => exact ⟨0, by omega, rfl, fun j hj => by omega, Keep.refl _ _⟩
  case round =>
    obtain ⟨k, hk, rfl, hall, hkp⟩ := hrel
    have HK := Lib.hid hkp; have HALL := Lib.hid hall
    clear hkp hall
    by_cases hlt : k < 16
    · have hc := (HV.out.kept HK.out (fun h => h)).cell k hlt
      have hd := (HY.out.kept HK.out (fun h => h)).cell k hlt
      have hlt' : (k : Int) < 16 := by omega
      by_cases c : xs.getD k 0 < ys.getD k 0
      · have e : coversB xs ys = false := by
          cases h : coversB xs ys with
          | false => rfl
          | true => have := covers_iff.1 h k hlt; omega
        have E := Lib.hid e
        obtain ⟨x, ex⟩ : ∃ x, x = xs.getD k 0 := ⟨_, rfl⟩
        obtain ⟨y, ey⟩ : ∃ y, y = ys.getD k 0 := ⟨_, rfl⟩
        rw [← ex] at hc c
        rw [← ey] at hd c
        have g : decide (x < y) = true := decide_eq_true c
        clear ex ey c e
        go_wp2
        go_quiet (fail)
        go_wp2
        go_ret
        exact ⟨by rw [E.out]; rfl, HK.out.trans (Keep.drewN (fun _ => False) _ _) (fun _ _ h => h)⟩
      · have C := Lib.hid c
        obtain ⟨x, ex⟩ : ∃ x, x = xs.getD k 0 := ⟨_, rfl⟩
        obtain ⟨y, ey⟩ : ∃ y, y = ys.getD k 0 := ⟨_, rfl⟩
        rw [← ex] at hc c
        rw [← ey] at hd c
        have g : decide (x < y) = false := decide_eq_false c
        clear ex ey c
        go_wp2
        go_quiet (fail)
        go_wp2
        go_roundw
        case rel =>
          refine ⟨k + 1, by omega, by go_num, fun j hj => ?_, HK.out.trans (Keep.drewN (fun _ => False) _ _) (fun _ _ h => h)⟩
          by_cases hj' : j < k
          · exact HALL.out j hj'
          · obtain rfl : j = k := by omega
            have := C.out
            omega
        case measure => simp [intOf]; omega
    · have e : coversB xs ys = true := covers_iff.2 (fun r hr => HALL.out r (by omega))
      have E := Lib.hid e
      clear e
      go_wp2
      go_ret
      exact ⟨by rw [E.out]; rfl, HK.out⟩
set_option maxHeartbeats 1000000 in
theorem refJoin_ok {w : World} {b b2 : Nat} {xs ys : List Int} (hv : VecAt w 53 b xs) (hy : VecAt w 53 b2 ys) (hbb : b2 ≠ b) :
    Calls Try.prog 30 #[.pointer (some ⟨b, 0, none⟩), .pointer (some ⟨b2, 0, none⟩)] w fun e w' => e = .returned (.tuple #[]) ∧ VecAt w' 53 b (joinV xs ys) ∧ Keep (fun k => k = b) w w' := by
  have HV := Lib.hid hv; have HY := Lib.hid hy; have HBB := Lib.hid hbb
  clear hv hy hbb
  go_enter Try.func30, Try.ntmps30
  go_wp2
  go_loopw [4] (fun i wr => ∃ k : Nat, k ≤ 16 ∧ i = .int .i64 k ∧ VecAt wr 53 b (joinK xs ys k) ∧ Keep (fun k => k = b) w wr) (fun i _ => 16 - (intOf i).toNat)
  case atStart => exact ⟨0, by omega, rfl, by unfold joinK; simpa using HV.out, Keep.refl _ _⟩
  case round =>
    obtain ⟨k, hk, rfl, hvk, hkp⟩ := hrel
    by_cases hlt : k < 16
    · have hd := (HY.out.kept hkp HBB.out).cell k hlt
      have hc := hvk.cell k hlt
      rw [joinK_get xs ys k HV.out.six.len HY.out.six.len hlt] at hc
      have hf := hvk.frozen k
      have hlt' : (k : Int) < 16 := by omega
      have HS := Lib.hid (joinK_set xs ys k HV.out.six.len HY.out.six.len hlt)
      have HVK := Lib.hid hvk; have HKP := Lib.hid hkp
      have hx := HV.out.six.rng k
      have hy := HY.out.six.rng k
      obtain ⟨x, ex⟩ : ∃ x, x = xs.getD k 0 := ⟨_, rfl⟩
      obtain ⟨y, ey⟩ : ∃ y, y = ys.getD k 0 := ⟨_, rfl⟩
      rw [← ex] at hc HS hx
      rw [← ey] at hd HS hy
      clear hvk hkp ex ey
      go_wp2
      go_region
      all_goals go_wp2
      have em : (if x < y then y else x) = max x y := by omega
      rw [em]
      refine ⟨⟨k + 1, by omega, by go_num, ?_, ?_⟩, by simp [intOf]; omega⟩
      · rw [← HS.out]
        have := VecAt.set HVK.out k (max x y) (by omega) (by omega)
        exact ⟨this.blk, this.six⟩
      · have := HKP.out.trans (Keep.setCell (F := fun k => k = b) wr (p := ⟨b, k, none⟩) rfl (.int .i64 (max x y))) (fun _ _ h => h)
        exact this.trans (Keep.drewN (fun k => k = b) _ 1) (fun _ _ h => h)
    · obtain rfl : k = 16 := by omega
      rw [joinK_end xs ys HV.out.six.len HY.out.six.len] at hvk
      have HVK := Lib.hid hvk; have HKP := Lib.hid hkp
      clear hvk hkp
      go_wp2
      go_end0
      exact ⟨rfl, HVK.out, HKP.out⟩
set_option maxHeartbeats 1000000 in
theorem refMissing_ok {w : World} {b b2 : Nat} {xs ys : List Int} (hv : VecAt w 53 b xs) (hy : VecAt w 53 b2 ys) :
    Calls Try.prog 19 #[.pointer (some ⟨b, 0, none⟩), .pointer (some ⟨b2, 0, none⟩)] w fun e w' => ∃ v, e = .returned v ∧ kcut.R 33 w' w.heap.size (fun _ => True) v (missV xs ys 16) ∧ Below w.heap.size w w' := by
  have HV := Lib.hid hv; have HY := Lib.hid hy
  clear hv hy
  go_enter Try.func19, Try.ntmps19
  go_wp2_with ((with_reducible refine gate_dst (N := 8) rfl ?_)
               refine Kd.R_lit kcut _ 33 ?hg (N := 8) ?hd (xs := ([] : List Cut)) (inner := []) (ok := fun _ => True) (okp := fun _ => True) ?hr ?hp (fun _ hk => hk) trivial (Below.refl _ _) (Nat.le_refl _) (by simp) ?_
               (case hd => rfl)
               (case hg => rfl)
               (case hr => first | (go_simp; done) | (go_simp; rfl))
               (case hp => exact (Reps.none _ _))
               intro v5 w4 ho4 hb4 hg_ hnew_
               have HO4 := Lib.hid ho4; have B4 := Lib.hid hb4
               clear hg_ hnew_ ho4 hb4)
  go_loopw [5, 6] (fun out i wr => ∃ k : Nat, k ≤ 16 ∧ i = .int .i64 k ∧ kcut.R 33 wr w.heap.size (fun _ => True) out (missV xs ys k) ∧ Below w.heap.size w wr) (fun _ i _ => 16 - (intOf i).toNat)
  case atStart => exact ⟨0, by omega, rfl, HO4.out, B4.out⟩
  case round =>
    obtain ⟨k, hk, rfl, hr, hb⟩ := hrel
    by_cases hlt : k < 16
    · have hc := (HV.out.below hb HV.out.lt).cell k hlt
      have hd := (HY.out.below hb HY.out.lt).cell k hlt
      have hlt' : (k : Int) < 16 := by omega
      have hx := HV.out.six.rng k
      have hy := HY.out.six.rng k
      have HR := Lib.hid hr; have HB := Lib.hid hb
      have HL := Lib.hid (missV_len xs ys k)
      by_cases hm : xs.getD k 0 < ys.getD k 0
      · have HM := Lib.hid (missV_yes hm)
        obtain ⟨x, ex⟩ : ∃ x, x = xs.getD k 0 := ⟨_, rfl⟩
        obtain ⟨y, ey⟩ : ∃ y, y = ys.getD k 0 := ⟨_, rfl⟩
        rw [← ex] at hc HM hx hm
        rw [← ey] at hd HM hy hm
        have g : decide (x < y) = true := decide_eq_true hm
        clear hr hb ex ey
        go_wp2
        go_quiet (fail)
        go_wp2_with (at_builtin; go_loud (refine Kd.R_append kcut (w0 := w) w.heap.size rfl (.tmp 33) (.tmp 46) 27 33 _ 32 rfl Try.underlying27 info33 rfl (by decide) (by decide) u5 (missV xs ys k) ⟨k, x + 1, x + 1, y + 1⟩ (Cut.cells ⟨k, x + 1, x + 1, y + 1⟩) (fun _ => True) (fun _ => False) rfl rfl (kcut_M _ _ _ _) (fun _ h => h.elim) (fun _ _ => trivial) (R_kept HR.out (Keep.drewN (fun _ => False) _ _) (fun _ _ _ h => h)) (pw_below_drewN HB.out _) (by have := HB.out.size; simpa using this) (by have := HL.out; omega) ?_); intro v1 w1 hr1 hb1 hg1 hat1; have HR1 := Lib.hid hr1; have HB1 := Lib.hid hb1; clear hr1 hb1 hg1 hat1 hc)
        go_roundw
        case rel => exact ⟨k + 1, by omega, by go_num, by rw [HM.out]; exact HR1.out, HB1.out⟩
        case measure => simp [intOf]; omega
      · have HM := Lib.hid (missV_no hm)
        obtain ⟨x, ex⟩ : ∃ x, x = xs.getD k 0 := ⟨_, rfl⟩
        obtain ⟨y, ey⟩ : ∃ y, y = ys.getD k 0 := ⟨_, rfl⟩
        rw [← ex] at hc hx hm
        rw [← ey] at hd hy hm
        have g : decide (x < y) = false := decide_eq_false hm
        clear hr hb ex ey
        go_wp2
        go_quiet (fail)
        go_wp2
        go_roundw
        case rel => exact ⟨k + 1, by omega, by go_num, by rw [HM.out]; exact R_kept HR.out (Keep.drewN (fun _ => False) _ _) (fun _ _ _ h => h), pw_below_drewN HB.out _⟩
        case measure => simp [intOf]; omega
    · obtain rfl : k = 16 := by omega
      have HR := Lib.hid hr; have HB := Lib.hid hb
      clear hr hb
      go_wp2
      go_ret
      exact ⟨_, rfl, HR.out, HB.out⟩
end Go.Proofs.Ytbnblddgnhdneaa.Vec
