/- The contracts of the reference's methods: Add, List, Covers, Count, Join. -/
import Derived.Test.YtbnblddgnhdneaaRef
namespace Go.Proofs.Ytbnblddgnhdneaa.Vec
open Go.RowKit Go.Proofs.YtbnblddgnhdneaaW.PrintWords Go.Proofs.YtbnblddgnhdneaaW.PrintLast Go.Proofs.YtbnblddgnhdneaaW.PrintMore Go.Proofs.Ytbnblddgnhdneaa.Mem
attribute [local go_sem] max2_int min2_int max_two min_two
set_option linter.unusedVariables false
set_option linter.unusedSimpArgs false

set_option maxHeartbeats 400000 in
theorem refAdd_form {w : World} {b : Nat} (r n : Int) (h : rightB r n = false) :
    Calls Try.prog 27 #[.pointer (some ⟨b, 0, none⟩), .agg #[.int .i64 r, .int .i64 n]] w fun e w' => e = .returned (.int .i64 10) ∧ Below w.heap.size w w' := by
  have H := Lib.hid h
  clear h
  go_enter Try.func27, Try.ntmps27
  go_wp2_with (go_at_call 33; refine (refRightOp_no r n _ H.out).mono ?_; rintro e w1 ⟨rfl, hb⟩; have HB := Lib.hid hb; clear hb)
  go_ret
  exact ⟨rfl, (below_alloc (Below.refl _ _) _).trans (HB.out.mono (by simp))⟩
set_option maxHeartbeats 400000 in
theorem refAdd_there {w : World} {b : Nat} {xs : List Int} (hv : VecAt w 53 b xs) (i : Nat) (n : Int) (h : rightB i n = true) (hn : n ≤ xs.getD i 0) :
    Calls Try.prog 27 #[.pointer (some ⟨b, 0, none⟩), .agg #[.int .i64 i, .int .i64 n]] w fun e w' => e = .returned (.int .i64 12) ∧ Below w.heap.size w w' := by
  have H := Lib.hid h; have HV := Lib.hid hv; have HN := Lib.hid hn
  clear h hv hn
  go_enter Try.func27, Try.ntmps27
  go_wp2_with fail
  refine (refRightOp_yes i n _ H.out).mono ?_
  rintro e w1 ⟨rfl, hb⟩
  have g1 : Below w.heap.size w w1 := (below_alloc (Below.refl _ _) _).trans (hb.mono (by simp))
  have c0 : w1.cell? ⟨w.heap.size, 0, none⟩ = some (.int .i64 i) := by rw [hb.cell (by simp)]; go_simp
  have c1 : w1.cell? ⟨w.heap.size, 1, none⟩ = some (.int .i64 n) := by rw [hb.cell (by simp)]; go_simp
  have G1 := Lib.hid g1
  clear hb g1
  go_wp2_with fail
  refine (refHas_yes (HV.out.below G1.out HV.out.lt) i n H.out).mono ?_
  have hd : decide (n ≤ xs.getD i 0) = true := decide_eq_true HN.out
  rw [hd]
  rintro e w2 ⟨rfl, hb⟩
  have G2 := Lib.hid (G1.out.trans (hb.mono G1.out.size))
  clear hb hd
  go_wp2_with fail
  go_ret
  exact ⟨rfl, G2.out⟩
set_option maxHeartbeats 400000 in
theorem refAdd_early {w : World} {b : Nat} {xs : List Int} (hv : VecAt w 53 b xs) (i : Nat) (n : Int) (h : rightB i n = true) (hn : xs.getD i 0 < n) (hne : n ≠ xs.getD i 0 + 1) :
    Calls Try.prog 27 #[.pointer (some ⟨b, 0, none⟩), .agg #[.int .i64 i, .int .i64 n]] w fun e w' => e = .returned (.int .i64 22) ∧ Below w.heap.size w w' := by
  have HNE := Lib.hid hne
  clear hne
  have H := Lib.hid h; have HV := Lib.hid hv; have HN := Lib.hid hn
  clear h hv hn
  go_enter Try.func27, Try.ntmps27
  go_wp2_with fail
  refine (refRightOp_yes i n _ H.out).mono ?_
  rintro e w1 ⟨rfl, hb⟩
  have g1 : Below w.heap.size w w1 := (below_alloc (Below.refl _ _) _).trans (hb.mono (by simp))
  have c0 : w1.cell? ⟨w.heap.size, 0, none⟩ = some (.int .i64 i) := by rw [hb.cell (by simp)]; go_simp
  have c1 : w1.cell? ⟨w.heap.size, 1, none⟩ = some (.int .i64 n) := by rw [hb.cell (by simp)]; go_simp
  have G1 := Lib.hid g1
  clear hb g1
  go_wp2_with fail
  refine (refHas_yes (HV.out.below G1.out HV.out.lt) i n H.out).mono ?_
  have hd : decide (n ≤ xs.getD i 0) = false := decide_eq_false (by have := HN.out; omega)
  rw [hd]
  rintro e w2 ⟨rfl, hb⟩
  have G2 := Lib.hid (G1.out.trans (hb.mono G1.out.size))
  have d0 : w2.cell? ⟨w.heap.size, 0, none⟩ = some (.int .i64 i) := (hb.cell (World.block_lt_of_cell? w1 _ c0)).trans c0
  have d1 : w2.cell? ⟨w.heap.size, 1, none⟩ = some (.int .i64 n) := (hb.cell (World.block_lt_of_cell? w1 _ c1)).trans c1
  have hv2 := HV.out.below G2.out HV.out.lt
  have hcv := hv2.cell i (by have := rightB_true H.out; omega)
  have hfz := hv2.frozen i
  have hi' : (i : Int) < 16 := (rightB_true H.out).2.1
  have hrg := HV.out.six.rng i
  have HV2 := Lib.hid hv2
  obtain ⟨x, ex⟩ : ∃ x, x = xs.getD i 0 := ⟨_, rfl⟩
  rw [← ex] at hcv hrg
  have EX := Lib.hid ex
  clear hb hd c0 c1 hv2 ex
  have hx : decide (x + 1 < n) = true := decide_eq_true (by have := HN.out; have := HNE.out; have := EX.out; omega)
  go_wp2_with fail
  go_quiet (fail)
  go_wp2
  go_ret
  exact ⟨rfl, pw_below_drewN G2.out _⟩
set_option maxHeartbeats 400000 in
theorem refAdd_ok {w : World} {b : Nat} {xs : List Int} (hv : VecAt w 53 b xs) (i : Nat) (n : Int) (h : rightB i n = true) (hn : n = xs.getD i 0 + 1) :
    Calls Try.prog 27 #[.pointer (some ⟨b, 0, none⟩), .agg #[.int .i64 i, .int .i64 n]] w fun e w' => e = .returned (.int .i64 0) ∧ VecAt w' 53 b (xs.set i n) ∧ Keep (fun k => k = b) w w' := by
  have H := Lib.hid h; have HV := Lib.hid hv; have HN := Lib.hid hn
  clear h hv hn
  go_enter Try.func27, Try.ntmps27
  go_wp2_with fail
  refine (refRightOp_yes i n _ H.out).mono ?_
  rintro e w1 ⟨rfl, hb⟩
  have g1 : Below w.heap.size w w1 := (below_alloc (Below.refl _ _) _).trans (hb.mono (by simp))
  have c0 : w1.cell? ⟨w.heap.size, 0, none⟩ = some (.int .i64 i) := by rw [hb.cell (by simp)]; go_simp
  have c1 : w1.cell? ⟨w.heap.size, 1, none⟩ = some (.int .i64 n) := by rw [hb.cell (by simp)]; go_simp
  have G1 := Lib.hid g1
  clear hb g1
  go_wp2_with fail
  refine (refHas_yes (HV.out.below G1.out HV.out.lt) i n H.out).mono ?_
  have hd : decide (n ≤ xs.getD i 0) = false := decide_eq_false (by have := HN.out; omega)
  rw [hd]
  rintro e w2 ⟨rfl, hb⟩
  have G2 := Lib.hid (G1.out.trans (hb.mono G1.out.size))
  have d0 : w2.cell? ⟨w.heap.size, 0, none⟩ = some (.int .i64 i) := (hb.cell (World.block_lt_of_cell? w1 _ c0)).trans c0
  have d1 : w2.cell? ⟨w.heap.size, 1, none⟩ = some (.int .i64 n) := (hb.cell (World.block_lt_of_cell? w1 _ c1)).trans c1
  have hv2 := HV.out.below G2.out HV.out.lt
  have hcv := hv2.cell i (by have := rightB_true H.out; omega)
  have hfz := hv2.frozen i
  have hi' : (i : Int) < 16 := (rightB_true H.out).2.1
  have hrg := HV.out.six.rng i
  have HV2 := Lib.hid hv2
  obtain ⟨x, ex⟩ : ∃ x, x = xs.getD i 0 := ⟨_, rfl⟩
  rw [← ex] at hcv hrg
  have EX := Lib.hid ex
  clear hb hd c0 c1 hv2 ex
  have hx : decide (x + 1 < n) = false := decide_eq_false (by have := HN.out; have := EX.out; omega)
  go_wp2_with fail
  go_quiet (fail)
  go_wp2
  go_region
  go_wp2
  go_ret
  have h3 := rightB_true H.out
  refine ⟨rfl, ?_, ?_⟩
  · exact VecAt.set (w := w2.drewN (nq + 1)) ⟨HV2.out.blk, HV2.out.six⟩ i n (by omega) (by omega)
  · exact ((Keep.of_below (F := fun k => k = b) G2.out (fun i h1 h2 => by omega)).trans (Keep.drewN (fun k => k = b) w2 (nq + 1)) (fun _ _ h => h)).trans (Keep.setCell (F := fun k => k = b) (w2.drewN (nq + 1)) (p := ⟨b, i, none⟩) rfl _) (fun _ _ h => h)
theorem refAdd_any {w : World} {b : Nat} {xs : List Int} (hv : VecAt w 53 b xs) (r n : Int) :
    Calls Try.prog 27 #[.pointer (some ⟨b, 0, none⟩), .agg #[.int .i64 r, .int .i64 n]] w fun e w' => e = .returned (.int .i64 (addE xs r n)) ∧ VecAt w' 53 b (addV xs r n) ∧ Keep (fun k => k = b) w w' := by
  have same : ∀ w', Below w.heap.size w w' → VecAt w' 53 b xs ∧ Keep (fun k => k = b) w w' := fun w' h => ⟨hv.below h hv.lt, Keep.of_below h (fun i h1 h2 => by omega)⟩
  unfold addV addE
  cases h : rightB r n with
  | false =>
    refine (refAdd_form r n h).mono ?_
    rintro e w' ⟨rfl, hb⟩
    exact ⟨rfl, same w' hb⟩
  | true =>
    obtain ⟨i, rfl⟩ := Int.eq_ofNat_of_zero_le (rightB_true h).1
    simp only [Int.toNat_natCast, Bool.true_eq_false, if_false]
    by_cases h1 : n ≤ xs.getD i 0
    · rw [if_pos h1]
      refine (refAdd_there hv i n h h1).mono ?_
      rintro e w' ⟨rfl, hb⟩
      exact ⟨rfl, same w' hb⟩
    · rw [if_neg h1]
      by_cases h2 : n = xs.getD i 0 + 1
      · rw [if_neg (by omega)]
        exact refAdd_ok hv i n h h2
      · rw [if_pos h2]
        refine (refAdd_early hv i n h (by omega) h2).mono ?_
        rintro e w' ⟨rfl, hb⟩
        exact ⟨rfl, same w' hb⟩
set_option maxHeartbeats 1000000 in
theorem refList_ok {w : World} {b : Nat} {xs : List Int} (hv : VecAt w 53 b xs) :
    Calls Try.prog 21 #[.pointer (some ⟨b, 0, none⟩)] w fun e w' => ∃ v, e = .returned v ∧ (Kd.int .i64).R 3 w' w.heap.size (fun _ => True) v xs ∧ Below w.heap.size w w' := by
  have HV := Lib.hid hv
  clear hv
  go_enter Try.func21, Try.ntmps21
  go_wp2_with ((with_reducible refine gate_dst (N := 5) rfl ?_)
               refine Kd.R_lit (Kd.int .i64) _ 3 ?hg (N := 5) ?hd (xs := ([] : List Int)) (inner := []) (ok := fun _ => True) (okp := fun _ => True) ?hr ?hp (fun _ hk => hk) trivial (Below.refl _ _) (Nat.le_refl _) (by simp) ?_
               (case hd => rfl)
               (case hg => rfl)
               (case hr => first | (go_simp; done) | (go_simp; rfl))
               (case hp => exact (Reps.none _ _))
               intro v5 w4 ho4 hb4 hg_ hnew_
               have HO4 := Lib.hid ho4; have B4 := Lib.hid hb4
               clear hg_ hnew_ ho4 hb4)
  go_loopw [3, 4] (fun out i wr => ∃ k : Nat, k ≤ 16 ∧ i = .int .i64 k ∧ (Kd.int .i64).R 3 wr w.heap.size (fun _ => True) out (xs.take k) ∧ Below w.heap.size w wr) (fun _ i _ => 16 - (intOf i).toNat)
  case atStart => exact ⟨0, by omega, rfl, HO4.out, B4.out⟩
  case round =>
    obtain ⟨k, hk, rfl, hr, hb⟩ := hrel
    by_cases hlt : k < 16
    · have hc := (HV.out.below hb HV.out.lt).cell k hlt
      have hlt' : (k : Int) < 16 := by omega
      have htk : xs.take (k + 1) = xs.take k ++ [xs.getD k 0] := by
        rw [List.take_succ_eq_append_getElem (by rw [HV.out.six.len]; exact hlt), List.getD_eq_getElem?_getD, List.getElem?_eq_getElem (by rw [HV.out.six.len]; exact hlt)]; rfl
      have HR := Lib.hid hr; have HB := Lib.hid hb; have HT := Lib.hid htk
      obtain ⟨x, ex⟩ : ∃ x, x = xs.getD k 0 := ⟨_, rfl⟩
      rw [← ex] at hc HT
      clear hr hb htk ex
      go_wp2_with (at_builtin; go_loud (refine Kd.R_append (Kd.int .i64) (w0 := w) w.heap.size rfl (.tmp 10) (.tmp 17) 22 3 _ 8 rfl Try.underlying22 info3 rfl (by decide) (by decide) u3 (xs.take k) x [.int .i64 x] (fun _ => True) (fun _ => False) rfl rfl rfl (fun _ h => h.elim) (fun _ _ => trivial) HR.out HB.out HB.out.size (by rw [List.length_take]; omega) ?_); intro v1 w1 hr1 hb1 hg1 hat1; have HR1 := Lib.hid hr1; have HB1 := Lib.hid hb1; clear hr1 hb1 hg1 hat1 hc)
      go_roundw
      case rel => exact ⟨k + 1, by omega, by go_num, by rw [HT.out]; exact HR1.out, HB1.out⟩
      case measure => simp [intOf]; omega
    · obtain rfl : k = 16 := by omega
      rw [List.take_of_length_le (by rw [HV.out.six.len]; omega)] at hr
      have HR := Lib.hid hr; have HB := Lib.hid hb
      clear hr hb
      go_wp2
      go_ret
      exact ⟨_, rfl, HR.out, HB.out⟩
set_option maxHeartbeats 1000000 in
theorem refCount_ok {w : World} {b : Nat} {xs : List Int} (hv : VecAt w 53 b xs) :
    Calls Try.prog 26 #[.pointer (some ⟨b, 0, none⟩)] w fun e w' => e = .returned (.int .i64 xs.sum) ∧ w' = w := by
  have HV := Lib.hid hv
  clear hv
  go_enter Try.func26, Try.ntmps26
  go_wp2
  go_loop [3, 4] (fun s i => ∃ k : Nat, k ≤ 16 ∧ i = .int .i64 k ∧ s = .int .i64 (sumV xs k)) (fun _ i => 16 - (intOf i).toNat)
  case atStart => exact ⟨0, by omega, rfl, rfl⟩
  case round =>
    obtain ⟨k, hk, rfl, rfl⟩ := hrel
    by_cases hlt : k < 16
    · have hc := HV.out.cell k hlt
      have hlt' : (k : Int) < 16 := by omega
      have hs := sumV_bd HV.out.six k
      have hr := HV.out.six.rng k
      have HS := Lib.hid (sumV_succ HV.out.six k hlt)
      obtain ⟨x, hx⟩ : ∃ x, x = xs.getD k 0 := ⟨_, rfl⟩
      rw [← hx] at hc hr HS
      clear hx
      go_wp2
      go_round
      case rel => exact ⟨k + 1, by omega, by go_num, by rw [HS.out]⟩
      case measure => simp [intOf]; omega
    · have e : xs.take k = xs := List.take_of_length_le (by rw [HV.out.six.len]; omega)
      have e' : sumV xs k = xs.sum := by unfold sumV; rw [e]
      rw [e']
      clear e e'
      go_wp2
      go_ret
      exact ⟨rfl, rfl⟩
end Go.Proofs.Ytbnblddgnhdneaa.Vec
