/- The clock's See, and the reference's clock. -/
import Derived.Test.YtiakdnoafmojlaaDoorClock
import Derived.Deep.RegionWith
import Derived.Deep.RegionHeld3
import Derived.Deep.DeepCutAuto
namespace Go.Proofs.YtiakdnoafmojlaaDoor.Q
open Go.RowKit Go.Proofs.YtiakdnoafmojlaaDoorW.PrintWords Go.Proofs.YtiakdnoafmojlaaDoorW.PrintLast Go.Proofs.YtiakdnoafmojlaaDoorW.PrintMore Go.Proofs.YtiakdnoafmojlaaDoor.Mem
set_option linter.unusedVariables false
set_option linter.unusedSimpArgs false

/-- Is it an op's name? -/
def rop (R N : Int) : Bool := decide (0 ≤ R ∧ R < 16 ∧ 1 ≤ N ∧ N ≤ 1048576)
theorem rop_f (R N : Int) : stamp_RightOp.f R N = some (rop R N) := by
  unfold stamp_RightOp.f rop
  by_cases h1 : 0 ≤ R
  · by_cases h2 : R < 16
    · by_cases h3 : 1 ≤ N
      · rw [if_pos h1, if_pos h2, if_pos h3]; simp [h1, h2, h3]
      · rw [if_pos h1, if_pos h2, if_neg h3]; simp [h3]
    · rw [if_pos h1, if_neg h2]; simp [h2]
  · rw [if_neg h1]; simp [h1]
theorem rop_ok (w : World) (R N : Int) : Calls Tryd.prog 21 #[.agg #[.int .i64 R, .int .i64 N]] w fun e w' => e = .returned (.bool (rop R N)) ∧ Below w.heap.size w w' := stamp_RightOp.calls R N (rop R N) w (rop_f R N)
/-- A time that is at least another one, if that one is not too great. -/
def up (t m : Int) : Int := if m ≤ 1099511627776 then (if m ≤ t then t else m) else t
/-- A number behind a name that is seen. -/
def upn (r n R N : Int) : Int := if rop R N = true ∧ R = r then (if N ≤ n then n else N) else n
set_option maxHeartbeats 2000000 in
theorem see_ok (w : World) (b : Nat) (r t n R N m : Int) (h : ClkAt w b r t n) :
    Calls Tryd.prog 17 #[.pointer (some ⟨b, 0, none⟩), .agg #[.int .i64 R, .int .i64 N], .int .i64 m] w fun e w' => e = .returned (.tuple #[]) ∧ ClkAt w' b r (up t m) (upn r n R N) ∧ Keep (fun k => k = b) w w' := by
  have hlt := lt_of_blk h
  obtain ⟨w0, e0⟩ : ∃ w0, w0 = w.alloc (.cells #[.int .i64 R, .int .i64 N] 24) := ⟨_, rfl⟩
  have b0 : Below w.heap.size w w0 := by rw [e0]; exact below_alloc (Below.refl _ _) _
  have h0 : ClkAt w0 b r t n := (b0.block b hlt).trans h
  have hc0 : w0.heap[w.heap.size]? = some (.cells #[.int .i64 R, .int .i64 N] 24 (0, 0)) := by rw [e0]; exact heap_alloc_new w _
  have c1 := blk_cell h0 1; have f1 := blk_frozen h0 1
  simp at c1
  have H0 := Lib.hid h0; have E0 := Lib.hid e0; have HC0 := Lib.hid hc0; have B0 := Lib.hid b0; have HLT := Lib.hid hlt; have C1 := Lib.hid c1; have F1 := Lib.hid f1
  clear h h0 e0 hlt hc0 b0 c1 f1
  go_enter Tryd.func17, Tryd.ntmps17
  go_upto_region 1 with (fail)
  rw [← E0.out]
  go_upto_if 7 with (fail)
  go_cut [12] (fun _ wc => ClkAt wc b r (up t m) n ∧ wc.heap[w.heap.size]? = some (.cells #[.int .i64 R, .int .i64 N] 24 (0, 0)) ∧ Keep (fun k => k = b) w wc)
  case first =>
    have hk : Keep (fun k => k = b) w w0 := Keep.of_below B0.out (fun i h1 h2 => by have := HLT.out; omega)
    have hne : w.heap.size ≠ b := by have := HLT.out; omega
    have HK := Lib.hid hk
    by_cases hm : m ≤ 1099511627776
    · by_cases hmt : m ≤ t
      · have HU : Hid (up t m = t) := Lib.hid (by unfold up; rw [if_pos hm, if_pos hmt])
        go_wp2_with (go_at_call 36; refine (raise_le _ _ _ _ C1.out hmt).mono ?_; rintro e w' ⟨rfl, rfl⟩)
        go_meet
        case rel => exact ⟨by rw [HU.out]; exact H0.out, HC0.out, HK.out⟩
      · have HU : Hid (up t m = m) := Lib.hid (by unfold up; rw [if_pos hm, if_neg hmt])
        go_wp2_with (go_at_call 36; refine (raise_gt _ _ _ _ C1.out F1.out hmt).mono ?_; rintro e w' ⟨rfl, rfl⟩)
        go_meet
        case rel => exact ⟨by rw [HU.out]; unfold ClkAt; simpa using blk_set H0.out 1 (.int .i64 m), blk_far HC0.out hne _, HK.out.trans (Keep.setCell (F := fun k => k = b) w0 (p := ⟨b, 1, none⟩) rfl _) (fun _ _ h => h)⟩
    · have HU : Hid (up t m = t) := Lib.hid (by unfold up; rw [if_neg hm])
      go_wp2_with fail
      go_meet
      case rel => exact ⟨by rw [HU.out]; exact H0.out, HC0.out, HK.out⟩
  case rest =>
    obtain ⟨h1, hc1, k1⟩ := hcut
    have H1 := Lib.hid h1; have HC1 := Lib.hid hc1; have K1 := Lib.hid k1
    have q0 := blk_cell hc1 0; have q1 := blk_cell hc1 1
    have r0 := blk_cell h1 0
    simp at q0 q1 r0
    have sz : w.heap.size + 1 ≤ wc.heap.size := by have := lt_of_blk hc1; omega
    have D0 := Lib.hid (below_drew1 (Below.refl wc.heap.size wc))
    have HBL : Hid (b < w.heap.size) := HLT
    have SC : Hid (∀ z, Below wc.heap.size wc z → z.cell? ⟨w.heap.size, 0, none⟩ = some (.int .i64 R) ∧ z.cell? ⟨w.heap.size, 1, none⟩ = some (.int .i64 N) ∧ z.cell? ⟨b, 0, none⟩ = some (.int .i64 r)) := Lib.hid (fun z hz => ⟨(hz.cell (p := ⟨w.heap.size, 0, none⟩) (by show w.heap.size < wc.heap.size; omega)).trans q0, (hz.cell (p := ⟨w.heap.size, 1, none⟩) (by show w.heap.size < wc.heap.size; omega)).trans q1, (hz.cell (p := ⟨b, 0, none⟩) (by show b < wc.heap.size; have := HLT.out; omega)).trans r0⟩)
    have SZ := Lib.hid sz
    clear h1 hc1 k1 sz
    cases hr : rop R N with
    | false =>
      have HR := Lib.hid hr
      clear hr
      go_wp2_with fail
      first
        | (go_region_with (go_at_call 21; refine (rop_ok _ R N).mono ?_; rintro e w1 ⟨rfl, bl⟩; rw [HR.out]; have D1 := Lib.hid (D0.out.trans (bl.mono (by simp))); have Z1 := Lib.hid bl; clear bl))
        | fail
      all_goals
        go_wp2_with fail
        first | go_end0 | ((try simp only [Exit.inBlock, Exit.then]); refine bodyPost_ret (results_none rfl _ _ _) rfl ?_)
        refine ⟨rfl, ?_, K1.out.trans (Keep.of_below D1.out (F := fun k => k = b) (fun i h1 h2 => by omega)) (fun _ _ h => h)⟩
        have e : upn r n R N = n := by unfold upn; rw [if_neg (by rw [HR.out]; simp)]
        rw [e]
        exact (D1.out.block b (by have := HLT.out; have := SZ.out; omega)).trans H1.out
    | true =>
      have HR := Lib.hid hr
      clear hr
      go_wp2_with fail
      go_region_held3 (fun z => z.cell? ⟨w.heap.size, 0, none⟩ = some (.int .i64 R) ∧ z.cell? ⟨w.heap.size, 1, none⟩ = some (.int .i64 N) ∧ z.cell? ⟨b, 0, none⟩ = some (.int .i64 r))
          (first | exact SC.out _ D1.out | exact SC.out _ D0.out)
          (first | (go_at_call 21; refine (rop_ok _ R N).mono ?_; rintro e w1 ⟨rfl, bl⟩; rw [HR.out]; have D1 := Lib.hid (D0.out.trans (bl.mono (by simp))); clear bl) | fail)
      have hw1 : ClkAt w1 b r (up t m) n := (D1.out.block b (by have := HLT.out; have := SZ.out; omega)).trans H1.out
      have hk1 : Keep (fun k => k = b) w w1 := K1.out.trans (Keep.of_below D1.out (F := fun k => k = b) (fun i h1 h2 => by omega)) (fun _ _ h => h)
      have HW1 := Lib.hid hw1; have HK1 := Lib.hid hk1
      clear hw1 hk1
      by_cases hRr : R = r
      · have g : (R == r) = true := by simpa using hRr
        have HRr := Lib.hid hRr
        clear hRr
        have sc1 := SC.out _ D1.out
        obtain ⟨z0, z1, z2⟩ := sc1
        clear q0 q1 r0
        have c2 := blk_cell HW1.out 2; have f2 := blk_frozen HW1.out 2
        simp at c2
        have C2 := Lib.hid c2; have F2 := Lib.hid f2
        have HNB : Hid (w.heap.size ≠ b) := Lib.hid (show w.heap.size ≠ b by have := HLT.out; omega)
        clear c2 f2
        go_wp2_with fail
        by_cases hN : N ≤ n
        · go_region_held3 (fun z => z.cell? ⟨w.heap.size, 1, none⟩ = some (.int .i64 N))
              (first | exact (cell_on z1 E2.out) | exact (cell_on z1 (below_drew1 (Below.refl w1.heap.size w1))))
              (first | (go_at_call 36; refine (raise_le _ _ _ _ (cell_on C2.out (below_drew1 (Below.refl w1.heap.size w1))) hN).mono ?_; rintro e w2 ⟨rfl, rfl⟩; have E2 := Lib.hid (below_drew1 (Below.refl w1.heap.size w1))) | fail)
          go_wp2_with fail
          first | go_end0 | ((try simp only [Exit.inBlock, Exit.then]); refine bodyPost_ret (results_none rfl _ _ _) rfl ?_)
          have e : upn r n R N = n := by unfold upn; rw [if_pos ⟨HR.out, HRr.out⟩, if_pos hN]
          rw [e]
          exact ⟨rfl, HW1.out, HK1.out.trans (Keep.of_below E2.out (F := fun k => k = b) (fun i h1 h2 => by omega)) (fun _ _ h => h)⟩
        · have ZQ : Hid ((w1.setCell ⟨b, 2, none⟩ (.int .i64 N)).cell? ⟨w.heap.size, 1, none⟩ = some (.int .i64 N)) := Lib.hid ((World.cell?_setCell_other _ _ _ _ (fun e => HNB.out (congrArg Addr.block e).symm)).trans z1)
          go_region_held3 (fun z => z.cell? ⟨w.heap.size, 1, none⟩ = some (.int .i64 N))
              (first | exact ZQ.out | exact (cell_on z1 (below_drew1 (Below.refl w1.heap.size w1))))
              (first | (go_at_call 36; refine (raise_gt _ _ _ _ (cell_on C2.out (below_drew1 (Below.refl w1.heap.size w1))) F2.out hN).mono ?_; rintro e w2 ⟨rfl, rfl⟩) | fail)
          go_wp2_with fail
          first | go_end0 | ((try simp only [Exit.inBlock, Exit.then]); refine bodyPost_ret (results_none rfl _ _ _) rfl ?_)
          have e : upn r n R N = N := by unfold upn; rw [if_pos ⟨HR.out, HRr.out⟩, if_neg (by omega)]
          rw [e]
          have h2 : ClkAt (w1.setCell ⟨b, 2, none⟩ (.int .i64 N)) b r (up t m) N := by unfold ClkAt; simpa using blk_set HW1.out 2 (.int .i64 N)
          have k2 := HK1.out.trans (Keep.setCell (F := fun k => k = b) w1 (p := ⟨b, 2, none⟩) rfl (.int .i64 N)) (fun _ _ h => h)
          exact ⟨rfl, h2, k2.trans ⟨rfl, rfl, rfl, Nat.le_refl _, fun _ _ _ => rfl⟩ (G := fun k => k = b) (fun _ _ h => h)⟩
      · have g : (R == r) = false := by simpa using hRr
        have HRr := Lib.hid hRr
        clear hRr
        go_wp2_with fail
        first | go_end0 | ((try simp only [Exit.inBlock, Exit.then]); refine bodyPost_ret (results_none rfl _ _ _) rfl ?_)
        refine ⟨rfl, ?_, HK1.out⟩
        have e : upn r n R N = n := by unfold upn; rw [if_neg (fun h => HRr.out h.2)]
        rw [e]
        exact HW1.out
end Go.Proofs.YtiakdnoafmojlaaDoor.Q
