/- Names shown and read: the program's walks. -/
import Derived.Test.YtiakdnoafmojlaaDoorNames
import Derived.BigQuiet
namespace Go.Proofs.YtiakdnoafmojlaaDoor.Q
open Go.RowKit Go.Proofs.YtiakdnoafmojlaaDoorW.PrintWords Go.Proofs.YtiakdnoafmojlaaDoorW.PrintLast Go.Proofs.YtiakdnoafmojlaaDoorW.PrintMore Go.Proofs.YtiakdnoafmojlaaDoor.Mem
open Go.Lib (decDigits atoiAll)
set_option linter.unusedVariables false
set_option linter.unusedSimpArgs false

theorem below_grow {B : Nat} {w w' : World} (h : Below B w w') (os : Array Obj) (hB : B ≤ w'.heap.size) : Below B w (Sort.grow w' os) :=
  ⟨h.os, h.tape, h.output, Nat.le_trans h.size (by simp [Sort.grow]), fun k hk => by
    have : (Sort.grow w' os).heap[k]? = w'.heap[k]? := by
      show (w'.heap ++ os)[k]? = _
      rw [Array.getElem?_append_left (by omega)]
    rw [this]; exact h.block k hk⟩
theorem itoa_ok (w : World) (hG : Gl w) (n : Int) (h0 : 0 ≤ n) (h1 : n ≤ 1048576) :
    Calls Tryd.prog 34 #[.int .i64 n] w fun e w' => e = .returned (.string ⟨(decDigits n.toNat).toArray⟩) ∧ Below w.heap.size w w' := by
  refine (Tryd.strconv_Itoa n (by omega) (by omega) w hG.tab).mono ?_
  rintro e w' ⟨rfl, k, os, rfl⟩
  have : Lib.itoa n = decDigits n.toNat := by unfold Lib.itoa; rw [if_neg (by omega)]
  rw [this]
  exact ⟨rfl, below_grow (pw_below_drewN (Below.refl _ _) k) os (by simp)⟩
attribute [local go_sem high] eqA24
set_option maxHeartbeats 1000000 in
theorem rbl_ok (w : World) (hG : Gl w) (R N : Int) :
    Calls Tryd.prog 13 #[.agg #[.int .i64 R, .int .i64 N]] w fun e w' => e = .returned (.bool (rbl R N)) ∧ Below w.heap.size w w' := by
  obtain ⟨w0, e0⟩ : ∃ w0, w0 = w.alloc (.cells #[.int .i64 R, .int .i64 N] 24) := ⟨_, rfl⟩
  have b0 : Below w.heap.size w w0 := by rw [e0]; exact below_alloc (Below.refl _ _) _
  have hc0 : w0.heap[w.heap.size]? = some (.cells #[.int .i64 R, .int .i64 N] 24 (0, 0)) := by rw [e0]; exact heap_alloc_new w _
  have g0 := hG.on b0
  have q0 := blk_cell hc0 0; have q1 := blk_cell hc0 1
  simp at q0 q1
  have r0 := g0.root0; have r1 := g0.root1; have t0 := g0.trash0; have t1 := g0.trash1
  have E0 := Lib.hid e0; have B0 := Lib.hid b0
  clear hG e0 hc0 g0 b0
  cases h1 : (R == 0 && (N == 0)) with
  | true =>
    have e : rbl R N = true := by unfold rbl; simp at h1; simp [h1]
    have E := Lib.hid e
    clear e
    go_enter Tryd.func13, Tryd.ntmps13
    go_upto_region 1 with (fail)
    rw [← E0.out]
    go_wp2_with fail
    go_ret
    exact ⟨by rw [E.out]; rfl, B0.out⟩
  | false =>
    cases h2 : (R == 1 && (N == 0)) with
    | true =>
      have e : rbl R N = true := by unfold rbl; simp at h2; simp [h2]
      have E := Lib.hid e
      clear e
      go_enter Tryd.func13, Tryd.ntmps13
      go_upto_region 1 with (fail)
      rw [← E0.out]
      go_wp2_with fail
      go_ret
      exact ⟨by rw [E.out]; rfl, B0.out⟩
    | false =>
      have e : rbl R N = rop R N := by
        unfold rbl
        have n1 : ¬ (R = 0 ∧ N = 0) := by simpa using h1
        have n2 : ¬ (R = 1 ∧ N = 0) := by simpa using h2
        simp only [n1, n2, decide_false, Bool.false_or]
      have E := Lib.hid e
      clear e
      go_enter Tryd.func13, Tryd.ntmps13
      go_upto_region 1 with (fail)
      rw [← E0.out]
      go_wp2_with (go_at_call 21; refine (rop_ok _ R N).mono ?_; rintro e w1 ⟨rfl, bl⟩; have BL := Lib.hid (B0.out.trans (bl.mono B0.out.size)); clear bl)
      go_ret
      exact ⟨by rw [E.out]; rfl, BL.out⟩
theorem cat_three (x y z : List UInt8) : (⟨x.toArray⟩ : ByteArray) ++ (⟨y.toArray⟩ : ByteArray) ++ (⟨z.toArray⟩ : ByteArray) = ⟨(x ++ (y ++ z)).toArray⟩ := by
  apply ByteArray.ext
  simp [ByteArray.data_append]
set_option maxHeartbeats 2000000 in
theorem show_ok (w : World) (hG : Gl w) (R N : Int) :
    Calls Tryd.prog 12 #[.agg #[.int .i64 R, .int .i64 N]] w fun e w' => e = .returned (.string ⟨(shwL R N).toArray⟩) ∧ Below w.heap.size w w' := by
  obtain ⟨w0, e0⟩ : ∃ w0, w0 = w.alloc (.cells #[.int .i64 R, .int .i64 N] 24) := ⟨_, rfl⟩
  have b0 : Below w.heap.size w w0 := by rw [e0]; exact below_alloc (Below.refl _ _) _
  have hc0 : w0.heap[w.heap.size]? = some (.cells #[.int .i64 R, .int .i64 N] 24 (0, 0)) := by rw [e0]; exact heap_alloc_new w _
  have g0 := hG.on b0
  have q0 := blk_cell hc0 0; have q1 := blk_cell hc0 1
  simp at q0 q1
  have r0 := g0.root0; have r1 := g0.root1; have t0 := g0.trash0; have t1 := g0.trash1
  have E0 := Lib.hid e0; have B0 := Lib.hid b0; have G0 := Lib.hid g0
  clear hG e0 hc0 g0 b0
  cases h1 : (R == 0 && (N == 0)) with
  | true =>
    have e : shwL R N = [114, 111, 111, 116] := by unfold shwL; rw [if_pos (by simpa using h1)]
    have E := Lib.hid e
    clear e
    go_enter Tryd.func12, Tryd.ntmps12
    go_upto_region 1 with (fail)
    rw [← E0.out]
    go_wp2_with fail
    go_ret
    exact ⟨by rw [E.out]; rfl, B0.out⟩
  | false =>
    have n1 : ¬ (R = 0 ∧ N = 0) := by simpa using h1
    cases h2 : (R == 1 && (N == 0)) with
    | true =>
      have e : shwL R N = [116, 114, 97, 115, 104] := by unfold shwL; rw [if_neg n1, if_pos (by simpa using h2)]
      have E := Lib.hid e
      clear e n1
      go_enter Tryd.func12, Tryd.ntmps12
      go_upto_region 1 with (fail)
      rw [← E0.out]
      go_wp2_with fail
      go_ret
      exact ⟨by rw [E.out]; rfl, B0.out⟩
    | false =>
      have n2 : ¬ (R = 1 ∧ N = 0) := by simpa using h2
      cases h3 : rop R N with
      | false =>
        have e : shwL R N = [63] := by unfold shwL; rw [if_neg n1, if_neg n2, if_neg (by rw [h3]; decide)]
        have E := Lib.hid e; have H3 := Lib.hid h3
        clear e n1 n2 h3
        go_enter Tryd.func12, Tryd.ntmps12
        go_upto_region 1 with (fail)
        rw [← E0.out]
        go_wp2_with (go_at_call 21; refine (rop_ok _ R N).mono ?_; rintro e w1 ⟨rfl, bl⟩; rw [H3.out]; have BL := Lib.hid (B0.out.trans (bl.mono B0.out.size)); clear bl)
        go_ret
        exact ⟨by rw [E.out]; rfl, BL.out⟩
      | true =>
        have e := shw_rop h3
        obtain ⟨k1, k2, k3, k4⟩ := rop_iff.1 h3
        have E := Lib.hid e; have H3 := Lib.hid h3
        have k2' : R ≤ 1048576 := by omega
        have k3' : 0 ≤ N := by omega
        clear e n1 n2 h3
        go_enter Tryd.func12, Tryd.ntmps12
        go_upto_region 1 with (fail)
        rw [← E0.out]
        go_upto_region 7 with (go_at_call 21; refine (rop_ok _ R N).mono ?_; rintro e w1 ⟨rfl, bl⟩; rw [H3.out]; have BL := Lib.hid bl; clear bl)
        have DD := Lib.hid (BL.out.trans (below_drew1 (Below.refl w1.heap.size w1) |>.mono BL.out.size))
        have SC : Hid (∀ z, Below w0.heap.size w0 z → z.cell? ⟨w.heap.size, 0, none⟩ = some (.int .i64 R) ∧ z.cell? ⟨w.heap.size, 1, none⟩ = some (.int .i64 N)) := Lib.hid (fun z hz => ⟨cell_on q0 hz, cell_on q1 hz⟩)
        clear q0 q1 r0 r1 t0 t1
        obtain ⟨sR, esR⟩ : ∃ s : ByteArray, s = ⟨(decDigits R.toNat).toArray⟩ := ⟨_, rfl⟩
        obtain ⟨sN, esN⟩ : ∃ s : ByteArray, s = ⟨(decDigits N.toNat).toArray⟩ := ⟨_, rfl⟩
        have zR : sR.size ≤ 7 := by rw [esR]; exact dec_len 6 R.toNat (by omega)
        have zN : sN.size ≤ 7 := by rw [esN]; exact dec_len 6 N.toNat (by omega)
        have ER := Lib.hid esR; have EN := Lib.hid esN
        have f1 : (9223372036854775807 < sR.size + 1) = False := eq_false (by omega)
        have f2 : (9223372036854775807 < sR.size + 1 + sN.size) = False := eq_false (by omega)
        clear esR esN
        go_region_held3 (fun z => z.cell? ⟨w.heap.size, 0, none⟩ = some (.int .i64 R) ∧ z.cell? ⟨w.heap.size, 1, none⟩ = some (.int .i64 N))
          (exact SC.out _ DD.out)
          (first
            | (go_at_call_of 34 (Value.int IntKind.i64 R); refine (itoa_ok _ (G0.out.on DD.out) R k1 k2').mono ?_; rintro e w2 ⟨rfl, bl⟩; rw [← ER.out]; have DD := Lib.hid (DD.out.trans (bl.mono DD.out.size)); clear bl)
            | (go_at_call_of 34 (Value.int IntKind.i64 N); refine (itoa_ok _ (G0.out.on DD.out) N k3' k4).mono ?_; rintro e w2 ⟨rfl, bl⟩; rw [← EN.out]; have DD := Lib.hid (DD.out.trans (bl.mono DD.out.size)); clear bl)
            | fail)
        all_goals
          go_wp2_with fail
          go_ret
          refine ⟨?_, B0.out.trans (DD.out.mono B0.out.size)⟩
          rw [E.out, ← cat_three, ← ER.out, ← EN.out]
          rfl
end Go.Proofs.YtiakdnoafmojlaaDoor.Q
