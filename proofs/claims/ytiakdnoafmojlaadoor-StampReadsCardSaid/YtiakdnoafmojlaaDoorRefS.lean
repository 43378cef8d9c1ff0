/- The reference's names shown and read. -/
import Derived.Test.YtiakdnoafmojlaaDoorBackW
import Derived.Test.YtiakdnoafmojlaaDoorFns2
import Derived.Test.YtiakdnoafmojlaaDoorRefC
namespace Go.Proofs.YtiakdnoafmojlaaDoor.Q
open Go.RowKit Go.Proofs.YtiakdnoafmojlaaDoorW.PrintWords Go.Proofs.YtiakdnoafmojlaaDoorW.PrintLast Go.Proofs.YtiakdnoafmojlaaDoorW.PrintMore Go.Proofs.YtiakdnoafmojlaaDoor.Mem
open Go.Lib (decDigits)
set_option linter.unusedVariables false
set_option linter.unusedSimpArgs false
theorem dig_ext (k : Int) (h0 : 0 ≤ k) (h1 : k < 10) : (⟨#[48, 49, 50, 51, 52, 53, 54, 55, 56, 57]⟩ : ByteArray).extract k.toNat (k + 1).toNat = ⟨#[UInt8.ofNat (48 + k.toNat)]⟩ := by
  have : k = 0 ∨ k = 1 ∨ k = 2 ∨ k = 3 ∨ k = 4 ∨ k = 5 ∨ k = 6 ∨ k = 7 ∨ k = 8 ∨ k = 9 := by omega
  rcases this with rfl | rfl | rfl | rfl | rfl | rfl | rfl | rfl | rfl | rfl <;> decide
theorem dec_low (n : Nat) (h : n < 10) : decDigits n = [UInt8.ofNat (48 + n)] := by
  rw [decDigits, dif_pos h]
theorem dec_high (n : Nat) (h : ¬ n < 10) : decDigits n = decDigits (n / 10) ++ [UInt8.ofNat (48 + n % 10)] := by
  rw [decDigits, dif_neg h]
set_option maxHeartbeats 1000000 in
theorem digits_ok : ∀ (m : Nat) (w : World) (n : Int), 0 ≤ n → n ≤ 1048576 → n.toNat ≤ m → Calls Tryd.prog 41 #[.int .i64 n] w fun e w' => e = .returned (.string ⟨(decDigits n.toNat).toArray⟩) ∧ Below w.heap.size w w' := by
  intro m
  induction m with
  | zero =>
    intro w n h0 h1 h2
    obtain rfl : n = 0 := by omega
    go_enter Tryd.func41, Tryd.ntmps41
    go_wp2_with fail
    go_ret
    exact ⟨by rw [dec_low _ (by decide)]; rfl, Below.refl _ _⟩
  | succ m ih =>
    intro w n h0 h1 h2
    have IH := Lib.hid ih
    clear ih
    by_cases hn : n < 10
    · have E := Lib.hid (dig_ext n h0 hn)
      go_enter Tryd.func41, Tryd.ntmps41
      go_wp2_with fail
      go_ret
      exact ⟨by rw [E.out, dec_low _ (by omega)]; rfl, Below.refl _ _⟩
    · obtain ⟨q, hq⟩ : ∃ q, Int.tdiv n 10 = q := ⟨_, rfl⟩
      obtain ⟨k, hk⟩ : ∃ k, Int.tmod n 10 = k := ⟨_, rfl⟩
      have eq1 : q = n / 10 := by rw [← hq, Int.tdiv_eq_ediv_of_nonneg h0]
      have ek1 : k = n % 10 := by rw [← hk, Int.tmod_eq_emod_of_nonneg h0]
      have k0 : 0 ≤ k := by omega
      have k1 : k < 10 := by omega
      have q0 : 0 ≤ q := by omega
      have q1 : q ≤ 1048576 := by omega
      have q2 : q.toNat ≤ m := by omega
      have ED := dig_ext k k0 k1
      obtain ⟨dg, edg⟩ : ∃ dg : ByteArray, (⟨#[48, 49, 50, 51, 52, 53, 54, 55, 56, 57]⟩ : ByteArray).extract k.toNat (k + 1).toNat = dg := ⟨_, rfl⟩
      rw [edg] at ED
      have zd : dg.size = 1 := by rw [ED]; rfl
      obtain ⟨sD, esD⟩ : ∃ s : ByteArray, s = ⟨(decDigits q.toNat).toArray⟩ := ⟨_, rfl⟩
      have zs : sD.size ≤ 7 := by rw [esD]; exact dec_len 6 q.toNat (by omega)
      have hd : decDigits n.toNat = decDigits q.toNat ++ [UInt8.ofNat (48 + k.toNat)] := by
        rw [dec_high _ (by omega), show n.toNat / 10 = q.toNat by omega, show n.toNat % 10 = k.toNat by omega]
      have hr : sD ++ dg = ⟨(decDigits n.toNat).toArray⟩ := by
        rw [esD, ED, hd]
        apply ByteArray.ext
        simp [ByteArray.data_append]
      have f1 : (9223372036854775807 < sD.size + dg.size) = False := eq_false (by omega)
      have CD : Hid (∀ w, Calls Tryd.prog 41 #[.int .i64 q] w fun e w' => e = .returned (.string sD) ∧ Below w.heap.size w w') := Lib.hid (fun w => by rw [esD]; exact IH.out w q q0 q1 q2)
      have HR := Lib.hid hr
      have DD := Lib.hid (below_drew1 (Below.refl w.heap.size w))
      have wq : IntKind.i64.wrap q = q := by rw [IntKind.wrap_i64]; omega
      have wk : IntKind.i64.wrap (k + 1) = k + 1 := by rw [IntKind.wrap_i64]; omega
      have k2 : k ≤ k + 1 := by omega
      have k3 : k + 1 ≤ 10 := by omega
      have k4 : 0 ≤ k + 1 := by omega
      clear eq1 ek1 ED zd esD zs hd hr IH h2 q0 q1 q2
      go_enter Tryd.func41, Tryd.ntmps41
      go_wp2_with fail
      go_region_held3 (fun z => True) (trivial) (first | (go_at_call 41; with_reducible refine (CD.out _).mono ?_; rintro e w2 ⟨rfl, bl⟩; have DD := Lib.hid (DD.out.trans (bl.mono DD.out.size)); clear bl) | fail)
      go_wp2_with fail
      go_ret
      exact ⟨by rw [← HR.out]; rfl, DD.out⟩
theorem rrbl_f (R N : Int) : offshootref03_RightBlock.f R N = some (rbl R N) := by
  unfold offshootref03_RightBlock.f rbl
  rw [rrop_f, Option.bind_some]
  cases h : rop R N with
  | true => simp
  | false =>
    by_cases hN : N = 0
    · by_cases hR : R = 0
      · simp [hN, hR]
      · simp only [hN, hR, Bool.false_eq_true, if_false, if_true]
        congr 1
        rw [Bool.eq_iff_iff]
        simp
    · simp [hN]
theorem rrbl_ok (w : World) (R N : Int) : Calls Tryd.prog 26 #[.agg #[.int .i64 R, .int .i64 N]] w fun e w' => e = .returned (.bool (rbl R N)) ∧ Below w.heap.size w w' := offshootref03_RightBlock.calls R N (rbl R N) w (rrbl_f R N)
attribute [local go_sem high] eqA24
set_option maxHeartbeats 2000000 in
theorem rshow_ok (w : World) (hG : Gl w) (R N : Int) :
    Calls Tryd.prog 32 #[.agg #[.int .i64 R, .int .i64 N]] w fun e w' => e = .returned (.string ⟨(shwL R N).toArray⟩) ∧ Below w.heap.size w w' := by
  obtain ⟨w0, e0⟩ : ∃ w0, w0 = w.alloc (.cells #[.int .i64 R, .int .i64 N] 24) := ⟨_, rfl⟩
  have b0 : Below w.heap.size w w0 := by rw [e0]; exact below_alloc (Below.refl _ _) _
  have hc0 : w0.heap[w.heap.size]? = some (.cells #[.int .i64 R, .int .i64 N] 24 (0, 0)) := by rw [e0]; exact heap_alloc_new w _
  have g0 := hG.on b0
  have q0 := blk_cell hc0 0; have q1 := blk_cell hc0 1
  simp at q0 q1
  have r0 := g0.root0; have r1 := g0.root1; have t0 := g0.trash0; have t1 := g0.trash1
  have E0 := Lib.hid e0; have B0 := Lib.hid b0
  clear hG e0 hc0 g0 b0
  cases hb : rbl R N with
  | false =>
    have E := Lib.hid (shw_none hb)
    have HB := Lib.hid hb
    clear hb
    go_enter Tryd.func32, Tryd.ntmps32
    go_upto_region 1 with (fail)
    rw [← E0.out]
    go_wp2_with (go_at_call 26; refine (rrbl_ok _ R N).mono ?_; rintro e w1 ⟨rfl, bl⟩; rw [HB.out]; have BL := Lib.hid bl; replace q0 := cell_on q0 bl; replace q1 := cell_on q1 bl; replace r0 := cell_on r0 bl; replace r1 := cell_on r1 bl; replace t0 := cell_on t0 bl; replace t1 := cell_on t1 bl; clear bl)
    go_ret
    exact ⟨by rw [E.out]; rfl, B0.out.trans (BL.out.mono B0.out.size)⟩
  | true =>
    have HB := Lib.hid hb
    cases h1 : (R == 0 && (N == 0)) with
    | true =>
      have e : shwL R N = [114, 111, 111, 116] := by unfold shwL; rw [if_pos (by simpa using h1)]
      have E := Lib.hid e
      clear e hb
      go_enter Tryd.func32, Tryd.ntmps32
      go_upto_region 1 with (fail)
      rw [← E0.out]
      go_wp2_with (go_at_call 26; refine (rrbl_ok _ R N).mono ?_; rintro e w1 ⟨rfl, bl⟩; rw [HB.out]; have BL := Lib.hid bl; replace q0 := cell_on q0 bl; replace q1 := cell_on q1 bl; replace r0 := cell_on r0 bl; replace r1 := cell_on r1 bl; replace t0 := cell_on t0 bl; replace t1 := cell_on t1 bl; clear bl)
      go_ret
      exact ⟨by rw [E.out]; rfl, B0.out.trans (BL.out.mono B0.out.size)⟩
    | false =>
      have n1 : ¬ (R = 0 ∧ N = 0) := by simpa using h1
      cases h2 : (R == 1 && (N == 0)) with
      | true =>
        have e : shwL R N = [116, 114, 97, 115, 104] := by unfold shwL; rw [if_neg n1, if_pos (by simpa using h2)]
        have E := Lib.hid e
        clear e n1 hb
        go_enter Tryd.func32, Tryd.ntmps32
        go_upto_region 1 with (fail)
        rw [← E0.out]
        go_wp2_with (go_at_call 26; refine (rrbl_ok _ R N).mono ?_; rintro e w1 ⟨rfl, bl⟩; rw [HB.out]; have BL := Lib.hid bl; replace q0 := cell_on q0 bl; replace q1 := cell_on q1 bl; replace r0 := cell_on r0 bl; replace r1 := cell_on r1 bl; replace t0 := cell_on t0 bl; replace t1 := cell_on t1 bl; clear bl)
        go_ret
        exact ⟨by rw [E.out]; rfl, B0.out.trans (BL.out.mono B0.out.size)⟩
      | false =>
        have n2 : ¬ (R = 1 ∧ N = 0) := by simpa using h2
        have h3 : rop R N = true := by
          unfold rbl at hb
          simp only [n1, n2, decide_false, Bool.false_or] at hb
          exact hb
        have e := shw_rop h3
        obtain ⟨k1, k2, k3, k4⟩ := rop_iff.1 h3
        have E := Lib.hid e
        have k2' : R ≤ 1048576 := by omega
        have k3' : 0 ≤ N := by omega
        obtain ⟨sR, esR⟩ : ∃ s : ByteArray, s = ⟨(decDigits R.toNat).toArray⟩ := ⟨_, rfl⟩
        obtain ⟨sN, esN⟩ : ∃ s : ByteArray, s = ⟨(decDigits N.toNat).toArray⟩ := ⟨_, rfl⟩
        have zR : sR.size ≤ 7 := by rw [esR]; exact dec_len 6 R.toNat (by omega)
        have zN : sN.size ≤ 7 := by rw [esN]; exact dec_len 6 N.toNat (by omega)
        have CR : Hid (∀ w, Calls Tryd.prog 41 #[.int .i64 R] w fun e w' => e = .returned (.string sR) ∧ Below w.heap.size w w') := Lib.hid (fun w => by rw [esR]; exact digits_ok _ w R k1 k2' (Nat.le_refl _))
        have CN : Hid (∀ w, Calls Tryd.prog 41 #[.int .i64 N] w fun e w' => e = .returned (.string sN) ∧ Below w.heap.size w w') := Lib.hid (fun w => by rw [esN]; exact digits_ok _ w N k3' k4 (Nat.le_refl _))
        have ER := Lib.hid esR; have EN := Lib.hid esN
        have f1 : (9223372036854775807 < sR.size + 1) = False := eq_false (by omega)
        have f2 : (9223372036854775807 < sR.size + 1 + sN.size) = False := eq_false (by omega)
        clear e n1 n2 hb h3 esR esN k1 k2 k3 k4 k2' k3' zR zN
        go_enter Tryd.func32, Tryd.ntmps32
        go_upto_region 1 with (fail)
        rw [← E0.out]
        go_wp2_with (go_at_call 26; refine (rrbl_ok _ R N).mono ?_; rintro e w1 ⟨rfl, bl⟩; rw [HB.out]; have BL := Lib.hid bl; replace q0 := cell_on q0 bl; replace q1 := cell_on q1 bl; replace r0 := cell_on r0 bl; replace r1 := cell_on r1 bl; replace t0 := cell_on t0 bl; replace t1 := cell_on t1 bl; clear bl)
        have DD := Lib.hid (BL.out.trans (below_drew1 (Below.refl w1.heap.size w1) |>.mono BL.out.size))
        have SC : Hid (∀ z, Below w1.heap.size w1 z → z.cell? ⟨w.heap.size, 0, none⟩ = some (.int .i64 R) ∧ z.cell? ⟨w.heap.size, 1, none⟩ = some (.int .i64 N)) := Lib.hid (fun z hz => ⟨cell_on q0 hz, cell_on q1 hz⟩)
        have D1 := Lib.hid (below_drew1 (Below.refl w1.heap.size w1))
        clear q0 q1 r0 r1 t0 t1
        go_region_held3 (fun z => z.cell? ⟨w.heap.size, 0, none⟩ = some (.int .i64 R) ∧ z.cell? ⟨w.heap.size, 1, none⟩ = some (.int .i64 N))
          (exact SC.out _ D1.out)
          (first
            | (go_at_call_of 41 (Value.int IntKind.i64 R); with_reducible refine (CR.out _).mono ?_; rintro e w2 ⟨rfl, bl⟩; have D1 := Lib.hid (D1.out.trans (bl.mono D1.out.size)); clear bl)
            | (go_at_call_of 41 (Value.int IntKind.i64 N); with_reducible refine (CN.out _).mono ?_; rintro e w2 ⟨rfl, bl⟩; have D1 := Lib.hid (D1.out.trans (bl.mono D1.out.size)); clear bl)
            | fail)
        all_goals
          go_wp2_with fail
          go_ret
          refine ⟨?_, B0.out.trans ((BL.out.trans (D1.out.mono BL.out.size)).mono B0.out.size)⟩
          rw [E.out, ← cat_three, ← ER.out, ← EN.out]
          rfl
end Go.Proofs.YtiakdnoafmojlaaDoor.Q
