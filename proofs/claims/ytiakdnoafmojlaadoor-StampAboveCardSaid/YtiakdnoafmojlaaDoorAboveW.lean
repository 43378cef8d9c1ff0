/- StampAbove: the walk. -/
import Derived.Test.YtiakdnoafmojlaaDoorClocksW
namespace Go.Proofs.YtiakdnoafmojlaaDoor.Q
open Go.RowKit Go.Proofs.YtiakdnoafmojlaaDoorW.PrintWords Go.Proofs.YtiakdnoafmojlaaDoorW.PrintLast Go.Proofs.YtiakdnoafmojlaaDoorW.PrintMore Go.Proofs.YtiakdnoafmojlaaDoor.Mem
attribute [local go_sem] max2_int min2_int max_two min_two
set_option linter.unusedVariables false
set_option linter.unusedSimpArgs false
theorem rst_f {T R : Int} (h1 : 1 ≤ T) (h2 : T ≤ 1099511627776) (h3 : 0 ≤ R) (h4 : R < 16) : stamp_RightStamp.f T R = some true := by
  unfold stamp_RightStamp.f
  rw [if_pos h1, if_pos h2, if_pos h3, decide_eq_true h4]
attribute [local go_sem high] eqA24
set_option maxRecDepth 100000 in
set_option maxHeartbeats 4000000 in
theorem above_walk (W : World) (hG : Gl W) (r : Int) (_ : (Lit.int .i64 r).wf = true) (A : Option Addr) (c : Nat) (xs : List (Int × (Int × (Int × Int)))) (hC : Kd.C kCall W A xs.length xs) (hl : xs.length ≤ c) (_ : True) :
    Calls Tryd.prog 6 #[.int .i64 r, .slice A xs.length c] W fun e w' => e = .returned (.bool true) ∧ Below W.heap.size W w' := by
  have G0 := Lib.hid hG; have HC := Lib.hid hC
  clear hG hC hl
  by_cases hbig : 500 < xs.length
  · go_enter Tryd.func6, Tryd.ntmps6
    go_wp2_with (go_at_call 9; refine (alive_ok _ G0.out).mono ?_; rintro e w1 ⟨rfl, bl⟩; have D1 := Lib.hid bl; clear bl)
    go_ret
    exact ⟨rfl, D1.out⟩
  · have hlen : xs.length ≤ 500 := by omega
    by_cases hr : r < 0 ∨ 15 < r
    · by_cases hr0 : r < 0
      · clear hbig hr
        go_enter Tryd.func6, Tryd.ntmps6
        go_wp2_with (first | (go_at_call 9; refine (alive_ok _ G0.out).mono ?_; rintro e w1 ⟨rfl, bl⟩; have D1 := Lib.hid bl; clear bl) | (go_at_call 14; refine (newClock_bad _ r (.inl hr0)).mono ?_; rintro e w2 ⟨rfl, rfl⟩))
        go_ret
        exact ⟨rfl, D1.out⟩
      · have hr1 : 15 < r := by omega
        clear hbig hr
        go_enter Tryd.func6, Tryd.ntmps6
        go_wp2_with (first | (go_at_call 9; refine (alive_ok _ G0.out).mono ?_; rintro e w1 ⟨rfl, bl⟩; have D1 := Lib.hid bl; clear bl) | (go_at_call 14; refine (newClock_bad _ r (.inr hr1)).mono ?_; rintro e w2 ⟨rfl, rfl⟩))
        go_ret
        exact ⟨rfl, D1.out⟩
    · have hr0 : 0 ≤ r := by omega
      have hr1 : r ≤ 15 := by omega
      clear hr
      have n0 : ¬ r < 0 := by omega
      have n1 : ¬ 15 < r := by omega
      go_enter Tryd.func6, Tryd.ntmps6
      go_wp2_with (first | (go_at_call 9; refine (alive_ok _ G0.out).mono ?_; rintro e w1 ⟨rfl, bl⟩; have D1 := Lib.hid bl; clear bl) | (go_at_call 14; refine (newClock_ok _ r hr0 hr1).mono ?_; rintro e w2 ⟨rfl, hc, bl⟩; have C2 := Lib.hid hc; have D2 := Lib.hid (D1.out.trans (bl.mono D1.out.size)); clear hc bl))
      obtain ⟨bc, ebc⟩ : ∃ bc, w1.heap.size = bc := ⟨_, rfl⟩
      have C3 := C2.out
      have S1 := D1.out.size
      rw [ebc] at C3 S1
      rw [ebc]
      have C3 := Lib.hid C3
      have hbB : ∀ k, k < W.heap.size → k ≠ bc := fun k hk => by omega
      have HB := Lib.hid hbB
      clear ebc hbB
      go_loopw [7, 8, 9] (fun v7 v8 v9 wr => ∃ (i : Nat) (t n : Int), i ≤ xs.length ∧ v7 = .int .i64 t ∧ v8 = .int .i64 n ∧ v9 = .int .i64 i ∧ 0 ≤ t ∧ 0 ≤ n ∧ ClkAt wr bc r t n ∧ Below W.heap.size W wr) (fun _ _ v9 _ => xs.length - (intOf v9).toNat)
      case atStart => exact ⟨0, 0, 0, by omega, rfl, rfl, rfl, by omega, by omega, C3.out, D2.out⟩
      case round =>
        obtain ⟨i, t, n, hi, rfl, rfl, rfl, ht, hn, hc, hbm⟩ := hrel
        have CC := Lib.hid hc; have BM := Lib.hid hbm
        clear hc hbm
        by_cases hlt : i < xs.length
        · obtain ⟨ad, eA, y0, y1, y2, y3⟩ := at_call HC.out i hlt
          obtain ⟨x, hx⟩ : ∃ x, xs.getD i (0, 0, 0, 0) = x := ⟨_, rfl⟩
          rw [hx] at y0 y1 y2 y3
          clear hx
          obtain ⟨what, m, R, N⟩ := x
          simp only at y0 y1 y2 y3
          subst eA
          have SC : Hid (∀ z, Below W.heap.size W z → z.cell? (ad.add (i * 4)) = some (.int .i64 what) ∧ z.cell? ⟨(ad.add (i * 4)).block, (ad.add (i * 4)).off + 1, none⟩ = some (.int .i64 m) ∧ z.cell? ⟨(ad.add (i * 4)).block, (ad.add (i * 4)).off + 2, none⟩ = some (.int .i64 R) ∧ z.cell? ⟨(ad.add (i * 4)).block, (ad.add (i * 4)).off + 3, none⟩ = some (.int .i64 N)) := Lib.hid (fun z hz => ⟨cell_on y0 hz, cell_on y1 hz, cell_on y2 hz, cell_on y3 hz⟩)
          clear y0 y1 y2 y3
          obtain ⟨y0, y1, y2, y3⟩ := SC.out _ BM.out
          have gi0 : (0 : Int) ≤ (i : Int) := by omega
          have gi1 : (i : Int) < (xs.length : Int) := by omega
          by_cases hw : what = 0
          · have gw : (what != 0) = false := by simpa using hw
            clear hw
            by_cases hend : 1099511627776 ≤ t ∨ 1048576 ≤ n
            · go_upto_region 20 with (go_at_call 15; refine (tick_end _ _ _ _ _ CC.out hend).mono ?_; rintro e w4 ⟨rfl, bl⟩; have B4 := Lib.hid (BM.out.trans (bl.mono BM.out.size)); clear bl)
              by_cases h1 : 1099511627776 ≤ t
              · clear hend
                go_wp2_with fail
                go_ret
                exact ⟨rfl, below_alloc B4.out _⟩
              · have h2 : 1048576 ≤ n := hend.resolve_left h1
                clear hend
                go_wp2_with fail
                go_ret
                exact ⟨rfl, below_alloc B4.out _⟩
            · have t1 : t < 1099511627776 := by omega
              have n1 : n < 1048576 := by omega
              clear hend
              go_upto_region 20 with (go_at_call 15; refine (tick_ok _ _ _ _ _ CC.out ht hn t1 n1).mono ?_; rintro e w4 ⟨rfl, hc, kp⟩; have C4 := Lib.hid hc; have B4 := Lib.hid (BM.out.trans (kp.below (B := W.heap.size) (fun i h1 h2 => HB.out i h1 h2) BM.out.size)); clear hc kp)
              obtain ⟨w5, e5⟩ : ∃ w5, w5 = w4.alloc (.cells #[.int .i64 r, .int .i64 (n + 1)] 24) := ⟨_, rfl⟩
              have b5 : Below w4.heap.size w4 w5 := by rw [e5]; exact below_alloc (Below.refl _ _) _
              have h5 : w5.heap[w4.heap.size]? = some (.cells #[.int .i64 r, .int .i64 (n + 1)] 24 (0, 0)) := by rw [e5]; exact heap_alloc_new w4 _
              have C5 := Lib.hid (C4.out.keep b5)
              have B5 := Lib.hid (B4.out.trans (b5.mono B4.out.size))
              have p0 := blk_cell h5 0; have p1 := blk_cell h5 1
              simp at p0 p1
              have g1 : ¬ (t + 1 ≤ t) := by omega
              have g2 : ¬ (n + 1 ≤ n) := by omega
              have RO : Hid (rop r (n + 1) = true) := Lib.hid (rop_iff.2 ⟨hr0, by omega, by omega, by omega⟩)
              have RS := Lib.hid (rst_f (T := t + 1) (R := r) (by omega) (by omega) hr0 (by omega))
              rw [← e5]
              clear e5 b5 h5
              go_wp2_with (first
                | (go_at_call 21; refine (rop_ok _ r (n + 1)).mono ?_; rintro e w6 ⟨rfl, bl⟩; rw [RO.out]; have C6 := Lib.hid (C5.out.keep bl); have B6 := Lib.hid (B5.out.trans (bl.mono B5.out.size)); replace p0 := cell_on p0 bl; replace p1 := cell_on p1 bl; clear bl)
                | (go_at_call 22; refine (stamp_RightStamp.calls (t + 1) r true _ RS.out).mono ?_; rintro e w7 ⟨rfl, bl⟩; have C7 := Lib.hid (C6.out.keep bl); have B7 := Lib.hid (B6.out.trans (bl.mono B6.out.size)); replace p0 := cell_on p0 bl; replace p1 := cell_on p1 bl; clear bl))
              exact ⟨⟨i + 1, t + 1, n + 1, by omega, by go_num, by go_num, by go_num, by omega, by omega, C7.out, B7.out⟩, by simp [intOf]; omega⟩
          · have gw : (what != 0) = true := by simpa using hw
            clear hw
            have CD := Lib.hid (show ClkAt wr.drew bc r t n from CC.out)
            have BD := Lib.hid (below_drew1 BM.out)
            go_upto_region 14 with (fail)
            clear y0 y1 y2 y3
            go_region_held3 (fun z => z.cell? (ad.add (i * 4)) = some (.int .i64 what) ∧ z.cell? ⟨(ad.add (i * 4)).block, (ad.add (i * 4)).off + 1, none⟩ = some (.int .i64 m) ∧ z.cell? ⟨(ad.add (i * 4)).block, (ad.add (i * 4)).off + 2, none⟩ = some (.int .i64 R) ∧ z.cell? ⟨(ad.add (i * 4)).block, (ad.add (i * 4)).off + 3, none⟩ = some (.int .i64 N))
              (first | exact SC.out _ B4.out | exact SC.out _ BD.out)
              (first | (go_at_call 17; refine (see_ok _ _ _ _ _ R N m CD.out).mono ?_; rintro e w4 ⟨rfl, hc, kp⟩; have C4 := Lib.hid hc; have B4 := Lib.hid (BD.out.trans (kp.below (B := W.heap.size) (fun i h1 h2 => HB.out i h1 h2) BD.out.size)); clear hc kp) | fail)
            obtain ⟨y0, y1, y2, y3⟩ := SC.out _ B4.out
            go_upto_if 64 with (fail)
            go_cut [7] (fun v7 wc => v7 = .int .i64 (up t m) ∧ wc = w4)
            case first =>
              by_cases hm : m ≤ 1099511627776
              · by_cases hmt : m ≤ t
                · have HU : Hid (up t m = t) := Lib.hid (by unfold up; rw [if_pos hm, if_pos hmt])
                  have hn' : ¬ t < m := by omega
                  go_wp2_with fail
                  go_meet
                  case rel => exact ⟨by rw [HU.out], rfl⟩
                · have HU : Hid (up t m = m) := Lib.hid (by unfold up; rw [if_pos hm, if_neg hmt])
                  have hn' : t < m := by omega
                  go_wp2_with fail
                  go_meet
                  case rel => exact ⟨by rw [HU.out], rfl⟩
              · have HU : Hid (up t m = t) := Lib.hid (by unfold up; rw [if_neg hm])
                go_wp2_with fail
                go_meet
                case rel => exact ⟨by rw [HU.out], rfl⟩
            case rest =>
              obtain ⟨rfl, rfl⟩ := hcut
              obtain ⟨t', et'⟩ : ∃ t', up t m = t' := ⟨_, rfl⟩
              have ht' : 0 ≤ t' := by rw [← et']; exact up_nonneg ht
              have C4 := C4.out
              rw [et'] at C4 ⊢
              have C4 := Lib.hid C4
              clear et'
              cases hrp : rop R N with
              | false =>
                have HU : Hid (upn r n R N = n) := Lib.hid (by unfold upn; rw [if_neg (by rw [hrp]; simp)])
                have HR := Lib.hid hrp
                clear hrp
                go_wp2_with (go_at_call 21; refine (rop_ok _ R N).mono ?_; rintro e w5 ⟨rfl, bl⟩; rw [HR.out]; have C5 := Lib.hid (C4.out.keep bl); have B5 := Lib.hid (B4.out.trans (bl.mono B4.out.size)); replace y0 := cell_on y0 bl; replace y1 := cell_on y1 bl; replace y2 := cell_on y2 bl; replace y3 := cell_on y3 bl; clear bl)
                have C5 := C5.out
                rw [HU.out] at C5
                exact ⟨⟨i + 1, t', n, by omega, by go_num, by go_num, by go_num, ht', hn, C5, B5.out⟩, by simp [intOf]; omega⟩
              | true =>
                have HR := Lib.hid hrp
                clear hrp
                by_cases hRr : R = r
                · have g : (R == r) = true := by simpa using hRr
                  have HRr := Lib.hid hRr
                  clear hRr
                  by_cases hN : N ≤ n
                  · have HU : Hid (upn r n R N = n) := Lib.hid (by unfold upn; rw [if_pos ⟨HR.out, HRr.out⟩, if_pos hN])
                    have hn' : ¬ n < N := by omega
                    go_wp2_with (go_at_call 21; refine (rop_ok _ R N).mono ?_; rintro e w5 ⟨rfl, bl⟩; rw [HR.out]; have C5 := Lib.hid (C4.out.keep bl); have B5 := Lib.hid (B4.out.trans (bl.mono B4.out.size)); replace y0 := cell_on y0 bl; replace y1 := cell_on y1 bl; replace y2 := cell_on y2 bl; replace y3 := cell_on y3 bl; clear bl)
                    have C5 := C5.out
                    rw [HU.out] at C5
                    exact ⟨⟨i + 1, t', n, by omega, by go_num, by go_num, by go_num, ht', hn, C5, B5.out⟩, by simp [intOf]; omega⟩
                  · have HU : Hid (upn r n R N = N) := Lib.hid (by unfold upn; rw [if_pos ⟨HR.out, HRr.out⟩, if_neg hN])
                    have hn' : n < N := by omega
                    go_wp2_with (go_at_call 21; refine (rop_ok _ R N).mono ?_; rintro e w5 ⟨rfl, bl⟩; rw [HR.out]; have C5 := Lib.hid (C4.out.keep bl); have B5 := Lib.hid (B4.out.trans (bl.mono B4.out.size)); replace y0 := cell_on y0 bl; replace y1 := cell_on y1 bl; replace y2 := cell_on y2 bl; replace y3 := cell_on y3 bl; clear bl)
                    have C5 := C5.out
                    rw [HU.out] at C5
                    exact ⟨⟨i + 1, t', N, by omega, by go_num, by go_num, by go_num, ht', by omega, C5, B5.out⟩, by simp [intOf]; omega⟩
                · have g : (R == r) = false := by simpa using hRr
                  have HU : Hid (upn r n R N = n) := Lib.hid (by unfold upn; rw [if_neg (fun h => hRr h.2)])
                  clear hRr
                  go_wp2_with (go_at_call 21; refine (rop_ok _ R N).mono ?_; rintro e w5 ⟨rfl, bl⟩; rw [HR.out]; have C5 := Lib.hid (C4.out.keep bl); have B5 := Lib.hid (B4.out.trans (bl.mono B4.out.size)); replace y0 := cell_on y0 bl; replace y1 := cell_on y1 bl; replace y2 := cell_on y2 bl; replace y3 := cell_on y3 bl; clear bl)
                  have C5 := C5.out
                  rw [HU.out] at C5
                  exact ⟨⟨i + 1, t', n, by omega, by go_num, by go_num, by go_num, ht', hn, C5, B5.out⟩, by simp [intOf]; omega⟩
        · obtain rfl : i = xs.length := by omega
          go_wp2_with fail
          go_ret
          exact ⟨rfl, BM.out⟩
end Go.Proofs.YtiakdnoafmojlaaDoor.Q
