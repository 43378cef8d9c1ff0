/- StampClocks: the walk. -/
import Derived.Test.YtiakdnoafmojlaaDoorAliveW
import Derived.Test.YtiakdnoafmojlaaDoorRefD
import Derived.Test.YtiakdnoafmojlaaDoorOpens
namespace Go.Proofs.YtiakdnoafmojlaaDoor.Q
open Go.RowKit Go.Proofs.YtiakdnoafmojlaaDoorW.PrintWords Go.Proofs.YtiakdnoafmojlaaDoorW.PrintLast Go.Proofs.YtiakdnoafmojlaaDoorW.PrintMore Go.Proofs.YtiakdnoafmojlaaDoor.Mem
set_option linter.unusedVariables false
set_option linter.unusedSimpArgs false
/-- A call on a clock: what, the time, the name. -/
def kCall : Kd (Int × (Int × (Int × Int))) := Kd.pair (Kd.int .i64) (Kd.pair (Kd.int .i64) (Kd.pair (Kd.int .i64) (Kd.int .i64)))
theorem kCall_open {w : World} {x : Int × (Int × (Int × Int))} {cs : List Value} (h : kCall.K w x cs) : cs = [.int .i64 x.1, .int .i64 x.2.1, .int .i64 x.2.2.1, .int .i64 x.2.2.2] := by
  obtain ⟨_, _, rfl, rfl, ⟨_, _, rfl, rfl, ⟨_, _, rfl, rfl, rfl⟩⟩⟩ := h
  rfl
theorem at_call {w : World} {A : Option Addr} {n : Nat} {xs : List (Int × (Int × (Int × Int)))} (h : Kd.C kCall w A n xs) (i : Nat) (h1 : i < n) :
    ∃ ad : Addr, A = some ad ∧ w.cell? (ad.add (i * 4)) = some (.int .i64 (xs.getD i (0, 0, 0, 0)).1) ∧ w.cell? ⟨(ad.add (i * 4)).block, (ad.add (i * 4)).off + 1, none⟩ = some (.int .i64 (xs.getD i (0, 0, 0, 0)).2.1) ∧ w.cell? ⟨(ad.add (i * 4)).block, (ad.add (i * 4)).off + 2, none⟩ = some (.int .i64 (xs.getD i (0, 0, 0, 0)).2.2.1) ∧ w.cell? ⟨(ad.add (i * 4)).block, (ad.add (i * 4)).off + 3, none⟩ = some (.int .i64 (xs.getD i (0, 0, 0, 0)).2.2.2) := by
  obtain ⟨ad, c, e, _, hK, hc0⟩ := Kd.C_get h (0, 0, 0, 0) (i : Int) (by omega) (by omega)
  rw [Int.toNat_natCast] at hK hc0
  have hc : ∀ j u, c[j]? = some u → w.cell? (ad.add (i * 4 + j)) = some u := hc0
  obtain rfl := kCall_open hK
  exact ⟨ad, e, hc 0 _ rfl, by rw [← add_field _ _ 1 (by omega)]; exact hc 1 _ rfl, by rw [← add_field _ _ 2 (by omega)]; exact hc 2 _ rfl, by rw [← add_field _ _ 3 (by omega)]; exact hc 3 _ rfl⟩
theorem opens24 : Opens.Opens Tryd.prog 24 (Kd.pair (Kd.int .i64) (Kd.int .i64)) (fun _ => True) := Opens.Opens.imp (Opens.opens_struct Tryd.underlying24 (Opens.FO.cons (off' := 1) (Opens.opens_int Tryd.underlying3 (by kernel_rfl)) rfl rfl (Opens.FO.one (Opens.opens_int Tryd.underlying3 (by kernel_rfl)) rfl)) (by kernel_rfl)) (fun _ _ => trivial)
theorem opens40 : Opens.Opens Tryd.prog 40 kCall (fun _ => True) := Opens.Opens.imp (Opens.opens_struct Tryd.underlying40 (Opens.FO.cons (off' := 1) (Opens.opens_int Tryd.underlying3 (by kernel_rfl)) rfl rfl (Opens.FO.cons (off' := 2) (Opens.opens_int Tryd.underlying3 (by kernel_rfl)) rfl rfl (Opens.FO.one opens24 rfl))) (by kernel_rfl)) (fun _ _ => trivial)
theorem opens31 : Opens.Opens Tryd.prog 31 (Kd.slice 40 kCall) (fun _ => True) := Opens.Opens.imp (Opens.opens_slice (P := Tryd.prog) Tryd.underlying31 (by kernel_rfl) opens40) (fun _ _ => trivial)
theorem up_nonneg {t m : Int} (h : 0 ≤ t) : 0 ≤ up t m := by
  unfold up
  split
  · split <;> omega
  · exact h
theorem upn_nonneg {r n R N : Int} (h : 0 ≤ n) : 0 ≤ upn r n R N := by
  unfold upn
  split
  · split <;> omega
  · exact h
theorem ClkAt.kept {F : Nat → Prop} {w w' : World} {b : Nat} {r t n : Int} (h : ClkAt w b r t n) (hk : Keep F w w') (hn : ¬ F b) : ClkAt w' b r t n := hk.at_ h hn
theorem RefAt.kept {F : Nat → Prop} {w w' : World} {b : Nat} {r t n : Int} (h : RefAt w b r t n) (hk : Keep F w w') (hn : ¬ F b) : RefAt w' b r t n := hk.at_ h hn
theorem RefAt.keep {w w' : World} {b : Nat} {r t n : Int} (h : RefAt w b r t n) (hb : Below w.heap.size w w') : RefAt w' b r t n := (hb.block b (lt_of_blk h)).trans h
attribute [local go_sem high] eqA24
set_option maxRecDepth 100000 in
set_option maxHeartbeats 4000000 in
theorem clocks_walk (W : World) (hG : Gl W) (r : Int) (_ : (Lit.int .i64 r).wf = true) (A : Option Addr) (c : Nat) (xs : List (Int × (Int × (Int × Int)))) (hC : Kd.C kCall W A xs.length xs) (hl : xs.length ≤ c) (_ : True) :
    Calls Tryd.prog 5 #[.int .i64 r, .slice A xs.length c] W fun e w' => e = .returned (.bool true) ∧ Below W.heap.size W w' := by
  have G0 := Lib.hid hG; have HC := Lib.hid hC
  clear hG hC hl
  by_cases hbig : 500 < xs.length
  · go_enter Tryd.func5, Tryd.ntmps5
    go_wp2_with (go_at_call 9; refine (alive_ok _ G0.out).mono ?_; rintro e w1 ⟨rfl, bl⟩; have D1 := Lib.hid bl; clear bl)
    go_ret
    exact ⟨rfl, D1.out⟩
  · have hlen : xs.length ≤ 500 := by omega
    by_cases hr : r < 0 ∨ 15 < r
    · by_cases hr0 : r < 0
      · clear hbig hr
        go_enter Tryd.func5, Tryd.ntmps5
        go_wp2_with (first | (go_at_call 9; refine (alive_ok _ G0.out).mono ?_; rintro e w1 ⟨rfl, bl⟩; have D1 := Lib.hid bl; clear bl) | (go_at_call 14; refine (newClock_bad _ r (.inl hr0)).mono ?_; rintro e w2 ⟨rfl, rfl⟩))
        go_ret
        exact ⟨rfl, D1.out⟩
      · have hr1 : 15 < r := by omega
        clear hbig hr
        go_enter Tryd.func5, Tryd.ntmps5
        go_wp2_with (first | (go_at_call 9; refine (alive_ok _ G0.out).mono ?_; rintro e w1 ⟨rfl, bl⟩; have D1 := Lib.hid bl; clear bl) | (go_at_call 14; refine (newClock_bad _ r (.inr hr1)).mono ?_; rintro e w2 ⟨rfl, rfl⟩))
        go_ret
        exact ⟨rfl, D1.out⟩
    · have hr0 : 0 ≤ r := by omega
      have hr1 : r ≤ 15 := by omega
      clear hr
      have n0 : ¬ r < 0 := by omega
      have n1 : ¬ 15 < r := by omega
      go_enter Tryd.func5, Tryd.ntmps5
      go_upto_region 10 with (first | (go_at_call 9; refine (alive_ok _ G0.out).mono ?_; rintro e w1 ⟨rfl, bl⟩; have D1 := Lib.hid bl; clear bl) | (go_at_call 14; refine (newClock_ok _ r hr0 hr1).mono ?_; rintro e w2 ⟨rfl, hc, bl⟩; have C2 := Lib.hid hc; have D2 := Lib.hid (D1.out.trans (bl.mono D1.out.size)); have S2 := Lib.hid (lt_of_blk hc); clear hc bl))
      obtain ⟨w3, e3⟩ : ∃ w3, w3 = w2.alloc (.cells #[.int .i64 r, .int .i64 0, .int .i64 0] 38) := ⟨_, rfl⟩
      have b3 : Below w2.heap.size w2 w3 := by rw [e3]; exact below_alloc (Below.refl _ _) _
      have R3 : Hid (RefAt w3 w2.heap.size r 0 0) := Lib.hid (by rw [e3]; exact heap_alloc_new w2 _)
      have C3 := Lib.hid (C2.out.keep b3)
      have D3 := Lib.hid (D2.out.trans (b3.mono D2.out.size))
      have S1 := Lib.hid D1.out.size
      have E3 := Lib.hid e3
      clear e3 b3
      go_wp2_with fail
      rw [← E3.out]
      obtain ⟨bc, ebc⟩ : ∃ bc, w1.heap.size = bc := ⟨_, rfl⟩
      obtain ⟨br, ebr⟩ : ∃ br, w2.heap.size = br := ⟨_, rfl⟩
      have C3 := C3.out
      have R3 := R3.out
      have S1 := S1.out
      have S2 := S2.out
      rw [ebc] at C3 S1 S2
      rw [ebr] at R3 S2
      rw [ebc, ebr]
      have C3 := Lib.hid C3
      have R3 := Lib.hid R3
      have hne : bc ≠ br := by omega
      have hbB : ∀ k, k < W.heap.size → k ≠ bc ∧ k ≠ br := fun k hk => by omega
      have HB := Lib.hid hbB; have HNE := Lib.hid hne
      clear ebc ebr hbB hne
      go_loopw [8] (fun v8 wr => ∃ (i : Nat) (t n : Int), i ≤ xs.length ∧ v8 = .int .i64 i ∧ 0 ≤ t ∧ 0 ≤ n ∧ ClkAt wr bc r t n ∧ RefAt wr br r t n ∧ Below W.heap.size W wr) (fun v8 _ => xs.length - (intOf v8).toNat)
      case atStart => exact ⟨0, 0, 0, by omega, rfl, by omega, by omega, C3.out, R3.out, D3.out⟩
      case round =>
        obtain ⟨i, t, n, hi, rfl, ht, hn, hc, hrf, hbm⟩ := hrel
        have CC := Lib.hid hc; have RR := Lib.hid hrf; have BM := Lib.hid hbm
        clear hc hrf hbm
        by_cases hlt : i < xs.length
        · obtain ⟨ad, eA, y0, y1, y2, y3⟩ := at_call HC.out i hlt
          obtain ⟨x, hx⟩ : ∃ x, xs.getD i (0, 0, 0, 0) = x := ⟨_, rfl⟩
          rw [hx] at y0 y1 y2 y3
          clear hx
          obtain ⟨what, m, R, N⟩ := x
          simp only at y0 y1 y2 y3
          subst eA
          have SC : Hid (∀ z, Below W.heap.size W z → z.cell? (ad.add (i * 4)) = some (.int .i64 what) ∧ z.cell? ⟨(ad.add (i * 4)).block, (ad.add (i * 4)).off + 1, none⟩ = some (.int .i64 m) ∧ z.cell? ⟨(ad.add (i * 4)).block, (ad.add (i * 4)).off + 2, none⟩ = some (.int .i64 R) ∧ z.cell? ⟨(ad.add (i * 4)).block, (ad.add (i * 4)).off + 3, none⟩ = some (.int .i64 N)) := Lib.hid (fun z hz => ⟨cell_on y0 hz, cell_on y1 hz, cell_on y2 hz, cell_on y3 hz⟩)
          clear y0 y1 y2 y3
          obtain ⟨y0, y1, y2, y3⟩ := SC.out _ BM.out
          have gi0 : (0 : Int) ≤ (i : Int) := by omega
          have gi1 : (i : Int) < (xs.length : Int) := by omega
          go_upto_if 57 with (fail)
          go_cut [9] (fun _ wc => ∃ t n : Int, 0 ≤ t ∧ 0 ≤ n ∧ ClkAt wc bc r t n ∧ RefAt wc br r t n ∧ Below W.heap.size W wc)
          case first =>
            by_cases hw : what = 0
            · have gw : (what == 0) = true := by simpa using hw
              clear hw
              by_cases hend : 1099511627776 ≤ t ∨ 1048576 ≤ n
              · go_upto_region 16 with (go_at_call 15; refine (tick_end _ _ _ _ _ CC.out hend).mono ?_; rintro e w4 ⟨rfl, bl⟩; have BL4 := Lib.hid bl; clear bl)
                obtain ⟨w5, e5⟩ : ∃ w5, w5 = w4.alloc (.cells #[.int .i64 0, .int .i64 0] 24) := ⟨_, rfl⟩
                have b5 : Below w4.heap.size w4 w5 := by rw [e5]; exact below_alloc (Below.refl _ _) _
                have h5 : w5.heap[w4.heap.size]? = some (.cells #[.int .i64 0, .int .i64 0] 24 (0, 0)) := by rw [e5]; exact heap_alloc_new w4 _
                have B5 := Lib.hid (BL4.out.trans (b5.mono BL4.out.size))
                rw [← e5]
                have H5 := Lib.hid h5
                clear e5 b5 h5
                go_upto_region 17 with (go_at_call 16; refine (rtick_end _ _ _ _ _ (RR.out.keep B5.out) hend).mono ?_; rintro e w6 ⟨rfl, bl⟩; have BL6 := Lib.hid bl; clear bl)
                obtain ⟨w7, e7⟩ : ∃ w7, w7 = w6.alloc (.cells #[.int .i64 0, .int .i64 0] 24) := ⟨_, rfl⟩
                have b7 : Below w6.heap.size w6 w7 := by rw [e7]; exact below_alloc (Below.refl _ _) _
                have h7 : w7.heap[w6.heap.size]? = some (.cells #[.int .i64 0, .int .i64 0] 24 (0, 0)) := by rw [e7]; exact heap_alloc_new w6 _
                have B57 := BL6.out.trans (b7.mono BL6.out.size)
                have h57 := (B57.block _ (lt_of_blk H5.out)).trans H5.out
                have p0 := blk_cell h57 0; have p1 := blk_cell h57 1; have q0 := blk_cell h7 0; have q1 := blk_cell h7 1
                simp at p0 p1 q0 q1
                have B7 := Lib.hid (B5.out.trans (B57.mono B5.out.size))
                rw [← e7]
                clear e7 b7 h7 h57 B57
                go_wp2_with fail
                go_meet
                case rel => exact ⟨t, n, ht, hn, CC.out.keep B7.out, RR.out.keep B7.out, BM.out.trans (B7.out.mono BM.out.size)⟩
              · have t1 : t < 1099511627776 := by omega
                have n1 : n < 1048576 := by omega
                clear hend
                go_upto_region 16 with (go_at_call 15; refine (tick_ok _ _ _ _ _ CC.out ht hn t1 n1).mono ?_; rintro e w4 ⟨rfl, hc, kp⟩; have C4 := Lib.hid hc; have K4 := Lib.hid kp; clear hc kp)
                obtain ⟨w5, e5⟩ : ∃ w5, w5 = w4.alloc (.cells #[.int .i64 r, .int .i64 (n + 1)] 24) := ⟨_, rfl⟩
                have b5 : Below w4.heap.size w4 w5 := by rw [e5]; exact below_alloc (Below.refl _ _) _
                have h5 : w5.heap[w4.heap.size]? = some (.cells #[.int .i64 r, .int .i64 (n + 1)] 24 (0, 0)) := by rw [e5]; exact heap_alloc_new w4 _
                have C5 := Lib.hid (C4.out.keep b5)
                have R5 := Lib.hid ((RR.out.kept K4.out (fun e => HNE.out e.symm)).keep b5)
                have K5 := Lib.hid (K4.out.trans (Keep.of_below b5 (F := fun k => k = bc) (fun i h1 h2 => by omega)) (fun _ _ h => h))
                have Z5 := Lib.hid (show br < w4.heap.size from lt_of_blk (RR.out.kept K4.out (fun e => HNE.out e.symm)))
                rw [← e5]
                have H5 := Lib.hid h5
                clear e5 b5 h5
                go_upto_region 17 with (go_at_call 16; refine (rtick_ok _ _ _ _ _ R5.out ht hn t1 n1).mono ?_; rintro e w6 ⟨rfl, hc, kp⟩; have R6 := Lib.hid hc; have K6 := Lib.hid kp; clear hc kp)
                obtain ⟨w7, e7⟩ : ∃ w7, w7 = w6.alloc (.cells #[.int .i64 r, .int .i64 (n + 1)] 24) := ⟨_, rfl⟩
                have b7 : Below w6.heap.size w6 w7 := by rw [e7]; exact below_alloc (Below.refl _ _) _
                have h7 : w7.heap[w6.heap.size]? = some (.cells #[.int .i64 r, .int .i64 (n + 1)] 24 (0, 0)) := by rw [e7]; exact heap_alloc_new w6 _
                have h57 := (b7.block _ (lt_of_blk (K6.out.at_ H5.out (fun e => by have := Z5.out; omega)))).trans (K6.out.at_ H5.out (fun e => by have := Z5.out; omega))
                have p0 := blk_cell h57 0; have p1 := blk_cell h57 1; have q0 := blk_cell h7 0; have q1 := blk_cell h7 1
                simp at p0 p1 q0 q1
                have C7 := Lib.hid ((C5.out.kept K6.out HNE.out).keep b7)
                have R7 := Lib.hid (R6.out.keep b7)
                have K7 := Lib.hid ((K5.out.mono (G := fun k => k = bc ∨ k = br) (fun _ _ h => .inl h)).trans (K6.out.trans (Keep.of_below b7 (F := fun k => k = br) (fun i h1 h2 => by omega)) (fun _ _ h => h)) (fun _ _ h => .inr h))
                rw [← e7]
                clear e7 b7 h7 h57
                go_wp2_with fail
                go_meet
                case rel => exact ⟨t + 1, n + 1, by omega, by omega, C7.out, R7.out, BM.out.trans (K7.out.below (B := W.heap.size) (fun i h1 h2 => by have := HB.out i h1; omega) BM.out.size)⟩
            · have gw : (what == 0) = false := by simpa using hw
              clear hw y0 y1 y2 y3
              have CD := Lib.hid (show ClkAt wr.drew bc r t n from CC.out)
              have RD := Lib.hid (show RefAt wr.drew br r t n from RR.out)
              have BD := Lib.hid (below_drew1 BM.out)
              have KD : Hid (Keep (fun k => k = bc) wr wr.drew) := Lib.hid ⟨rfl, rfl, rfl, Nat.le_refl _, fun _ _ _ => rfl⟩
              go_wp2_with fail
              go_region_held3 (fun z => z.cell? (ad.add (i * 4)) = some (.int .i64 what) ∧ z.cell? ⟨(ad.add (i * 4)).block, (ad.add (i * 4)).off + 1, none⟩ = some (.int .i64 m) ∧ z.cell? ⟨(ad.add (i * 4)).block, (ad.add (i * 4)).off + 2, none⟩ = some (.int .i64 R) ∧ z.cell? ⟨(ad.add (i * 4)).block, (ad.add (i * 4)).off + 3, none⟩ = some (.int .i64 N))
                (first | exact SC.out _ B4.out | exact SC.out _ BD.out)
                (first | (go_at_call 17; refine (see_ok _ _ _ _ _ R N m CD.out).mono ?_; rintro e w4 ⟨rfl, hc, kp⟩; have C4 := Lib.hid hc; have K4 := Lib.hid (KD.out.trans kp (fun _ _ h => h)); have B4 := Lib.hid (BD.out.trans (kp.below (B := W.heap.size) (fun i h1 h2 => (HB.out i h1).1 h2) BD.out.size)); have R4 := Lib.hid (RD.out.kept kp (fun e => HNE.out e.symm)); clear hc kp) | fail)
              have CE := Lib.hid (show ClkAt w4.drew bc r (up t m) (upn r n R N) from C4.out)
              have RE := Lib.hid (show RefAt w4.drew br r t n from R4.out)
              have BE := Lib.hid (below_drew1 B4.out)
              go_wp2_with fail
              go_region_held3 (fun z => z.cell? (ad.add (i * 4)) = some (.int .i64 what) ∧ z.cell? ⟨(ad.add (i * 4)).block, (ad.add (i * 4)).off + 1, none⟩ = some (.int .i64 m) ∧ z.cell? ⟨(ad.add (i * 4)).block, (ad.add (i * 4)).off + 2, none⟩ = some (.int .i64 R) ∧ z.cell? ⟨(ad.add (i * 4)).block, (ad.add (i * 4)).off + 3, none⟩ = some (.int .i64 N))
                (first | exact SC.out _ B6.out | exact SC.out _ BE.out)
                (first | (go_at_call 18; refine (rsee_ok _ _ _ _ _ R N m RE.out).mono ?_; rintro e w6 ⟨rfl, hc, kp⟩; have R6 := Lib.hid hc; have B6 := Lib.hid (BE.out.trans (kp.below (B := W.heap.size) (fun i h1 h2 => (HB.out i h1).2 h2) BE.out.size)); have C6 := Lib.hid (CE.out.kept kp HNE.out); clear hc kp) | fail)
              go_wp2_with fail
              go_meet
              case rel => exact ⟨_, _, up_nonneg ht, upn_nonneg hn, C6.out, R6.out, B6.out⟩
          case rest =>
            obtain ⟨t', n', ht', hn', hc', hr', hb'⟩ := hcut
            have k1 := blk_cell hr' 1; have k2 := blk_cell hr' 2
            simp at k1 k2
            have C' := Lib.hid hc'; have R' := Lib.hid hr'; have B' := Lib.hid hb'
            clear hc' hr' hb' y0 y1 y2 y3
            go_wp2_with fail
            go_quiet (first | (go_at_call 19; exact Calls.quiet_of_same (now_ok _ _ _ _ _ C'.out)) | (go_at_call 20; exact Calls.quiet_of_same (last_ok _ _ _ _ _ C'.out)))
            go_wp2_with fail
            exact ⟨⟨i + 1, t', n', by omega, by go_num, ht', hn', C'.out, R'.out, pw_below_drewN B'.out _⟩, by simp [intOf]; omega⟩
        · obtain rfl : i = xs.length := by omega
          go_wp2_with fail
          go_ret
          exact ⟨rfl, BM.out⟩
end Go.Proofs.YtiakdnoafmojlaaDoor.Q
