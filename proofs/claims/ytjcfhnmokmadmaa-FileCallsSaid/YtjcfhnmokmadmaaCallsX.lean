/- FileCalls, the walk itself: every row of calls is answered as the document says, and leaves its bytes. -/
import Derived.Test.YtjcfhnmokmadmaaCallsS
namespace Go.Proofs.Ytjcfhnmokmadmaa.Crash
set_option linter.unusedVariables false
set_option linter.unusedSimpArgs false
set_option linter.unnecessarySimpa false
open Go.RowKit Go.Proofs.YtjcfhnmokmadmaaW.PrintWords Go.Proofs.YtjcfhnmokmadmaaW.PrintLast Go.Proofs.YtjcfhnmokmadmaaW.PrintMore Go.Proofs.Ytjcfhnmokmadmaa.Mem Go.Proofs.Ytjcfhnmokmadmaa.File Go.Proofs.Ytjcfhnmokmadmaa.PFileCalls
attribute [local go_sem] max2_int min2_int max_two min_two

theorem drew_below {B : Nat} {w0 w : World} (h : Below B w0 w) : Below B w0 w.drew := ⟨h.os, h.tape, h.output, h.size, h.block⟩
set_option maxHeartbeats 8000000 in
set_option maxRecDepth 100000 in
theorem calls_walk (w : World) (room : Int) (A : Option Addr) (c : Nat) (xs : List S41) (hC : k41.C w A xs.length xs) (hc : xs.length ≤ c) (hx : ∀ x ∈ xs, Byte x.f2 ∧ x.f2.length ≤ 140737488351232) (hl : xs.length ≤ 140737488351232) :
    Calls Try.prog 4 #[.int .i64 room, .slice A xs.length c] w fun e w' => e = .returned (.bool true) ∧ Below w.heap.size w w' := by
  obtain ⟨kg, rg, hg⟩ := great_f xs hl
  have HC := Lib.hid hC; have HX := Lib.hid hx; have HG := Lib.hid hg; have Hc := Lib.hid hc
  clear hC hx hg hc
  go_enter Try.func4, Try.ntmps4
  go_wp2_with fail
  refine (alive_ok w).mono ?_
  rintro e w1 ⟨rfl, b1⟩
  have B1 := Lib.hid b1; clear b1
  go_wp2_with fail
  refine (offshootlaw06_great.calls kg A c xs rg w1 (Kd.C_below HC.out B1.out) Hc.out HG.out).mono ?_
  rintro e w2 ⟨rfl, ⟨k2, rfl⟩⟩
  obtain ⟨w2, ew2⟩ : ∃ w2, w2 = w1.drewN k2 := ⟨_, rfl⟩
  rw [← ew2]
  have B2 := Lib.hid (ew2 ▸ pw_below_drewN B1.out k2 : Below w.heap.size w w2)
  clear ew2 B1
  cases rg with
  | true =>
    go_wp2_with fail
    go_ret
    exact ⟨rfl, B2.out⟩
  | false =>
    by_cases hr : 0 ≤ room ∧ room ≤ 1048576
    · go_wp2_with fail
      refine (new_ok room w2 hr.1 hr.2).mono ?_
      rintro e w3 ⟨b, rfl, f3, b3⟩
      have B3 := Lib.hid (B2.out.trans (b3.mono B2.out.size)); have F3 := Lib.hid (f3.mono (G := fun k => w2.heap.size ≤ k ∧ k < w3.heap.size) (fun k h1 h2 => ⟨h1, h2⟩))
      clear b3 f3
      go_wp2_with fail
      refine (refnew_ok room w3 hr.1 hr.2).mono ?_
      rintro e w4 ⟨b', rfl, hb', lb', b4⟩
      have B4 := Lib.hid (B3.out.trans (b4.mono B3.out.size))
      have T4 : Hid (Two w w4 b b' [] 0 [] [] room (fun _ => False)) := Lib.hid ⟨fun k => w2.heap.size ≤ k ∧ k < w3.heap.size, fun k => w3.heap.size ≤ k ∧ k < w4.heap.size, F3.out.kept (G := fun _ => False) (Keep.of_below b4 (fun i h1 h2 => by omega)) (fun _ _ _ h => h), RefAt.fresh hb' ⟨lb', lt_of_blk hb'⟩ hr.1 hr.2,
        fun k h => ⟨Nat.le_trans B2.out.size h.1, Nat.lt_of_lt_of_le h.2 b4.size, fun h' => by omega, fun h => h⟩, fun k h => ⟨Nat.le_trans B3.out.size h.1, h.2, fun h => h⟩, B4.out, fun k h => h.elim⟩
      clear hb' lb' b4 F3 B3
      go_wp2_with fail
      go_loopw [9] (fun i wr => ∃ k : Nat, k ≤ xs.length ∧ i = .int .i64 k ∧ ∃ s l, Two w wr b b' (s ++ l) s.length s l room (fun _ => False)) (fun i _ => xs.length - (intOf i).toNat)
      case atStart => exact ⟨0, by omega, rfl, [], [], T4.out⟩
      case round =>
        obtain ⟨k, hk, rfl, s, l, ht⟩ := hrel
        have HT := Lib.hid ht
        have HB : Hid (Below w.heap.size w wr) := Lib.hid (by obtain ⟨_, _, _, _, _, _, h, _⟩ := ht; exact h)
        clear ht
        by_cases hlt : k < xs.length
        · obtain ⟨ad, A0, c0, rfl, h0, h1, h2, hc0, hC0⟩ := at_T41 HC.out (k : Int) (by omega) (by omega)
          have hby : Byte (rd_T41 xs (k : Int)).f2 ∧ (rd_T41 xs (k : Int)).f2.length ≤ 140737488351232 := by
            have : rd_T41 xs (k : Int) = xs[k] := by unfold rd_T41; rw [Int.toNat_natCast, List.getD_eq_getElem?_getD, List.getElem?_eq_getElem hlt]; rfl
            rw [this]
            exact HX.out _ (List.getElem_mem hlt)
          rw [Int.toNat_natCast] at h0 h1 h2
          obtain ⟨p, ep⟩ : ∃ p, p = rd_T41 xs (k : Int) := ⟨_, rfl⟩
          rw [← ep] at h0 h1 h2 hC0 hby hc0
          obtain ⟨pw, pn, pd⟩ := p
          have h0 : wr.cell? (ad.add (k * 3)) = some (.int .i64 pw) := (HB.out.cell (World.block_lt_of_cell? _ _ h0)).trans h0
          have h1 : wr.cell? ⟨(ad.add (k * 3)).block, (ad.add (k * 3)).off + 1, none⟩ = some (.int .i64 pn) := (HB.out.cell (World.block_lt_of_cell? _ _ h1)).trans h1
          have h2 : wr.cell? ⟨(ad.add (k * 3)).block, (ad.add (k * 3)).off + 2, none⟩ = some (.slice A0 pd.length c0) := (HB.out.cell (World.block_lt_of_cell? _ _ h2)).trans h2
          have HC0 : Hid ((Kd.int .u8).C w A0 pd.length pd ∧ pd.length ≤ c0) := Lib.hid ⟨hC0, hc0⟩
          have HBY : Hid (Byte pd ∧ pd.length ≤ 140737488351232) := Lib.hid hby
          clear hC0 hby ep hc0
          go_upto_region 13 with (fail)
          obtain ⟨wk, ewk⟩ : ∃ wk, wk = wr.alloc (.cells #[.int .i64 pw, .int .i64 pn, .slice A0 pd.length c0] 41) := ⟨_, rfl⟩
          rw [← ewk]
          have bc : Below wr.heap.size wr wk := ewk ▸ below_alloc (Below.refl _ _) _
          have hb0 : wk.heap[wr.heap.size]? = some (.cells #[.int .i64 pw, .int .i64 pn, .slice A0 pd.length c0] 41 (0, 0)) := by rw [ewk]; exact heap_alloc_new wr _
          have d0 : wk.cell? ⟨wr.heap.size, 0, none⟩ = some (.int .i64 pw) := by rw [ewk]; go_simp
          have d1 : wk.cell? ⟨wr.heap.size, 1, none⟩ = some (.int .i64 pn) := by rw [ewk]; go_simp
          have d2 : wk.cell? ⟨wr.heap.size, 2, none⟩ = some (.slice A0 pd.length c0) := by rw [ewk]; go_simp
          have hne : ¬ wr.heap.size = wk.heap.size := by rw [ewk]; simp
          have hne' : ¬ wk.heap.size = wr.heap.size := fun h => hne h.symm
          have hlt2 : wr.heap.size < wk.heap.size := by rw [ewk]; simp
          have BC := Lib.hid bc; have HB0 := Lib.hid hb0; have HL2 := Lib.hid hlt2
          have CC := Lib.hid (Kd.C_below HC0.out.1 (HB.out.trans (bc.mono HB.out.size)))
          have BD := Lib.hid (drew_below (Below.refl wk.heap.size wk))
          clear ewk bc h0 h1 h2 hb0 hlt2
          go_cut [11] (fun s11 wx => Own w wx wr b b' s l room pw pn A0 c0 pd s11)
          case first =>
            as_aux_lemma =>
              go_region_held3 (fun w' => w'.cell? ⟨wr.heap.size, 0, none⟩ = some (.int .i64 pw) ∧ w'.cell? ⟨wr.heap.size, 1, none⟩ = some (.int .i64 pn) ∧ w'.cell? ⟨wr.heap.size, 2, none⟩ = some (.slice A0 pd.length c0))
                (first | exact ⟨f0, f1, f2⟩ | exact ⟨d0, d1, d2⟩ | go_keep)
                (first
                  | (go_at_call 17; refine (offshootref00_CopyBytes.calls A0 c0 pd pd _ ?_ HC0.out.2 (copy_f _ HBY.out.2)).mono ?_; (exact Kd.C_drew CC.out); rintro e x1 ⟨v1, rfl, r1, y1⟩; obtain ⟨A1, c1, ev⟩ := Kd.R_slice r1; subst ev; have Z1 : Hid (Below wk.heap.size wk x1) := Lib.hid (BD.out.trans (y1.mono (Nat.le_refl _))); have R1 : Hid ((Kd.int .u8).R 5 x1 wk.heap.size (fun _ => True) (.slice A1 pd.length c1) pd) := Lib.hid r1; have f0 := (Z1.out.cell (World.block_lt_of_cell? _ _ d0)).trans d0; have f1 := (Z1.out.cell (World.block_lt_of_cell? _ _ d1)).trans d1; have f2 := (Z1.out.cell (World.block_lt_of_cell? _ _ d2)).trans d2; clear r1 y1)
                  | (go_at_call 17; refine (offshootref00_CopyBytes.calls A0 c0 pd pd _ ?_ HC0.out.2 (copy_f _ HBY.out.2)).mono ?_; (exact Kd.C_below CC.out (below_alloc BD.out _)); rintro e x1 ⟨v1, rfl, r1, y1⟩; obtain ⟨A1, c1, ev⟩ := Kd.R_slice r1; subst ev; have Z1 : Hid (Below wk.heap.size wk x1) := Lib.hid ((below_alloc BD.out _).trans (y1.mono (by simp))); have R1 : Hid ((Kd.int .u8).R 5 x1 wk.heap.size (fun k => k ≠ wk.heap.size) (.slice A1 pd.length c1) pd) := Lib.hid (Kd.R_lower (Kd.R_mono (Kd.R_bound r1) (fun k hk => by have := hk.2.1; simp at this; omega)) (by simp)); have HK1 := Lib.hid ((y1.block wk.heap.size (by simp)).trans (heap_alloc_new _ _)); have q0 := blk_cell HK1.out 0; have q1 := blk_cell HK1.out 1; have q2 := blk_cell HK1.out 2; have z0 := blk_frozen HK1.out 0; have z1 := blk_frozen HK1.out 1; have z2 := blk_frozen HK1.out 2; simp at q0 q1 q2; have f0 := (Z1.out.cell (World.block_lt_of_cell? _ _ d0)).trans d0; have f1 := (Z1.out.cell (World.block_lt_of_cell? _ _ d1)).trans d1; have f2 := (Z1.out.cell (World.block_lt_of_cell? _ _ d2)).trans d2; clear r1 y1)
                  | fail)
              · go_wp2_with fail
                go_meet
                have bo := Lib.hid (below_alloc Z1.out (.cells #[.int .i64 pw, .int .i64 pn, .slice A1 pd.length c1] 41))
                exact Own.of HT.out (BC.out.trans (bo.out.mono (Nat.le_of_lt HL2.out))) ((bo.out.block _ HL2.out).trans HB0.out) (heap_alloc_new x1 _)
                  (Kd.R_lower (Kd.R_mono (Kd.R_alloc (Kd.R_bound R1.out) _) (fun k hk => ⟨by have := hk.2.1; have := HL2.out; omega, by have := hk.2.2.1; omega⟩)) (Nat.le_of_lt HL2.out)) (Nat.le_trans (Nat.le_of_lt HL2.out) Z1.out.size)
              · go_wp2_with fail
                go_meet
                have ks : Keep (fun k => k = wk.heap.size) x1 (((x1.setCell ⟨wk.heap.size, 0, none⟩ (.int .i64 pw)).setCell ⟨wk.heap.size, 1, none⟩ (.int .i64 pn)).setCell ⟨wk.heap.size, 2, none⟩ (.slice A1 pd.length c1)) := ((Keep.setCell (F := fun k => k = wk.heap.size) x1 (p := ⟨wk.heap.size, 0, none⟩) rfl _).trans (Keep.setCell (F := fun k => k = wk.heap.size) _ (p := ⟨wk.heap.size, 1, none⟩) rfl _) (fun _ _ h => h)).trans (Keep.setCell (F := fun k => k = wk.heap.size) _ (p := ⟨wk.heap.size, 2, none⟩) rfl _) (fun _ _ h => h)
                have bo := Lib.hid (Z1.out.trans (ks.below (fun i hi h => by omega) Z1.out.size))
                exact Own.of HT.out (BC.out.trans (bo.out.mono (Nat.le_of_lt HL2.out))) ((bo.out.block _ HL2.out).trans HB0.out) (st_three HK1.out)
                  (Kd.R_lower (Kd.R_mono (Kd.R_bound (R_kept R1.out ks (fun k hk _ h => hk h))) (fun k hk => ⟨by have := hk.2.1; have := HL2.out; omega, hk.1⟩)) (Nat.le_of_lt HL2.out)) (Nat.le_of_lt HL2.out)
          case rest =>
            as_aux_lemma =>
              obtain ⟨g, A1, c1, rfl, st⟩ := hcut
              obtain ⟨wo, ewo⟩ : ∃ wo, wo = wc := ⟨_, rfl⟩
              subst ewo
              have ST := Lib.hid st
              have c0 := blk_cell st.atc 0; have c1' := blk_cell st.atc 1; have c2 := blk_cell st.atc 2
              have g0 := blk_cell st.atg 0; have g1 := blk_cell st.atg 1; have g2 := blk_cell st.atg 2
              simp at c0 c1' c2 g0 g1 g2
              clear st d0 d1 d2 CC BD HB0 BC hne hne' HL2 HT
              go_wp2_with fail
              refine (st_do ST.out HBY.out.1).mono ?_
              rintro e w5 ⟨rfl, st5⟩
              have ST5 := Lib.hid st5
              clear st5 ST c0 c1' c2 g0 g1 g2
              obtain ⟨lo, elo⟩ : ∃ lo, lo = wr.heap.size := ⟨_, rfl⟩
              obtain ⟨hi, ehi⟩ : ∃ hi, hi = wo.heap.size := ⟨_, rfl⟩
              have EL := Lib.hid elo
              have C5 : Hid ((Kd.int .u8).C w5 A0 pd.length pd) := Lib.hid (Kd.C_below HC0.out.1 ST5.out.bel)
              rw [← elo, ← ehi] at ST5
              rw [← elo]
              clear elo ehi
              have c0' := blk_cell ST5.out.atc 0; have c1' := blk_cell ST5.out.atc 1; have c2 := blk_cell ST5.out.atc 2
              simp at c0' c1' c2
              go_upto_block 2 with (fail)
              go_cut [13] (fun s13 wx => Both w wx b b' s l room lo hi lo g pw pn A0 c0 A1 c1 pd s13)
              case first =>
                as_aux_lemma =>
                  by_cases hp0 : pw = 0
                  · subst hp0
                    go_wp2_with fail
                    refine (st_append ST5.out A0 c0 C5.out).mono ?_
                    rintro e w6 ⟨rfl, st6⟩
                    have ST6 := Lib.hid st6; clear st6 c0' c1' c2
                    go_wp2_with fail
                    go_meet
                    exact Both.of ST6.out rfl
                  · have hq0 : (pw == 0) = false := by simpa using hp0
                    by_cases hp1 : pw = 1
                    · subst hp1
                      go_wp2_with fail
                      refine (st_sync ST5.out).mono ?_
                      rintro e w6 ⟨rfl, st6⟩
                      have ST6 := Lib.hid st6; clear st6 c0' c1' c2
                      go_wp2_with fail
                      go_meet
                      exact Both.of ST6.out rfl
                    · have hq1 : (pw == 1) = false := by simpa using hp1
                      by_cases hp2 : pw = 2
                      · subst hp2
                        go_wp2_with fail
                        refine (st_replace ST5.out A0 c0 C5.out HC0.out.2).mono ?_
                        rintro e w6 ⟨rfl, st6⟩
                        have ST6 := Lib.hid st6; clear st6 c0' c1' c2
                        go_wp2_with fail
                        go_meet
                        exact Both.of ST6.out rfl
                      · have hq2 : (pw == 2) = false := by simpa using hp2
                        by_cases hp3 : pw = 3
                        · subst hp3
                          go_wp2_with fail
                          refine (st_trim ST5.out).mono ?_
                          rintro e w6 ⟨rfl, st6⟩
                          have ST6 := Lib.hid st6; clear st6 c0' c1' c2
                          go_wp2_with fail
                          go_meet
                          exact Both.of ST6.out rfl
                        · have hq3 : (pw == 3) = false := by simpa using hp3
                          by_cases hp4 : pw = 4
                          · subst hp4
                            go_wp2_with fail
                            refine (st_crash ST5.out).mono ?_
                            rintro e w6 ⟨rfl, st6⟩
                            have ST6 := Lib.hid st6; clear st6 c0' c1' c2
                            go_wp2_with fail
                            go_meet
                            exact Both.of ST6.out rfl
                          · have hq4 : (pw == 4) = false := by simpa using hp4
                            have ST6 := Lib.hid (And.intro (doE_none hp0 hp2 hp3 pn pd (s ++ l) room) (doS_none hp0 hp1 hp2 hp3 hp4 pn pd s l room))
                            clear hp0 hp1 hp2 hp3 hp4
                            go_wp2_with fail
                            go_meet
                            refine Both.of ?_ ST6.out.1.symm
                            rw [ST6.out.2]
                            exact ST5.out
              case rest =>
                obtain ⟨rfl, s', l', st7⟩ := hcut
                generalize doE pw pn pd (s ++ l) room = dv
                have ST7 := Lib.hid st7
                have q0 := blk_cell st7.atc 2
                have q1 := blk_cell st7.atg 2
                simp at q0 q1
                clear ST5 st7 c0' c1' c2 C5
                go_wp2_with fail
                refine (offshootref00_SameBytes.calls (pd.length + 1) A1 c1 pd A0 c0 pd true wc (Kd.R_reads' ST7.out.row).2.2 (Kd.R_reads' ST7.out.row).2.1 (Kd.C_below HC0.out.1 ST7.out.bel) HC0.out.2 (same_f _ HBY.out.2)).mono ?_
                rintro e w8 ⟨rfl, ⟨k8, e8⟩⟩
                have ST8 := Lib.hid (ST7.out.below (e8 ▸ pw_below_drewN (Below.refl _ _) k8 : Below wc.heap.size wc w8))
                clear e8 ST7 q0 q1
                go_wp2_with fail
                go_loopw [14] (fun i wx => Xor w wx b b' s' l' room lo hi lo g pw pn A0 pd.length c0 A1 c1 i) (fun i _ => pd.length - (intOf i).toNat)
                case atStart => exact ⟨0, Nat.zero_le _, rfl, pd, rfl, ST8.out⟩
                case round =>
                  obtain ⟨j, hj, rfl, qd, hq, st9⟩ := hrel
                  have ST9 := Lib.hid st9; have HQ := Lib.hid hq
                  have q1 := blk_cell st9.atg 2
                  simp at q1
                  rw [hq] at q1
                  have hpl : pd.length ≤ 140737488351232 := HBY.out.2
                  by_cases hjl : j < pd.length
                  · obtain ⟨r, er, hcell, hfr, hput⟩ := st9.put j (by omega)
                    subst er
                    have HP := Lib.hid hput
                    clear st9 hput hq
                    go_wp2_with fail
                    obtain ⟨q', hq', st'⟩ := HP.out _
                    exact ⟨⟨j + 1, by omega, by go_num, q', hq'.trans HQ.out, st'⟩, by simp [intOf]; omega⟩
                  · obtain rfl : j = pd.length := by omega
                    obtain ⟨wz, ez⟩ : ∃ wz, wz = wr := ⟨_, rfl⟩
                    rw [← ez] at ST9 q1 ⊢
                    obtain ⟨AS, cS, hsafe⟩ := ST9.out.safe
                    obtain ⟨dd, edd⟩ : ∃ dd, dd = s' ++ l' := ⟨_, rfl⟩
                    rw [← edd] at ST9
                    have ED := Lib.hid edd
                    have PS : Hid (∀ x, Below wz.heap.size wz x → St w x b b' dd s'.length s' l' room lo hi lo g pw pn A0 pd.length c0 A1 c1 qd) := Lib.hid (fun x hx => ST9.out.below hx)
                    have PC : Hid (∀ x, Below wz.heap.size wz x → x.cell? ⟨b', 0, none⟩ = some (.slice AS s'.length cS)) := Lib.hid (fun x hx => (hx.cell (World.block_lt_of_cell? _ _ hsafe)).trans hsafe)
                    have LD := Lib.hid ST9.out.len
                    have D0 := Lib.hid (drew_below (Below.refl wz.heap.size wz))
                    clear st9 hq edd ez hsafe
                    go_wp2_with fail
                    go_region_held3 (fun w' => w'.cell? ⟨b', 0, none⟩ = some (.slice AS s'.length cS))
                      (first | exact PC.out _ D8.out | exact PC.out _ D7.out | exact PC.out _ D6.out | exact PC.out _ D5.out | exact PC.out _ D4.out | exact PC.out _ D3.out | exact PC.out _ D2.out | exact PC.out _ D1.out | exact PC.out _ D0.out)
                      (first
                        | (go_at_call 13; refine (st_bytes (PS.out _ D0.out)).mono ?_; rintro e x1 ⟨F1, m1, rfl, y1, z1, d1⟩; have Y1 := Lib.hid y1; have Z1 := Lib.hid z1; have D1 := Lib.hid (D0.out.trans (d1.mono D0.out.size)); clear y1 z1 d1)
                        | (go_at_call 12; refine (offshootref00_SameBytes.calls (dd.length + 1) F1 m1 dd F2 m2 dd true x2 (Kd.R_reads' X2.out).2.2 Y1.out (Kd.R_reads' Z2.out).2.2 Y2.out (same_f _ (by have := LD.out; omega))).mono ?_; rintro e x3 ⟨rfl, ⟨m3, e3⟩⟩; have D3 := Lib.hid (e3 ▸ pw_below_drewN D2.out m3 : Below wz.heap.size wz x3); clear e3)
                        | (go_at_call 14; refine (st_size (PS.out _ D3.out)).mono ?_; rintro e x4 ⟨rfl, e4⟩; have D4 := Lib.hid (e4 ▸ D3.out : Below wz.heap.size wz x4); clear e4)
                        | (go_at_call 24; refine (st_refbytes (PS.out _ D4.out) ED.out).mono ?_; rintro e x5 ⟨F5, m5, rfl, y5, z5, d5⟩; have D5 := Lib.hid (D4.out.trans (d5.mono D4.out.size)); clear y5 z5 d5)
                        | (go_at_call 24; refine (st_refbytes (PS.out _ D1.out) ED.out).mono ?_; rintro e x2 ⟨F2, m2, rfl, y2, z2, d2⟩; have Y2 := Lib.hid y2; have Z2 := Lib.hid z2; have X2 := Lib.hid (Kd.R_below Z1.out d2); have D2 := Lib.hid (D1.out.trans (d2.mono D1.out.size)); clear y2 z2 d2)
                        | (go_at_call 25; refine (st_synced (PS.out _ D5.out)).mono ?_; rintro e x6 ⟨rfl, e6⟩; have D6 := Lib.hid (e6 ▸ D5.out : Below wz.heap.size wz x6); clear e6)
                        | (go_at_call 26; refine (st_room (PS.out _ D6.out)).mono ?_; rintro e x7 ⟨rfl, m7, e7⟩; have D7 := Lib.hid (e7 ▸ pw_below_drewN D6.out m7 : Below wz.heap.size wz x7); clear e7)
                        | (go_at_call 27; refine (st_refroom (PS.out _ D7.out) ED.out).mono ?_; rintro e x8 ⟨rfl, m8, e8⟩; have D8 := Lib.hid (e8 ▸ pw_below_drewN D7.out m8 : Below wz.heap.size wz x8); clear e8)
                        | fail)
                    all_goals
                      go_wp2_with fail
                      have ht := (PS.out _ D8.out).free
                      rw [ED.out] at ht
                      exact ⟨⟨k + 1, by omega, by go_num, s', l', ht⟩, by simp [intOf]; omega⟩
        · go_wp2_with fail
          go_ret
          exact ⟨rfl, HB.out⟩
    · have HR := Lib.hid (show room < 0 ∨ 1048576 < room by omega)
      clear hr
      go_wp2_with fail
      refine (new_bad room w2 HR.out).mono ?_
      rintro e w3 ⟨rfl, e3⟩
      subst e3
      go_wp2_with fail
      refine (refnew_bad room w3 HR.out).mono ?_
      rintro e w4 ⟨rfl, e4⟩
      subst e4
      go_wp2_with fail
      go_loopw [9] (fun i wr => i = .int .i64 0 ∧ wr = w4) (fun _ _ => 0)
      case atStart => exact ⟨rfl, rfl⟩
      case round =>
        obtain ⟨rfl, rfl⟩ := hrel
        by_cases hlt : 0 < xs.length
        · go_wp2_with fail
          go_ret
          exact ⟨rfl, B2.out⟩
        · go_wp2_with fail
          go_ret
          exact ⟨rfl, B2.out⟩
theorem OkCalls.bytes2 {xs : List S41} (h : OkCalls xs) : ∀ x ∈ xs, Byte x.f2 ∧ x.f2.length ≤ 140737488351232 := fun x hx =>
  ⟨h.byte x hx, by
    have b5 : Try.prog.bytesOf 5 = 1 := by kernel_rfl
    have := (h.2 x hx).2.2.1
    rw [b5] at this
    omega⟩
theorem calls_row (w : World) (room : Int) (wr : okInt room) (A : Option Addr) (c : Nat) (xs : List S41) (hC : k41.C w A xs.length xs) (hc : xs.length ≤ c) (ok : OkCalls xs) :
    Calls Try.prog 4 #[.int .i64 room, .slice A xs.length c] w fun e w' => e = .returned (.bool true) ∧ Below w.heap.size w w' :=
  calls_walk w room A c xs hC hc ok.bytes2 ok.len
end Go.Proofs.Ytjcfhnmokmadmaa.Crash
