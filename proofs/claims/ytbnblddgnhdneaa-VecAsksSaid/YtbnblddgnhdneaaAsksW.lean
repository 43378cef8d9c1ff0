/- VecAsks, the walk: every question to vectors is answered as the document says; numbers that are handed in are left, and not kept. -/
import Derived.Test.YtbnblddgnhdneaaCallsW
namespace Go.Proofs.Ytbnblddgnhdneaa.Vec
open Go.RowKit Go.Proofs.YtbnblddgnhdneaaW.PrintWords Go.Proofs.YtbnblddgnhdneaaW.PrintLast Go.Proofs.YtbnblddgnhdneaaW.PrintMore Go.Proofs.Ytbnblddgnhdneaa.Mem Go.Proofs.Ytbnblddgnhdneaa.PVecJoin
attribute [local go_sem] max2_int min2_int max_two min_two
attribute [local go_sem high] eqA31 eqA33
set_option linter.unusedVariables false
set_option linter.unusedSimpArgs false

theorem own_open {w : World} {base : Nat} {ok : Nat → Prop} {v : Value} {xs : List Int} (h : (Kd.int .i64).R 3 w base ok v xs) (i : Nat) (hi : i < xs.length) :
    ∃ g cap, v = .slice (some ⟨g, 0, none⟩) xs.length cap ∧ ok g ∧ base ≤ g ∧ g < w.heap.size ∧ w.cell? ⟨g, i, none⟩ = some (.int .i64 (xs.getD i 0)) ∧ w.frozen? ⟨g, i, none⟩ = false := by
  obtain ⟨inner, ho⟩ := Kd.R_own h
  rcases ho.2 with ⟨h0, h1⟩ | ⟨g, cap, cur, rfl, _⟩
  · omega
  · have hb := (Kd.R_bound h).1 g rfl
    obtain ⟨q, _, cells, hc⟩ := hb.2.2.2
    refine ⟨g, cap, rfl, hb.1, hb.2.1, hb.2.2.1, ?_, blk_frozen hc i⟩
    obtain ⟨ad, e, hcell⟩ := C_at (Kd.R_reads' h).2.2 i hi
    cases e
    have ea : (⟨g, 0, none⟩ : Addr).add i = ⟨g, i, none⟩ := by
      unfold Addr.add
      split <;> simp_all
    rw [ea] at hcell
    exact hcell

set_option maxHeartbeats 4000000 in
set_option maxRecDepth 100000 in
theorem asks_walk (w : World) (A J : Option Addr) (c d : Nat) (as0 bs0 : List Int) (hC : (Kd.int .i64).C w A as0.length as0) (hc : as0.length ≤ c) (hJ : (Kd.int .i64).C w J bs0.length bs0) (r n q : Int) :
    Calls Try.prog 5 #[.slice A as0.length c, .slice J bs0.length d, .agg #[.int .i64 r, .int .i64 n], .int .i64 q] w fun e w' => e = .returned (.bool true) ∧ Below w.heap.size w w' := by
  have HC := Lib.hid hC; have HJ := Lib.hid hJ; have Hc := Lib.hid hc
  clear hC hJ hc
  by_cases big : 50 < as0.length ∨ 50 < bs0.length
  · by_cases b1 : 50 < as0.length
    · have g0 : decide ((50 : Int) < as0.length) = true := decide_eq_true (by omega)
      clear big
      go_enter Try.func5, Try.ntmps5
      go_wp2_with fail
      refine (alive_ok _).mono ?_
      rintro e w1 ⟨rfl, b1⟩
      have B1 := Lib.hid b1; clear b1
      go_wp2_with fail
      go_ret
      exact ⟨rfl, (below_alloc (Below.refl _ _) _).trans (B1.out.mono (by simp))⟩
    · have g0 : decide ((50 : Int) < as0.length) = false := decide_eq_false (by omega)
      have g1 : decide ((50 : Int) < bs0.length) = true := decide_eq_true (by omega)
      clear big
      go_enter Try.func5, Try.ntmps5
      go_wp2_with fail
      refine (alive_ok _).mono ?_
      rintro e w1 ⟨rfl, b1⟩
      have B1 := Lib.hid b1; clear b1
      go_wp2_with fail
      go_ret
      exact ⟨rfl, (below_alloc (Below.refl _ _) _).trans (B1.out.mono (by simp))⟩
  · have g0 : decide ((50 : Int) < as0.length) = false := decide_eq_false (by omega)
    have g1 : decide ((50 : Int) < bs0.length) = false := decide_eq_false (by omega)
    have hw0 : ∃ w0 : World, w0 = w.alloc (.cells #[.int .i64 r, .int .i64 n] 31) := ⟨_, rfl⟩
    obtain ⟨w0, ew⟩ := hw0
    have e0 : ∀ W : World, Below w0.heap.size w0 W → W.cell? ⟨w.heap.size, 0, none⟩ = some (.int .i64 r) ∧ W.cell? ⟨w.heap.size, 1, none⟩ = some (.int .i64 n) := fun W hW => by
      have hs : w0.heap.size = w.heap.size + 1 := by rw [ew]; simp
      exact ⟨by rw [hW.cell (by show w.heap.size < w0.heap.size; omega), ew]; go_simp, by rw [hW.cell (by show w.heap.size < w0.heap.size; omega), ew]; go_simp⟩
    have down : ∀ W : World, Below w0.heap.size w0 W → Below w.heap.size w W := fun W hW => (by rw [ew]; exact below_alloc (Below.refl _ _) _ : Below w.heap.size w w0).trans (hW.mono (by rw [ew]; simp))
    have E0 := Lib.hid e0; have DOWN := Lib.hid down
    clear e0 down big
    go_enter Try.func5, Try.ntmps5
    go_wp2_with fail
    rw [← ew]
    clear ew
    refine (alive_ok w0).mono ?_
    rintro e w1 ⟨rfl, b1⟩
    have B1 := Lib.hid b1; clear b1
    go_wp2_with fail
    refine (offshootref00_CopyInts.calls A c as0 as0 w1 (Kd.C_below HC.out (DOWN.out _ B1.out)) Hc.out (by unfold offshootref00_CopyInts.f; simp; have := of_decide_eq_false g0; omega)).mono ?_
    rintro e w2 ⟨v2, rfl, r2, b2⟩
    obtain ⟨A2, c2, ev⟩ := Kd.R_slice r2
    subst ev
    have R2 := Lib.hid (Kd.R_mono (Kd.R_bound r2) (fun k hk => (⟨hk.2.1, hk.2.2.1⟩ : w1.heap.size ≤ k ∧ k < w2.heap.size))); have B2 := Lib.hid (B1.out.trans (b2.mono B1.out.size)); have S1 := Lib.hid B1.out.size; have S2 := Lib.hid b2.size
    clear r2 b2
    go_wp2_with fail
    refine (both_any (Kd.R_reads' R2.out).2.2).mono ?_
    rintro e w3 ⟨p3, q3, rfl, b3, y3⟩
    have R3 := Lib.hid (Kd.R_below R2.out b3); have B3 := Lib.hid (B2.out.trans (b3.mono B2.out.size)); have Y3 := Lib.hid y3
    clear b3 y3 R2
    go_wp2_with fail
    refine (both_any (Kd.C_below HJ.out (DOWN.out _ B3.out))).mono ?_
    rintro e w4 ⟨p4, q4, rfl, b4, y4⟩
    have R4 := Lib.hid (Kd.R_below R3.out b4); have B4' := Lib.hid b4; have B4 := Lib.hid (B3.out.trans (b4.mono B3.out.size)); have Y4 := Lib.hid y4
    clear b4 y4 R3
    go_wp2_with fail
    refine (same_ok (Kd.R_reads' R4.out).2.2 (Kd.R_reads' R4.out).2.1 (Kd.C_below HC.out (DOWN.out _ B4.out)) Hc.out (by have := of_decide_eq_false g0; omega)).mono ?_
    rintro e w5 ⟨rfl, k5, e5⟩
    have K5 : Keep (fun _ => False) w4 w5 := e5 ▸ Keep.drewN _ _ _
    have R5 := Lib.hid (R_kept R4.out K5 (fun _ _ _ h => h)); have B5 := Lib.hid (e5 ▸ pw_below_drewN B4.out k5 : Below w0.heap.size w0 w5); have K5 := Lib.hid K5
    clear e5 R4
    cases ha : ofOk as0 with
    | false =>
      clear ha
      go_wp2_with fail
      go_ret
      exact ⟨rfl, DOWN.out _ B5.out⟩
    | true =>
      cases hb : ofOk bs0 with
      | false =>
        clear ha hb
        go_wp2_with fail
        go_ret
        exact ⟨rfl, DOWN.out _ B5.out⟩
      | true =>
        obtain ⟨bv, br, rfl, rfl, v3, r3, l3, l3'⟩ := Y3.out ha
        obtain ⟨bw, bs, rfl, rfl, v4, r4, l4, l4'⟩ := Y4.out hb
        have V := Lib.hid ((v3.below B4'.out v3.lt).kept K5.out (fun h => h)); have R := Lib.hid ((r3.below B4'.out r3.lt).kept K5.out (fun h => h)); have U := Lib.hid (v4.kept K5.out (fun h => h)); have T := Lib.hid (r4.kept K5.out (fun h => h))
        have L := Lib.hid (And.intro l3 (And.intro l3' (And.intro (Nat.lt_of_lt_of_le v3.lt l4) l4')))
        have LS := Lib.hid (Nat.le_trans (Nat.le_of_lt (Nat.lt_of_le_of_lt l3 v3.lt)) l4)
        obtain ⟨xs, exs⟩ : ∃ xs, xs = ofV as0 := ⟨_, rfl⟩
        obtain ⟨ys, eys⟩ : ∃ ys, ys = ofV bs0 := ⟨_, rfl⟩
        rw [← exs] at V R
        rw [← eys] at U T
        clear ha hb v3 r3 l3 l3' v4 r4 l4 l4' exs eys Y3 Y4 B4' K5 B4 B3
        go_wp2_with fail
        go_loopw [18] (fun i wr => ∃ k : Nat, k ≤ as0.length ∧ i = .int .i64 k ∧ (∃ os, os.length = as0.length ∧ (Kd.int .i64).R 3 wr w1.heap.size (fun k => w1.heap.size ≤ k ∧ k < w2.heap.size) (.slice A2 as0.length c2) os) ∧ Keep (fun k => w1.heap.size ≤ k ∧ k < w2.heap.size) w5 wr) (fun i _ => as0.length - (intOf i).toNat)
        case atStart => exact ⟨0, by omega, rfl, ⟨as0, rfl, R5.out⟩, Keep.refl _ _⟩
        case round =>
          obtain ⟨k, hk, rfl, ⟨os, hos, hr⟩, hkp⟩ := hrel
          have HRR := Lib.hid hr; have HK := Lib.hid hkp
          clear hr hkp
          by_cases hlt : k < as0.length
          · obtain ⟨g, cap, ev, hg, _, _, hcell, hfr⟩ := own_open HRR.out k (by omega)
            injection ev with e1 e2 e3
            subst e1
            have HG := Lib.hid hg
            have HP := fun x => Lib.hid (Kd.R_putg HRR.out (k : Int) x)
            have HLT := Lib.hid hlt; have HOS := Lib.hid hos
            have h50 : as0.length ≤ 50 := by have := of_decide_eq_false g0; omega
            clear hg e2 e3
            go_wp2_with fail
            go_roundw
            case rel => exact ⟨k + 1, by have := HLT.out; omega, by go_num, ⟨_, by rw [List.length_set]; exact HOS.out, (HP _).out.1⟩, HK.out.trans (Keep.setCell (F := fun k => w1.heap.size ≤ k ∧ k < w2.heap.size) wr (p := ⟨g, k, none⟩) HG.out _) (fun _ _ h => h)⟩
            case measure => simp [intOf]; have := HLT.out; omega
          · obtain rfl : k = as0.length := by omega
            have V6 := Lib.hid (V.out.kept HK.out (fun h => by have := L.out; omega)); have R6 := Lib.hid (R.out.kept HK.out (fun h => by have := L.out; omega)); have U6 := Lib.hid (U.out.kept HK.out (fun h => by have := L.out; have := LS.out; omega)); have T6 := Lib.hid (T.out.kept HK.out (fun h => by have := L.out; have := LS.out; omega))
            have B6 := Lib.hid (B5.out.trans (HK.out.below (fun i hi h => by have := S1.out; omega) B5.out.size))
            clear HRR HK V R U T R5 B5
            go_wp2_with fail
            refine (missing_ok V6.out U6.out).mono ?_
            rintro e w7 ⟨v7, rfl, r7, b7⟩
            obtain ⟨A7, c7, ev⟩ := Kd.R_slice r7
            subst ev
            have X7 := Lib.hid r7; have V7 := Lib.hid (V6.out.below b7 V6.out.lt); have U7 := Lib.hid (U6.out.below b7 U6.out.lt); have R7 := Lib.hid (R6.out.below b7 R6.out.lt); have T7 := Lib.hid (T6.out.below b7 T6.out.lt); have B7 := Lib.hid (B6.out.trans (b7.mono B6.out.size))
            clear r7 b7 V6 U6 R6 T6
            go_wp2_with fail
            refine (refMissing_ok R7.out T7.out).mono ?_
            rintro e w8 ⟨v8, rfl, r8, b8⟩
            obtain ⟨A8, c8, ev⟩ := Kd.R_slice r8
            subst ev
            have Y8 := Lib.hid r8; have X8 := Lib.hid (Kd.R_below X7.out b8); have V8 := Lib.hid (V7.out.below b8 V7.out.lt); have U8 := Lib.hid (U7.out.below b8 U7.out.lt); have R8 := Lib.hid (R7.out.below b8 R7.out.lt); have T8 := Lib.hid (T7.out.below b8 T7.out.lt); have B8 := Lib.hid (B7.out.trans (b8.mono B7.out.size))
            clear r8 b8 V7 U7 R7 T7 X7
            have hl16 := missV_len xs ys 16
            obtain ⟨l, el⟩ : ∃ l, l = missV xs ys 16 := ⟨_, rfl⟩
            rw [← el] at X8 Y8 hl16 ⊢
            clear el
            go_wp2_with fail
            go_loopw [21] (fun i wr => ∃ k : Nat, k ≤ l.length ∧ i = .int .i64 k ∧ Keep (fun _ => False) w8 wr) (fun i _ => l.length - (intOf i).toNat)
            case atStart => exact ⟨0, by omega, rfl, Keep.refl _ _⟩
            case round =>
              obtain ⟨k, hk, rfl, hkp⟩ := hrel
              have HK := Lib.hid hkp
              clear hkp
              by_cases hlt : k < l.length
              · obtain ⟨ad, rfl, h0, h1, h2, h3⟩ := cut_at (Kd.R_reads' (R_kept X8.out HK.out (fun _ _ _ h => h))).2.2 k l[k] (List.getElem?_eq_getElem hlt)
                obtain ⟨ad', rfl, h4, h5, h6, h7⟩ := cut_at (Kd.R_reads' (R_kept Y8.out HK.out (fun _ _ _ h => h))).2.2 k l[k] (List.getElem?_eq_getElem hlt)
                obtain ⟨p, ep⟩ : ∃ p, p = l[k] := ⟨_, rfl⟩
                rw [← ep] at h0 h1 h2 h3 h4 h5 h6 h7
                clear ep
                go_wp2
                go_quiet (fail)
                go_wp2
                go_roundw
                case rel => exact ⟨k + 1, by omega, by go_num, HK.out.trans (Keep.drewN (fun _ => False) _ _) (fun _ _ h => h)⟩
                case measure => simp [intOf]; omega
              · have V9 := Lib.hid (V8.out.kept HK.out (fun h => h)); have R9 := Lib.hid (R8.out.kept HK.out (fun h => h)); have U9 := Lib.hid (U8.out.kept HK.out (fun h => h)); have T9 := Lib.hid (T8.out.kept HK.out (fun h => h)); have B9 := Lib.hid (B8.out.trans (HK.out.below (fun _ _ h => h) B8.out.size))
                obtain ⟨c0, c1⟩ := E0.out _ B9.out
                clear V8 R8 U8 T8 B8 X8 Y8 HK
                have hh := fun W h => has_any (w := W) (b := bv) (xs := xs) h r n
                have hrh := fun W h => refHas_any (w := W) (b := br) (xs := xs) h r n
                have hn := fun W h => next_any (w := W) (b := bv) (xs := xs) h q
                have hrn := fun W h => refNext_any (w := W) (b := br) (xs := xs) h q
                have hco := fun W h h' => covers_ok (w := W) (b := bv) (b2 := bw) (xs := xs) (ys := ys) h h'
                have hrc := fun W h h' => refCovers_ok (w := W) (b := br) (b2 := bs) (xs := xs) (ys := ys) h h'
                have hct := fun W h => count_ok (w := W) (b := bv) (xs := xs) h
                have hrt := fun W h => refCount_ok (w := W) (b := br) (xs := xs) h
                obtain ⟨hb, _⟩ : ∃ hb, hb = hasB xs r n := ⟨_, rfl⟩
                obtain ⟨vH, eH⟩ : ∃ v, v = hasB xs r n := ⟨_, rfl⟩
                obtain ⟨vN, eN⟩ : ∃ v, v = nextV xs q := ⟨_, rfl⟩
                obtain ⟨vC, eC⟩ : ∃ v, v = coversB xs ys := ⟨_, rfl⟩
                obtain ⟨vT, eT⟩ : ∃ v, v = xs.sum := ⟨_, rfl⟩
                rw [← eH] at hh hrh
                rw [← eN] at hn hrn
                rw [← eC] at hco hrc
                rw [← eT] at hct hrt
                have HH := Lib.hid hh; have HRH := Lib.hid hrh; have HN := Lib.hid hn; have HRN := Lib.hid hrn; have HCO := Lib.hid hco; have HRC := Lib.hid hrc; have HCT := Lib.hid hct; have HRT := Lib.hid hrt
                clear hh hrh hn hrn hco hrc hct hrt eH eN eC eT
                have pv : ∀ W, Below wr.heap.size wr W → VecAt W 59 bv xs := fun W h => V9.out.below h V9.out.lt
                have pr : ∀ W, Below wr.heap.size wr W → VecAt W 53 br xs := fun W h => R9.out.below h R9.out.lt
                have pu : ∀ W, Below wr.heap.size wr W → VecAt W 59 bw ys := fun W h => U9.out.below h U9.out.lt
                have pt : ∀ W, Below wr.heap.size wr W → VecAt W 53 bs ys := fun W h => T9.out.below h T9.out.lt
                have pc : ∀ W, Below wr.heap.size wr W → W.cell? ⟨w.heap.size, 0, none⟩ = some (.int .i64 r) ∧ W.cell? ⟨w.heap.size, 1, none⟩ = some (.int .i64 n) := fun W h => E0.out W (B9.out.trans (h.mono B9.out.size))
                have PV := Lib.hid pv; have PR := Lib.hid pr; have PU := Lib.hid pu; have PT := Lib.hid pt; have PC := Lib.hid pc
                have D0 := Lib.hid (drew_below (Below.refl wr.heap.size wr))
                have LX := Lib.hid (show xs.length ≤ 140737488351232 by rw [V9.out.six.len]; omega)
                clear pv pr pu pt pc
                go_wp2_with fail
                go_region_held3 (fun w' => w'.cell? ⟨w.heap.size, 0, none⟩ = some (.int .i64 r) ∧ w'.cell? ⟨w.heap.size, 1, none⟩ = some (.int .i64 n))
                  (first | exact PC.out _ D11.out | exact PC.out _ D10.out | exact PC.out _ D9.out | exact PC.out _ D8.out | exact PC.out _ D7.out | exact PC.out _ D6.out | exact PC.out _ D5.out | exact PC.out _ D4.out | exact PC.out _ D3.out | exact PC.out _ D2.out | exact PC.out _ D1.out | exact PC.out _ D0.out)
                  (first
                    | (go_at_call 20; refine (have_ok (PV.out _ D0.out)).mono ?_; rintro e x1 ⟨t1, rfl, z1, d1⟩; obtain ⟨F1, m1, ev⟩ := Kd.R_slice z1; subst ev; have Z1 := Lib.hid z1; have D1 := Lib.hid (D0.out.trans (d1.mono D0.out.size)); clear z1 d1)
                    | (go_at_call 21; refine (refList_ok (PR.out _ D1.out)).mono ?_; rintro e x2 ⟨t2, rfl, z2, d2⟩; obtain ⟨F2, m2, ev⟩ := Kd.R_slice z2; subst ev; have Z2 := Lib.hid z2; have Y2 := Lib.hid (Kd.R_below Z1.out d2); have D2 := Lib.hid (D1.out.trans (d2.mono D1.out.size)); clear z2 d2)
                    | (go_at_call 18; refine (same_ok (Kd.R_reads' Y2.out).2.2 (Kd.R_reads' Y2.out).2.1 (Kd.R_reads' Z2.out).2.2 (Kd.R_reads' Z2.out).2.1 LX.out).mono ?_; rintro e x3 ⟨rfl, m3, e3⟩; have D3 := Lib.hid (e3 ▸ pw_below_drewN D2.out m3 : Below wr.heap.size wr x3); clear e3)
                    | (go_at_call 12; refine (HH.out _ (PV.out _ D3.out)).mono ?_; rintro e x4 ⟨rfl, d4⟩; have D4 := Lib.hid (D3.out.trans (d4.mono D3.out.size)); clear d4)
                    | (go_at_call 22; refine (HRH.out _ (PR.out _ D4.out)).mono ?_; rintro e x5 ⟨rfl, d5⟩; have D5 := Lib.hid (D4.out.trans (d5.mono D4.out.size)); clear d5)
                    | (go_at_call 15; refine (HN.out _ (PV.out _ D5.out)).mono ?_; rintro e x6 ⟨rfl, m6, e6⟩; have D6 := Lib.hid (e6 ▸ pw_below_drewN D5.out m6 : Below wr.heap.size wr x6); clear e6)
                    | (go_at_call 23; refine (HRN.out _ (PR.out _ D6.out)).mono ?_; rintro e x7 ⟨rfl, m7, e7⟩; have D7 := Lib.hid (e7 ▸ pw_below_drewN D6.out m7 : Below wr.heap.size wr x7); clear e7)
                    | (go_at_call 11; refine (HCO.out _ (PV.out _ D7.out) (PU.out _ D7.out)).mono ?_; rintro e x8 ⟨rfl, d8⟩; have D8 := Lib.hid (D7.out.trans (d8.mono D7.out.size)); clear d8)
                    | (go_at_call 24; refine (HRC.out _ (PR.out _ D8.out) (PT.out _ D8.out)).mono ?_; rintro e x9 ⟨rfl, d9⟩; have D9 := Lib.hid (D8.out.trans (d9.below (fun _ _ h => h) D8.out.size)); clear d9)
                    | (go_at_call 25; refine (HCT.out _ (PV.out _ D9.out)).mono ?_; rintro e x10 ⟨rfl, e10⟩; have D10 := Lib.hid (e10 ▸ D9.out : Below wr.heap.size wr x10); clear e10)
                    | (go_at_call 26; refine (HRT.out _ (PR.out _ D10.out)).mono ?_; rintro e x11 ⟨rfl, e11⟩; have D11 := Lib.hid (e11 ▸ D10.out : Below wr.heap.size wr x11); clear e11))
                all_goals
                  go_wp2_with fail
                  go_ret
                  exact ⟨rfl, DOWN.out _ (B9.out.trans (D11.out.mono B9.out.size))⟩
theorem asks_row (w : World) (A : Option Addr) (c : Nat) (xs : List Int) (hC : (Kd.int .i64).C w A xs.length xs) (hc : xs.length ≤ c) (ok : OkInts xs) (B : Option Addr) (d : Nat) (ys : List Int) (hD : (Kd.int .i64).C w B ys.length ys) (hd : ys.length ≤ d) (ok' : OkInts ys)
    (cs : Array Value) (a : Int × Int) (hK : kid.K w a cs.toList) (ok1 : okInt a.1 ∧ okInt a.2) (q : Int) (wq : okInt q) :
    Calls Try.prog 5 #[.slice A xs.length c, .slice B ys.length d, .agg cs, .int .i64 q] w fun e w' => e = .returned (.bool true) ∧ Below w.heap.size w w' := by
  have e := kid_K hK
  obtain rfl : cs = #[.int .i64 a.1, .int .i64 a.2] := Array.ext' e
  exact asks_walk w A B c d xs ys hC hc hD a.1 a.2 q
end Go.Proofs.Ytbnblddgnhdneaa.Vec
