/- VecCalls, the walk: every row of Adds and Joins leaves the document's numbers. -/
import Derived.Test.YtbnblddgnhdneaaRef4
import Derived.Deep.RegionHeld3
namespace Go.Proofs.Ytbnblddgnhdneaa.Vec
open Go.RowKit Go.Proofs.YtbnblddgnhdneaaW.PrintWords Go.Proofs.YtbnblddgnhdneaaW.PrintLast Go.Proofs.YtbnblddgnhdneaaW.PrintMore Go.Proofs.Ytbnblddgnhdneaa.Mem
attribute [local go_sem] max2_int min2_int max_two min_two
set_option linter.unusedVariables false
set_option linter.unusedSimpArgs false

theorem drew_below {B : Nat} {w0 w : World} (h : Below B w0 w) : Below B w0 w.drew := ⟨h.os, h.tape, h.output, h.size, h.block⟩
theorem sixteen_list : ∀ {xs : List Int}, xs.length = 16 → ∃ a0 a1 a2 a3 a4 a5 a6 a7 a8 a9 a10 a11 a12 a13 a14 a15, xs = [a0, a1, a2, a3, a4, a5, a6, a7, a8, a9, a10, a11, a12, a13, a14, a15]
  | [a0, a1, a2, a3, a4, a5, a6, a7, a8, a9, a10, a11, a12, a13, a14, a15], _ => ⟨a0, a1, a2, a3, a4, a5, a6, a7, a8, a9, a10, a11, a12, a13, a14, a15, rfl⟩
set_option maxHeartbeats 4000000 in
set_option maxRecDepth 100000 in
theorem calls_walk (w : World) (A J : Option Addr) (c d : Nat) (ids : List (Int × Int)) (js : List Int) (hC : kid.C w A ids.length ids) (hJ : (Kd.int .i64).C w J js.length js) (hl : ids.length ≤ 140737488351232) :
    Calls Try.prog 6 #[.slice A ids.length c, .slice J js.length d] w fun e w' => e = .returned (.bool true) ∧ Below w.heap.size w w' := by
  have HC := Lib.hid hC; have HJ := Lib.hid hJ
  clear hC hJ
  by_cases cl : 300 < ids.length
  · have g0 : decide ((300 : Int) < ids.length) = true := decide_eq_true (by omega)
    go_enter Try.func6, Try.ntmps6
    go_wp2_with fail
    refine (alive_ok _).mono ?_
    rintro e w1 ⟨rfl, b1⟩
    have B1 := Lib.hid b1; clear b1
    go_wp2_with fail
    go_ret
    exact ⟨rfl, B1.out⟩
  · have g0 : decide ((300 : Int) < ids.length) = false := decide_eq_false (by omega)
    by_cases cj : 50 < js.length
    · have g1 : decide ((50 : Int) < js.length) = true := decide_eq_true (by omega)
      go_enter Try.func6, Try.ntmps6
      go_wp2_with fail
      refine (alive_ok _).mono ?_
      rintro e w1 ⟨rfl, b1⟩
      have B1 := Lib.hid b1; clear b1
      go_wp2_with fail
      go_ret
      exact ⟨rfl, B1.out⟩
    · have g1 : decide ((50 : Int) < js.length) = false := decide_eq_false (by omega)
      go_enter Try.func6, Try.ntmps6
      go_wp2_with fail
      refine (alive_ok _).mono ?_
      rintro e w1 ⟨rfl, b1⟩
      have B1 := Lib.hid b1; clear b1
      go_wp2_with fail
      refine (new_ok w1).mono ?_
      rintro e w2 ⟨b, rfl, v2, hb, b2⟩
      have B2 := Lib.hid (B1.out.trans (b2.mono B1.out.size))
      have V2 := Lib.hid v2; have HB := Lib.hid (Nat.le_trans B1.out.size hb); clear v2 b2 hb
      go_wp2_with fail
      go_loopw [7] (fun i wr => ∃ k : Nat, k ≤ ids.length ∧ i = .int .i64 k ∧ ∃ xs, VecAt wr 59 b xs ∧ VecAt wr 53 w2.heap.size xs ∧ Below w.heap.size w wr) (fun i _ => ids.length - (intOf i).toNat)
      case atStart =>
        exact ⟨0, by omega, rfl, zeros16, V2.out.below (below_alloc (Below.refl _ _) _) V2.out.lt, ⟨heap_alloc_new w2 _, six_zeros⟩, below_alloc B2.out _⟩
      case round =>
        obtain ⟨k, hk, rfl, xs, hv, hr, hbl⟩ := hrel
        have HV := Lib.hid hv; have HR := Lib.hid hr; have HBL := Lib.hid hbl; have LT := Lib.hid V2.out.lt
        clear hv hr hbl
        by_cases hlt : k < ids.length
        · have hid : ids[k]? = some ids[k] := List.getElem?_eq_getElem hlt
          have HID := Lib.hid hid
          obtain ⟨ad, rfl, hcr, hcn⟩ := id_at (Kd.C_below HC.out HBL.out) k _ hid
          obtain ⟨p, ep⟩ : ∃ p, p = ids[k] := ⟨_, rfl⟩
          rw [← ep] at hcr hcn HID
          clear ep hid
          obtain ⟨pr, pn⟩ := p
          have cell : ∀ W : World, Below w.heap.size w W → W.cell? (ad.add (k * 2)) = some (.int .i64 pr) ∧ W.cell? ⟨(ad.add (k * 2)).block, (ad.add (k * 2)).off + 1, none⟩ = some (.int .i64 pn) := fun W hW => by
            obtain ⟨ad', e', h1, h2⟩ := id_at (Kd.C_below HC.out hW) k _ HID.out
            cases e'
            exact ⟨h1, h2⟩
          have CELL := Lib.hid cell
          clear cell
          obtain ⟨hcr, hcn⟩ := CELL.out _ HBL.out
          obtain ⟨E, eE⟩ : ∃ E, E = addE xs pr pn := ⟨_, rfl⟩
          obtain ⟨zs, ez⟩ : ∃ zs, zs = addV xs pr pn := ⟨_, rfl⟩
          have EE := Lib.hid (And.intro eE ez)
          clear eE ez
          go_wp2_with fail
          go_region_held3 (fun w' => w'.cell? (ad.add (k * 2)) = some (.int .i64 pr) ∧ w'.cell? ⟨(ad.add (k * 2)).block, (ad.add (k * 2)).off + 1, none⟩ = some (.int .i64 pn))
            (first | exact CELL.out _ B7.out | exact CELL.out _ B6.out | exact CELL.out _ B5.out | exact CELL.out _ B4.out | exact CELL.out _ B3.out | exact CELL.out _ (drew_below HBL.out) | exact CELL.out _ HBL.out)
            (first
              | (go_at_call 13; refine (add_any (b := b) (xs := xs) ?_ pr pn).mono ?_; (exact ⟨HV.out.blk, HV.out.six⟩); rw [← EE.out.1, ← EE.out.2]; rintro e w3 ⟨rfl, v3, k3⟩; have V3 := Lib.hid v3; have R3 := Lib.hid ((⟨HR.out.blk, HR.out.six⟩ : VecAt wr.drew 53 w2.heap.size xs).kept k3 (fun h => by have := LT.out; omega)); have B3 := Lib.hid ((drew_below HBL.out).trans (k3.below (fun i hi h => by have := HB.out; omega) (drew_below HBL.out).size)); clear v3 k3)
              | (go_at_call 27; refine (refAdd_any R3.out pr pn).mono ?_; rw [← EE.out.1, ← EE.out.2]; rintro e w4 ⟨rfl, v4, k4⟩; have R4 := Lib.hid v4; have V4 := Lib.hid (V3.out.kept k4 (fun h => by have := LT.out; omega)); have B4 := Lib.hid (B3.out.trans (k4.below (fun i hi h => by have := HB.out; have := LT.out; omega) B3.out.size)); clear v4 k4)
              | (go_at_call 20; refine (have_ok V4.out).mono ?_; rintro e w5 ⟨v5, rfl, r5, b5⟩; obtain ⟨A5, c5, ev⟩ := Kd.R_slice r5; subst ev; have Q5 := Lib.hid r5; have V5 := Lib.hid (V4.out.below b5 V4.out.lt); have R5 := Lib.hid (R4.out.below b5 R4.out.lt); have B5 := Lib.hid (B4.out.trans (b5.mono B4.out.size)); clear r5 b5)
              | (go_at_call 21; refine (refList_ok R5.out).mono ?_; rintro e w6 ⟨v6, rfl, r6, b6⟩; obtain ⟨A6, c6, ev⟩ := Kd.R_slice r6; subst ev; have P6 := Lib.hid r6; have Q6 := Lib.hid (Kd.R_below Q5.out b6); have V6 := Lib.hid (V5.out.below b6 V5.out.lt); have R6 := Lib.hid (R5.out.below b6 R5.out.lt); have B6 := Lib.hid (B5.out.trans (b6.mono B5.out.size)); clear r6 b6)
              | (go_at_call 18; refine (same_ok (Kd.R_reads' Q6.out).2.2 (Kd.R_reads' Q6.out).2.1 (Kd.R_reads' P6.out).2.2 (Kd.R_reads' P6.out).2.1 (by rw [V6.out.six.len]; omega)).mono ?_; rintro e w7 ⟨rfl, k7, e7⟩; have V7 := Lib.hid (V6.out.kept (F := fun _ => False) (e7 ▸ Keep.drewN _ _ _) (fun h => h)); have R7 := Lib.hid (R6.out.kept (F := fun _ => False) (e7 ▸ Keep.drewN _ _ _) (fun h => h)); have B7 := Lib.hid (e7 ▸ pw_below_drewN B6.out k7); clear e7))
          all_goals
            go_wp2_with fail
            go_roundw
            case rel => exact ⟨k + 1, by omega, by go_num, zs, V7.out, R7.out, B7.out⟩
            case measure => simp [intOf]; omega
        · obtain rfl : k = ids.length := by omega
          have LB := Lib.hid (And.intro HV.out.lt HR.out.lt)
          go_wp2_with fail
          refine (both_any (Kd.C_below HJ.out HBL.out)).mono ?_
          rintro e w3 ⟨p, q, rfl, b3, y3⟩
          have B3' := Lib.hid b3; have B3 := Lib.hid (HBL.out.trans (b3.mono HBL.out.size)); have Y3 := Lib.hid y3
          have HV := Lib.hid (HV.out.below b3 HV.out.lt); have HR := Lib.hid (HR.out.below b3 HR.out.lt)
          clear b3 y3
          cases ho : ofOk js with
          | false =>
            clear ho
            go_wp2_with fail
            go_ret
            exact ⟨rfl, B3.out⟩
          | true =>
            obtain ⟨bj, bj', rfl, rfl, vj, vj', l1, l2⟩ := Y3.out ho
            obtain ⟨ys, ey⟩ : ∃ ys, ys = ofV js := ⟨_, rfl⟩
            rw [← ey] at vj vj'
            have VJ := Lib.hid vj; have RJ := Lib.hid vj'; have LJ := Lib.hid (And.intro l1 l2)
            clear vj vj' ey l1 l2 ho Y3
            go_wp2_with fail
            refine (clone_ok HV.out).mono ?_
            rintro e w4 ⟨bc, rfl, vc, lc, b4⟩
            have VC := Lib.hid vc; have HV := Lib.hid (HV.out.below b4 HV.out.lt); have HR := Lib.hid (HR.out.below b4 HR.out.lt); have VJ := Lib.hid (VJ.out.below b4 VJ.out.lt); have RJ := Lib.hid (RJ.out.below b4 RJ.out.lt); have LC := Lib.hid (And.intro lc RJ.out.lt); have B4 := Lib.hid (B3.out.trans (b4.mono B3.out.size)); have LC' := Lib.hid (And.intro B3.out.size (And.intro B3'.out.size ‹Hid (VecAt w3 53 bj' ys)›.out.lt))
            clear vc lc b4
            go_wp2_with fail
            refine (join_ok VC.out VJ.out).mono ?_
            rintro e w5 ⟨rfl, vc, k5⟩
            have VC := Lib.hid vc
            have HV := Lib.hid (HV.out.kept k5 (fun h => by have := LC.out.1; have := LB.out.1; have := LC'.out.2.1; omega)); have HR := Lib.hid (HR.out.kept k5 (fun h => by have := LC.out.1; have := LB.out.2; have := LC'.out.2.1; omega)); have RJ := Lib.hid (RJ.out.kept k5 (fun h => by have := LC.out.1; have := LC'.out.2.2; omega))
            have B5 := Lib.hid (B4.out.trans (k5.below (fun i hi h => by have := LC.out.1; have := LC'.out.1; omega) B4.out.size))
            clear vc k5 VJ
            obtain ⟨a0, a1, a2, a3, a4, a5, a6, a7, a8, a9, a10, a11, a12, a13, a14, a15, exs⟩ := sixteen_list HR.out.six.len
            have hbk : w5.heap[w2.heap.size]? = some (.cells #[.int .i64 a0, .int .i64 a1, .int .i64 a2, .int .i64 a3, .int .i64 a4, .int .i64 a5, .int .i64 a6, .int .i64 a7, .int .i64 a8, .int .i64 a9, .int .i64 a10, .int .i64 a11, .int .i64 a12, .int .i64 a13, .int .i64 a14, .int .i64 a15] 53 (0, 0)) := by have := HR.out.blk; rw [exs] at this; exact this
            have HBK := Lib.hid hbk; have EXS := Lib.hid exs
            clear hbk exs
            go_wp2_with ((with_reducible refine gate_dst (N := 82) rfl ?_); go_loud (refine wpList_load_row rfl 51 (.tmp 81) rfl w2.heap.size rfl 53 _ (0, 0) _ HBK.out Try.underlying51 rfl (by rw [info51]; rfl) ?_))
            have R2 : VecAt (w5.alloc (.cells #[.int .i64 a0, .int .i64 a1, .int .i64 a2, .int .i64 a3, .int .i64 a4, .int .i64 a5, .int .i64 a6, .int .i64 a7, .int .i64 a8, .int .i64 a9, .int .i64 a10, .int .i64 a11, .int .i64 a12, .int .i64 a13, .int .i64 a14, .int .i64 a15] 53)) 53 w5.heap.size xs := ⟨by rw [EXS.out]; exact heap_alloc_new w5 _, HR.out.six⟩
            obtain ⟨w6, ew6⟩ : ∃ w6, w6 = w5.alloc (.cells #[.int .i64 a0, .int .i64 a1, .int .i64 a2, .int .i64 a3, .int .i64 a4, .int .i64 a5, .int .i64 a6, .int .i64 a7, .int .i64 a8, .int .i64 a9, .int .i64 a10, .int .i64 a11, .int .i64 a12, .int .i64 a13, .int .i64 a14, .int .i64 a15] 53) := ⟨_, rfl⟩
            have b6 : Below w5.heap.size w5 w6 := ew6 ▸ below_alloc (Below.refl _ _) _
            rw [← ew6] at R2 ⊢
            have LR := Lib.hid (And.intro HR.out.lt (And.intro RJ.out.lt (And.intro HV.out.lt VC.out.lt)))
            have VC := Lib.hid (VC.out.below b6 VC.out.lt); have HV := Lib.hid (HV.out.below b6 HV.out.lt); have HR := Lib.hid (HR.out.below b6 HR.out.lt); have RJ := Lib.hid (RJ.out.below b6 RJ.out.lt); have R2 := Lib.hid R2
            have B6 := Lib.hid (B5.out.trans (b6.mono B5.out.size))
            clear ew6 HBK b6
            refine (refJoin_ok R2.out RJ.out (by have := LR.out.2.1; omega)).mono ?_
            rintro e w7 ⟨rfl, r7, k7⟩
            have R7 := Lib.hid r7
            have VC := Lib.hid (VC.out.kept k7 (fun h => by have := LR.out; omega)); have HV := Lib.hid (HV.out.kept k7 (fun h => by have := LR.out; omega)); have HR := Lib.hid (HR.out.kept k7 (fun h => by have := LR.out; omega))
            have B7 := Lib.hid (B6.out.trans (k7.below (fun i hi h => by have := B5.out.size; omega) B6.out.size))
            have LJ16 := Lib.hid (show (joinV xs ys).length ≤ 140737488351232 by rw [VC.out.six.len]; omega)
            obtain ⟨qs, eqs⟩ : ∃ qs, qs = joinV xs ys := ⟨_, rfl⟩
            rw [← eqs] at R7 VC LJ16
            have LX16 := Lib.hid (show xs.length ≤ 140737488351232 by rw [HV.out.six.len]; omega)
            clear r7 k7 eqs R2 RJ
            go_wp2_with fail
            refine (have_ok VC.out).mono ?_
            rintro e w8 ⟨v8, rfl, r8, b8⟩
            obtain ⟨A8, c8, ev⟩ := Kd.R_slice r8
            subst ev
            have Q8 := Lib.hid r8; have R8 := Lib.hid (R7.out.below b8 R7.out.lt); have HV := Lib.hid (HV.out.below b8 HV.out.lt); have HR := Lib.hid (HR.out.below b8 HR.out.lt); have B8 := Lib.hid (B7.out.trans (b8.mono B7.out.size))
            clear r8 b8
            go_wp2_with fail
            refine (refList_ok R8.out).mono ?_
            rintro e w9 ⟨v9, rfl, r9, b9⟩
            obtain ⟨A9, c9, ev⟩ := Kd.R_slice r9
            subst ev
            have Q9 := Lib.hid r9; have Q8 := Lib.hid (Kd.R_below Q8.out b9); have HV := Lib.hid (HV.out.below b9 HV.out.lt); have HR := Lib.hid (HR.out.below b9 HR.out.lt); have B9 := Lib.hid (B8.out.trans (b9.mono B8.out.size))
            clear r9 b9
            go_wp2_with fail
            refine (same_ok (Kd.R_reads' Q8.out).2.2 (Kd.R_reads' Q8.out).2.1 (Kd.R_reads' Q9.out).2.2 (Kd.R_reads' Q9.out).2.1 LJ16.out).mono ?_
            rintro e w10 ⟨rfl, k10, e10⟩
            have HV := Lib.hid (HV.out.kept (F := fun _ => False) (e10 ▸ Keep.drewN _ _ _) (fun h => h)); have HR := Lib.hid (HR.out.kept (F := fun _ => False) (e10 ▸ Keep.drewN _ _ _) (fun h => h)); have B10 := Lib.hid (e10 ▸ pw_below_drewN B9.out k10 : Below w.heap.size w w10)
            clear e10 Q8 Q9
            go_wp2_with fail
            refine (have_ok HV.out).mono ?_
            rintro e w11 ⟨v11, rfl, r11, b11⟩
            obtain ⟨A11, c11, ev⟩ := Kd.R_slice r11
            subst ev
            have Q11 := Lib.hid r11; have HR := Lib.hid (HR.out.below b11 HR.out.lt); have B11 := Lib.hid (B10.out.trans (b11.mono B10.out.size))
            clear r11 b11
            go_wp2_with fail
            refine (refList_ok HR.out).mono ?_
            rintro e w12 ⟨v12, rfl, r12, b12⟩
            obtain ⟨A12, c12, ev⟩ := Kd.R_slice r12
            subst ev
            have Q12 := Lib.hid r12; have Q11 := Lib.hid (Kd.R_below Q11.out b12); have B12 := Lib.hid (B11.out.trans (b12.mono B11.out.size))
            clear r12 b12
            go_wp2_with fail
            refine (same_ok (Kd.R_reads' Q11.out).2.2 (Kd.R_reads' Q11.out).2.1 (Kd.R_reads' Q12.out).2.2 (Kd.R_reads' Q12.out).2.1 LX16.out).mono ?_
            rintro e w13 ⟨rfl, k13, e13⟩
            have B13 := Lib.hid (e13 ▸ pw_below_drewN B12.out k13 : Below w.heap.size w w13)
            clear e13
            go_wp2_with fail
            go_ret
            exact ⟨rfl, B13.out⟩
theorem calls_row (w : World) (A : Option Addr) (c : Nat) (ids : List (Int × Int)) (hC : kid.C w A ids.length ids) (hc : ids.length ≤ c) (ok : ids.length * Try.prog.bytesOf 31 ≤ 140737488351232 ∧ ∀ x ∈ ids, okInt x.1 ∧ okInt x.2)
    (J : Option Addr) (d : Nat) (js : List Int) (hJ : (Kd.int .i64).C w J js.length js) (hd : js.length ≤ d) (ok' : OkInts js) :
    Calls Try.prog 6 #[.slice A ids.length c, .slice J js.length d] w fun e w' => e = .returned (.bool true) ∧ Below w.heap.size w w' := by
  have b31 : Try.prog.bytesOf 31 = 16 := by kernel_rfl
  rw [b31] at ok
  exact calls_walk w A J c d ids js hC hJ (by omega)
end Go.Proofs.Ytbnblddgnhdneaa.Vec
