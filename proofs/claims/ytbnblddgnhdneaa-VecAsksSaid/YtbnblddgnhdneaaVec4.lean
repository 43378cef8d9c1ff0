/- What the statements of layer 8 ask first: alive answers true, and leaves what was there; Of, where there is no vector. -/
import Derived.Test.YtbnblddgnhdneaaVec3
import Derived.Test.YtbnblddgnhdneaaOpens
import Derived.Test.YtbnblddgnhdneaaWEqStruct
namespace Go.Proofs.Ytbnblddgnhdneaa.Vec
open Go.RowKit Go.Proofs.YtbnblddgnhdneaaW.PrintWords Go.Proofs.YtbnblddgnhdneaaW.PrintLast Go.Proofs.YtbnblddgnhdneaaW.PrintMore Go.Proofs.Ytbnblddgnhdneaa.Mem
attribute [local go_sem] max2_int min2_int max_two min_two
set_option linter.unusedVariables false
set_option linter.unusedSimpArgs false

theorem eqA31 (d : Nat) (w : World) (x0 y0 : Int) (x1 y1 : Int) :
    (Op.equalIn (d + 2) 31 (.agg #[.int .i64 x0, .int .i64 x1]) (.agg #[.int .i64 y0, .int .i64 y1])).run Try.prog w = .ok (x0 == y0 && (x1 == y1)) w := by
  refine eqA_of Try.underlying31 (by kernel_rfl) ?_
  refine eqf_cons (by rfl) (by go_simp; rfl) (by go_simp; rfl) (by go_simp) ?_
  exact eqf_last (by rfl) (by go_simp; rfl) (by go_simp; rfl) (by go_simp)
theorem eqA33 (d : Nat) (w : World) (x0 y0 : Int) (x1 y1 : Int) (x2 y2 : Int) (x3 y3 : Int) :
    (Op.equalIn (d + 3) 33 (.agg #[.int .i64 x0, .int .i64 x1, .int .i64 x2, .int .i64 x3]) (.agg #[.int .i64 y0, .int .i64 y1, .int .i64 y2, .int .i64 y3])).run Try.prog w = .ok ((x0 == y0 && (x1 == y1)) && (x2 == y2 && (x3 == y3))) w := by
  refine eqA_of Try.underlying33 (by kernel_rfl) ?_
  refine eqf_cons (by rfl) (by go_simp) (by go_simp) (eqA31 (d + 0) w _ _ _ _) ?_
  refine eqf_cons (by rfl) (by go_simp; rfl) (by go_simp; rfl) (by go_simp) ?_
  exact eqf_last (by rfl) (by go_simp; rfl) (by go_simp; rfl) (by go_simp)
attribute [local go_sem high] eqA31 eqA33
theorem cut_at {w : World} {A : Option Addr} {n : Nat} {ps : List Cut} (h : kcut.C w A n ps) (k : Nat) (p : Cut) (hp : ps[k]? = some p) :
    ∃ ad : Addr, A = some ad ∧ w.cell? (ad.add (k * 4)) = some (.int .i64 p.r) ∧ w.cell? ⟨(ad.add (k * 4)).block, (ad.add (k * 4)).off + 1, none⟩ = some (.int .i64 p.n) ∧ w.cell? ⟨(ad.add (k * 4)).block, (ad.add (k * 4)).off + 2, none⟩ = some (.int .i64 p.f) ∧ w.cell? ⟨(ad.add (k * 4)).block, (ad.add (k * 4)).off + 3, none⟩ = some (.int .i64 p.t) := by
  have hk : k < ps.length := by
    rcases Nat.lt_or_ge k ps.length with h | h
    · exact h
    · rw [List.getElem?_eq_none h] at hp; cases hp
  obtain ⟨hn, h2, h3⟩ := h
  obtain ⟨ad, e, hc⟩ := h3 (by omega)
  obtain ⟨cs, _, hK, hcell⟩ := hc k p hp
  have e2 := kcut_K hK
  subst e2
  have hsz : kcut.sz = 4 := rfl
  rw [hsz] at hcell
  exact ⟨ad, e, hcell 0 _ rfl, by rw [← add_field _ _ 1 (by omega)]; exact hcell 1 _ rfl, by rw [← add_field _ _ 2 (by omega)]; exact hcell 2 _ rfl, by rw [← add_field _ _ 3 (by omega)]; exact hcell 3 _ rfl⟩
theorem C_new (w : World) (xs : List Int) (fr : Nat × Nat) (hl : xs.length ≤ 140737488351232) : (Kd.int .i64).C (w.alloc (.cells (nums .i64 xs).toArray 3 fr)) (some ⟨w.heap.size, 0, none⟩) xs.length xs :=
  C_cells xs hl fun j x hx => by
    rw [cell_of_row _ _ j _ _ _ (heap_alloc_new w _)]
    simp [nums, hx]
set_option maxHeartbeats 1000000 in
set_option maxRecDepth 100000 in
theorem alive_ok (w : World) : Calls Try.prog 8 #[] w fun e w' => e = .returned (.bool true) ∧ Below w.heap.size w w' := by
  go_enter Try.func8, Try.ntmps8
  go_wp2_with fail
  refine (new_ok w).mono ?_
  rintro e w1 ⟨b, rfl, v1, hb, b1⟩
  have V1 := Lib.hid v1; have B1 := Lib.hid b1; have HB := Lib.hid hb; clear v1 b1 hb
  go_wp2_with fail
  refine (add_any V1.out 2 1).mono ?_
  have e1 : addE zeros16 2 1 = 0 := by decide
  have e2 : addV zeros16 2 1 = [0, 0, 1, 0, 0, 0, 0, 0, 0, 0, 0, 0, 0, 0, 0, 0] := by decide
  rw [e1, e2]
  rintro e w2 ⟨rfl, v2, k2⟩
  have V2 := Lib.hid v2; have K2 := Lib.hid k2; clear v2 k2 e1 e2
  go_wp2_with fail
  refine (add_any V2.out 2 3).mono ?_
  have e1 : addE [0, 0, 1, 0, 0, 0, 0, 0, 0, 0, 0, 0, 0, 0, 0, 0] 2 3 = 22 := by decide
  have e2 : addV [0, 0, 1, 0, 0, 0, 0, 0, 0, 0, 0, 0, 0, 0, 0, 0] 2 3 = [0, 0, 1, 0, 0, 0, 0, 0, 0, 0, 0, 0, 0, 0, 0, 0] := by decide
  rw [e1, e2]
  rintro e w3 ⟨rfl, v3, k3⟩
  have V3 := Lib.hid v3; have K3 := Lib.hid k3; clear v3 k3 e1 e2
  go_wp2_with fail
  have eo : ofV [0, 0, 4] = [0, 0, 4, 0, 0, 0, 0, 0, 0, 0, 0, 0, 0, 0, 0, 0] := by decide
  have hof := of_ok (w := w3.alloc (.cells (nums .i64 [0, 0, 4]).toArray 3)) (c := 3) (C_new w3 [0, 0, 4] _ (by simp)) (by decide)
  rw [eo] at hof
  refine hof.mono ?_
  rintro e w4 ⟨c, rfl, v4, hc, b4⟩
  have V4 := Lib.hid v4; have B4 := Lib.hid b4; have HC := Lib.hid hc; clear v4 b4 hc hof eo
  have v5 := V3.out.below ((below_alloc (Below.refl _ _) _).trans (B4.out.mono (by simp))) V3.out.lt
  have V5 := Lib.hid v5; clear v5
  go_wp2_with fail
  refine (missing_ok V5.out V4.out).mono ?_
  have em : missV [0, 0, 1, 0, 0, 0, 0, 0, 0, 0, 0, 0, 0, 0, 0, 0] [0, 0, 4, 0, 0, 0, 0, 0, 0, 0, 0, 0, 0, 0, 0, 0] 16 = [⟨2, 2, 2, 5⟩] := by decide
  rw [em]
  rintro e w5 ⟨v, rfl, r6, b6⟩
  obtain ⟨A6, c6, ev⟩ := Kd.R_slice r6
  subst ev
  obtain ⟨ad, rfl, hcr, hcn, hcf, hct⟩ := cut_at (Kd.R_reads' r6).2.2 0 ⟨2, 2, 2, 5⟩ rfl
  have V6 := Lib.hid (V5.out.below b6 V5.out.lt); have W6 := Lib.hid (V4.out.below b6 V4.out.lt); have B6 := Lib.hid b6
  clear b6 em r6
  have add0 : ad.add (0 * 4) = ad := by rw [Nat.zero_mul]; unfold Addr.add; rfl
  rw [add0] at hcr hcn hcf hct
  clear add0
  go_wp2_with fail
  refine (count_ok V6.out).mono ?_
  rintro e w6 ⟨rfl, rfl⟩
  go_wp2_with fail
  refine (has_any V6.out 2 1).mono ?_
  have e1 : hasB [0, 0, 1, 0, 0, 0, 0, 0, 0, 0, 0, 0, 0, 0, 0, 0] 2 1 = true := by decide
  rw [e1]
  rintro e w6 ⟨rfl, b7⟩
  have hcr := (b7.cell (World.block_lt_of_cell? _ _ hcr)).trans hcr
  have hcn := (b7.cell (World.block_lt_of_cell? _ _ hcn)).trans hcn
  have hcf := (b7.cell (World.block_lt_of_cell? _ _ hcf)).trans hcf
  have hct := (b7.cell (World.block_lt_of_cell? _ _ hct)).trans hct
  have V7 := Lib.hid (V6.out.below b7 V6.out.lt); have W7 := Lib.hid (W6.out.below b7 W6.out.lt); have B7 := Lib.hid b7
  clear b7 e1
  go_wp2_with fail
  refine (covers_ok W7.out V7.out).mono ?_
  have e1 : coversB [0, 0, 4, 0, 0, 0, 0, 0, 0, 0, 0, 0, 0, 0, 0, 0] [0, 0, 1, 0, 0, 0, 0, 0, 0, 0, 0, 0, 0, 0, 0, 0] = true := by decide
  rw [e1]
  rintro e w7 ⟨rfl, b8⟩
  have B8 := Lib.hid b8
  clear b8 e1
  go_wp2_with fail
  go_ret
  refine ⟨rfl, ?_⟩
  have g2 := B1.out.trans (K2.out.below (fun i hi h => by have := HB.out; omega) B1.out.size)
  have g3 := g2.trans (K3.out.below (fun i hi h => by have := HB.out; omega) g2.size)
  have g3' : Below w.heap.size w (w3.alloc (.cells (nums .i64 [0, 0, 4]).toArray 3)) := below_alloc g3 _
  have g4 := g3'.trans (B4.out.mono g3'.size)
  have g5 := g4.trans (B6.out.mono g4.size)
  have g6 := g5.trans (B7.out.mono g5.size)
  exact g6.trans (B8.out.mono g6.size)
theorem ofOk_all {ys : List Int} (h : ys.length ≤ 16) (hk : ∀ i, i < ys.length → 0 ≤ ys.getD i 0 ∧ ys.getD i 0 ≤ 1048576) : ofOk ys = true :=
  decide_eq_true ⟨h, fun x hx => by
    obtain ⟨i, hi, e⟩ := List.mem_iff_getElem.1 hx
    have := hk i hi
    rw [List.getD_eq_getElem?_getD, List.getElem?_eq_getElem hi] at this
    simpa [e] using this⟩
set_option maxHeartbeats 1000000 in
theorem of_bad {w : World} {A : Option Addr} {c : Nat} {ys : List Int} (hC : (Kd.int .i64).C w A ys.length ys) (h : ofOk ys = false) :
    Calls Try.prog 9 #[.slice A ys.length c] w fun e w' => e = .returned (.tuple #[.pointer none, .bool false]) ∧ Below w.heap.size w w' := by
  have HC := Lib.hid hC; have H := Lib.hid h
  clear hC h
  by_cases hl : 16 < ys.length
  · have g0 : decide ((16 : Int) < ys.length) = true := decide_eq_true (by omega)
    go_enter Try.func9, Try.ntmps9
    go_wp2_with fail
    refine (new_ok w).mono ?_
    rintro e w1 ⟨b, rfl, hv, hb, hbl⟩
    have HBL := Lib.hid hbl
    clear hv hb hbl
    go_wp2
    go_ret2
    exact ⟨rfl, HBL.out⟩
  · have g0 : decide ((16 : Int) < ys.length) = false := decide_eq_false (by omega)
    go_enter Try.func9, Try.ntmps9
    go_wp2_with fail
    refine (new_ok w).mono ?_
    rintro e w1 ⟨b, rfl, hv, hb, hbl⟩
    have HBL := Lib.hid hbl
    clear hv hb hbl
    go_wp2
    go_loop [13] (fun i => ∃ k : Nat, k ≤ ys.length ∧ (∀ i, i < k → 0 ≤ ys.getD i 0 ∧ ys.getD i 0 ≤ 1048576) ∧ i = .int .i64 k) (fun i => ys.length - (intOf i).toNat)
    case atStart => exact ⟨0, by omega, fun i hi => by omega, rfl⟩
    case round =>
      obtain ⟨k, hk, hall, rfl⟩ := hrel
      by_cases hlt : k < ys.length
      · obtain ⟨ad, rfl, hc⟩ := C_at (Kd.C_below HC.out HBL.out) k hlt
        have HALL := Lib.hid hall
        clear hall
        by_cases b0 : ys.getD k 0 < 0
        · obtain ⟨x, ex⟩ : ∃ x, x = ys.getD k 0 := ⟨_, rfl⟩
          rw [← ex] at hc b0
          have g1 : decide (x < 0) = true := decide_eq_true b0
          clear ex b0
          go_wp2
          go_ret2
          exact ⟨rfl, HBL.out⟩
        · by_cases b1 : 1048576 < ys.getD k 0
          · obtain ⟨x, ex⟩ : ∃ x, x = ys.getD k 0 := ⟨_, rfl⟩
            rw [← ex] at hc b0 b1
            have g1 : decide (x < 0) = false := decide_eq_false b0
            have g2 : decide (1048576 < x) = true := decide_eq_true b1
            clear ex b0 b1
            go_wp2
            go_ret2
            exact ⟨rfl, HBL.out⟩
          · have H2 := Lib.hid (And.intro b0 b1)
            obtain ⟨x, ex⟩ : ∃ x, x = ys.getD k 0 := ⟨_, rfl⟩
            rw [← ex] at hc b0 b1 H2
            have g1 : decide (x < 0) = false := decide_eq_false b0
            have g2 : decide (1048576 < x) = false := decide_eq_false b1
            have EX := Lib.hid ex
            clear ex b0 b1
            go_wp2
            go_round
            case rel =>
              refine ⟨k + 1, by omega, fun i hi => ?_, by go_num⟩
              by_cases c : i < k
              · exact HALL.out i c
              · obtain rfl : i = k := by omega
                rw [← EX.out]
                have := H2.out
                omega
            case measure => simp [intOf]; omega
      · obtain rfl : k = ys.length := by omega
        have := ofOk_all (by omega) hall
        rw [H.out] at this
        cases this
end Go.Proofs.Ytbnblddgnhdneaa.Vec
