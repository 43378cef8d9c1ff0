/- VecMissing, the walk: what is missing, added in order, makes that a vector covers the other one. -/
import Derived.Test.YtbnblddgnhdneaaHasW
namespace Go.Proofs.Ytbnblddgnhdneaa.Vec
open Go.RowKit Go.Proofs.YtbnblddgnhdneaaW.PrintWords Go.Proofs.YtbnblddgnhdneaaW.PrintLast Go.Proofs.YtbnblddgnhdneaaW.PrintMore Go.Proofs.Ytbnblddgnhdneaa.Mem
attribute [local go_sem] max2_int min2_int max_two min_two
set_option linter.unusedVariables false
set_option linter.unusedSimpArgs false

theorem of_any {w : World} {A : Option Addr} {c : Nat} {ys : List Int} (hC : (Kd.int .i64).C w A ys.length ys) :
    Calls Try.prog 9 #[.slice A ys.length c] w fun e w' => ∃ p, e = .returned (.tuple #[.pointer p, .bool (ofOk ys)]) ∧ Below w.heap.size w w' ∧ (ofOk ys = true → ∃ b, p = some ⟨b, 0, none⟩ ∧ VecAt w' 59 b (ofV ys) ∧ w.heap.size ≤ b) ∧ (ofOk ys = false → p = none) := by
  cases h : ofOk ys with
  | true =>
    refine (of_ok hC h).mono ?_
    rintro e w' ⟨b, rfl, hv, hb, hbl⟩
    exact ⟨_, rfl, hbl, fun _ => ⟨b, rfl, hv, hb⟩, fun h => by cases h⟩
  | false =>
    refine (of_bad hC h).mono ?_
    rintro e w' ⟨rfl, hbl⟩
    exact ⟨_, rfl, hbl, fun h => (by cases h), fun _ => rfl⟩

/-! ### The cuts -/
theorem missAt_some {xs ys : List Int} {i : Nat} {p : Cut} (h : missAt xs ys i = some p) : xs.getD i 0 < ys.getD i 0 ∧ p = ⟨i, xs.getD i 0 + 1, xs.getD i 0 + 1, ys.getD i 0 + 1⟩ := by
  unfold missAt at h
  split at h
  · rename_i c
    exact ⟨c, by injection h with h; exact h.symm⟩
  · cases h
theorem miss_mem {xs ys : List Int} {m : Nat} {p : Cut} (h : p ∈ missV xs ys m) : ∃ r : Nat, r < m ∧ xs.getD r 0 < ys.getD r 0 ∧ p = ⟨r, xs.getD r 0 + 1, xs.getD r 0 + 1, ys.getD r 0 + 1⟩ := by
  unfold missV at h
  obtain ⟨r, hr, hp⟩ := List.mem_filterMap.1 h
  have := missAt_some hp
  exact ⟨r, List.mem_range.1 hr, this.1, this.2⟩
theorem miss_has {xs ys : List Int} {m r : Nat} (hr : r < m) (h : xs.getD r 0 < ys.getD r 0) : (⟨r, xs.getD r 0 + 1, xs.getD r 0 + 1, ys.getD r 0 + 1⟩ : Cut) ∈ missV xs ys m := by
  unfold missV
  exact List.mem_filterMap.2 ⟨r, List.mem_range.2 hr, by unfold missAt; rw [if_pos h]⟩
theorem miss_sorted (xs ys : List Int) : ∀ m, (missV xs ys m).Pairwise (fun p q => p.r < q.r)
  | 0 => by unfold missV; simp
  | m + 1 => by
    have ih := miss_sorted xs ys m
    by_cases c : xs.getD m 0 < ys.getD m 0
    · rw [missV_yes c]
      refine List.pairwise_append.2 ⟨ih, List.pairwise_singleton _ _, fun p hp q hq => ?_⟩
      obtain ⟨r, hr, _, rfl⟩ := miss_mem hp
      have e : q = _ := List.mem_singleton.1 hq
      subst e
      show (r : Int) < (m : Int)
      omega
    · rw [missV_no c]; exact ih
theorem miss_nil {zs ys : List Int} (h : ∀ r : Nat, r < 16 → ys.getD r 0 ≤ zs.getD r 0) : coversB zs ys = true := by
  have e : missV zs ys 16 = [] := by
    apply List.eq_nil_iff_forall_not_mem.2
    intro p hp
    obtain ⟨r, hr, h1, _⟩ := miss_mem hp
    have := h r hr
    omega
  unfold coversB
  rw [e]
  rfl
/-- The vector, the first i cuts added. -/
structure Filled (xs ys zs : List Int) (i : Nat) : Prop where
  done : ∀ j p, j < i → (missV xs ys 16)[j]? = some p → zs.getD p.r.toNat 0 = p.t - 1
  rest : ∀ r : Nat, (∀ j p, j < i → (missV xs ys 16)[j]? = some p → p.r ≠ r) → zs.getD r 0 = xs.getD r 0
theorem Filled.zero (xs ys : List Int) : Filled xs ys xs 0 := ⟨fun j p h => by omega, fun r _ => rfl⟩
theorem Filled.now {xs ys zs : List Int} {i : Nat} (h : Filled xs ys zs i) {p : Cut} (hp : (missV xs ys 16)[i]? = some p) : zs.getD p.r.toNat 0 = p.f - 1 := by
  obtain ⟨r, hr, h1, rfl⟩ := miss_mem (List.mem_iff_getElem?.2 ⟨i, hp⟩)
  have hil : i < (missV xs ys 16).length := by
    rcases Nat.lt_or_ge i (missV xs ys 16).length with h | h
    · exact h
    · rw [List.getElem?_eq_none h] at hp; cases hp
  have := h.rest r (fun j q hj hq e => by
    have hs := List.pairwise_iff_getElem.1 (miss_sorted xs ys 16) j i (by omega) hil hj
    rw [List.getElem?_eq_getElem (by omega)] at hq
    rw [List.getElem?_eq_getElem hil] at hp
    injection hq with hq
    injection hp with hp
    rw [hq, hp] at hs
    simp only at hs
    omega)
  simp only [Int.toNat_natCast]
  rw [this]
  omega
theorem Filled.step {xs ys zs : List Int} {i : Nat} (hs : zs.length = 16) (h : Filled xs ys zs i) {p : Cut} (hp : (missV xs ys 16)[i]? = some p) : Filled xs ys (zs.set p.r.toNat (p.t - 1)) (i + 1) := by
  have hlt : i < (missV xs ys 16).length := by
    rcases Nat.lt_or_ge i (missV xs ys 16).length with h | h
    · exact h
    · rw [List.getElem?_eq_none h] at hp; cases hp
  have hne : ∀ j q, j < i → (missV xs ys 16)[j]? = some q → q.r < p.r := fun j q hj hq => by
    have hs := List.pairwise_iff_getElem.1 (miss_sorted xs ys 16) j i (by omega) hlt hj
    rw [List.getElem?_eq_getElem (by omega)] at hq
    rw [List.getElem?_eq_getElem hlt] at hp
    injection hq with hq
    injection hp with hp
    rw [hq, hp] at hs
    exact hs
  obtain ⟨r, hr, h1, ep⟩ := miss_mem (List.mem_iff_getElem?.2 ⟨i, hp⟩)
  have epr : p.r = r := by rw [ep]
  refine ⟨fun j q hj hq => ?_, fun r' hr' => ?_⟩
  · rcases Nat.lt_or_ge j i with c | c
    · have h2 := hne j q c hq
      obtain ⟨r2, hr2, _, eq⟩ := miss_mem (List.mem_iff_getElem?.2 ⟨j, hq⟩)
      have eqr : q.r = r2 := by rw [eq]
      rw [List.getD_eq_getElem?_getD, List.getElem?_set, if_neg (by omega), ← List.getD_eq_getElem?_getD]
      exact h.done j q c hq
    · obtain rfl : j = i := by omega
      rw [hp] at hq
      injection hq with hq
      subst hq
      rw [List.getD_eq_getElem?_getD, List.getElem?_set, if_pos rfl, if_pos (by omega)]
      rfl
  · have h2 := hr' i p (by omega) hp
    rw [List.getD_eq_getElem?_getD, List.getElem?_set, if_neg (by omega), ← List.getD_eq_getElem?_getD]
    exact h.rest r' (fun j q hj hq => hr' j q (by omega) hq)
theorem Filled.all {xs ys zs : List Int} (h : Filled xs ys zs (missV xs ys 16).length) : coversB zs ys = true :=
  miss_nil fun r hr => by
    by_cases c : xs.getD r 0 < ys.getD r 0
    · obtain ⟨j, hj⟩ := List.mem_iff_getElem?.1 (miss_has (m := 16) hr c)
      have hlt : j < (missV xs ys 16).length := by
        rcases Nat.lt_or_ge j (missV xs ys 16).length with h | h
        · exact h
        · rw [List.getElem?_eq_none h] at hj; cases hj
      have := h.done j _ hlt hj
      simp only [Int.toNat_natCast] at this
      omega
    · have := h.rest r (fun j q hj hq e => by
        obtain ⟨r2, hr2, h2, eq⟩ := miss_mem (List.mem_iff_getElem?.2 ⟨j, hq⟩)
        have eqr : q.r = r2 := by rw [eq]
        obtain rfl : r2 = r := by omega
        exact c h2)
      omega
theorem has_new {zs : List Int} {r : Nat} {k : Int} (hr : r < 16) (h0 : 1 ≤ k) (h1 : k ≤ 1048576) : hasB zs r k = decide (k ≤ zs.getD r 0) := by
  unfold hasB
  rw [rightB_mk ⟨by omega, by omega, h0, h1⟩]
  simp
theorem add_new {zs : List Int} {r : Nat} {k : Int} (hr : r < 16) (h0 : 1 ≤ k) (h1 : k ≤ 1048576) (h : k = zs.getD r 0 + 1) : addE zs r k = 0 := by
  unfold addE
  rw [rightB_mk ⟨by omega, by omega, h0, h1⟩]
  simp only [Int.toNat_natCast, Bool.true_eq_false, if_false]
  rw [if_neg (by omega), if_neg (by simpa using h)]
theorem drew3 (F : Nat → Prop) (w : World) (a b c : Nat) : Keep F w (((w.drewN a).drewN b).drewN c) := ⟨rfl, rfl, rfl, Nat.le_refl _, fun _ _ _ => rfl⟩
set_option maxHeartbeats 1000000 in
set_option maxRecDepth 100000 in
theorem miss_walk (w : World) (A B : Option Addr) (c d : Nat) (xs0 ys0 : List Int) (hC : (Kd.int .i64).C w A xs0.length xs0) (hD : (Kd.int .i64).C w B ys0.length ys0) :
    Calls Try.prog 3 #[.slice A xs0.length c, .slice B ys0.length d] w fun e w' => e = .returned (.bool true) ∧ Below w.heap.size w w' := by
  have HC := Lib.hid hC; have HD := Lib.hid hD
  clear hC hD
  go_enter Try.func3, Try.ntmps3
  go_wp2_with fail
  refine (alive_ok _).mono ?_
  rintro e w1 ⟨rfl, b1⟩
  have B1 := Lib.hid b1; clear b1
  go_wp2_with fail
  refine (of_any (Kd.C_below HC.out B1.out)).mono ?_
  rintro e w2 ⟨p, rfl, b2, y2, n2⟩
  have B2 := Lib.hid (B1.out.trans (b2.mono B1.out.size)); have Y2 := Lib.hid y2; have N2 := Lib.hid n2; clear b2 y2 n2
  go_wp2_with fail
  refine (of_any (Kd.C_below HD.out B2.out)).mono ?_
  rintro e w3 ⟨q, rfl, b3, y3, n3⟩
  have B3' := Lib.hid b3; have B3 := Lib.hid (B2.out.trans (b3.mono B2.out.size)); have Y3 := Lib.hid y3; have N3 := Lib.hid n3; clear b3 y3 n3
  cases ha : ofOk xs0 with
  | false =>
    clear ha
    go_wp2_with fail
    go_ret
    exact ⟨rfl, B3.out⟩
  | true =>
    cases hb : ofOk ys0 with
    | false =>
      clear ha hb
      go_wp2_with fail
      go_ret
      exact ⟨rfl, B3.out⟩
    | true =>
      obtain ⟨b, rfl, v2, lb⟩ := Y2.out ha
      obtain ⟨b', rfl, v3', lb'⟩ := Y3.out hb
      have v3 := v2.below B3'.out v2.lt
      have hbb : b ≠ b' := by have := v2.lt; omega
      obtain ⟨xs, exs⟩ : ∃ xs, xs = ofV xs0 := ⟨_, rfl⟩
      obtain ⟨ys, eys⟩ : ∃ ys, ys = ofV ys0 := ⟨_, rfl⟩
      rw [← exs] at v3
      rw [← eys] at v3'
      have V := Lib.hid v3; have V' := Lib.hid v3'; have LB := Lib.hid (Nat.le_trans B1.out.size lb); have HBB := Lib.hid hbb
      clear ha hb Y2 Y3 N2 N3 v2 v3 v3' lb lb' exs eys hbb
      go_wp2_with fail
      refine (missing_ok V.out V'.out).mono ?_
      obtain ⟨l, el⟩ : ∃ l, l = missV xs ys 16 := ⟨_, rfl⟩
      have EL := Lib.hid el
      rw [← el]
      clear el
      rintro e w4 ⟨v, rfl, r4, b4⟩
      obtain ⟨A4, c4, ev⟩ := Kd.R_slice r4
      subst ev
      have B4 := Lib.hid (B3.out.trans (b4.mono B3.out.size))
      have V4 := Lib.hid (V.out.below b4 V.out.lt); have W4 := Lib.hid (V'.out.below b4 V'.out.lt); have R4 := Lib.hid r4
      have LT := Lib.hid V.out.lt
      clear b4 r4 V V' B3' B3
      go_wp2_with fail
      refine (covers_ok V4.out W4.out).mono ?_
      have ec : coversB xs ys = ((l.length : Int) == 0) := by unfold coversB; rw [EL.out]
      rw [ec]
      rintro e w5 ⟨rfl, b5⟩
      have B5 := Lib.hid (B4.out.trans (b5.mono B4.out.size))
      have V5 := Lib.hid (V4.out.below b5 V4.out.lt); have W5 := Lib.hid (W4.out.below b5 W4.out.lt); have R5 := Lib.hid (Kd.R_below R4.out b5)
      clear b5 ec V4 W4 R4 B4
      have cl : ∀ W, Keep (fun k => k = b) w5 W → ∀ k p, l[k]? = some p → ∃ ad : Addr, A4 = some ad ∧ W.cell? (ad.add (k * 4)) = some (.int .i64 p.r) ∧ W.cell? ⟨(ad.add (k * 4)).block, (ad.add (k * 4)).off + 1, none⟩ = some (.int .i64 p.n) ∧ W.cell? ⟨(ad.add (k * 4)).block, (ad.add (k * 4)).off + 2, none⟩ = some (.int .i64 p.f) ∧ W.cell? ⟨(ad.add (k * 4)).block, (ad.add (k * 4)).off + 3, none⟩ = some (.int .i64 p.t) := fun W hW k p hp =>
        cut_at (Kd.R_reads' (R_kept (Kd.R_bound R5.out) hW (fun k hk _ e => by have := hk.2.1; have := LT.out; omega))).2.2 k p hp
      have cy : ∀ W, Keep (fun k => k = b) w5 W → VecAt W 59 b' ys := fun W hW => W5.out.kept hW (fun e => HBB.out e.symm)
      have cb : ∀ W, Keep (fun k => k = b) w5 W → Below w.heap.size w W := fun W hW => B5.out.trans (hW.below (fun i hi h => by have := LB.out; omega) B5.out.size)
      have CL := Lib.hid cl; have CY := Lib.hid cy; have CB := Lib.hid cb
      clear cl cy cb R5 W5 B5
      go_wp2_with fail
      go_loopw [10, 11] (fun n i wr => ∃ k : Nat, k ≤ l.length ∧ i = .int .i64 k ∧ (∃ m : Int, n = .int .i64 m ∧ 0 ≤ m ∧ m ≤ 300 * k) ∧ ∃ zs, VecAt wr 59 b zs ∧ Filled xs ys zs k ∧ Keep (fun k => k = b) w5 wr) (fun _ i _ => l.length - (intOf i).toNat)
      case atStart => exact ⟨0, by omega, rfl, ⟨0, rfl, by omega, by omega⟩, xs, V5.out, Filled.zero _ _, Keep.refl _ _⟩
      case round =>
        obtain ⟨k, hk, rfl, ⟨m, rfl, hm0, hm1⟩, zs, hv, hfi, hkp⟩ := hrel
        have HV := Lib.hid hv; have HF := Lib.hid hfi; have HK := Lib.hid hkp
        clear hv hfi hkp
        by_cases hlt : k < l.length
        · have hid : l[k]? = some l[k] := List.getElem?_eq_getElem hlt
          obtain ⟨p, ep⟩ : ∃ p, p = l[k] := ⟨_, rfl⟩
          rw [← ep] at hid
          have HID := Lib.hid hid
          obtain ⟨r, hr, hxy, epp⟩ := miss_mem (List.mem_iff_getElem?.2 ⟨k, EL.out ▸ hid⟩)
          subst epp
          clear ep hid
          obtain ⟨ad, rfl, h0, h1, h2, h3⟩ := CL.out _ HK.out k _ HID.out
          have hx := V5.out.six.rng r
          have hy := (CY.out _ HK.out).six.rng r
          have hnow := HF.out.now (EL.out ▸ HID.out)
          have hstep := HF.out.step HV.out.six.len (EL.out ▸ HID.out)
          simp only [Int.toNat_natCast] at hnow hstep
          have HY := Lib.hid (rfl : ys.getD r 0 = ys.getD r 0)
          obtain ⟨x, ex⟩ : ∃ x, x = xs.getD r 0 := ⟨_, rfl⟩
          obtain ⟨y, ey⟩ : ∃ y, y = ys.getD r 0 := ⟨_, rfl⟩
          have EY := Lib.hid ey
          rw [← ex] at hx hxy hnow HID
          rw [← ey] at hy hxy hstep HID
          have cell : ∀ W : World, Keep (fun k => k = b) w5 W → W.cell? (ad.add (k * 4)) = some (.int .i64 r) ∧ W.cell? ⟨(ad.add (k * 4)).block, (ad.add (k * 4)).off + 1, none⟩ = some (.int .i64 (x + 1)) ∧ W.cell? ⟨(ad.add (k * 4)).block, (ad.add (k * 4)).off + 2, none⟩ = some (.int .i64 (x + 1)) ∧ W.cell? ⟨(ad.add (k * 4)).block, (ad.add (k * 4)).off + 3, none⟩ = some (.int .i64 (y + 1)) := fun W hW => by
            obtain ⟨ad', e', h1⟩ := CL.out W hW k _ HID.out
            cases e'
            exact h1
          have CELL := Lib.hid cell; have NOW := Lib.hid hnow; have STEP := Lib.hid hstep
          clear cell hnow hstep ex ey h0 h1 h2 h3
          obtain ⟨h0, h1, h2, h3⟩ := CELL.out _ HK.out
          have g0 : decide (y + 1 ≤ x + 1) = false := decide_eq_false (by omega)
          by_cases hg : 300 < y - x
          · have g1 : decide (300 < y + 1 - (x + 1)) = true := decide_eq_true (by omega)
            go_wp2
            repeat (go_quiet (fail); try go_wp2)
            go_ret
            exact ⟨rfl, CB.out _ (HK.out.trans (drew3 (fun k => k = b) _ _ _ _) (fun _ _ h => h))⟩
          · have g1 : decide (300 < y + 1 - (x + 1)) = false := decide_eq_false (by omega)
            go_wp2
            repeat (go_quiet (fail); try go_wp2)
            go_loopw [12] (fun i wi => ∃ j : Int, x + 1 ≤ j ∧ j ≤ y + 1 ∧ i = .int .i64 j ∧ VecAt wi 59 b (zs.set r (j - 1)) ∧ Keep (fun k => k = b) w5 wi) (fun i _ => (y + 1 - intOf i).toNat)
            case atStart =>
              refine ⟨x + 1, by omega, by omega, rfl, ?_, HK.out.trans (Keep.drewN (fun k => k = b) _ _) (fun _ _ h => h)⟩
              rw [← NOW.out]
              have e : zs.set r (zs.getD r 0) = zs := by
                apply List.ext_getElem?
                intro i
                rw [List.getElem?_set]
                split
                · rename_i h; subst h
                  rw [if_pos (by rw [HV.out.six.len]; exact hr), List.getD_eq_getElem?_getD, List.getElem?_eq_getElem (by rw [HV.out.six.len]; exact hr)]
                  rfl
                · rfl
              rw [e]
              exact HV.out.kept (F := fun _ => False) (Keep.drewN _ _ _) (fun h => h)
            case round =>
              obtain ⟨j, hj0, hj1, rfl, hvi, hki⟩ := hrel
              have HVI := Lib.hid hvi; have HKI := Lib.hid hki
              clear hvi hki
              obtain ⟨h0, h1, h2, h3⟩ := CELL.out _ HKI.out
              by_cases hlt2 : j < y + 1
              · have g2 : decide (j < y + 1) = true := decide_eq_true hlt2
                have ga : (zs.set r (j - 1)).getD r 0 = j - 1 := by
                  rw [List.getD_eq_getElem?_getD, List.getElem?_set, if_pos rfl, if_pos (by rw [HV.out.six.len]; exact hr)]; rfl
                have gh : hasB (zs.set r (j - 1)) r j = false := by rw [has_new hr (by omega) (by omega), ga]; exact decide_eq_false (by omega)
                have gy : hasB ys r j = true := by rw [has_new hr (by omega) (by omega), ← EY.out]; exact decide_eq_true (by omega)
                have ge : addE (zs.set r (j - 1)) r j = 0 := add_new hr (by omega) (by omega) (by rw [ga]; omega)
                have gv : addV (zs.set r (j - 1)) r j = zs.set r j := by unfold addV; rw [if_pos ge, Int.toNat_natCast, List.set_set]
                have GH := Lib.hid gh; have GY := Lib.hid gy; have GE := Lib.hid ge; have GV := Lib.hid gv
                clear ga gh gy ge gv
                go_wp2_with fail
                obtain ⟨w6, ew6⟩ : ∃ w6, w6 = wr.alloc (.cells #[.int .i64 r, .int .i64 j] 31) := ⟨_, rfl⟩
                rw [← ew6]
                have K6 := Lib.hid (HKI.out.trans (ew6 ▸ Keep.alloc (fun k => k = b) wr (.cells #[.int .i64 r, .int .i64 j] 31)) (fun _ _ h => h) : Keep (fun k => k = b) w5 w6)
                have V6 := Lib.hid (HVI.out.kept (F := fun _ => False) (ew6 ▸ Keep.alloc _ wr (.cells #[.int .i64 r, .int .i64 j] 31) : Keep (fun _ => False) wr w6) (fun h => h))
                have c0 : w6.cell? ⟨wr.heap.size, 0, none⟩ = some (.int .i64 r) := by rw [ew6]; go_simp
                have c1 : w6.cell? ⟨wr.heap.size, 1, none⟩ = some (.int .i64 j) := by rw [ew6]; go_simp
                clear ew6
                have HH := has_any V6.out r j
                rw [GH.out] at HH
                refine HH.mono ?_
                rintro e w7 ⟨rfl, b7⟩
                have c0 := (b7.cell (World.block_lt_of_cell? _ _ c0)).trans c0
                have c1 := (b7.cell (World.block_lt_of_cell? _ _ c1)).trans c1
                have K7 := Lib.hid (K6.out.trans (Keep.of_below (F := fun k => k = b) b7 (fun i h1 h2 => by omega)) (fun _ _ h => h))
                have V7 := Lib.hid (V6.out.below b7 V6.out.lt)
                clear b7 HH
                go_wp2_with fail
                have HH := has_any (CY.out _ K7.out) r j
                rw [GY.out] at HH
                refine HH.mono ?_
                rintro e w8 ⟨rfl, b8⟩
                have c0 := (b8.cell (World.block_lt_of_cell? _ _ c0)).trans c0
                have c1 := (b8.cell (World.block_lt_of_cell? _ _ c1)).trans c1
                have K8 := Lib.hid (K7.out.trans (Keep.of_below (F := fun k => k = b) b8 (fun i h1 h2 => by omega)) (fun _ _ h => h))
                have V8 := Lib.hid (V7.out.below b8 V7.out.lt)
                clear b8 HH
                go_wp2_with fail
                have HH := add_any V8.out r j
                rw [GE.out, GV.out] at HH
                refine HH.mono ?_
                rintro e w9 ⟨rfl, v9, k9⟩
                have K9 := Lib.hid (K8.out.trans k9 (fun _ _ h => h))
                have V9 := Lib.hid v9
                clear k9 v9 HH c0 c1
                go_wp2_with fail
                go_roundw
                case rel => exact ⟨j + 1, by omega, by omega, by go_num, by rw [Int.add_sub_cancel]; exact V9.out, K9.out⟩
                case measure => simp [intOf]; omega
              · obtain rfl : j = y + 1 := by omega
                have g2 : decide (y + 1 < y + 1) = false := decide_eq_false hlt2
                have hl16 : l.length ≤ 16 := by rw [EL.out]; exact missV_len xs ys 16
                have ew : wrap64 (m + (y + 1 - (x + 1))) = m + (y - x) := by unfold wrap64; omega
                go_wp2_with fail
                go_roundw
                case rel => exact ⟨k + 1, by omega, by go_num, ⟨m + (y - x), by rw [ew], by omega, by omega⟩, _, HVI.out, STEP.out, HKI.out⟩
                case measure => simp [intOf]; omega
        · obtain rfl : k = l.length := by omega
          go_wp2_with fail
          refine (covers_ok HV.out (CY.out _ HK.out)).mono ?_
          rw [Filled.all (EL.out ▸ HF.out)]
          rintro e w6 ⟨rfl, b6⟩
          have B6 := Lib.hid ((CB.out _ HK.out).trans (b6.mono (CB.out _ HK.out).size))
          clear b6
          go_wp2_with fail
          go_ret
          exact ⟨rfl, B6.out⟩
theorem opens22 : Opens.Opens Try.prog 22 (Kd.slice 3 (Kd.int .i64)) (fun xs => xs.length * Try.prog.bytesOf 3 ≤ 140737488351232 ∧ ∀ x ∈ xs, okInt x) :=
  Opens.opens_slice (P := Try.prog) Try.underlying22 (by kernel_rfl) (Opens.opens_int Try.underlying3 (by kernel_rfl))
abbrev OkInts (xs : List Int) : Prop := xs.length * Try.prog.bytesOf 3 ≤ 140737488351232 ∧ ∀ x ∈ xs, okInt x
theorem miss_row (w : World) (A : Option Addr) (c : Nat) (xs : List Int) (hC : (Kd.int .i64).C w A xs.length xs) (hc : xs.length ≤ c) (ok : OkInts xs) (B : Option Addr) (d : Nat) (ys : List Int) (hD : (Kd.int .i64).C w B ys.length ys) (hd : ys.length ≤ d) (ok' : OkInts ys) :
    Calls Try.prog 3 #[.slice A xs.length c, .slice B ys.length d] w fun e w' => e = .returned (.bool true) ∧ Below w.heap.size w w' := miss_walk w A B c d xs ys hC hD
end Go.Proofs.Ytbnblddgnhdneaa.Vec
