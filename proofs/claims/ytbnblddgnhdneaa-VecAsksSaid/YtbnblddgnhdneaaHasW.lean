/- VecHas, the walk: an op that was added is there, with all ahead of it; the next one is not. -/
import Derived.Test.YtbnblddgnhdneaaVec4
namespace Go.Proofs.Ytbnblddgnhdneaa.Vec
open Go.RowKit Go.Proofs.YtbnblddgnhdneaaW.PrintWords Go.Proofs.YtbnblddgnhdneaaW.PrintLast Go.Proofs.YtbnblddgnhdneaaW.PrintMore Go.Proofs.Ytbnblddgnhdneaa.Mem
attribute [local go_sem] max2_int min2_int max_two min_two
set_option linter.unusedVariables false
set_option linter.unusedSimpArgs false

/-- A name: replica, number. -/
def kid : Kd (Int × Int) := Kd.pair (Kd.int .i64) (Kd.int .i64)
theorem kid_K {W : World} {p : Int × Int} {cs : List Value} (h : kid.K W p cs) : cs = [.int .i64 p.1, .int .i64 p.2] := by
  obtain ⟨_, _, rfl, rfl, rfl⟩ := h
  rfl
theorem id_at {w : World} {A : Option Addr} {n : Nat} {ps : List (Int × Int)} (h : kid.C w A n ps) (k : Nat) (p : Int × Int) (hp : ps[k]? = some p) :
    ∃ ad : Addr, A = some ad ∧ w.cell? (ad.add (k * 2)) = some (.int .i64 p.1) ∧ w.cell? ⟨(ad.add (k * 2)).block, (ad.add (k * 2)).off + 1, none⟩ = some (.int .i64 p.2) := by
  have hk : k < ps.length := by
    rcases Nat.lt_or_ge k ps.length with h | h
    · exact h
    · rw [List.getElem?_eq_none h] at hp; cases hp
  obtain ⟨hn, h2, h3⟩ := h
  obtain ⟨ad, e, hc⟩ := h3 (by omega)
  obtain ⟨cs, _, hK, hcell⟩ := hc k p hp
  have e2 := kid_K hK
  subst e2
  have hsz : kid.sz = 2 := rfl
  rw [hsz] at hcell
  exact ⟨ad, e, hcell 0 _ rfl, by rw [← add_field _ _ 1 (by omega)]; exact hcell 1 _ rfl⟩
/-- What Has and Add answer fits. -/
theorem add_there_iff (xs : List Int) (r n : Int) : (addE xs r n == 12) = hasB xs r n := by
  unfold addE hasB
  cases h : rightB r n with
  | false => simp
  | true =>
    simp only [Bool.true_eq_false, if_false, Bool.true_and]
    by_cases h1 : n ≤ xs.getD r.toNat 0
    · rw [if_pos h1, decide_eq_true h1]; rfl
    · rw [if_neg h1, decide_eq_false h1]
      split <;> rfl
theorem addE_zero {xs : List Int} {r n : Int} (h : addE xs r n = 0) : rightB r n = true ∧ n = xs.getD r.toNat 0 + 1 := by
  unfold addE at h
  cases hr : rightB r n with
  | false => simp [hr] at h
  | true =>
    simp only [hr, Bool.true_eq_false, if_false] at h
    split at h
    · cases h
    · split at h
      · cases h
      · rename_i h2
        exact ⟨rfl, by simpa using h2⟩
theorem has_added {xs : List Int} {r n : Int} (hs : Sixteen xs) (h : addE xs r n = 0) : hasB (addV xs r n) r n = true := by
  obtain ⟨h1, h2⟩ := addE_zero h
  have h3 := rightB_true h1
  unfold hasB addV
  rw [if_pos h, h1]
  have hl : r.toNat < xs.length := by rw [hs.len]; omega
  simp [List.getD_eq_getElem?_getD, List.getElem?_set, hl]
theorem addE_neg (xs : List Int) (r n : Int) (h : addE xs r n ≠ 0) : addV xs r n = xs := by unfold addV; rw [if_neg h]

theorem next_has {xs : List Int} {r n : Int} (hs : Sixteen xs) (h : hasB xs r n = true) : n < nextV xs r ∨ (¬ n < nextV xs r ∧ nextV xs r = 0) := by
  unfold hasB at h
  simp only [Bool.and_eq_true, decide_eq_true_eq] at h
  have h1 := rightB_true h.1
  unfold nextV
  by_cases c : xs.getD r.toNat 0 < 1048576
  · rw [if_pos ⟨h1.1, h1.2.1, c⟩]; left; omega
  · rw [if_neg (fun x => c x.2.2)]; right; omega
theorem next_hasnt {xs : List Int} {r n : Int} (hs : Sixteen xs) (h : hasB xs r n = false) : nextV xs r ≤ n ∨ (¬ nextV xs r ≤ n ∧ n < 1) := by
  unfold hasB at h
  have hr := hs.rng r.toNat
  unfold nextV
  by_cases c : 0 ≤ r ∧ r < 16 ∧ xs.getD r.toNat 0 < 1048576
  · rw [if_pos c]
    cases hb : rightB r n with
    | true =>
      rw [hb] at h
      simp only [Bool.true_and, decide_eq_false_iff_not] at h
      left; omega
    | false =>
      have h1 := of_decide_eq_false hb
      omega
  · rw [if_neg c]
    omega
set_option maxHeartbeats 1000000 in
set_option maxRecDepth 100000 in
theorem has_walk (w : World) (A : Option Addr) (c : Nat) (ids : List (Int × Int)) (hC : kid.C w A ids.length ids) (hc : ids.length ≤ c) (hl : ids.length ≤ 140737488351232) (r n : Int) :
    Calls Try.prog 4 #[.slice A ids.length c, .agg #[.int .i64 r, .int .i64 n]] w fun e w' => e = .returned (.bool true) ∧ Below w.heap.size w w' := by
  have HC := Lib.hid hC
  clear hC
  by_cases cl : 300 < ids.length
  · have g0 : decide ((300 : Int) < ids.length) = true := decide_eq_true (by omega)
    go_enter Try.func4, Try.ntmps4
    go_wp2_with fail
    refine (alive_ok _).mono ?_
    rintro e w1 ⟨rfl, b1⟩
    have B1 := Lib.hid b1; clear b1
    go_wp2_with fail
    go_ret
    exact ⟨rfl, (below_alloc (Below.refl _ _) _).trans (B1.out.mono (by simp))⟩
  · have g0 : decide ((300 : Int) < ids.length) = false := decide_eq_false (by omega)
    have hw0 : ∃ w0 : World, w0 = w.alloc (.cells #[.int .i64 r, .int .i64 n] 31) := ⟨_, rfl⟩
    obtain ⟨w0, ew⟩ := hw0
    have e0 : ∀ W : World, Below w0.heap.size w0 W → W.cell? ⟨w.heap.size, 0, none⟩ = some (.int .i64 r) ∧ W.cell? ⟨w.heap.size, 1, none⟩ = some (.int .i64 n) := fun W hW => by
      have hs : w0.heap.size = w.heap.size + 1 := by rw [ew]; simp
      exact ⟨by rw [hW.cell (by show w.heap.size < w0.heap.size; omega), ew]; go_simp, by rw [hW.cell (by show w.heap.size < w0.heap.size; omega), ew]; go_simp⟩
    have down : ∀ W : World, Below w0.heap.size w0 W → Below w.heap.size w W := fun W hW => (by rw [ew]; exact below_alloc (Below.refl _ _) _ : Below w.heap.size w w0).trans (hW.mono (by rw [ew]; simp))
    have cids : ∀ W : World, Below w0.heap.size w0 W → ∀ k p, ids[k]? = some p → ∃ ad : Addr, A = some ad ∧ W.cell? (ad.add (k * 2)) = some (.int .i64 p.1) ∧ W.cell? ⟨(ad.add (k * 2)).block, (ad.add (k * 2)).off + 1, none⟩ = some (.int .i64 p.2) := fun W hW k p hp => id_at (Kd.C_below HC.out (down W hW)) k p hp
    have E0 := Lib.hid e0; have DOWN := Lib.hid down; have CIDS := Lib.hid cids
    clear e0 down cids
    go_enter Try.func4, Try.ntmps4
    go_wp2_with fail
    rw [← ew]
    clear ew
    refine (alive_ok w0).mono ?_
    rintro e w1 ⟨rfl, b1⟩
    have B1 := Lib.hid b1; clear b1
    go_wp2_with fail
    refine (new_ok w1).mono ?_
    rintro e w2 ⟨b, rfl, v2, hb, b2⟩
    have B2 := Lib.hid (B1.out.trans (b2.mono B1.out.size))
    have V2 := Lib.hid v2; have HB := Lib.hid (Nat.le_trans B1.out.size hb); clear v2 b2 hb
    go_wp2_with fail
    go_loopw [6] (fun i wr => ∃ k : Nat, k ≤ ids.length ∧ i = .int .i64 k ∧ ∃ xs, VecAt wr 59 b xs ∧ Below w0.heap.size w0 wr) (fun i _ => ids.length - (intOf i).toNat)
    case atStart => exact ⟨0, by omega, rfl, zeros16, V2.out, B2.out⟩
    case round =>
      obtain ⟨k, hk, rfl, xs, hv, hbl⟩ := hrel
      by_cases hlt : k < ids.length
      · obtain ⟨ad, rfl, hcr, hcn⟩ := CIDS.out _ hbl k ids[k] (List.getElem?_eq_getElem hlt)
        have h12 := add_there_iff xs ids[k].1 ids[k].2
        have hadd : addE xs ids[k].1 ids[k].2 = 0 → hasB (addV xs ids[k].1 ids[k].2) ids[k].1 ids[k].2 = true := has_added hv.six
        have hid : ids[k]? = some ids[k] := List.getElem?_eq_getElem hlt
        have HADD := Lib.hid hadd
        have HV := Lib.hid hv; have HBL := Lib.hid hbl; have HID := Lib.hid hid
        clear hadd hv hbl hid
        obtain ⟨p, ep⟩ : ∃ p, p = ids[k] := ⟨_, rfl⟩
        rw [← ep] at hcr hcn h12 HADD HID
        clear ep
        obtain ⟨pr, pn⟩ := p
        have cell : ∀ W : World, Below w0.heap.size w0 W → W.cell? (ad.add (k * 2)) = some (.int .i64 pr) ∧ W.cell? ⟨(ad.add (k * 2)).block, (ad.add (k * 2)).off + 1, none⟩ = some (.int .i64 pn) := fun W hW => by
          obtain ⟨ad', e', h1, h2⟩ := CIDS.out W hW k _ HID.out
          cases e'
          exact ⟨h1, h2⟩
        have CELL := Lib.hid cell
        clear cell
        obtain ⟨E, eE⟩ : ∃ E, E = addE xs pr pn := ⟨_, rfl⟩
        have EE := Lib.hid eE
        have H12 := Lib.hid h12
        clear h12
        go_wp2_with fail
        refine (has_any HV.out pr pn).mono ?_
        rw [← H12.out, ← EE.out]
        rintro e w3 ⟨rfl, b3⟩
        have B3 := Lib.hid (HBL.out.trans (b3.mono HBL.out.size))
        have V3 := Lib.hid (HV.out.below b3 HV.out.lt)
        have hcr := (CELL.out w3 B3.out).1
        have hcn := (CELL.out w3 B3.out).2
        clear b3
        go_wp2_with fail
        refine (add_any V3.out pr pn).mono ?_
        rw [← EE.out]
        rintro e w4 ⟨rfl, v4, k4⟩
        have B4 := Lib.hid (B3.out.trans (k4.below (fun i hi h => by have := HB.out; omega) B3.out.size))
        have V4 := Lib.hid v4
        have hcr := (CELL.out w4 B4.out).1
        have hcn := (CELL.out w4 B4.out).2
        clear k4 v4
        by_cases z : E = 0
        · subst z
          have HAD := Lib.hid (HADD.out eE.symm)
          clear eE
          go_wp2_with fail
          refine (has_any V4.out pr pn).mono ?_
          rw [HAD.out]
          rintro e w5 ⟨rfl, b5⟩
          have B5 := Lib.hid (B4.out.trans (b5.mono B4.out.size))
          have V5 := Lib.hid (V4.out.below b5 V4.out.lt)
          clear b5
          go_wp2_with fail
          go_roundw
          case rel => exact ⟨k + 1, by omega, by go_num, _, V5.out, B5.out⟩
          case measure => simp [intOf]; omega
        · have hz : (E == 0) = false := by simpa using z
          clear z eE
          go_wp2_with fail
          go_roundw
          case rel => exact ⟨k + 1, by omega, by go_num, _, V4.out, B4.out⟩
          case measure => simp [intOf]; omega
      · have HV := Lib.hid hv; have HBL := Lib.hid hbl
        clear hv hbl
        have c0 := (E0.out _ HBL.out).1
        have c1 := (E0.out _ HBL.out).2
        go_wp2_with fail
        refine (next_any HV.out r).mono ?_
        have NH := Lib.hid (fun h => next_has (r := r) (n := n) HV.out.six h)
        have NN := Lib.hid (fun h => next_hasnt (r := r) (n := n) HV.out.six h)
        obtain ⟨nv, env⟩ : ∃ nv, nv = nextV xs r := ⟨_, rfl⟩
        rw [← env] at NH NN ⊢
        clear env
        rintro e w3 ⟨rfl, k3, rfl⟩
        obtain ⟨w5, ew5⟩ : ∃ w5, w5 = wr.drewN k3 := ⟨_, rfl⟩
        rw [← ew5]
        have B5 := Lib.hid (ew5 ▸ pw_below_drewN HBL.out k3 : Below w0.heap.size w0 w5)
        have V5 := Lib.hid (HV.out.kept (F := fun _ => False) (ew5 ▸ Keep.drewN _ wr k3 : Keep (fun _ => False) wr w5) (fun h => h))
        clear ew5
        have c0 := (E0.out _ B5.out).1
        have c1 := (E0.out _ B5.out).2
        go_wp2_with fail
        refine (has_any V5.out r n).mono ?_
        rintro e w6 ⟨rfl, b6⟩
        have B6 := Lib.hid (B5.out.trans (b6.mono B5.out.size))
        have c0 := (E0.out _ B6.out).1
        have c1 := (E0.out _ B6.out).2
        clear b6
        cases hB : hasB xs r n with
        | true =>
          rcases NH.out hB with h | ⟨h, h'⟩
          · have g1 : decide (n < nv) = true := decide_eq_true h
            clear hB h
            go_wp2_with fail
            go_ret
            exact ⟨rfl, DOWN.out _ B6.out⟩
          · subst h'
            have g1 : decide (n < 0) = false := decide_eq_false (by omega)
            clear hB h
            go_wp2_with fail
            go_ret
            exact ⟨rfl, DOWN.out _ B6.out⟩
        | false =>
          rcases NN.out hB with h | ⟨h, h'⟩
          · have g1 : decide (nv ≤ n) = true := decide_eq_true h
            clear hB h
            go_wp2_with fail
            go_ret
            exact ⟨rfl, DOWN.out _ B6.out⟩
          · have g1 : decide (nv ≤ n) = false := decide_eq_false (by omega)
            have g2 : decide (n < 1) = true := decide_eq_true h'
            clear hB h h'
            go_wp2_with fail
            go_ret
            exact ⟨rfl, DOWN.out _ B6.out⟩
abbrev okInt (n : Int) : Prop := (Lit.int .i64 n).wf = true
theorem opens31 : Opens.Opens Try.prog 31 kid (fun p => okInt p.1 ∧ okInt p.2) :=
  Opens.opens_struct Try.underlying31 (Opens.FO.cons (off' := 1) (Opens.opens_int Try.underlying3 (by kernel_rfl)) rfl rfl (Opens.FO.one (Opens.opens_int Try.underlying3 (by kernel_rfl)) rfl)) (by kernel_rfl)
theorem opens38 : Opens.Opens Try.prog 38 (Kd.slice 31 kid) (fun xs => xs.length * Try.prog.bytesOf 31 ≤ 140737488351232 ∧ ∀ x ∈ xs, okInt x.1 ∧ okInt x.2) :=
  Opens.opens_slice (P := Try.prog) Try.underlying38 (by kernel_rfl) opens31
theorem has_row (w : World) (A : Option Addr) (c : Nat) (ids : List (Int × Int)) (hC : kid.C w A ids.length ids) (hc : ids.length ≤ c) (ok : ids.length * Try.prog.bytesOf 31 ≤ 140737488351232 ∧ ∀ x ∈ ids, okInt x.1 ∧ okInt x.2)
    (cs : Array Value) (a : Int × Int) (hK : kid.K w a cs.toList) (ok1 : okInt a.1 ∧ okInt a.2) :
    Calls Try.prog 4 #[.slice A ids.length c, .agg cs] w fun e w' => e = .returned (.bool true) ∧ Below w.heap.size w w' := by
  have e := kid_K hK
  obtain rfl : cs = #[.int .i64 a.1, .int .i64 a.2] := Array.ext' e
  have b31 : Try.prog.bytesOf 31 = 16 := by kernel_rfl
  rw [b31] at ok
  exact has_walk w A c ids hC hc (by omega) a.1 a.2
end Go.Proofs.Ytbnblddgnhdneaa.Vec
