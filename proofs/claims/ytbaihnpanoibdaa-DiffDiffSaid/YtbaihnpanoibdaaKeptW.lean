/- The reference's kept: the walk. -/
import Derived.Test.YtbaihnpanoibdaaKeptMath
import Derived.Test.YtbaihnpanoibdaaLongest
import Derived.Deep.RegionLaw
namespace Go.Proofs.Ytbaihnpanoibdaa.Q
open Go.RowKit Go.Proofs.YtbaihnpanoibdaaW.PrintWords Go.Proofs.YtbaihnpanoibdaaW.PrintLast Go.Proofs.YtbaihnpanoibdaaW.PrintMore Go.Proofs.Ytbaihnpanoibdaa.Mem
open Go.Proofs.Ytbaihnpanoibdaa.Pure4 (rd36 id_iff lcs_le_len tb tb_len rd_row rowT rowT_len rd_cell cellT longest)
set_option linter.unusedVariables false
set_option linter.unusedSimpArgs false

theorem info65 : (Try.prog.info? 65).map (fun i => (i.zero, i.size, i.bytes)) = some (some (.agg #[(.int .i64 0), (.int .i64 0)]), 2, 16) := by kernel_rfl
/-- A pair of places, as an array of two. -/
def kP : Kd (Nat × Nat) := Kd.iso (Kd.pair (Kd.int .i64) (Kd.int .i64)) (fun p : Nat × Nat => ((p.1 : Int), (p.2 : Int)))
theorem kP_mkM (w : World) (base : Nat) (ok : Nat → Prop) (p : Nat × Nat) : kP.M w base ok p [.int .i64 p.1, .int .i64 p.2] := ⟨[.int .i64 p.1], [.int .i64 p.2], rfl, rfl, rfl⟩
theorem kP_open {w : World} {p : Nat × Nat} {cs : List Value} (h : kP.K w p cs) : cs = [.int .i64 p.1, .int .i64 p.2] := by
  obtain ⟨_, _, rfl, rfl, rfl⟩ := h
  exact rfl
theorem at_P {w : World} {A : Option Addr} {n : Nat} {xs : List (Nat × Nat)} (h : Kd.C kP w A n xs) (i : Nat) (h1 : i < n) : ∃ ad, A = some ad ∧ w.cell? (ad.add (i * 2)) = some (.int .i64 (xs.getD i (0, 0)).1) ∧ w.cell? ⟨(ad.add (i * 2)).block, (ad.add (i * 2)).off + 1, none⟩ = some (.int .i64 (xs.getD i (0, 0)).2) := by
  obtain ⟨ad, c, e, _, hK, hc0⟩ := Kd.C_get h (0, 0) (i : Int) (by omega) (by omega)
  rw [Int.toNat_natCast] at hK hc0
  have hc : ∀ j u, c[j]? = some u → w.cell? (ad.add (i * 2 + j)) = some u := hc0
  obtain rfl := kP_open hK
  exact ⟨ad, e, hc 0 _ rfl, by rw [← add_field _ _ 1 (by omega)]; exact hc 1 _ rfl⟩
/-- The table's cells. -/
theorem at_tab {w : World} {A : Option Addr} {a b : List S36} (h : Kd.C (Kd.slice 3 (Kd.int .i64)) w A (tb a b 0 0).length (tb a b 0 0)) :
    ∃ ad, A = some ad ∧ ∀ r, r ≤ a.length → ∃ ad0 c0, w.cell? (ad.add r) = some (.slice (some ad0) (b.length + 1) c0) ∧ ∀ j, j ≤ b.length → w.cell? (ad0.add j) = some (.int .i64 (lcs (a.drop r) (b.drop j) : Int)) := by
  obtain ⟨ad, _, _, e, _⟩ := at_L6 h 0 (by omega) (by rw [tb_len]; omega)
  refine ⟨ad, e, fun r hr => ?_⟩
  obtain ⟨ad', A0, c0, e', hcell, _, hC⟩ := at_L6 h (r : Int) (by omega) (by rw [tb_len]; omega)
  rw [e] at e'; cases e'
  rw [Int.toNat_natCast] at hcell
  rw [rd_row a b 0 0 r hr] at hcell hC
  rw [rowT_len] at hcell hC
  obtain ⟨ad0, c, e0, _, hK, hc0⟩ := Kd.C_get hC 0 0 (by omega) (by omega)
  refine ⟨ad0, c0, by rw [hcell, e0], fun j hj => ?_⟩
  obtain ⟨ad1, c1, e1, _, hK1, hc1⟩ := Kd.C_get hC 0 (j : Int) (by omega) (by omega)
  rw [e0] at e1; cases e1
  rw [Int.toNat_natCast] at hK1 hc1
  have hc2 : ∀ i u, c1[i]? = some u → w.cell? (ad0.add (j * 1 + i)) = some u := hc1
  have hv : (rowT a b 0 0 r).getD j 0 = (lcs (a.drop r) (b.drop j) : Int) := by
    have := rd_cell a b 0 0 r j hj
    unfold rd at this
    rw [Int.toNat_natCast] at this
    rw [this, cellT, if_pos (by omega)]
  rw [hv] at hK1
  have hc3 : c1 = [.int .i64 (lcs (a.drop r) (b.drop j) : Int)] := hK1
  subst hc3
  have := hc2 0 _ rfl
  rwa [Nat.mul_one, Nat.add_zero] at this
theorem R_last39 {w : World} {base : Nat} {A : Option Addr} {c m : Nat} {ch' : List S39} {x : S39} (hm : m = ch'.length) (h : k39.R 39 w base (fun _ => True) (.slice A (m + 1) c) (ch' ++ [x])) :
    ∃ g, A = some ⟨g, 0, none⟩ ∧ base ≤ g ∧ g < w.heap.size ∧ w.cell? ⟨g, m * 7, none⟩ = some (.int .i64 x.f0) ∧ w.cell? ⟨g, m * 7 + 1, none⟩ = some (.int .i64 x.f1) ∧ w.frozen? ⟨g, m * 7 + 1, none⟩ = false ∧
      ∀ v, k39.R 39 (w.setCell ⟨g, m * 7 + 1, none⟩ (.int .i64 v)) base (fun _ => True) (.slice A (m + 1) c) (ch' ++ [⟨x.f0, v, x.f2⟩]) := by
  have hC := (Kd.R_reads' h).2.2
  obtain ⟨h0, inner, hown, hr⟩ := h
  have hlen : (ch' ++ [x]).length = m + 1 := by simp [hm]
  have hlen' : ∀ y : S39, (ch' ++ [y]).length = m + 1 := fun y => by simp [hm]
  rw [hlen] at hown
  rcases hown.2 with ⟨_, h1⟩ | ⟨g, cap, cur, e, hb, hg, hcap⟩
  · omega
  · injection e with e1 e2 e3
    subst e1; subst e3
    obtain ⟨ad, eA, c0, c1, _⟩ := at_T39 hC (m : Int) (by omega) (by omega)
    cases eA
    have hrd : rd_T39 (ch' ++ [x]) (m : Int) = x := by unfold rd_T39; rw [Int.toNat_natCast, hm]; simp
    rw [Int.toNat_natCast, hrd] at c0 c1
    have ea : (⟨g, 0, none⟩ : Addr).add (m * 7) = ⟨g, m * 7, none⟩ := by
      unfold Addr.add
      split <;> simp_all
    rw [ea] at c0 c1
    refine ⟨g, rfl, hb, lt_of_blk hg, c0, c1, blk_frozen hg _, fun v => ?_⟩
    obtain ⟨st, _⟩ := hown.stored (m * 7 + 1) (.int .i64 v)
    refine ⟨h0, inner.set (m * 7 + 1) (.int .i64 v), by rw [hlen']; exact st, ?_⟩
    have hsz : k39.sz = 7 := rfl
    have hil : inner.length = (m + 1) * 7 := by have := hr.1; rw [hlen, hsz] at this; exact this
    refine ⟨by rw [List.length_set, hlen', hil]; rfl, fun j p hj => ?_⟩
    rw [hsz]
    by_cases hjm : j < m
    · have hq : (ch' ++ [x])[j]? = some p := by
        rw [List.getElem?_append_left (by omega)] at hj ⊢; exact hj
      have := hr.2 j p hq
      rw [hsz] at this
      have e1 : ((inner.set (m * 7 + 1) (.int .i64 v)).drop (j * 7)).take 7 = (inner.drop (j * 7)).take 7 := by
        rw [List.drop_set, if_neg (by omega), List.take_set_of_le (by omega)]
      rw [e1]
      rw [k39_openM this]
      exact k39_mkM _ _ _ p
    · have hjm' : j = m := by
        have : j < (ch' ++ [(⟨x.f0, v, x.f2⟩ : S39)]).length := (List.getElem?_eq_some_iff.1 hj).1
        rw [hlen'] at this
        omega
      subst hjm'
      have hp : p = ⟨x.f0, v, x.f2⟩ := by
        rw [hm, List.getElem?_append_right (Nat.le_refl _)] at hj; simpa using hj.symm
      have hq : (ch' ++ [x])[j]? = some x := by rw [hm]; simp
      have := hr.2 j x hq
      rw [hsz] at this
      have hx := k39_openM this
      have e1 : ((inner.set (j * 7 + 1) (.int .i64 v)).drop (j * 7)).take 7 = ((inner.drop (j * 7)).take 7).set 1 (.int .i64 v) := by
        rw [List.drop_set, if_neg (by omega), show j * 7 + 1 - j * 7 = 1 by omega, List.take_set]
      rw [e1, hx, hp]
      exact k39_mkM _ _ _ ⟨x.f0, v, x.f2⟩
theorem cell_on {w w' : World} {p : Addr} {v : Value} (h : w.cell? p = some v) (hb : Below w.heap.size w w') : w'.cell? p = some v := (hb.cell (World.block_lt_of_cell? _ _ h)).trans h
attribute [local go_sem high] eqA34
set_option maxRecDepth 100000 in
set_option maxHeartbeats 4000000 in
theorem rkept_ok (A0 : Option Addr) (c0 : Nat) (l0 : List S36) (A1 : Option Addr) (c1 : Nat) (l1 : List S36) (w : World) (hr0 : Kd.C k36 w A0 l0.length l0) (hc0 : l0.length ≤ c0) (hr1 : Kd.C k36 w A1 l1.length l1) (hc1 : l1.length ≤ c1) (ha : l0.length ≤ 300) (hb : l1.length ≤ 300) :
    Calls Try.prog 27 #[.slice A0 l0.length c0, .slice A1 l1.length c1] w fun e w' => ∃ v, e = .returned v ∧ Kd.R kP 65 w' w.heap.size (fun _ => True) v (kp l0.length l0 l1 0 0) ∧ Below w.heap.size w w' := by
  have HA := Lib.hid hr0; have HCA := Lib.hid hc0; have HB := Lib.hid hr1; have HCB := Lib.hid hc1
  obtain ⟨K, hK⟩ : ∃ K, 200000 ≤ K := ⟨_, Nat.le_refl _⟩
  have LG := Lib.hid (longest ha hb K hK)
  clear hr0 hc0 hr1 hc1 hK
  go_enter Try.func27, Try.ntmps27
  go_wp2_with (first
    | (go_at_call 15; refine (offshootref28_Longest.calls K A0 c0 l0 A1 c1 l1 _ _ HA.out HCA.out HB.out HCB.out LG.out).mono ?_; rintro e w1 ⟨v, rfl, st, b1⟩; have ST := Lib.hid st; have B1 := Lib.hid b1; clear st b1; obtain ⟨AT, cT, rfl, hcT, hCT⟩ := Kd.S_reads ST.out; obtain ⟨adT, rfl, htab⟩ := at_tab hCT; have TB := Lib.hid htab; clear hcT hCT htab)
    | ((with_reducible refine gate_dst (N := 14) rfl ?_); refine Kd.R_lit kP (w0 := w1) w1.heap.size 65 ?hg (N := 14) ?hd (xs := ([] : List (Nat × Nat))) (inner := []) (ok := fun _ => True) (okp := fun _ => True) ?hr ?hp (fun _ hk => hk) trivial (Below.refl _ _) (Nat.le_refl _) (by simp) ?_; (case hd => rfl); (case hg => rfl); (case hr => first | (go_simp; done) | (go_simp; rfl)); (case hp => exact (Reps.none _ _)); intro v2 w2 ho2 hb2 hg2 hnew2; clear hg2 hnew2; have R2 := Lib.hid ho2; have B2 := Lib.hid hb2; clear ho2 hb2))
  rw [tb_len]
  go_loopw [6, 7, 8, 9] (fun v6 v7 v8 v9 wr => ∃ (i f t n : Nat) (xs : List (Nat × Nat)), f ≤ i ∧ i ≤ l0.length ∧ t ≤ l1.length ∧ l0.length ≤ i + n ∧ v7 = .int .i64 f ∧ v8 = .int .i64 t ∧ v9 = .int .i64 i ∧ lcs (l0.drop i) (l1.drop t) = lcs (l0.drop f) (l1.drop t) ∧ xs ++ kp n l0 l1 i t = kp l0.length l0 l1 0 0 ∧ Kd.R kP 65 wr w1.heap.size (fun _ => True) v6 xs ∧ xs.length ≤ i ∧ Below w1.heap.size w1 wr) (fun _ _ _ v9 _ => l0.length - (intOf v9).toNat)
  case atStart => exact ⟨0, 0, 0, l0.length, [], by omega, by omega, by omega, by omega, rfl, rfl, rfl, rfl, rfl, R2.out, by simp, B2.out⟩
  case round =>
    obtain ⟨i, f, t, n, xs, hfi, hi, ht, hin, rfl, rfl, rfl, hl, hx, hxr, hxl, hbm⟩ := hrel
    have HL := Lib.hid hl; have HX := Lib.hid hx; have XR := Lib.hid hxr; have XL := Lib.hid hxl; have BM := Lib.hid hbm
    clear hl hx hxr hxl hbm
    by_cases hlt : i < l0.length
    · obtain ⟨i1, hi1⟩ : ∃ i1 : Int, IntKind.i64.wrap ((i : Int) + 1) = i1 := ⟨_, rfl⟩
      have hi1v : i1 = ((i + 1 : Nat) : Int) := by rw [← hi1, i64_w]; unfold wrap64; omega
      have I1 := Lib.hid hi1v
      have e1 : i1.toNat = i + 1 := by rw [hi1v, Int.toNat_natCast]
      have E1 := Lib.hid e1
      have g10 : 0 ≤ i1 := by omega
      have g11 : i1 < ((l0.length : Int) + 1) := by omega
      have gf0 : 0 ≤ (f : Int) := by omega
      have gf1 : (f : Int) < ((l0.length : Int) + 1) := by omega
      have gt0 : 0 ≤ (t : Int) := by omega
      have gt1 : (t : Int) < ((l1.length : Int) + 1) := by omega
      have gi0 : 0 ≤ (i : Int) := by omega
      have gi1 : (i : Int) < (l0.length : Int) := by omega
      have gfi : decide ((f : Int) ≤ (i : Int)) = true := decide_eq_true (by omega)
      clear hi1v e1
      rcases hit_or hlt ht with ⟨j, hj, hnx, hid, hlc, hno⟩ | ⟨hnx, hlc, hno⟩
      · have NX := Lib.hid hnx; have LC := Lib.hid hlc; have NO := Lib.hid hno; have ID := Lib.hid hid
        clear hnx hlc hno hid
        go_wp2_with fail
        go_loopw [6, 7, 8, 10] (fun v6 v7 v8 v10 wx => ∃ k : Nat, t ≤ k ∧ k ≤ t + j ∧ v6 = u6 ∧ v7 = .int .i64 f ∧ v8 = .int .i64 t ∧ v10 = .int .i64 k ∧ Below wr.heap.size wr wx) (fun _ _ _ v10 _ => l1.length - (intOf v10).toNat)
        case atStart => exact ⟨t, Nat.le_refl _, Nat.le_add_right _ _, rfl, rfl, rfl, rfl, Below.refl _ _⟩
        case round =>
          obtain ⟨k, htk, hk, rfl, rfl, rfl, rfl, hbx⟩ := hrel
          have BX := Lib.hid hbx
          clear hbx
          have hkl : k < l1.length := by omega
          · obtain ⟨k1, hk1⟩ : ∃ k1 : Int, IntKind.i64.wrap ((k : Int) + 1) = k1 := ⟨_, rfl⟩
            have hk1v : k1 = ((k + 1 : Nat) : Int) := by rw [← hk1, i64_w]; unfold wrap64; omega
            have K1 := Lib.hid hk1v
            have ek : k1.toNat = k + 1 := by rw [hk1v, Int.toNat_natCast]
            have gk0 : 0 ≤ k1 := by omega
            have gk1 : k1 < ((l1.length : Int) + 1) := by omega
            have gk2 : 0 ≤ (k : Int) := by omega
            have gk3 : (k : Int) < (l1.length : Int) := by omega
            have b1x := BM.out.trans (BX.out.mono BM.out.size)
            have b0x := B1.out.trans (b1x.mono B1.out.size)
            obtain ⟨adX, eX, x0, x1, _, _, _⟩ := at_T36 (Kd.C_below HA.out b0x) (i : Int) gi0 gi1
            obtain ⟨adY, eY, y0, y1, _, _, _⟩ := at_T36 (Kd.C_below HB.out b0x) (k : Int) gk2 gk3
            rw [Int.toNat_natCast] at x0 x1 y0 y1
            subst eX
            subst eY
            have ids := id_iff (rd_T36 l0 (i : Int)) (rd_T36 l1 (k : Int))
            rw [rd36 l0 i hlt, rd36 l1 k hkl] at ids
            rw [rd36 l0 i hlt] at x0 x1
            rw [rd36 l1 k hkl] at y0 y1
            by_cases hkj : k = t + j
            · have hid : idOf l0[i] = idOf l1[k] := by simp only [hkj]; exact ID.out
              have hm := ids.2 hid
              obtain ⟨ad1, c2, t0, tr1⟩ := TB.out (i + 1) (by omega)
              obtain ⟨ad3, c3, t3, tr3⟩ := TB.out f (by omega)
              have t1 := tr1 (k + 1) (by omega)
              have t4 := tr3 t ht
              have hlc := LC.out
              rw [← hkj, HL.out] at hlc
              have lb1 := lcs_le_len (l0.drop (i + 1)) (l1.drop (k + 1))
              rw [List.length_drop] at lb1
              obtain ⟨L1, hL1⟩ : ∃ L1, lcs (l0.drop (i + 1)) (l1.drop (k + 1)) = L1 := ⟨_, rfl⟩
              obtain ⟨L2, hL2⟩ : ∃ L2, lcs (l0.drop f) (l1.drop t) = L2 := ⟨_, rfl⟩
              rw [hL1] at t1 hlc lb1
              rw [hL2] at t4 hlc
              obtain ⟨z, hz⟩ : ∃ z : Int, IntKind.i64.wrap ((L1 : Int) + 1) = z := ⟨_, rfl⟩
              have hzv : z = ((L1 + 1 : Nat) : Int) := by rw [← hz, i64_w]; unfold wrap64; omega
              have hq : (z == (L2 : Int)) = true := by rw [hzv]; exact beq_iff_eq.2 (by omega)
              rw [← E1.out] at t0
              rw [← ek] at t1
              have t0 := cell_on t0 b1x
              have t1 := cell_on t1 b1x
              have t3 := cell_on t3 b1x
              have t4 := cell_on t4 b1x
              have HKJ := Lib.hid hkj
              clear hkj
              clear hk1v ek b1x b0x ids hid tr1 tr3 hlc lb1 hL1 hL2 hzv
              go_wp2_with fail
              go_quiet (fail)
              go_wp2_with ((at_builtin; refine Kd.R_append kP (w0 := w1) w1.heap.size (by rfl) (.tmp 64) (.tmp 68) 63 65 (.agg #[.int .i64 0, .int .i64 0]) 16 (by rfl) Try.underlying63 info65 rfl (by decide) (by omega) u6 xs (i, k) [.int .i64 i, .int .i64 k] (fun _ => True) (fun _ => False) (by rfl) (by rfl) (kP_mkM _ _ _ (i, k)) (fun _ h => h.elim) (fun _ _ => trivial) (Kd.R_drewN (Kd.R_below XR.out BX.out) _) (pw_below_drewN (BM.out.trans (BX.out.mono BM.out.size)) _) (by have := BM.out.size; have := BX.out.size; simp; omega) (by have := XL.out; omega) ?_; intro v3 w3 hr3 hb3 hg3 hat3; have R3 := Lib.hid hr3; have B3 := Lib.hid hb3; clear hr3 hb3 hg3 hat3))
              obtain ⟨n', rfl⟩ : ∃ n', n = n' + 1 := ⟨n - 1, by omega⟩
              refine ⟨⟨i + 1, i + 1, k + 1, n', xs ++ [(i, k)], Nat.le_refl _, by omega, by omega, by omega, by rw [I1.out], by rw [K1.out], by rw [I1.out], rfl, ?_, R3.out, by have := XL.out; simp; omega, B3.out⟩, by rw [I1.out]; simp [intOf]; omega⟩
              rw [← HX.out, kp_some NX.out, List.append_assoc, HKJ.out]
              rfl
            · have hm : ((l0[i].f0.f0 == l1[k].f0.f0) && (l0[i].f0.f1 == l1[k].f0.f1)) = false := Bool.eq_false_iff.2 (fun h => NO.out k htk (by omega) hkl (ids.1 h))
              clear hk1v ek b1x b0x ids
              go_wp2_with fail
              go_quiet (fail)
              go_wp2_with fail
              exact ⟨⟨k + 1, by omega, by omega, rfl, rfl, rfl, by rw [K1.out], pw_below_drewN BX.out _⟩, by rw [K1.out]; simp [intOf]; omega⟩
      · have NX := Lib.hid hnx; have LC := Lib.hid hlc; have NO := Lib.hid hno
        clear hnx hlc hno
        go_wp2_with fail
        go_loopw [6, 7, 8, 10] (fun v6 v7 v8 v10 wx => ∃ k : Nat, t ≤ k ∧ k ≤ l1.length ∧ v6 = u6 ∧ v7 = .int .i64 f ∧ v8 = .int .i64 t ∧ v10 = .int .i64 k ∧ Below wr.heap.size wr wx) (fun _ _ _ v10 _ => l1.length - (intOf v10).toNat)
        case atStart => exact ⟨t, Nat.le_refl _, ht, rfl, rfl, rfl, rfl, Below.refl _ _⟩
        case round =>
          obtain ⟨k, htk, hk, rfl, rfl, rfl, rfl, hbx⟩ := hrel
          have BX := Lib.hid hbx
          clear hbx
          by_cases hkl : k < l1.length
          · obtain ⟨k1, hk1⟩ : ∃ k1 : Int, IntKind.i64.wrap ((k : Int) + 1) = k1 := ⟨_, rfl⟩
            have hk1v : k1 = ((k + 1 : Nat) : Int) := by rw [← hk1, i64_w]; unfold wrap64; omega
            have K1 := Lib.hid hk1v
            have ek : k1.toNat = k + 1 := by rw [hk1v, Int.toNat_natCast]
            have gk0 : 0 ≤ k1 := by omega
            have gk1 : k1 < ((l1.length : Int) + 1) := by omega
            have gk2 : 0 ≤ (k : Int) := by omega
            have gk3 : (k : Int) < (l1.length : Int) := by omega
            have b1x := BM.out.trans (BX.out.mono BM.out.size)
            have b0x := B1.out.trans (b1x.mono B1.out.size)
            obtain ⟨adX, eX, x0, x1, _, _, _⟩ := at_T36 (Kd.C_below HA.out b0x) (i : Int) gi0 gi1
            obtain ⟨adY, eY, y0, y1, _, _, _⟩ := at_T36 (Kd.C_below HB.out b0x) (k : Int) gk2 gk3
            rw [Int.toNat_natCast] at x0 x1 y0 y1
            subst eX
            subst eY
            have ids := id_iff (rd_T36 l0 (i : Int)) (rd_T36 l1 (k : Int))
            rw [rd36 l0 i hlt, rd36 l1 k hkl] at ids
            rw [rd36 l0 i hlt] at x0 x1
            rw [rd36 l1 k hkl] at y0 y1
            by_cases hid : idOf l0[i] = idOf l1[k]
            · have hm := ids.2 hid
              obtain ⟨ad1, c2, t0, tr1⟩ := TB.out (i + 1) (by omega)
              obtain ⟨ad3, c3, t3, tr3⟩ := TB.out f (by omega)
              have t1 := tr1 (k + 1) (by omega)
              have t4 := tr3 t ht
              have hlc := NO.out k htk hkl hid
              rw [HL.out] at hlc
              have lb1 := lcs_le_len (l0.drop (i + 1)) (l1.drop (k + 1))
              rw [List.length_drop] at lb1
              obtain ⟨L1, hL1⟩ : ∃ L1, lcs (l0.drop (i + 1)) (l1.drop (k + 1)) = L1 := ⟨_, rfl⟩
              obtain ⟨L2, hL2⟩ : ∃ L2, lcs (l0.drop f) (l1.drop t) = L2 := ⟨_, rfl⟩
              rw [hL1] at t1 hlc lb1
              rw [hL2] at t4 hlc
              obtain ⟨z, hz⟩ : ∃ z : Int, IntKind.i64.wrap ((L1 : Int) + 1) = z := ⟨_, rfl⟩
              have hzv : z = ((L1 + 1 : Nat) : Int) := by rw [← hz, i64_w]; unfold wrap64; omega
              have hq : (z == (L2 : Int)) = false := by rw [hzv]; exact beq_eq_false_iff_ne.2 (fun e => hlc (by omega))
              rw [← E1.out] at t0
              rw [← ek] at t1
              have t0 := cell_on t0 b1x
              have t1 := cell_on t1 b1x
              have t3 := cell_on t3 b1x
              have t4 := cell_on t4 b1x
              clear hk1v ek b1x b0x ids hid tr1 tr3 hlc lb1 hL1 hL2 hzv
              go_wp2_with fail
              go_quiet (fail)
              go_wp2_with fail
              exact ⟨⟨k + 1, by omega, by omega, rfl, rfl, rfl, by rw [K1.out], pw_below_drewN BX.out _⟩, by rw [K1.out]; simp [intOf]; omega⟩
            · have hm : ((l0[i].f0.f0 == l1[k].f0.f0) && (l0[i].f0.f1 == l1[k].f0.f1)) = false := Bool.eq_false_iff.2 (fun h => hid (ids.1 h))
              clear hk1v ek b1x b0x ids hid
              go_wp2_with fail
              go_quiet (fail)
              go_wp2_with fail
              exact ⟨⟨k + 1, by omega, by omega, rfl, rfl, rfl, by rw [K1.out], pw_below_drewN BX.out _⟩, by rw [K1.out]; simp [intOf]; omega⟩
          · go_wp2_with fail
            refine ⟨⟨i + 1, f, t, n, xs, by omega, by omega, ht, by omega, rfl, rfl, by rw [I1.out], by rw [LC.out, HL.out], by rw [← HX.out, kp_skip NX.out], Kd.R_below XR.out BX.out, by have := XL.out; omega, BM.out.trans (BX.out.mono BM.out.size)⟩, by rw [I1.out]; simp [intOf]; omega⟩
    · obtain rfl : i = l0.length := by omega
      go_wp2_with fail
      go_ret
      have hx := HX.out
      rw [kp_none (i := l0.length) (k := t) (by rw [List.drop_length]; rfl), List.append_nil] at hx
      rw [← hx]
      exact ⟨_, rfl, Kd.R_lower XR.out B1.out.size, B1.out.trans (BM.out.mono B1.out.size)⟩
end Go.Proofs.Ytbaihnpanoibdaa.Q
