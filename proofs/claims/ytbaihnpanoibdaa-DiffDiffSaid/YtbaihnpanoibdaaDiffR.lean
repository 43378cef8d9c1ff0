/- The reference's Diff: the walk. -/
import Derived.Test.YtbaihnpanoibdaaKeptW
import Derived.Test.YtbaihnpanoibdaaQx7
namespace Go.Proofs.Ytbaihnpanoibdaa.Q
open Go.RowKit Go.Proofs.YtbaihnpanoibdaaW.PrintWords Go.Proofs.YtbaihnpanoibdaaW.PrintLast Go.Proofs.YtbaihnpanoibdaaW.PrintMore Go.Proofs.Ytbaihnpanoibdaa.Mem
open Go.Proofs.Ytbaihnpanoibdaa.Pure4 (rd36 id_iff w64)
set_option linter.unusedVariables false
set_option linter.unusedSimpArgs false

/-- A name against those ahead of it. -/
theorem rtwice_l1 (x : List S36) (i : Nat) (hi : i < x.length) (hx : x.length ≤ 300) (f0 : Nat) (r : Bool) (h : ∀ f, f0 ≤ f → offshootref28_twice.l0 f x ((i + 1 : Nat) : Int) = some r) : ∀ (d j f : Nat), j + d = i → d + 1 + f0 ≤ f →
    offshootref28_twice.l1 f x (i : Int) (j : Int) = some (if idOf x[i] ∈ ((x.take i).drop j).map idOf then true else r)
  | 0, j, f, hj, hf => by
    obtain ⟨f, rfl⟩ : ∃ m, f = m + 1 := ⟨f - 1, by omega⟩
    obtain rfl : j = i := by omega
    rw [offshootref28_twice.l1, if_neg (by omega), w64 (by omega) (by omega), show (j : Int) + 1 = ((j + 1 : Nat) : Int) by omega, h f (by omega)]
    have : (x.take j).drop j = [] := List.drop_eq_nil_of_le (by rw [List.length_take]; omega)
    rw [this]
    simp
  | d + 1, j, f, hj, hf => by
    obtain ⟨f, rfl⟩ : ∃ m, f = m + 1 := ⟨f - 1, by omega⟩
    have hd : (x.take i).drop j = x[j] :: (x.take i).drop (j + 1) := by
      have := List.drop_eq_getElem_cons (l := x.take i) (i := j) (by rw [List.length_take]; omega)
      rw [this, List.getElem_take]
    rw [offshootref28_twice.l1, if_pos (by omega), if_pos (by omega), if_pos (by omega), if_pos (by omega), if_pos (by omega), hd]
    have ids := id_iff (rd_T36 x (i : Int)) (rd_T36 x (j : Int))
    rw [rd36 x i hi, rd36 x j (by omega)] at ids ⊢
    by_cases e : idOf x[i] = idOf x[j]
    · rw [if_pos (ids.2 e), if_pos (by rw [List.map_cons, e]; exact List.mem_cons_self)]
    · rw [if_neg (fun h => e (ids.1 h)), w64 (by omega) (by omega), show (j : Int) + 1 = ((j + 1 : Nat) : Int) by omega, rtwice_l1 x i hi hx f0 r h d (j + 1) f (by omega) (by omega)]
      simp only [List.map_cons, List.mem_cons, e, false_or]
theorem rtwice_l0 (x : List S36) (hx : x.length ≤ 300) (N : Nat) (hN : x.length + 4 ≤ N) : ∀ (d i f : Nat), i + d = x.length → 1 + d * N ≤ f → offshootref28_twice.l0 f x (i : Int) = some (dupB ((x.take i).map idOf) (x.drop i))
  | 0, i, f, hi, hf => by
    rw [Nat.zero_mul] at hf
    obtain ⟨f, rfl⟩ : ∃ m, f = m + 1 := ⟨f - 1, by omega⟩
    rw [offshootref28_twice.l0, if_neg (by omega)]
    have : x.drop i = [] := List.drop_eq_nil_of_le (by omega)
    rw [this]; rfl
  | d + 1, i, f, hi, hf => by
    rw [Nat.succ_mul] at hf
    obtain ⟨f, rfl⟩ : ∃ m, f = m + 1 := ⟨f - 1, by omega⟩
    have hlt : i < x.length := by omega
    rw [offshootref28_twice.l0, if_pos (by omega), show (0 : Int) = ((0 : Nat) : Int) from rfl, rtwice_l1 x i hlt hx (1 + d * N) _ (fun f hf => rtwice_l0 x hx N hN d (i + 1) f (by omega) hf) i 0 f (by omega) (by omega)]
    rw [List.drop_zero, List.drop_eq_getElem_cons hlt, dupB]
    by_cases e : idOf x[i] ∈ (x.take i).map idOf
    · rw [if_pos e, if_pos e]
    · rw [if_neg e, if_neg e, List.take_succ_eq_append_getElem hlt, List.map_append]; rfl
theorem rtwice (x : List S36) (hx : x.length ≤ 300) (K : Nat) (hK : 200000 ≤ K) : offshootref28_twice.f K x = some (dup x) := by
  have h : x.length * (x.length + 4) ≤ 300 * 304 := Nat.mul_le_mul hx (by omega)
  have := rtwice_l0 x hx (x.length + 4) (Nat.le_refl _) x.length 0 K (by omega) (by omega)
  exact this
attribute [local go_sem high] eqA36
set_option maxRecDepth 100000 in
set_option maxHeartbeats 8000000 in
theorem offshootref28_Diff.calls (A0 : Option Addr) (c0 : Nat) (l0 : List (S36)) (A1 : Option Addr) (c1 : Nat) (l1 : List (S36)) (r1 : List (S39)) (r2 : Int) (w : World) (hr0 : Kd.C k36 w A0 l0.length l0) (hc0 : l0.length ≤ c0) (hr1 : Kd.C k36 w A1 l1.length l1) (hc1 : l1.length ≤ c1) (h : offshootref28_Diff.f l0 l1 = some (r1, r2)) :
    Calls Try.prog 11 #[.slice A0 l0.length c0, .slice A1 l1.length c1] w fun e w' => ∃ v0_ : Value, e = .returned (.tuple #[v0_, .int .i64 r2]) ∧ Kd.R k39 39 w' w.heap.size (fun _ => True) v0_ r1 ∧ Below w.heap.size w w' := by
  have HA := Lib.hid hr0; have HB := Lib.hid hr1; have HCA := Lib.hid hc0; have HCB := Lib.hid hc1
  clear hr0 hr1 hc0 hc1
  unfold offshootref28_Diff.f diff_Diff.f at h
  by_cases hbig : 300 < l0.length ∨ 300 < l1.length
  · rw [if_pos hbig] at h
    obtain ⟨rfl, rfl⟩ := Prod.mk.inj (Option.some.inj h)
    clear h
    by_cases h0 : 300 < l0.length
    · clear hbig
      go_enter Try.func11, Try.ntmps11
      go_wp2_with fail
      go_ret2
      exact ⟨_, rfl, Kd.R_nil _ _ _ _ _, Below.refl _ _⟩
    · have h1 : 300 < l1.length := hbig.resolve_left h0
      clear hbig
      go_enter Try.func11, Try.ntmps11
      go_wp2_with fail
      go_ret2
      exact ⟨_, rfl, Kd.R_nil _ _ _ _ _, Below.refl _ _⟩
  · rw [if_neg hbig] at h
    have ha : l0.length ≤ 300 := by omega
    have hb : l1.length ≤ 300 := by omega
    clear hbig
    obtain ⟨K, hK⟩ : ∃ K, 200000 ≤ K := ⟨_, Nat.le_refl _⟩
    have TA := Lib.hid (rtwice l0 ha K hK); have TB := Lib.hid (rtwice l1 hb K hK)
    clear hK
    by_cases hd : (dup l0 || dup l1) = true
    · rw [if_pos hd] at h
      obtain ⟨rfl, rfl⟩ := Prod.mk.inj (Option.some.inj h)
      clear h
      cases h0 : dup l0 with
      | true =>
        have H0 := Lib.hid h0
        clear hd h0
        go_enter Try.func11, Try.ntmps11
        go_wp2_with fail
        refine (offshootref28_twice.calls K A0 c0 l0 _ _ HA.out HCA.out TA.out).mono ?_
        rintro e w1 ⟨rfl, nd, rfl⟩
        rw [H0.out]
        go_wp2_with fail
        go_ret2
        exact ⟨_, rfl, Kd.R_nil _ _ _ _ _, pw_below_drewN (Below.refl _ _) _⟩
      | false =>
        rw [h0, Bool.false_or] at hd
        have H0 := Lib.hid h0; have H1 := Lib.hid hd
        clear hd h0
        go_enter Try.func11, Try.ntmps11
        go_wp2_with fail
        refine (offshootref28_twice.calls K A0 c0 l0 _ _ HA.out HCA.out TA.out).mono ?_
        rintro e w1 ⟨rfl, nd, rfl⟩
        rw [H0.out]
        go_wp2_with fail
        refine (offshootref28_twice.calls K A1 c1 l1 _ _ (Kd.C_drewN HB.out _) HCB.out TB.out).mono ?_
        rintro e w2 ⟨rfl, nd2, rfl⟩
        rw [H1.out]
        go_wp2_with fail
        go_ret2
        exact ⟨_, rfl, Kd.R_nil _ _ _ _ _, pw_below_drewN (Below.refl _ _) _⟩
    · rw [if_neg hd] at h
      obtain ⟨h9, rfl⟩ := Prod.mk.inj (Option.some.inj h)
      have RR := Lib.hid h9
      obtain ⟨h0, h1⟩ : dup l0 = false ∧ dup l1 = false := by simpa using hd
      have H0 := Lib.hid h0; have H1 := Lib.hid h1
      have g0 : decide ((300 : Int) < (l0.length : Int)) = false := decide_eq_false (by omega)
      have g1 : decide ((300 : Int) < (l1.length : Int)) = false := decide_eq_false (by omega)
      clear h hd h0 h1 h9
      go_enter Try.func11, Try.ntmps11
      go_wp2_with fail
      refine (offshootref28_twice.calls K A0 c0 l0 _ _ HA.out HCA.out TA.out).mono ?_
      rintro e w1 ⟨rfl, nd, rfl⟩
      rw [H0.out]
      go_wp2_with fail
      refine (offshootref28_twice.calls K A1 c1 l1 _ _ (Kd.C_drewN HB.out _) HCB.out TB.out).mono ?_
      rintro e w2 ⟨rfl, nd2, rfl⟩
      rw [H1.out]
      obtain ⟨w3, ew3⟩ : ∃ w3, w3 = (w.drewN nd).drewN nd2 := ⟨_, rfl⟩
      have b3 : Below w.heap.size w w3 := by rw [ew3]; exact pw_below_drewN (pw_below_drewN (Below.refl _ _) _) _
      rw [← ew3]
      have B3 := Lib.hid b3
      clear ew3 b3
      obtain ⟨kl, ekl⟩ : ∃ kl, kp l0.length l0 l1 0 0 = kl := ⟨_, rfl⟩
      have EKL := Lib.hid ekl
      have hkl : kl.length ≤ l0.length := by rw [← ekl]; exact kp_len _ _ _ _ _
      have HKL := Lib.hid hkl
      have KC := Lib.hid (rkept_ok A0 c0 l0 A1 c1 l1 w3 (Kd.C_below HA.out B3.out) HCA.out (Kd.C_below HB.out B3.out) HCB.out ha hb)
      clear ekl hkl
      go_wp2_with (first
        | (go_at_call 27; refine KC.out.mono ?_; rintro e w4 ⟨v, rfl, r4, b4⟩; rw [EKL.out] at r4; have S4 := Lib.hid b4.size; have R4 := Lib.hid r4; have B4 := Lib.hid (B3.out.trans (b4.mono B3.out.size)); clear r4 b4)
        | (at_builtin; refine Kd.R_append kP (w0 := w4) w3.heap.size (by rfl) (.tmp 29) (.tmp 35) 63 65 (.agg #[.int .i64 0, .int .i64 0]) 16 (by rfl) Try.underlying63 info65 rfl (by decide) (by omega) v kl (l0.length, l1.length) [.int .i64 l0.length, .int .i64 l1.length] (fun _ => True) (fun _ => False) (by rfl) (by rfl) (kP_mkM _ _ _ (l0.length, l1.length)) (fun _ h => h.elim) (fun _ _ => trivial) R4.out (Below.refl _ _) S4.out (by have := HKL.out; omega) ?_; intro v5 w5 hr5 hb5 hg5 hat5; have R5 := Lib.hid hr5; have B5 := Lib.hid hb5; clear hr5 hb5 hg5 hat5)
        | ((with_reducible refine gate_dst (N := 37) rfl ?_); refine Kd.R_lit k39 (w0 := w5) w5.heap.size 39 ?hg (N := 37) ?hd (xs := ([] : List S39)) (inner := []) (ok := fun _ => True) (okp := fun _ => True) ?hr ?hp (fun _ hk => hk) trivial (Below.refl _ _) (Nat.le_refl _) (by simp) ?_; (case hd => rfl); (case hg => rfl); (case hr => first | (go_simp; done) | (go_simp; rfl)); (case hp => exact (Reps.none _ _)); intro v6 w6 ho6 hb6 hg6 hnew6; clear hg6 hnew6; have R6 := Lib.hid ho6; have B6 := Lib.hid hb6; clear ho6 hb6))
      obtain ⟨A5, c5, rfl, hc5, hC5⟩ := Kd.R_reads R5.out
      obtain ⟨lst, elst⟩ : ∃ lst, kl ++ [(l0.length, l1.length)] = lst := ⟨_, rfl⟩
      rw [elst] at hC5 ⊢
      have HLS := Lib.hid elst; have HC5 := Lib.hid hC5
      have hls : lst.length ≤ l0.length + 1 := by rw [← elst, List.length_append, List.length_singleton]; have := HKL.out; omega
      have HLL := Lib.hid hls
      clear elst hC5 hc5 hls
      obtain ⟨r, er⟩ : ∃ r, dl l0.length l0 l1 [] = r := ⟨_, rfl⟩
      have ER := Lib.hid er
      have er2 := RR.out
      simp only [er] at er2
      have RC := Lib.hid er2
      clear er er2
      go_loopw [7, 8, 9, 10] (fun v7 v8 v9 v10 wr => ∃ (i k n m : Nat) (ch : List S38), i ≤ l0.length ∧ k ≤ l1.length ∧ l0.length ≤ i + n ∧ v8 = .int .i64 i ∧ v9 = .int .i64 k ∧ v10 = .int .i64 m ∧ Small ch i k ∧ NoDrop ch ∧ lst.drop m = kp n l0 l1 i k ++ [(l0.length, l1.length)] ∧ dl n (l0.drop i) (l1.drop k) ch = r ∧ Kd.R k39 39 wr w5.heap.size (fun _ => True) v7 (ch.map conv) ∧ Below w5.heap.size w5 wr) (fun _ _ _ v10 _ => lst.length - (intOf v10).toNat)
      case atStart => exact ⟨0, 0, l0.length, 0, [], by omega, by omega, by omega, rfl, rfl, rfl, ⟨by simp, fun _ h => by cases h⟩, (fun _ h => by cases h), by rw [List.drop_zero, ← HLS.out, EKL.out], ER.out, R6.out, B6.out⟩
      case round =>
        obtain ⟨i, k, n, m, ch, hi, hk, hin, rfl, rfl, rfl, hsm, hnd, hlm, hdl, hR, hbm⟩ := hrel
        obtain ⟨X, Y, hXY, hiX, hX, hkY, hY, hml, hend⟩ := chain hlm hi hk hin hdl hnd
        have SM := Lib.hid hsm; have ND := Lib.hid hnd; have BM := Lib.hid hbm; have RM := Lib.hid hR; have EN := Lib.hid hend
        obtain ⟨ad5, e5, m0, m1⟩ := at_P (Kd.C_below HC5.out hbm) m hml
        rw [hXY] at m0 m1
        have H5 := Lib.hid e5; have XY := Lib.hid hXY
        clear hsm hnd hlm hdl hR hbm hend hXY e5
        rw [H5.out]
        go_upto_if 50 with (fail)
        go_cut [7] (fun v7 wc => Kd.R k39 39 wc w5.heap.size (fun _ => True) v7 ((if X = i then ch else ch ++ [⟨2, ((X : Int) - (i : Int)), z36⟩]).map conv) ∧ Below w5.heap.size w5 wc)
        case first =>
          by_cases hXi : X = i
          · have HXI := Lib.hid hXi
            have hlt : ¬ i < X := by omega
            clear hXi
            go_wp2_with fail
            go_meet
            case rel => exact ⟨by rw [if_pos HXI.out]; exact RM.out, BM.out⟩
          · have HXI := Lib.hid hXi
            have hlt : i < X := by omega
            clear hXi
            have hmle : (ch.map conv).length ≤ 600 := by rw [List.length_map]; have := SM.out.len; omega
            have HML := Lib.hid hmle
            clear hmle
            go_wp2_with ((at_builtin; refine Kd.R_append k39 (w0 := w5) w5.heap.size (by rfl) (.tmp 51) (.tmp 60) 29 39 (.agg #[.int .i64 0, .int .i64 0, .int .i64 0, .int .i64 0, .int .i64 0, .bool false, .string ⟨#[]⟩]) 64 (by rfl) Try.underlying29 info39 rfl (by decide) (by omega) u7 (ch.map conv) ⟨2, ((X : Int) - (i : Int)), z36⟩ [.int .i64 2, .int .i64 ((X : Int) - (i : Int)), .int .i64 0, .int .i64 0, .int .i64 0, .bool false, .string ⟨#[]⟩] (fun _ => True) (fun _ => False) (by rfl) (by rfl) (k39_mkM _ _ _ ⟨2, ((X : Int) - (i : Int)), z36⟩) (fun _ h => h.elim) (fun _ _ => trivial) RM.out BM.out BM.out.size (by have := HML.out; omega) ?_; intro v7 w7 hr7 hb7 hg7 hat7; have R7 := Lib.hid hr7; have B7 := Lib.hid hb7; clear hr7 hb7 hg7 hat7))
            go_meet
            case rel => exact ⟨by rw [if_neg HXI.out, List.map_append]; exact R7.out, B7.out⟩
        case rest =>
          obtain ⟨hRc, hBc⟩ := hcut
          have RC1 := Lib.hid hRc; have BC1 := Lib.hid hBc
          clear hRc hBc
          obtain ⟨ch1, ech1⟩ : ∃ ch1, (if X = i then ch else ch ++ [⟨2, ((X : Int) - (i : Int)), z36⟩]) = ch1 := ⟨_, rfl⟩
          have E1 := Lib.hid ech1
          have hch1 : ch1.length ≤ ch.length + 1 := by
            rw [← ech1]
            split
            · omega
            · rw [List.length_append, List.length_singleton]; omega
          have HC1 := Lib.hid hch1
          have rc2 := RC1.out
          rw [ech1] at rc2
          have RC2 := Lib.hid rc2
          clear ech1 hch1 RC1 rc2 m0 m1
          go_wp2_with (fail)
          go_loopw [7, 9] (fun v7 v9 wx => ∃ q : Nat, k ≤ q ∧ q ≤ Y ∧ v9 = .int .i64 q ∧ Kd.R k39 39 wx w5.heap.size (fun _ => True) v7 ((ch1 ++ ((l1.drop k).take (q - k)).map putC).map conv) ∧ Below w5.heap.size w5 wx) (fun _ v9 _ => Y - (intOf v9).toNat)
          case atStart => exact ⟨k, Nat.le_refl _, hkY, rfl, by simpa using RC2.out, BC1.out⟩
          case round =>
            obtain ⟨q, hkq, hqY, rfl, hrx, hbx⟩ := hrel
            have RX := Lib.hid hrx; have BX := Lib.hid hbx
            obtain ⟨ad6, e6, m0, m1⟩ := at_P (Kd.C_below HC5.out hbx) m hml
            rw [XY.out] at m0 m1
            obtain rfl : ad5 = ad6 := by have := H5.out.symm.trans e6; injection this
            clear hrx hbx e6
            by_cases hlt : q < Y
            · have bel : Below w.heap.size w wr := (B4.out.trans (B5.out.mono B3.out.size)).trans (BX.out.mono (B4.out.trans (B5.out.mono B3.out.size)).size)
              obtain ⟨adY, eY, y0, y1, y2, y3, y4⟩ := at_T36 (Kd.C_below HB.out bel) (q : Int) (by omega) (by omega)
              rw [Int.toNat_natCast] at y0 y1 y2 y3 y4
              clear bel
              subst eY
              have gq0 : (0 : Int) ≤ (q : Int) := by omega
              have gq1 : (q : Int) < (l1.length : Int) := by omega
              have hle : ((ch1 ++ ((l1.drop k).take (q - k)).map putC).map conv).length ≤ 2000 := by
                rw [List.length_map, List.length_append, List.length_map, List.length_take]; have := SM.out.len; have := HC1.out; omega
              have HLE := Lib.hid hle
              clear hle
              go_wp2_with ((at_builtin; refine Kd.R_append k39 (w0 := w5) w5.heap.size (by rfl) (.tmp 69) (.tmp 75) 29 39 (.agg #[.int .i64 0, .int .i64 0, .int .i64 0, .int .i64 0, .int .i64 0, .bool false, .string ⟨#[]⟩]) 64 (by rfl) Try.underlying29 info39 rfl (by decide) (by omega) u7 _ ⟨3, 0, rd_T36 l1 (q : Int)⟩ [.int .i64 3, .int .i64 0, .int .i64 (rd_T36 l1 (q : Int)).f0.f0, .int .i64 (rd_T36 l1 (q : Int)).f0.f1, .int .i64 (rd_T36 l1 (q : Int)).f1, .bool (rd_T36 l1 (q : Int)).f2, .string (rd_T36 l1 (q : Int)).f3] (fun _ => True) (fun _ => False) (by rfl) (by rfl) (k39_mkM _ _ _ ⟨3, 0, rd_T36 l1 (q : Int)⟩) (fun _ h => h.elim) (fun _ _ => trivial) RX.out BX.out BX.out.size (by have := HLE.out; omega) ?_; intro v7 w7 hr7 hb7 hg7 hat7; have R7 := Lib.hid hr7; have B7 := Lib.hid hb7; clear hr7 hb7 hg7 hat7))
              refine ⟨⟨q + 1, by omega, by omega, by go_num, ?_, B7.out⟩, by simp [intOf]; omega⟩
              rw [puts_succ l1 ch1 k q hkq (by omega)]
              exact R7.out
            · obtain rfl : q = Y := by omega
              have hlsI : lst.length ≤ 400 := by have := HLL.out; omega
              obtain ⟨c2, ec2⟩ : ∃ c2, ch1 ++ ((l1.drop k).take (q - k)).map putC = c2 := ⟨_, rfl⟩
              have e2 : ch2 l1 ch i k X q = c2 := by rw [← ec2, ← E1.out]; rfl
              have C2 := Lib.hid e2
              have rx2 := RX.out
              rw [ec2] at rx2
              have RX2 := Lib.hid rx2
              clear hlt RX rx2 ec2 e2
              rcases EN.out with ⟨hm1, hr⟩ | ⟨hm1, hXl, hYl, n', hn', hl', hd'⟩
              · have hq : ((m : Int) == (lst.length : Int) - 1) = true := beq_iff_eq.2 (by omega)
                have HRR := Lib.hid hr
                clear hr hm1
                go_wp2_with fail
                go_ret2
                refine ⟨_, rfl, ?_, (B4.out.trans (B5.out.mono B3.out.size)).trans (BX.out.mono (B4.out.trans (B5.out.mono B3.out.size)).size)⟩
                have h1 := RX2.out
                rw [← C2.out, HRR.out, RC.out] at h1
                exact Kd.R_lower h1 (B4.out.trans (B5.out.mono B3.out.size)).size
              · have hq : ((m : Int) == (lst.length : Int) - 1) = false := beq_eq_false_iff_ne.2 (by omega)
                have bel : Below w.heap.size w wr := (B4.out.trans (B5.out.mono B3.out.size)).trans (BX.out.mono (B4.out.trans (B5.out.mono B3.out.size)).size)
                obtain ⟨adX, eX, x0, x1, x2, x3, x4⟩ := at_T36 (Kd.C_below HA.out bel) (X : Int) (by omega) (by omega)
                obtain ⟨adY, eY, y0, y1, y2, y3, y4⟩ := at_T36 (Kd.C_below HB.out bel) (q : Int) (by omega) (by omega)
                rw [Int.toNat_natCast] at x0 x1 x2 x3 x4 y0 y1 y2 y3 y4
                subst eX
                subst eY
                have gX0 : (0 : Int) ≤ (X : Int) := by omega
                have gX1 : (X : Int) < (l0.length : Int) := by omega
                have gY0 : (0 : Int) ≤ (q : Int) := by omega
                have gY1 : (q : Int) < (l1.length : Int) := by omega
                have gm : m + 1 < lst.length := hm1
                obtain ⟨w8, ew8⟩ : ∃ w8, w8 = wr.alloc (.cells #[.int .i64 (rd_T36 l0 (X : Int)).f0.f0, .int .i64 (rd_T36 l0 (X : Int)).f0.f1, .int .i64 (rd_T36 l0 (X : Int)).f1, .bool (rd_T36 l0 (X : Int)).f2, .string (rd_T36 l0 (X : Int)).f3] 36) := ⟨_, rfl⟩
                have b8 : Below wr.heap.size wr w8 := by rw [ew8]; exact below_alloc (Below.refl _ _) _
                have hx8 : w8.heap[wr.heap.size]? = some (.cells #[.int .i64 (rd_T36 l0 (X : Int)).f0.f0, .int .i64 (rd_T36 l0 (X : Int)).f0.f1, .int .i64 (rd_T36 l0 (X : Int)).f1, .bool (rd_T36 l0 (X : Int)).f2, .string (rd_T36 l0 (X : Int)).f3] 36 (0, 0)) := by rw [ew8]; exact heap_alloc_new wr _
                have sz8 : w8.heap.size = wr.heap.size + 1 := by rw [ew8]; simp
                have n0 := cell_on m0 b8; have n1 := cell_on m1 b8
                have z0 := cell_on y0 b8; have z1 := cell_on y1 b8; have z2 := cell_on y2 b8; have z3 := cell_on y3 b8; have z4 := cell_on y4 b8
                obtain ⟨w7, ew⟩ : ∃ w7, w7 = w8.alloc (.cells #[.int .i64 (rd_T36 l1 (q : Int)).f0.f0, .int .i64 (rd_T36 l1 (q : Int)).f0.f1, .int .i64 (rd_T36 l1 (q : Int)).f1, .bool (rd_T36 l1 (q : Int)).f2, .string (rd_T36 l1 (q : Int)).f3] 36) := ⟨_, rfl⟩
                have b78 : Below w8.heap.size w8 w7 := by rw [ew]; exact below_alloc (Below.refl _ _) _
                have b7 : Below wr.heap.size wr w7 := b8.trans (b78.mono b8.size)
                have hx0 : w7.heap[wr.heap.size]? = some (.cells #[.int .i64 (rd_T36 l0 (X : Int)).f0.f0, .int .i64 (rd_T36 l0 (X : Int)).f0.f1, .int .i64 (rd_T36 l0 (X : Int)).f1, .bool (rd_T36 l0 (X : Int)).f2, .string (rd_T36 l0 (X : Int)).f3] 36 (0, 0)) := (b78.block _ (by omega)).trans hx8
                have hy0 : w7.heap[wr.heap.size + 1]? = some (.cells #[.int .i64 (rd_T36 l1 (q : Int)).f0.f0, .int .i64 (rd_T36 l1 (q : Int)).f0.f1, .int .i64 (rd_T36 l1 (q : Int)).f1, .bool (rd_T36 l1 (q : Int)).f2, .string (rd_T36 l1 (q : Int)).f3] 36 (0, 0)) := by rw [ew, ← sz8]; exact heap_alloc_new w8 _
                have X0 := blk_cell hx0 0; have X1 := blk_cell hx0 1; have X2 := blk_cell hx0 2; have X3 := blk_cell hx0 3; have X4 := blk_cell hx0 4
                have Y0 := blk_cell hy0 0; have Y1 := blk_cell hy0 1; have Y2 := blk_cell hy0 2; have Y3 := blk_cell hy0 3; have Y4 := blk_cell hy0 4
                simp at X0 X1 X2 X3 X4 Y0 Y1 Y2 Y3 Y4
                have rx7 := Kd.R_below RX2.out b7
                have RX7 := Lib.hid rx7
                have BX7 := Lib.hid (BX.out.trans (b7.mono BX.out.size))
                have EW8 := Lib.hid ew8; have EW := Lib.hid ew; have SZ8 := Lib.hid sz8
                have HL' := Lib.hid hl'; have HD' := Lib.hid hd'
                clear RX2 bel b7 b8 b78 hx0 hx8 hy0 ew ew8 sz8 rx7 hl' hd' hm1
                go_upto_region 21 with (fail)
                rw [← EW8.out]
                go_upto_region 22 with (fail)
                rw [SZ8.out, ← EW.out]
                have sm2 : Small c2 X q := by
                  rw [← C2.out]
                  exact ch2_small SM.out ND.out hiX hkY hY
                have hc2 : c2.length ≤ 700 := by have := sm2.len; omega
                have SM2 := Lib.hid sm2
                have HC2 := Lib.hid hc2
                clear sm2 hc2
                cases hs : sameB (rd_T36 l0 (X : Int)) (rd_T36 l1 (q : Int)) with
                | true =>
                  have HS := Lib.hid hs
                  unfold sameB at hs
                  rcases List.eq_nil_or_concat c2 with rfl | ⟨c', z, rfl⟩
                  · obtain ⟨A7, c7, e7⟩ := Kd.R_slice RX7.out
                    rw [List.map_nil, List.length_nil] at e7
                    subst e7
                    go_wp2_with ((at_builtin; refine Kd.R_append k39 (w0 := w5) w5.heap.size (by rfl) (.tmp 139) (.tmp 141) 29 39 (.agg #[.int .i64 0, .int .i64 0, .int .i64 0, .int .i64 0, .int .i64 0, .bool false, .string ⟨#[]⟩]) 64 (by rfl) Try.underlying29 info39 rfl (by decide) (by omega) (.slice A7 0 c7) [] ⟨1, 1, z36⟩ [.int .i64 1, .int .i64 1, .int .i64 0, .int .i64 0, .int .i64 0, .bool false, .string ⟨#[]⟩] (fun _ => True) (fun _ => False) (by rfl) (by rfl) (k39_mkM _ _ _ ⟨1, 1, z36⟩) (fun _ h => h.elim) (fun _ _ => trivial) RX7.out BX7.out BX7.out.size (by simp) ?_; intro v9 w9 hr9 hb9 hg9 hat9; have R9 := Lib.hid hr9; have B9 := Lib.hid hb9; clear hr9 hb9 hg9 hat9))
                    refine ⟨⟨X + 1, q + 1, n', m + 1, _, by omega, by omega, by omega, by go_num, by go_num, by go_num, SM2.out.kept _ _, keptF_noDrop _ _ _, HL'.out, by rw [← C2.out]; exact HD'.out, ?_, B9.out⟩, by simp [intOf]; omega⟩
                    unfold keptF
                    rw [if_pos HS.out]
                    exact R9.out
                  · rw [List.concat_eq_append] at C2 RX7 SM2 HC2
                    obtain ⟨m', hm'⟩ : ∃ m', m' = (c'.map conv).length := ⟨_, rfl⟩
                    have hlen : ((c' ++ [z]).map conv).length = m' + 1 := by rw [hm']; simp
                    have hml : m' ≤ 700 := by have := HC2.out; rw [List.length_map] at hm'; rw [List.length_append, List.length_singleton] at this; omega
                    have rx := RX7.out
                    obtain ⟨A7, c7, e7⟩ := Kd.R_slice rx
                    rw [hlen] at e7
                    subst e7
                    rw [List.map_append] at rx
                    obtain ⟨g, rfl, hbg, hgl, q0, q1, f1, hset⟩ := R_last39 hm' rx
                    replace q0 : w7.cell? ⟨g, m' * 7, none⟩ = some (.int .i64 z.f0) := q0
                    replace q1 : w7.cell? ⟨g, m' * 7 + 1, none⟩ = some (.int .i64 z.f1) := q1
                    obtain ⟨hz0, hz1⟩ := SM2.out.num z (by simp)
                    have hz2 : z.f1 ≤ 300 := by omega
                    have e0 : someF (c' ++ [z]) 1 1 = if z.f0 = 1 then c' ++ [⟨z.f0, z.f1 + 1, z.f2⟩] else c' ++ [z] ++ [⟨1, 1, z36⟩] := by
                      unfold someF; rw [if_neg (by decide)]; simp
                    have E0 := Lib.hid e0; have HSET := Lib.hid hset; have HLEN := Lib.hid hlen
                    by_cases hk : z.f0 = 1
                    · have hkb : (z.f0 == 1) = true := by simpa using hk
                      have HK := Lib.hid hk
                      clear hk e0 hset hlen hm' rx hz1
                      go_wp2_with fail
                      refine ⟨⟨X + 1, q + 1, n', m + 1, _, by omega, by omega, by omega, by go_num, by go_num, by go_num, SM2.out.kept _ _, keptF_noDrop _ _ _, HL'.out, by rw [← C2.out]; exact HD'.out, ?_, BX7.out.setCell (p := ⟨g, m' * 7 + 1, none⟩) hbg _⟩, by simp [intOf]; omega⟩
                      unfold keptF
                      rw [if_pos HS.out, E0.out, if_pos HK.out, List.map_append]
                      exact HSET.out _
                    · have hkb : (z.f0 == 1) = false := by simpa using hk
                      have HK := Lib.hid hk
                      clear hk e0 hset hlen hm' rx hz1
                      go_wp2_with ((at_builtin; refine Kd.R_append k39 (w0 := w5) w5.heap.size (by rfl) (.tmp 139) (.tmp 141) 29 39 (.agg #[.int .i64 0, .int .i64 0, .int .i64 0, .int .i64 0, .int .i64 0, .bool false, .string ⟨#[]⟩]) 64 (by rfl) Try.underlying29 info39 rfl (by decide) (by omega) (.slice (some ⟨g, 0, none⟩) (m' + 1) c7) ((c' ++ [z]).map conv) ⟨1, 1, z36⟩ [.int .i64 1, .int .i64 1, .int .i64 0, .int .i64 0, .int .i64 0, .bool false, .string ⟨#[]⟩] (fun _ => True) (fun _ => False) (by rfl) (by rfl) (k39_mkM _ _ _ ⟨1, 1, z36⟩) (fun _ h => h.elim) (fun _ _ => trivial) RX7.out BX7.out BX7.out.size (by rw [HLEN.out]; omega) ?_; intro v9 w9 hr9 hb9 hg9 hat9; have R9 := Lib.hid hr9; have B9 := Lib.hid hb9; clear hr9 hb9 hg9 hat9))
                      refine ⟨⟨X + 1, q + 1, n', m + 1, _, by omega, by omega, by omega, by go_num, by go_num, by go_num, SM2.out.kept _ _, keptF_noDrop _ _ _, HL'.out, by rw [← C2.out]; exact HD'.out, ?_, B9.out⟩, by simp [intOf]; omega⟩
                      unfold keptF
                      rw [if_pos HS.out, E0.out, if_neg HK.out]
                      have r9 := R9.out
                      rw [show (c' ++ [z]).map conv ++ [(⟨1, 1, z36⟩ : S39)] = (c' ++ [z] ++ [(⟨1, 1, z36⟩ : S38)]).map conv by simp [conv]] at r9
                      exact r9
                | false =>
                  have HS := Lib.hid hs
                  unfold sameB at hs
                  go_wp2_with ((at_builtin; refine Kd.R_append k39 (w0 := w5) w5.heap.size (by rfl) (.tmp 111) (.tmp 114) 29 39 (.agg #[.int .i64 0, .int .i64 0, .int .i64 0, .int .i64 0, .int .i64 0, .bool false, .string ⟨#[]⟩]) 64 (by rfl) Try.underlying29 info39 rfl (by decide) (by omega) u7 (c2.map conv) ⟨4, 0, rd_T36 l1 (q : Int)⟩ [.int .i64 4, .int .i64 0, .int .i64 (rd_T36 l1 (q : Int)).f0.f0, .int .i64 (rd_T36 l1 (q : Int)).f0.f1, .int .i64 (rd_T36 l1 (q : Int)).f1, .bool (rd_T36 l1 (q : Int)).f2, .string (rd_T36 l1 (q : Int)).f3] (fun _ => True) (fun _ => False) (by rfl) (by rfl) (k39_mkM _ _ _ ⟨4, 0, rd_T36 l1 (q : Int)⟩) (fun _ h => h.elim) (fun _ _ => trivial) RX7.out BX7.out BX7.out.size (by rw [List.length_map]; have := HC2.out; omega) ?_; intro v9 w9 hr9 hb9 hg9 hat9; have R9 := Lib.hid hr9; have B9 := Lib.hid hb9; clear hr9 hb9 hg9 hat9))
                  refine ⟨⟨X + 1, q + 1, n', m + 1, _, by omega, by omega, by omega, by go_num, by go_num, by go_num, SM2.out.kept _ _, keptF_noDrop _ _ _, HL'.out, by rw [← C2.out]; exact HD'.out, ?_, B9.out⟩, by simp [intOf]; omega⟩
                  unfold keptF
                  rw [if_neg (by rw [HS.out]; decide), List.map_append]
                  exact R9.out
end Go.Proofs.Ytbaihnpanoibdaa.Q
