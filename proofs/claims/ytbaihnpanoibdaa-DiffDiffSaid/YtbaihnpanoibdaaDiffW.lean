/- Diff, the program's: the walk. -/
import Derived.Test.YtbaihnpanoibdaaWriter
import Derived.Test.YtbaihnpanoibdaaTwice2
namespace Go.Proofs.Ytbaihnpanoibdaa.Q
open Go.RowKit Go.Proofs.YtbaihnpanoibdaaW.PrintWords Go.Proofs.YtbaihnpanoibdaaW.PrintLast Go.Proofs.YtbaihnpanoibdaaW.PrintMore Go.Proofs.Ytbaihnpanoibdaa.Mem
set_option linter.unusedVariables false
set_option linter.unusedSimpArgs false

/-- What is left of a difference: these rests are to come, this is written. -/
def dl : Nat → List S36 → List S36 → List S38 → List S38
  | 0, A, B, ch => someF ch 2 A.length ++ B.map putC
  | n + 1, A, B, ch => match nx A B with
    | none => someF ch 2 A.length ++ B.map putC
    | some p => dl n (A.drop (p.1 + 1)) (B.drop (p.2 + 1)) (keptF (someF ch 2 p.1 ++ (B.take p.2).map putC) (rd_T36 A (p.1 : Int)) (rd_T36 B (p.2 : Int)))
/-- A list of changes that are small enough. -/
structure Small (ch : List S38) (i k : Nat) : Prop where
  len : ch.length ≤ i + k
  num : ∀ c ∈ ch, 0 ≤ c.f1 ∧ c.f1 ≤ i
theorem someF_len (ch : List S38) (kind n : Int) : (someF ch kind n).length ≤ ch.length + (if n = 0 then 0 else 1) := by
  unfold someF
  split
  · simp
  · split
    · split
      · simp only [List.length_append, List.length_dropLast, List.length_singleton]; omega
      · simp
    · simp
theorem someF_num {ch : List S38} {kind n : Int} {i : Nat} (h : ∀ c ∈ ch, 0 ≤ c.f1 ∧ c.f1 ≤ i) (hn : 0 ≤ n) : ∀ c ∈ someF ch kind n, 0 ≤ c.f1 ∧ c.f1 ≤ i + n := by
  intro c hc
  unfold someF at hc
  split at hc
  · have := h c hc; omega
  · split at hc
    · rename_i x hx
      split at hc
      · rcases List.mem_append.1 hc with hc | hc
        · have := h c (List.dropLast_subset _ hc); omega
        · simp only [List.mem_singleton] at hc
          subst hc
          have := h x (List.mem_of_getLast? hx)
          simp only; omega
      · rcases List.mem_append.1 hc with hc | hc
        · have := h c hc; omega
        · simp only [List.mem_singleton] at hc
          subst hc
          simp only; omega
    · rcases List.mem_append.1 hc with hc | hc
      · have := h c hc; omega
      · simp only [List.mem_singleton] at hc
        subst hc
        simp only; omega
theorem Small.last {ch : List S38} {i k : Nat} (h : Small ch i k) (hi : i ≤ 1000000) : ∀ x, ch.getLast? = some x → 0 ≤ x.f1 ∧ x.f1 ≤ 1000000 := fun x hx => by
  have := h.num x (List.mem_of_getLast? hx); omega
theorem Small.drop {ch : List S38} {i k : Nat} (h : Small ch i k) (s : Nat) : Small (someF ch 2 (s : Int)) (i + s) k :=
  ⟨by have h1 := someF_len ch 2 s; have := h.len; split at h1 <;> omega, fun c hc => by have := someF_num h.num (by omega) c hc; omega⟩
theorem Small.puts {ch : List S38} {i k : Nat} (h : Small ch i k) (ys : List S36) : Small (ch ++ ys.map putC) i (k + ys.length) :=
  ⟨by have := h.len; simp; omega, fun c hc => by
    rcases List.mem_append.1 hc with hc | hc
    · exact h.num c hc
    · obtain ⟨y, _, rfl⟩ := List.mem_map.1 hc
      simp only [putC]; omega⟩
theorem Small.kept {ch : List S38} {i k : Nat} (h : Small ch i k) (x y : S36) : Small (keptF ch x y) (i + 1) (k + 1) := by
  unfold keptF
  split
  · exact ⟨by have h1 := someF_len ch 1 1; have := h.len; split at h1 <;> omega, fun c hc => by have := someF_num h.num (by omega) c hc; omega⟩
  · exact ⟨by have := h.len; simp; omega, fun c hc => by
      rcases List.mem_append.1 hc with hc | hc
      · have := h.num c hc; omega
      · simp only [List.mem_singleton] at hc
        subst hc
        simp only; omega⟩
theorem dl_none {A B : List S36} (h : nx A B = none) : ∀ (n : Nat) (ch : List S38), dl n A B ch = someF ch 2 A.length ++ B.map putC
  | 0, _ => rfl
  | n + 1, ch => by rw [dl, h]
theorem rd_drop (l : List S36) (i s : Nat) : rd_T36 (l.drop i) (s : Int) = rd_T36 l ((i + s : Nat) : Int) := by
  unfold rd_T36
  rw [Int.toNat_natCast, Int.toNat_natCast, List.getD_eq_getElem?_getD, List.getD_eq_getElem?_getD, List.getElem?_drop]
def diff_Diff.f (l0 : List (S36)) (l1 : List (S36)) : Option ((List (S38)) × Int) :=
  if 300 < l0.length ∨ 300 < l1.length then some ([], 19) else if (dup l0 || dup l1) = true then some ([], 10) else some (dl l0.length l0 l1 [], 0)
set_option maxRecDepth 100000 in
set_option maxHeartbeats 8000000 in
theorem diff_Diff.calls (A0 : Option Addr) (c0 : Nat) (l0 : List (S36)) (A1 : Option Addr) (c1 : Nat) (l1 : List (S36)) (r1 : List (S38)) (r2 : Int) (w : World) (hr0 : Kd.C k36 w A0 l0.length l0) (hc0 : l0.length ≤ c0) (hr1 : Kd.C k36 w A1 l1.length l1) (hc1 : l1.length ≤ c1) (h : diff_Diff.f l0 l1 = some (r1, r2)) :
    Calls Try.prog 10 #[.slice A0 l0.length c0, .slice A1 l1.length c1] w fun e w' => ∃ v0_ : Value, e = .returned (.tuple #[v0_, .int .i64 r2]) ∧ Kd.R k38 38 w' w.heap.size (fun _ => True) v0_ r1 ∧ Below w.heap.size w w' := by
  have HA := Lib.hid hr0; have HB := Lib.hid hr1; have HCA := Lib.hid hc0; have HCB := Lib.hid hc1
  clear hr0 hr1 hc0 hc1
  unfold diff_Diff.f at h
  by_cases hbig : 300 < l0.length ∨ 300 < l1.length
  · rw [if_pos hbig] at h
    obtain ⟨rfl, rfl⟩ := Prod.mk.inj (Option.some.inj h)
    clear h
    by_cases h0 : 300 < l0.length
    · clear hbig
      go_enter Try.func10, Try.ntmps10
      go_wp2_with fail
      go_ret2
      exact ⟨_, rfl, Kd.R_nil _ _ _ _ _, Below.refl _ _⟩
    · have h1 : 300 < l1.length := hbig.resolve_left h0
      clear hbig
      go_enter Try.func10, Try.ntmps10
      go_wp2_with fail
      go_ret2
      exact ⟨_, rfl, Kd.R_nil _ _ _ _ _, Below.refl _ _⟩
  · rw [if_neg hbig] at h
    have ha : l0.length ≤ 300 := by omega
    have hb : l1.length ≤ 300 := by omega
    clear hbig
    by_cases hd : (dup l0 || dup l1) = true
    · rw [if_pos hd] at h
      obtain ⟨rfl, rfl⟩ := Prod.mk.inj (Option.some.inj h)
      clear h
      cases h0 : dup l0 with
      | true =>
        have H0 := Lib.hid h0
        clear hd h0
        go_enter Try.func10, Try.ntmps10
        go_wp2_with fail
        refine (twice_ok w A0 c0 l0 HA.out ha).mono ?_
        rintro e w1 ⟨rfl, b1⟩
        have B1 := Lib.hid b1
        rw [H0.out]
        clear b1
        go_wp2_with fail
        go_ret2
        exact ⟨_, rfl, Kd.R_nil _ _ _ _ _, B1.out⟩
      | false =>
        rw [h0, Bool.false_or] at hd
        have H0 := Lib.hid h0; have H1 := Lib.hid hd
        clear hd h0
        go_enter Try.func10, Try.ntmps10
        go_wp2_with fail
        refine (twice_ok w A0 c0 l0 HA.out ha).mono ?_
        rintro e w1 ⟨rfl, b1⟩
        have B1 := Lib.hid b1
        rw [H0.out]
        clear b1
        go_wp2_with fail
        refine (twice_ok w1 A1 c1 l1 (Kd.C_below HB.out B1.out) hb).mono ?_
        rintro e w2 ⟨rfl, b2⟩
        have B2 := Lib.hid (B1.out.trans (b2.mono B1.out.size))
        rw [H1.out]
        clear b2
        go_wp2_with fail
        go_ret2
        exact ⟨_, rfl, Kd.R_nil _ _ _ _ _, B2.out⟩
    · rw [if_neg hd] at h
      obtain ⟨h1, rfl⟩ := Prod.mk.inj (Option.some.inj h)
      have RR := Lib.hid h1
      obtain ⟨h0, h1⟩ : dup l0 = false ∧ dup l1 = false := by simpa using hd
      have H0 := Lib.hid h0; have H1 := Lib.hid h1
      have g0 : decide ((300 : Int) < (l0.length : Int)) = false := decide_eq_false (by omega)
      have g1 : decide ((300 : Int) < (l1.length : Int)) = false := decide_eq_false (by omega)
      clear h hd h0 h1
      go_enter Try.func10, Try.ntmps10
      go_wp2_with fail
      refine (twice_ok w A0 c0 l0 HA.out ha).mono ?_
      rintro e w1 ⟨rfl, b1⟩
      have B1 := Lib.hid b1
      rw [H0.out]
      clear b1
      go_wp2_with fail
      refine (twice_ok w1 A1 c1 l1 (Kd.C_below HB.out B1.out) hb).mono ?_
      rintro e w2 ⟨rfl, b2⟩
      have B2 := Lib.hid (B1.out.trans (b2.mono B1.out.size))
      rw [H1.out]
      clear b2
      go_wp2_with fail
      refine (newTable_ok w2 A0 c0 l0 A1 c1 l1 (Kd.C_below HA.out B2.out) (Kd.C_below HB.out B2.out) ha hb).mono ?_
      rintro e w3 ⟨g, cap, rfl, b3, t3⟩
      have B3 := Lib.hid (B2.out.trans (b3.mono B2.out.size)); have T3 := Lib.hid t3
      clear b3 t3
      go_wp2_with fail
      obtain ⟨nn, hnn⟩ : ∃ nn, nn = (l0.length + 1) * (l1.length + 1) := ⟨_, rfl⟩
      rw [← hnn]
      obtain ⟨w4, e4⟩ : ∃ w4, w4 = (w3.alloc (.cells #[.slice (some ⟨g, 0, none⟩) nn cap, .int .i64 ((l1.length : Int) + 1)] 53)).alloc (.cells #[.slice none 0 0] 57) := ⟨_, rfl⟩
      have b4 : Below w3.heap.size w3 w4 := by rw [e4]; exact below_alloc (below_alloc (Below.refl _ _) _) _
      have htb : w4.heap[w3.heap.size]? = some (.cells #[.slice (some ⟨g, 0, none⟩) nn cap, .int .i64 ((l1.length : Int) + 1)] 53 (0, 0)) := by rw [e4]; exact (Below.heap_alloc _ _ _ (by simp)).trans (heap_alloc_new w3 _)
      have hwr : w4.heap[w3.heap.size + 1]? = some (.cells #[.slice none 0 0] 57 (0, 0)) := by
        rw [e4]
        have := heap_alloc_new (w3.alloc (.cells #[.slice (some ⟨g, 0, none⟩) nn cap, .int .i64 ((l1.length : Int) + 1)] 53)) (.cells #[.slice none 0 0] 57)
        simp only [World.size_alloc] at this
        exact this
      rw [← e4]
      have B4 := Lib.hid (B3.out.trans (b4.mono B3.out.size)); have T4 := Lib.hid (T3.out.below b4); have HTB := Lib.hid htb; have HNN := Lib.hid hnn; have S3 := Lib.hid B3.out.size
      have hgl : g < w3.heap.size := World.block_lt_of_cell? _ _ (T3.out 0 0 (by omega) (by omega))
      have W4 : Hid (WrAt w4 (w3.heap.size + 1) (w3.heap.size + 1) []) := Lib.hid ⟨⟨none, 0, hwr, Kd.R_nil _ _ _ _ _⟩, Nat.le_refl _⟩
      clear e4 b4 htb hwr hnn
      go_loopw [8, 9] (fun si sk wr => ∃ (i k n : Nat) (ch : List S38), i ≤ l0.length ∧ k ≤ l1.length ∧ l0.length ≤ i + n ∧ si = .int .i64 i ∧ sk = .int .i64 k ∧ Small ch i k ∧ WrAt wr (w3.heap.size + 1) (w3.heap.size + 1) ch ∧ dl n (l0.drop i) (l1.drop k) ch = r1 ∧ Below (w3.heap.size + 1) w4 wr) (fun si _ _ => l0.length - (intOf si).toNat)
      case atStart => exact ⟨0, 0, l0.length, [], by omega, by omega, by omega, rfl, rfl, ⟨by simp, fun _ h => by cases h⟩, W4.out, RR.out, Below.refl _ _⟩
      case round =>
        obtain ⟨i, k, n, ch, hi, hk, hin, rfl, rfl, hsm, hwm, hdl, hbm⟩ := hrel
        have belr : Below w.heap.size w wr := B4.out.trans (hbm.mono (by have := S3.out; omega))
        have hTr : TabIs wr g l0 l1 := fun i' k' hi' hk' => by
          rw [← T4.out i' k' hi' hk']
          exact hbm.cell (p := ⟨g, i' * (l1.length + 1) + k', none⟩) (show g < w3.heap.size + 1 by omega)
        have tb := (hbm.block w3.heap.size (by omega)).trans HTB.out
        have t0 := blk_cell tb 0; have t1 := blk_cell tb 1
        simp at t0 t1
        have SM := Lib.hid hsm; have WM := Lib.hid hwm; have DL := Lib.hid hdl; have BM := Lib.hid hbm; have BR := Lib.hid belr; have TR := Lib.hid hTr
        clear hsm hwm hdl hbm belr hTr tb
        go_wp2_with fail
        refine (next_ok wr g cap nn A0 c0 l0 A1 c1 l1 i k hi hk (Kd.C_below HA.out BR.out) (Kd.C_below HB.out BR.out) HCB.out ha hb TR.out HNN.out).mono ?_
        rintro e w5 ⟨v, rfl, nv, b5⟩
        have BM5 := Lib.hid (BM.out.trans (b5.mono (Nat.le_trans WM.out.own (Nat.le_of_lt WM.out.lt)))); have WM5 := Lib.hid (WM.out.below b5)
        clear b5
        unfold NextIs at nv
        cases hx : nx (l0.drop i) (l1.drop k) with
        | none =>
          rw [hx] at nv
          simp only at nv
          subst nv
          have HX := Lib.hid hx
          clear hx t0 t1
          obtain ⟨B', ys, hys, hcut, hC', hl'⟩ := cutM A1 c1 l1 k l1.length hk (Nat.le_refl _) HCB.out
          have HYS := Lib.hid hys; have HC' := Lib.hid hC'
          clear hys hC' hl'
          have hyl : ys.length ≤ 300 := by rw [HYS.out, List.length_drop, List.length_take]; omega
          go_wp2_with fail
          refine (some_ok w5 _ _ ch WM5.out (by have := SM.out.len; omega) 2 _ (by omega) (by omega) (SM.out.last (by omega))).mono ?_
          rintro e w6 ⟨rfl, wr6, b6⟩
          have WM6 := Lib.hid wr6; have BM6 := Lib.hid (BM5.out.trans b6)
          clear wr6 b6
          go_wp2_with fail
          refine (puts_ok w w6 _ _ _ WM6.out B' (c1 - k) ys (HC'.out w HB.out) (by have := S3.out; omega) (B4.out.trans (BM6.out.mono (by have := S3.out; omega))) (by have h1 := someF_len ch 2 ((l0.length : Int) - (i : Int)); have := SM.out.len; split at h1 <;> omega)).mono ?_
          rintro e w7 ⟨rfl, wr7, b7⟩
          have WM7 := Lib.hid wr7; have BM7 := Lib.hid (BM6.out.trans b7)
          clear wr7 b7
          obtain ⟨A7, c7, hb7, hr7⟩ := WM7.out.mem
          have d7 := blk_cell hb7 0
          simp at d7
          have HR7 := Lib.hid hr7
          clear hb7 hr7
          have ed : someF ch 2 ((l0.length : Int) - (i : Int)) ++ ys.map putC = r1 := by
            rw [← DL.out, dl_none HX.out, HYS.out, List.take_length, List.length_drop, show ((l0.length - i : Nat) : Int) = (l0.length : Int) - (i : Int) by omega]
          have ED := Lib.hid ed
          clear ed
          go_wp2_with fail
          refine bodyPost_ret (v := .tuple #[.slice A7 (someF ch 2 ((l0.length : Int) - (i : Int)) ++ ys.map putC).length c7, .int .i64 0]) (by simp [results, Try.f10, go_sem]) rfl ⟨_, rfl, ?_, B4.out.trans (BM7.out.mono (by have := S3.out; omega))⟩
          have h9 := HR7.out
          rw [ED.out] at h9 ⊢
          exact Kd.R_mono (Kd.R_lower h9 (by have := S3.out; omega)) (fun _ _ => trivial)
        | some q =>
          rw [hx] at nv
          simp only at nv
          obtain ⟨hs1, hj1, _, _⟩ := nx_lt hx
          rw [List.length_drop] at hs1 hj1
          obtain ⟨X, hX⟩ : ∃ X, X = i + q.1 := ⟨_, rfl⟩
          obtain ⟨Y, hY⟩ : ∃ Y, Y = k + q.2 := ⟨_, rfl⟩
          rw [← hX, ← hY] at nv
          subst nv
          have hXl : X < l0.length := by omega
          have hYl : Y < l1.length := by omega
          have hXi : i ≤ X := by omega
          have hYk : k ≤ Y := by omega
          have HX := Lib.hid hx; have HXX := Lib.hid hX; have HYY := Lib.hid hY
          clear hx t0 t1 hX hY hs1 hj1
          obtain ⟨B', ys, hys, hcut, hC', hl'⟩ := cutM A1 c1 l1 k Y hYk (Nat.le_of_lt hYl) HCB.out
          have HYS := Lib.hid hys; have HC' := Lib.hid hC'
          clear hys hC' hl'
          have hyl : ys.length = Y - k := by rw [HYS.out, List.length_drop, List.length_take]; omega
          have hyl2 : ys.length ≤ 300 := by omega
          have HYL := Lib.hid hyl
          clear hyl
          go_wp2_with fail
          refine (some_ok w5 _ _ ch WM5.out (by have := SM.out.len; omega) 2 _ (by omega) (by omega) (SM.out.last (by omega))).mono ?_
          rintro e w6 ⟨rfl, wr6, b6⟩
          have WM6 := Lib.hid wr6; have BM6 := Lib.hid (BM5.out.trans b6)
          clear wr6 b6
          go_wp2_with fail
          refine (puts_ok w w6 _ _ _ WM6.out B' (c1 - k) ys (HC'.out w HB.out) (by have := S3.out; omega) (B4.out.trans (BM6.out.mono (by have := S3.out; omega))) (by have h1 := someF_len ch 2 ((X : Int) - (i : Int)); have := SM.out.len; split at h1 <;> omega)).mono ?_
          rintro e w7 ⟨rfl, wr7, b7⟩
          have WM7 := Lib.hid wr7; have BM7 := Lib.hid (BM6.out.trans b7)
          clear wr7 b7
          obtain ⟨adX, eX, x0, x1, x2, x3, x4⟩ := at_T36 (Kd.C_below HA.out (B4.out.trans (BM7.out.mono (by have := S3.out; omega)))) (X : Int) (by omega) (by omega)
          obtain ⟨adY, eY, y0, y1, y2, y3, y4⟩ := at_T36 (Kd.C_below HB.out (B4.out.trans (BM7.out.mono (by have := S3.out; omega)))) (Y : Int) (by omega) (by omega)
          rw [Int.toNat_natCast] at x0 x1 x2 x3 x4 y0 y1 y2 y3 y4
          have hle7 : (someF ch 2 ((X : Int) - (i : Int)) ++ ys.map putC).length < 100000 := by
            have h1 := someF_len ch 2 ((X : Int) - (i : Int)); have := SM.out.len
            rw [List.length_append, List.length_map]
            split at h1 <;> omega
          have sm7 : Small (someF ch 2 ((X : Int) - (i : Int)) ++ ys.map putC) X Y := by
            have e1 : ((X : Int) - (i : Int)) = ((X - i : Nat) : Int) := by omega
            rw [e1]
            have := (SM.out.drop (X - i)).puts ys
            rw [HYL.out, show i + (X - i) = X by omega, show k + (Y - k) = Y by omega] at this
            exact this
          have SC : Hid (∀ z, Below (w3.heap.size + 1) w7 z → z.cell? (adX.add (X * 5)) = some (.int .i64 (rd_T36 l0 (X : Int)).f0.f0) ∧ z.cell? ⟨(adX.add (X * 5)).block, (adX.add (X * 5)).off + 1, none⟩ = some (.int .i64 (rd_T36 l0 (X : Int)).f0.f1) ∧ z.cell? ⟨(adX.add (X * 5)).block, (adX.add (X * 5)).off + 2, none⟩ = some (.int .i64 (rd_T36 l0 (X : Int)).f1) ∧ z.cell? ⟨(adX.add (X * 5)).block, (adX.add (X * 5)).off + 3, none⟩ = some (.bool (rd_T36 l0 (X : Int)).f2) ∧ z.cell? ⟨(adX.add (X * 5)).block, (adX.add (X * 5)).off + 4, none⟩ = some (.string (rd_T36 l0 (X : Int)).f3) ∧ z.cell? (adY.add (Y * 5)) = some (.int .i64 (rd_T36 l1 (Y : Int)).f0.f0) ∧ z.cell? ⟨(adY.add (Y * 5)).block, (adY.add (Y * 5)).off + 1, none⟩ = some (.int .i64 (rd_T36 l1 (Y : Int)).f0.f1) ∧ z.cell? ⟨(adY.add (Y * 5)).block, (adY.add (Y * 5)).off + 2, none⟩ = some (.int .i64 (rd_T36 l1 (Y : Int)).f1) ∧ z.cell? ⟨(adY.add (Y * 5)).block, (adY.add (Y * 5)).off + 3, none⟩ = some (.bool (rd_T36 l1 (Y : Int)).f2) ∧ z.cell? ⟨(adY.add (Y * 5)).block, (adY.add (Y * 5)).off + 4, none⟩ = some (.string (rd_T36 l1 (Y : Int)).f3)) := Lib.hid (fun z hz => by
            have hX2 : (adX.add (X * 5)).block < w3.heap.size + 1 := by
              obtain ⟨ad2, e2, z0, _⟩ := at_T36 HA.out (X : Int) (by omega) (by omega)
              rw [eX] at e2; cases e2
              rw [Int.toNat_natCast] at z0
              have := World.block_lt_of_cell? _ _ z0
              have := S3.out; omega
            have hY2 : (adY.add (Y * 5)).block < w3.heap.size + 1 := by
              obtain ⟨ad2, e2, z0, _⟩ := at_T36 HB.out (Y : Int) (by omega) (by omega)
              rw [eY] at e2; cases e2
              rw [Int.toNat_natCast] at z0
              have := World.block_lt_of_cell? _ _ z0
              have := S3.out; omega
            exact ⟨(hz.cell (p := adX.add (X * 5)) hX2).trans x0, (hz.cell (p := ⟨_, _, none⟩) hX2).trans x1, (hz.cell (p := ⟨_, _, none⟩) hX2).trans x2, (hz.cell (p := ⟨_, _, none⟩) hX2).trans x3, (hz.cell (p := ⟨_, _, none⟩) hX2).trans x4, (hz.cell (p := adY.add (Y * 5)) hY2).trans y0, (hz.cell (p := ⟨_, _, none⟩) hY2).trans y1, (hz.cell (p := ⟨_, _, none⟩) hY2).trans y2, (hz.cell (p := ⟨_, _, none⟩) hY2).trans y3, (hz.cell (p := ⟨_, _, none⟩) hY2).trans y4⟩)
          have HLE7 := Lib.hid hle7; have SM7 := Lib.hid sm7
          have D0 := Lib.hid (below_drew1 (Below.refl (w3.heap.size + 1) w7))
          have W0 := Lib.hid (WM7.out.below (below_drew1 (Below.refl w7.heap.size w7)))
          subst eX
          subst eY
          clear hle7 sm7 x0 x1 x2 x3 x4 y0 y1 y2 y3 y4
          have nX : (0 : Int) ≤ (X : Int) := by omega
          have nX' : (X : Int) < (l0.length : Int) := by omega
          have nY : (0 : Int) ≤ (Y : Int) := by omega
          have nY' : (Y : Int) < (l1.length : Int) := by omega
          go_wp2_with fail
          go_region_held3 (fun w' => w'.cell? (adX.add (X * 5)) = some (.int .i64 (rd_T36 l0 (X : Int)).f0.f0) ∧ w'.cell? ⟨(adX.add (X * 5)).block, (adX.add (X * 5)).off + 1, none⟩ = some (.int .i64 (rd_T36 l0 (X : Int)).f0.f1) ∧ w'.cell? ⟨(adX.add (X * 5)).block, (adX.add (X * 5)).off + 2, none⟩ = some (.int .i64 (rd_T36 l0 (X : Int)).f1) ∧ w'.cell? ⟨(adX.add (X * 5)).block, (adX.add (X * 5)).off + 3, none⟩ = some (.bool (rd_T36 l0 (X : Int)).f2) ∧ w'.cell? ⟨(adX.add (X * 5)).block, (adX.add (X * 5)).off + 4, none⟩ = some (.string (rd_T36 l0 (X : Int)).f3) ∧ w'.cell? (adY.add (Y * 5)) = some (.int .i64 (rd_T36 l1 (Y : Int)).f0.f0) ∧ w'.cell? ⟨(adY.add (Y * 5)).block, (adY.add (Y * 5)).off + 1, none⟩ = some (.int .i64 (rd_T36 l1 (Y : Int)).f0.f1) ∧ w'.cell? ⟨(adY.add (Y * 5)).block, (adY.add (Y * 5)).off + 2, none⟩ = some (.int .i64 (rd_T36 l1 (Y : Int)).f1) ∧ w'.cell? ⟨(adY.add (Y * 5)).block, (adY.add (Y * 5)).off + 3, none⟩ = some (.bool (rd_T36 l1 (Y : Int)).f2) ∧ w'.cell? ⟨(adY.add (Y * 5)).block, (adY.add (Y * 5)).off + 4, none⟩ = some (.string (rd_T36 l1 (Y : Int)).f3))
            (first | exact SC.out _ D8.out | exact SC.out _ D0.out)
            (first
              | (go_at_call 25; refine (kept_ok _ _ _ _ W0.out HLE7.out (SM7.out.last (by omega)) (rd_T36 l0 (X : Int)) (rd_T36 l1 (Y : Int))).mono ?_; rintro e w8 ⟨rfl, wr8, b8⟩; have WM8 := Lib.hid wr8; have D8 := Lib.hid (D0.out.trans b8); clear wr8 b8)
              | fail)
          obtain ⟨n', rfl⟩ : ∃ n', n = n' + 1 := ⟨n - 1, by omega⟩
          have dl8 : dl n' (l0.drop (X + 1)) (l1.drop (Y + 1)) (keptF (someF ch 2 ((X : Int) - (i : Int)) ++ ys.map putC) (rd_T36 l0 (X : Int)) (rd_T36 l1 (Y : Int))) = r1 := by
            have h1 := DL.out
            rw [dl, HX.out] at h1
            simp only at h1
            rw [List.drop_drop, List.drop_drop, rd_drop, rd_drop, show i + (q.1 + 1) = X + 1 by rw [HXX.out]; omega, show k + (q.2 + 1) = Y + 1 by rw [HYY.out]; omega, ← HXX.out, ← HYY.out] at h1
            rw [← h1, HYS.out, List.drop_take, show Y - k = q.2 by rw [HYY.out]; omega, show ((X : Int) - (i : Int)) = (q.1 : Int) by rw [HXX.out]; omega]
          have DL8 := Lib.hid dl8
          clear dl8
          go_wp2_with fail
          exact ⟨⟨X + 1, Y + 1, n', _, by omega, by omega, by omega, by go_num, by go_num, SM7.out.kept _ _, WM8.out, DL8.out, BM7.out.trans D8.out⟩, by simp [intOf]; omega⟩
end Go.Proofs.Ytbaihnpanoibdaa.Q
