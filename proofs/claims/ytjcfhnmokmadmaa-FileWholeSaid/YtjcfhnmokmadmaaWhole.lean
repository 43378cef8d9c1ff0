/- FileWhole, for every row of rows of bytes: without crashes a file has all that was appended, in order. No condition beyond the row's own. -/
import Derived.Test.YtjcfhnmokmadmaaAlive
import Derived.Test.YtjcfhnmokmadmaaOpens
import Derived.Test.YtjcfhnmokmadmaaPFileWholex1
namespace Go.Proofs.Ytjcfhnmokmadmaa.Whole
set_option linter.unusedVariables false
set_option linter.unusedSimpArgs false
open Go.RowKit Go.Proofs.YtjcfhnmokmadmaaW.PrintWords Go.Proofs.YtjcfhnmokmadmaaW.PrintLast Go.Proofs.YtjcfhnmokmadmaaW.PrintMore Go.Proofs.Ytjcfhnmokmadmaa.Mem Go.Proofs.Ytjcfhnmokmadmaa.File Go.Proofs.Ytjcfhnmokmadmaa.PFileWhole
attribute [local go_sem] max2_int min2_int max_two min_two

theorem w64 {x : Int} (_ : -9223372036854775808 ≤ x) (_ : x ≤ 9223372036854775807) : wrap64 x = x := by unfold wrap64; omega

/-! ### The same bytes -/
theorem same_loop (l : List Int) (hl : l.length ≤ 140737488351232) : ∀ (d k i : Nat), i + d = l.length → d + 1 ≤ k → offshootref00_SameBytes.l0 k l l i = some true
  | 0, k, i, hd, hk => by
    obtain ⟨k, rfl⟩ : ∃ m, k = m + 1 := ⟨k - 1, by omega⟩
    simp only [offshootref00_SameBytes.l0]
    rw [if_neg (by omega)]
  | d + 1, k, i, hd, hk => by
    obtain ⟨k, rfl⟩ : ∃ m, k = m + 1 := ⟨k - 1, by omega⟩
    simp only [offshootref00_SameBytes.l0]
    rw [if_pos (by omega), if_pos (by omega)]
    simp only [if_true]
    rw [show wrap64 ((i : Int) + 1) = ((i + 1 : Nat) : Int) from by rw [w64] <;> omega]
    try rw [if_pos (by omega)]
    exact same_loop l hl d k (i + 1) (by omega) (by omega)
theorem same_f (l : List Int) (hl : l.length ≤ 140737488351232) : offshootref00_SameBytes.f (l.length + 1) l l = some true := by
  unfold offshootref00_SameBytes.f
  rw [if_pos rfl]
  exact same_loop l hl l.length _ 0 (by omega) (by omega)

/-! ### What they weigh -/
def total (l : List (List Int)) : Int := (l.map fun x => (1 + x.length : Int)).sum
theorem weigh_loop (l : List (List Int)) (hl : l.length ≤ 20000) (hx : ∀ x ∈ l, x.length ≤ 140737488351232) : ∀ (d k i : Nat) (n : Int), i + d = l.length → d + 1 ≤ k → 0 ≤ n → n ≤ 140737488351232 + 20001 →
    ∃ r, offshootref00_Weigh.l0 k l 20000 n i = some r ∧ (r ≤ 20000 → n + total (l.drop i) ≤ 20000)
  | 0, k, i, n, hd, hk, hn, hn' => by
    obtain ⟨k, rfl⟩ : ∃ m, k = m + 1 := ⟨k - 1, by omega⟩
    refine ⟨n, ?_, fun h => ?_⟩
    · simp only [offshootref00_Weigh.l0]
      rw [if_neg (by omega)]
    · rw [List.drop_eq_nil_of_le (by omega)]; simpa [total] using h
  | d + 1, k, i, n, hd, hk, hn, hn' => by
    obtain ⟨k, rfl⟩ : ∃ m, k = m + 1 := ⟨k - 1, by omega⟩
    have hi : i < l.length := by omega
    have hr : rd_L1 l i = l[i] := by unfold rd_L1; rw [Int.toNat_natCast, List.getD_eq_getElem?_getD, List.getElem?_eq_getElem hi]; rfl
    have hxi := hx _ (List.getElem_mem hi)
    simp only [offshootref00_Weigh.l0]
    rw [if_pos (by omega)]
    by_cases c : n ≤ 20000
    · rw [if_pos c, if_pos (by omega), hr, show wrap64 ((i : Int) + 1) = ((i + 1 : Nat) : Int) from by rw [w64] <;> omega, w64 (x := 1 + (l[i].length : Int)) (by omega) (by omega), w64 (by omega) (by omega)]
      obtain ⟨r, h1, h2⟩ := weigh_loop l hl hx d k (i + 1) (n + (1 + (l[i].length : Int))) (by omega) (by omega) (by omega) (by omega)
      refine ⟨r, h1, fun h => ?_⟩
      have := h2 h
      rw [List.drop_eq_getElem_cons hi]
      simp only [total, List.map_cons, List.sum_cons] at this ⊢
      omega
    · rw [if_neg c]
      exact ⟨n, rfl, fun h => absurd h c⟩
theorem weigh_f (l : List (List Int)) (hx : ∀ x ∈ l, x.length ≤ 140737488351232) (hl : l.length ≤ 140737488351232) : ∃ k r, offshootref00_Weigh.f k l 20000 = some r ∧ (r ≤ 20000 → total l ≤ 20000) := by
  unfold offshootref00_Weigh.f
  by_cases c : (l.length : Int) > 20000
  · exact ⟨0, _, by rw [if_pos c], fun h => by rw [w64] at h <;> omega⟩
  · obtain ⟨r, h1, h2⟩ := weigh_loop l (by omega) hx l.length (l.length + 1) 0 0 (by omega) (by omega) (by omega) (by omega)
    exact ⟨l.length + 1, r, by rw [if_neg c]; exact h1, fun h => by simpa using h2 h⟩
theorem total_nonneg : ∀ (l : List (List Int)), 0 ≤ total l
  | [] => by simp [total]
  | a :: l => by
    have := total_nonneg l
    simp only [total, List.map_cons, List.sum_cons] at this ⊢
    omega
theorem total_flat : ∀ (l : List (List Int)), (l.flatten.length : Int) + l.length = total l
  | [] => by simp [total]
  | a :: l => by
    have := total_flat l
    simp only [total, List.map_cons, List.sum_cons, List.flatten_cons, List.length_append, List.length_cons] at this ⊢
    omega
theorem flat_take (l : List (List Int)) (k : Nat) (h : k < l.length) : (l.take (k + 1)).flatten = (l.take k).flatten ++ l[k] := by
  rw [List.take_succ_eq_append_getElem h, List.flatten_append]; simp
theorem flat_le (l : List (List Int)) (k : Nat) : (l.take k).flatten.length ≤ l.flatten.length := by
  conv => rhs; rw [← List.take_append_drop k l, List.flatten_append, List.length_append]
  omega

/-- The file, the bytes beside it, and what came in. -/
def Inv (w0 w' : World) (b : Nat) (v : Value) (ds es : List Int) : Prop :=
  ∃ F G sy, FileAt w' F b ds sy 1048576 ∧ (Kd.int .u8).R 5 w' w0.heap.size G v es ∧ (∀ k, F k → w0.heap.size ≤ k) ∧ (∀ k, F k → ¬ G k) ∧ Below w0.heap.size w0 w'

theorem Inv.file {w0 w w1 : World} {b : Nat} {v : Value} {ds' es : List Int} {F G : Nat → Prop} {sy : Int} (hr : (Kd.int .u8).R 5 w w0.heap.size G v es) (hF : ∀ k, F k → w0.heap.size ≤ k) (hFG : ∀ k, F k → ¬ G k) (hB : Below w0.heap.size w0 w)
    (hf : FileAt w1 (fun k => F k ∨ w.heap.size ≤ k) b ds' sy 1048576) (hk : Keep F w w1) : Inv w0 w1 b v ds' es :=
  ⟨fun k => F k ∨ w.heap.size ≤ k, fun k => G k ∧ k < w.heap.size, sy, hf, Kd.R_mono (R_kept (Kd.R_bound hr) hk (fun k hk _ hf => hFG k hf hk.1)) (fun k hk => ⟨hk.1, hk.2.2.1⟩), fun k hk => hk.elim (hF k) (fun h => Nat.le_trans hB.size h),
    fun k hk hg => hk.elim (fun h => hFG k h hg.1) (fun h => by omega), hB.trans (hk.below (fun i hi h => by have := hF i h; omega) hB.size)⟩
theorem Inv.more {w0 w w1 : World} {b : Nat} {v v1 : Value} {ds es es' : List Int} {F G : Nat → Prop} {sy : Int} (hf : FileAt w F b ds sy 1048576) (hr : (Kd.int .u8).R 5 w w0.heap.size G v es) (hF : ∀ k, F k → w0.heap.size ≤ k) (hFG : ∀ k, F k → ¬ G k) (_hB : Below w0.heap.size w0 w)
    (hr1 : (Kd.int .u8).R 5 w1 w0.heap.size (fun k => G k ∨ w.heap.size ≤ k) v1 es') (hb1 : Below w0.heap.size w0 w1) (hg : w.grownBy w1 v.ownBlock) : Inv w0 w1 b v1 ds es' :=
  ⟨fun k => F k ∧ k < w.heap.size, fun k => G k ∨ w.heap.size ≤ k, sy,
    (hf.mono (G := fun k => F k ∧ k < w.heap.size) (fun k h1 h2 => ⟨h1, h2⟩)).kept (Keep.of_grown (F := fun k => G k) hg (fun i hi => hr.1 i hi)) (fun k hk _ hg => hFG k hk.1 hg), hr1, fun k hk => hF k hk.1,
    fun k hk hg => hg.elim (fun h => hFG k hk.1 h) (fun h => by omega), hb1⟩
theorem getD_at (xs : List (List Int)) (k : Nat) (h : k < xs.length) : rd_L1 xs (k : Int) = xs[k] := by unfold rd_L1; rw [Int.toNat_natCast, List.getD_eq_getElem?_getD, List.getElem?_eq_getElem h]; rfl

set_option maxHeartbeats 1000000 in
set_option maxRecDepth 100000 in
theorem walk (w : World) (A : Option Addr) (c : Nat) (xs : List (List Int)) (hC : (Kd.slice 5 (Kd.int .u8)).C w A xs.length xs) (hc : xs.length ≤ c) (hx : ∀ x ∈ xs, x.length ≤ 140737488351232 ∧ Byte x) (hl : xs.length ≤ 140737488351232) :
    Calls Try.prog 3 #[.slice A xs.length c] w fun e w' => e = .returned (.bool true) ∧ Below w.heap.size w w' := by
  obtain ⟨kw, r, hw1, hw2⟩ := weigh_f xs (fun x h => (hx x h).1) hl
  have HC := Lib.hid hC; have HX := Lib.hid hx; have HW1 := Lib.hid hw1; have HW2 := Lib.hid hw2; have Hc := Lib.hid hc
  clear hC hx hw1 hw2 hc
  by_cases cr : r ≤ 20000
  · have g0 : decide (20000 < r) = false := decide_eq_false (by omega)
    have HCR := Lib.hid cr
    clear cr
    go_enter Try.func3, Try.ntmps3
    go_wp2_with fail
    refine (alive_ok w).mono ?_
    rintro e w1 ⟨rfl, b1⟩
    have B1 := Lib.hid b1; clear b1
    go_wp2_with fail
    refine (offshootref00_Weigh.calls kw A c xs 20000 r w1 (Kd.C_below HC.out B1.out) Hc.out HW1.out).mono ?_
    rintro e w2 ⟨rfl, ⟨k2, rfl⟩⟩
    go_wp2_with fail
    refine (new_ok 1048576 _ (by omega) (by omega)).mono ?_
    rintro e w3 ⟨b, rfl, f3, b3⟩
    have F3 := Lib.hid f3; have B3 := Lib.hid b3; clear f3 b3
    go_wp2_with ((with_reducible refine gate_dst (N := 22) rfl ?_)
                 refine Kd.R_lit (Kd.int .u8) _ 5 ?hg (N := 22) ?hd (xs := ([] : List Int)) (inner := []) (ok := fun _ => True) (okp := fun _ => True) ?hr ?hp (fun _ hk => hk) trivial (Below.refl _ _) (Nat.le_refl _) (by simp) ?_
                 (case hd => rfl)
                 (case hg => rfl)
                 (case hr => first | (go_simp; done) | (go_simp; rfl))
                 (case hp => exact (Reps.none _ _))
                 intro v5 w4 ho4 hb4 hg_ hnew_
                 have HO4 := Lib.hid ho4; have B4 := Lib.hid hb4
                 clear hg_ hnew_ ho4 hb4)
    go_loopw [5, 6] (fun v i wr => ∃ k : Nat, k ≤ xs.length ∧ i = .int .i64 k ∧ Inv w wr b v ((xs.take k).flatten) ((xs.take k).flatten)) (fun _ i _ => xs.length - (intOf i).toNat)
    case atStart =>
      refine ⟨0, Nat.zero_le _, rfl, ?_⟩
      have g3 : Below w.heap.size w w3 := (pw_below_drewN B1.out _).trans (B3.out.mono (by have := B1.out.size; simpa using this))
      exact ⟨fun k => (w1.drewN k2).heap.size ≤ k ∧ k < w3.heap.size, fun k => w3.heap.size ≤ k, 0, (F3.out.mono (fun k h1 h2 => ⟨h1, h2⟩)).kept (G := fun _ => False) (Keep.of_below B4.out (fun i h1 h2 => by omega)) (fun _ _ _ h => h),
        Kd.R_mono (Kd.R_lower (Kd.R_bound HO4.out) g3.size) (fun k hk => hk.2.1), fun k hk => by have := B1.out.size; have h := hk.1; simp at h; omega, fun k hk h => by have := hk.2; omega, g3.trans (B4.out.mono g3.size)⟩
    case round =>
      obtain ⟨k, hk, rfl, hinv⟩ := hrel
      by_cases hlt : k < xs.length
      · obtain ⟨F, G, sy, hf, hr, hF, hFG, hB⟩ := hinv
        obtain ⟨ad, A0, c0, rfl, hcw, hc0, hCr⟩ := at_L1 HC.out (k : Int) (by omega) (by omega)
        rw [getD_at xs k hlt] at hcw hCr
        have hcw : w.cell? (ad.add k) = some (.slice A0 xs[k].length c0) := hcw
        have hcell : ∀ W : World, Below w.heap.size w W → W.cell? (ad.add k) = some (.slice A0 xs[k].length c0) := fun W hW => (hW.cell (World.block_lt_of_cell? w _ hcw)).trans hcw
        have htot : ((xs.take k).flatten.length : Int) + xs[k].length ≤ 20000 := by
          have h1 := total_flat xs
          have h2 := HW2.out HCR.out
          have h3 := flat_le xs (k + 1)
          rw [flat_take xs k hlt, List.length_append] at h3
          omega
        have hxk := HX.out _ (List.getElem_mem hlt)
        have hft := flat_take xs k hlt
        have h1 := hcell wr hB
        have HH := Lib.hid (And.intro hf (And.intro hr (And.intro hF (And.intro hFG hB))))
        have HCR' := Lib.hid hCr; have HXK := Lib.hid hxk; have HT := Lib.hid htot; have HCL := Lib.hid hcell; have HFT := Lib.hid hft
        clear hf hr hF hFG hB hCr hxk htot hc0 hcell hcw hft
        by_cases hp : (bits .and .i64 (k : Int) 1 == 0) = true
        · go_wp2_with fail
          refine (append_ok HH.out.1 A0 _ c0 xs[k] HXK.out.2 (Kd.C_below HCR'.out HH.out.2.2.2.2) (by have := HT.out; omega)).mono ?_
          rintro e w5 ⟨rfl, f5, k5⟩
          have i5 := Inv.file HH.out.2.1 HH.out.2.2.1 HH.out.2.2.2.1 HH.out.2.2.2.2 f5 k5
          clear f5 k5 h1
          obtain ⟨F5, G5, s5, f5, r5, hF5, hFG5, hB5⟩ := i5
          have H5 := Lib.hid (And.intro f5 (And.intro r5 (And.intro hF5 (And.intro hFG5 hB5))))
          clear f5 r5 hF5 hFG5 hB5
          go_wp2_with fail
          refine (sync_ok H5.out.1).mono ?_
          rintro e w6 ⟨rfl, f6, k6⟩
          obtain ⟨F6, G6, s6, f6, r6, hF6, hFG6, hB6⟩ := Inv.file H5.out.2.1 H5.out.2.2.1 H5.out.2.2.2.1 H5.out.2.2.2.2 (f6.mono (fun k h _ => .inl h)) k6
          clear k6
          have h1 := HCL.out w6 hB6
          have H6 := Lib.hid (And.intro f6 (And.intro r6 (And.intro hF6 (And.intro hFG6 hB6))))
          clear f6 r6 hF6 hFG6 hB6
          go_wp2_with (at_builtin; go_loud (refine Kd.R_append_row (Value.int .u8) 0 (w0 := w) w.heap.size rfl (.tmp 41) (.tmp 45) 29 5 _ 1 rfl Try.underlying29 info5 rfl (by decide) u5 ((xs.take k).flatten) xs[k] A0 xs[k].length c0 (fun k => G6 k ∨ w6.heap.size ≤ k) rfl rfl (fun k hk => .inr hk) (Kd.R_mono H6.out.2.1 (fun k hk => .inl hk)) (Kd.C_below HCR'.out H6.out.2.2.2.2) H6.out.2.2.2.2 H6.out.2.2.2.2.size (by have := HT.out; omega) ?_); intro v7 w7 hr7 hb7 hg7 hat7; have I7 := Lib.hid (Inv.more H6.out.1 H6.out.2.1 H6.out.2.2.1 H6.out.2.2.2.1 H6.out.2.2.2.2 hr7 hb7 hg7); clear hr7 hb7 hg7 hat7 h1)
          go_roundw
          case rel => exact ⟨k + 1, by omega, by go_num, by rw [HFT.out]; exact I7.out⟩
          case measure => simp [intOf]; omega
        · have hp : (bits .and .i64 (k : Int) 1 == 0) = false := by simpa using hp
          go_wp2_with fail
          refine (append_ok HH.out.1 A0 _ c0 xs[k] HXK.out.2 (Kd.C_below HCR'.out HH.out.2.2.2.2) (by have := HT.out; omega)).mono ?_
          rintro e w6 ⟨rfl, f6, k6⟩
          obtain ⟨F6, G6, s6, f6, r6, hF6, hFG6, hB6⟩ := Inv.file HH.out.2.1 HH.out.2.2.1 HH.out.2.2.2.1 HH.out.2.2.2.2 f6 k6
          clear k6 h1
          have h1 := HCL.out w6 hB6
          have H6 := Lib.hid (And.intro f6 (And.intro r6 (And.intro hF6 (And.intro hFG6 hB6))))
          clear f6 r6 hF6 hFG6 hB6
          go_wp2_with (at_builtin; go_loud (refine Kd.R_append_row (Value.int .u8) 0 (w0 := w) w.heap.size rfl (.tmp 41) (.tmp 45) 29 5 _ 1 rfl Try.underlying29 info5 rfl (by decide) u5 ((xs.take k).flatten) xs[k] A0 xs[k].length c0 (fun k => G6 k ∨ w6.heap.size ≤ k) rfl rfl (fun k hk => .inr hk) (Kd.R_mono H6.out.2.1 (fun k hk => .inl hk)) (Kd.C_below HCR'.out H6.out.2.2.2.2) H6.out.2.2.2.2 H6.out.2.2.2.2.size (by have := HT.out; omega) ?_); intro v7 w7 hr7 hb7 hg7 hat7; have I7 := Lib.hid (Inv.more H6.out.1 H6.out.2.1 H6.out.2.2.1 H6.out.2.2.2.1 H6.out.2.2.2.2 hr7 hb7 hg7); clear hr7 hb7 hg7 hat7 h1)
          go_roundw
          case rel => exact ⟨k + 1, by omega, by go_num, by rw [HFT.out]; exact I7.out⟩
          case measure => simp [intOf]; omega
      · obtain ⟨F, G, sy, hf, hr, hF, hFG, hB⟩ := hinv
        have htk : xs.take k = xs := List.take_of_length_le (by omega)
        rw [htk] at hf hr
        have hlen : xs.flatten.length ≤ 20000 := by
          have h1 := total_flat xs
          have h2 := HW2.out HCR.out
          omega
        obtain ⟨fl, hfl⟩ : ∃ fl, fl = xs.flatten := ⟨_, rfl⟩
        rw [← hfl] at hf hr hlen
        obtain ⟨A6, c6, ev⟩ := Kd.R_slice hr
        subst ev
        have HH := Lib.hid (And.intro hf (And.intro hr (And.intro hF (And.intro hFG hB))))
        have HLN := Lib.hid hlen
        clear hf hr hF hFG hB htk hlen hfl
        go_wp2_with fail
        refine (bytes_ok HH.out.1).mono ?_
        rintro e w7 ⟨v7, rfl, r7, b7⟩
        obtain ⟨A7, c7, ev7⟩ := Kd.R_slice r7
        subst ev7
        have R7 := Lib.hid r7; have B7 := Lib.hid b7
        clear r7 b7
        go_wp2_with fail
        refine (offshootref00_SameBytes.calls (fl.length + 1) A7 c7 fl A6 c6 fl true w7 (Kd.R_reads' R7.out).2.2 (Kd.R_reads' R7.out).2.1 (Kd.R_reads' (Kd.R_below HH.out.2.1 B7.out)).2.2 (Kd.R_reads' HH.out.2.1).2.1 (same_f _ (by have := HLN.out; omega))).mono ?_
        rintro e w8 ⟨rfl, ⟨k8, rfl⟩⟩
        have F8 := Lib.hid (HH.out.1.kept (G := fun _ => False) ((Keep.of_below B7.out (fun i h1 h2 => by omega)).trans (Keep.drewN _ w7 k8) (fun _ _ h => h)) (fun _ _ _ h => h))
        go_wp2_with fail
        refine (size_ok F8.out).mono ?_
        rintro e w9 ⟨rfl, rfl⟩
        go_wp2_with fail
        go_ret
        exact ⟨rfl, pw_below_drewN (HH.out.2.2.2.2.trans (B7.out.mono HH.out.2.2.2.2.size)) _⟩
  · have g0 : decide (20000 < r) = true := decide_eq_true (by omega)
    clear cr
    go_enter Try.func3, Try.ntmps3
    go_wp2_with fail
    refine (alive_ok w).mono ?_
    rintro e w1 ⟨rfl, b1⟩
    have B1 := Lib.hid b1; clear b1
    go_wp2_with fail
    refine (offshootref00_Weigh.calls kw A c xs 20000 r w1 (Kd.C_below HC.out B1.out) Hc.out HW1.out).mono ?_
    rintro e w2 ⟨rfl, ⟨k2, rfl⟩⟩
    go_wp2_with fail
    go_ret
    exact ⟨rfl, pw_below_drewN B1.out _⟩

theorem opens22 : Opens.Opens Try.prog 22 (Kd.slice 29 (Kd.slice 5 (Kd.int .u8))) (fun xs => xs.length * Try.prog.bytesOf 29 ≤ 140737488351232 ∧ ∀ x ∈ xs, x.length * Try.prog.bytesOf 5 ≤ 140737488351232 ∧ ∀ b ∈ x, (Lit.int .u8 b).wf = true) :=
  Opens.opens_slice (P := Try.prog) Try.underlying22 (by kernel_rfl) (Opens.opens_slice Try.underlying29 (by kernel_rfl) (Opens.opens_int Try.underlying5 (by kernel_rfl)))
theorem byte_wf {x : Int} (h : (Lit.int .u8 x).wf = true) : 0 ≤ x ∧ x < 256 := by
  have h' : IntKind.u8.min ≤ x ∧ x ≤ IntKind.u8.max := by simpa [Lit.wf] using h
  have e1 : IntKind.u8.min = 0 := rfl
  have e2 : IntKind.u8.max = 255 := rfl
  omega
theorem walk_row (w : World) (A : Option Addr) (c : Nat) (xs : List (List Int)) (hC : (Kd.slice 5 (Kd.int .u8)).C w A xs.length xs) (hc : xs.length ≤ c)
    (ok : xs.length * Try.prog.bytesOf 29 ≤ 140737488351232 ∧ ∀ x ∈ xs, x.length * Try.prog.bytesOf 5 ≤ 140737488351232 ∧ ∀ b ∈ x, (Lit.int .u8 b).wf = true) :
    Calls Try.prog 3 #[.slice A xs.length c] w fun e w' => e = .returned (.bool true) ∧ Below w.heap.size w w' := by
  have b29 : Try.prog.bytesOf 29 = 24 := by kernel_rfl
  have b5 : Try.prog.bytesOf 5 = 1 := by kernel_rfl
  rw [b29, b5] at ok
  exact walk w A c xs hC hc (fun x h => ⟨by have := (ok.2 x h).1; omega, fun b hb => byte_wf ((ok.2 x h).2 b hb)⟩) (by omega)
end Go.Proofs.Ytjcfhnmokmadmaa.Whole
