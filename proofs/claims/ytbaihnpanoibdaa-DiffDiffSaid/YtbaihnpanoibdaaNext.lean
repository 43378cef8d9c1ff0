/- The table of layer 28: the next block that is kept. -/
import Derived.Test.YtbaihnpanoibdaaTab2
namespace Go.Proofs.Ytbaihnpanoibdaa.Q
open Go.RowKit Go.Proofs.YtbaihnpanoibdaaW.PrintWords Go.Proofs.YtbaihnpanoibdaaW.PrintLast Go.Proofs.YtbaihnpanoibdaaW.PrintMore Go.Proofs.Ytbaihnpanoibdaa.Mem
set_option linter.unusedVariables false
set_option linter.unusedSimpArgs false
attribute [local go_sem high] eqA34

theorem id_yes {x y : S36} (h : idOf x = idOf y) : (x.f0.f0 == y.f0.f0) = true ∧ (x.f0.f1 == y.f0.f1) = true := by
  have h0 := congrArg Prod.fst h
  have h1 := congrArg Prod.snd h
  simp only [idOf] at h0 h1
  simp [h0, h1]
theorem id_no {x y : S36} (h : idOf x ≠ idOf y) : (x.f0.f0 == y.f0.f0 && x.f0.f1 == y.f0.f1) = false := by
  rw [Bool.eq_false_iff]
  intro h'
  simp only [Bool.and_eq_true, beq_iff_eq] at h'
  exact h (Prod.ext h'.1 h'.2)
set_option maxHeartbeats 2000000 in
theorem next1_ok (w : World) (y : S36) (p6 p8 : Nat) (A : Option Addr) (c : Nat) (a : List S36) (i : Nat) (hi : i < a.length) (hA : k36.C w A a.length a) (h6 : w.cell? ⟨p6, 0, none⟩ = some (.slice A a.length c)) (h8 : w.cell? ⟨p8, 0, none⟩ = some (.int .i64 i)) (ha : a.length ≤ 300) :
    Calls Try.prog 34 #[bv y, .pointer (some ⟨p6, 0, none⟩), .pointer (some ⟨p8, 0, none⟩)] w fun e w' => e = .returned (.bool (decide (idOf y = idOf (rd_T36 a (i : Int))))) ∧ Below w.heap.size w w' := by
  obtain ⟨ad, eA, c0, c1, _⟩ := at_T36 hA (i : Int) (by omega) (by omega)
  rw [Int.toNat_natCast] at c0 c1
  subst eA
  have b0 := below_alloc (Below.refl w.heap.size w) (.cells #[.int .i64 y.f0.f0, .int .i64 y.f0.f1, .int .i64 y.f1, .bool y.f2, .string y.f3] 36)
  obtain ⟨w0, ew⟩ : ∃ w0, w0 = w.alloc (.cells #[.int .i64 y.f0.f0, .int .i64 y.f0.f1, .int .i64 y.f1, .bool y.f2, .string y.f3] 36) := ⟨_, rfl⟩
  rw [← ew] at b0
  have g6 := (b0.cell (World.block_lt_of_cell? _ _ h6)).trans h6
  have g8 := (b0.cell (World.block_lt_of_cell? _ _ h8)).trans h8
  have d0 := (b0.cell (World.block_lt_of_cell? _ _ c0)).trans c0
  have d1 := (b0.cell (World.block_lt_of_cell? _ _ c1)).trans c1
  have e0 : w0.cell? ⟨w.heap.size, 0, none⟩ = some (.int .i64 y.f0.f0) := by rw [ew]; go_simp
  have e1 : w0.cell? ⟨w.heap.size, 1, none⟩ = some (.int .i64 y.f0.f1) := by rw [ew]; go_simp
  have q0 : (0 : Int) ≤ (i : Int) := by omega
  have q1 : (i : Int) < (a.length : Int) := by omega
  have B0 := Lib.hid b0
  clear h6 h8 c0 c1 hA b0
  by_cases he : idOf y = idOf (rd_T36 a (i : Int))
  · rw [decide_eq_true he]
    obtain ⟨t0, t1⟩ := id_yes he
    clear he
    go_enter Try.func34, Try.ntmps34
    go_wp2
    rw [← ew]
    clear ew
    go_quiet (fail)
    go_wp2
    go_ret
    exact ⟨rfl, pw_below_drewN B0.out _⟩
  · rw [decide_eq_false he]
    have t0 := id_no he
    clear he
    go_enter Try.func34, Try.ntmps34
    go_wp2
    rw [← ew]
    clear ew
    go_quiet (fail)
    go_wp2
    go_ret
    exact ⟨rfl, pw_below_drewN B0.out _⟩
theorem pos_none : ∀ {i : Int × Int} {ys : List S36}, (∀ j (h : j < ys.length), idOf ys[j] ≠ i) → pos i ys = none
  | _, [], _ => rfl
  | i, y :: ys, h => by
    unfold pos
    rw [if_neg (fun e => h 0 (by simp) e.symm), pos_none (fun j hj => by have := h (j + 1) (by simpa using hj); simpa using this)]
    rfl
theorem pos_some : ∀ {i : Int × Int} {ys : List S36} {m : Nat} (hm : m < ys.length), (∀ j (h : j < ys.length), j < m → idOf ys[j] ≠ i) → idOf ys[m] = i → pos i ys = some m
  | _, [], _, hm, _, _ => by simp at hm
  | i, y :: ys, 0, _, _, e => by unfold pos; rw [if_pos (show i = idOf y from e.symm)]
  | i, y :: ys, m + 1, hm, h, e => by
    unfold pos
    rw [if_neg (fun e => h 0 (by simp) (by omega) e.symm), pos_some (m := m) (by simpa using hm) (fun j hj hjm => by have := h (j + 1) (by simpa using hj) (by omega); simpa using this) (by simpa using e)]
    rfl
/-- What slices.IndexFunc answers. -/
def idx (i : Int × Int) (ys : List S36) : Int := match pos i ys with | some j => j | none => -1
theorem rd_get {ys : List S36} {m : Nat} (h : m < ys.length) : rd_T36 ys (m : Int) = ys[m] := by
  unfold rd_T36; rw [Int.toNat_natCast, List.getD_eq_getElem?_getD, List.getElem?_eq_getElem h]; rfl
set_option maxHeartbeats 2000000 in
theorem index34_ok (w : World) (B : Option Addr) (d : Nat) (ys : List S36) (hB : k36.C w B ys.length ys) (hy : ys.length ≤ 300) (p6 p8 : Nat) (A : Option Addr) (c : Nat) (a : List S36) (i : Nat) (hi : i < a.length) (hA : k36.C w A a.length a) (h6 : w.cell? ⟨p6, 0, none⟩ = some (.slice A a.length c)) (h8 : w.cell? ⟨p8, 0, none⟩ = some (.int .i64 i)) (ha : a.length ≤ 300) :
    Calls Try.prog 33 #[.slice B ys.length d, .func (.func 34) #[] #[.pointer (some ⟨p6, 0, none⟩), .pointer (some ⟨p8, 0, none⟩)]] w fun e w' => e = .returned (.int .i64 (idx (idOf (rd_T36 a (i : Int))) ys)) ∧ Below w.heap.size w w' := by
  have HA := Lib.hid hA; have HB := Lib.hid hB; have H6 := Lib.hid h6; have H8 := Lib.hid h8
  obtain ⟨q, eq⟩ : ∃ q, q = idOf (rd_T36 a (i : Int)) := ⟨_, rfl⟩
  rw [← eq]
  have EQ := Lib.hid eq
  clear hA hB h6 h8 eq
  go_enter Try.func33, Try.ntmps33
  go_wp2
  go_loopw [8] (fun i wr => ∃ m : Nat, m ≤ ys.length ∧ i = .int .i64 m ∧ (∀ j (h : j < ys.length), j < m → idOf ys[j] ≠ q) ∧ Below w.heap.size w wr) (fun i _ => ys.length - (intOf i).toNat)
  case atStart => exact ⟨0, by omega, rfl, fun j _ h => by omega, Below.refl _ _⟩
  case round =>
    obtain ⟨m, hm, rfl, hne, hb⟩ := hrel
    have HB1 := Lib.hid hb; have HN := Lib.hid hne
    clear hb hne
    by_cases hlt : m < ys.length
    · obtain ⟨ad, eA, c0, c1, c2, c3, c4⟩ := at_T36 (Kd.C_below HB.out HB1.out) (m : Int) (by omega) (by omega)
      rw [Int.toNat_natCast] at c0 c1 c2 c3 c4
      subst eA
      go_wp2_with fail
      refine (next1_ok wr (rd_T36 ys (m : Int)) p6 p8 A c a i hi (Kd.C_below HA.out HB1.out) ((HB1.out.cell (World.block_lt_of_cell? _ _ H6.out)).trans H6.out) ((HB1.out.cell (World.block_lt_of_cell? _ _ H8.out)).trans H8.out) ha).mono ?_
      rintro e w1 ⟨rfl, b1⟩
      have B1 := Lib.hid (HB1.out.trans (b1.mono HB1.out.size))
      rw [← EQ.out]
      clear b1 c0 c1 c2 c3 c4
      by_cases he : idOf (rd_T36 ys (m : Int)) = q
      · rw [decide_eq_true he]
        have HE := Lib.hid he
        clear he
        go_wp2_with fail
        go_ret
        refine ⟨?_, B1.out⟩
        unfold idx
        rw [pos_some hlt HN.out (by rw [← rd_get hlt]; exact HE.out)]
        rfl
      · rw [decide_eq_false he]
        have HE := Lib.hid he
        clear he
        go_wp2_with fail
        refine ⟨⟨m + 1, by omega, by go_num, fun j hj hjm => ?_, B1.out⟩, by simp [intOf]; omega⟩
        by_cases e : j = m
        · subst e; rw [← rd_get hlt]; exact HE.out
        · exact HN.out j hj (by omega)
    · obtain rfl : m = ys.length := by omega
      go_wp2_with fail
      go_ret
      refine ⟨?_, HB1.out⟩
      unfold idx
      rw [pos_none (fun j hj => HN.out j hj hj)]
      rfl
/-- b[k:]. -/
theorem cutK (B : Option Addr) (d : Nat) (b : List S36) (k : Nat) (hk : k ≤ b.length) (hd : b.length ≤ d) : ∃ B' ys, ys = b.drop k ∧ (∀ W : World, (Instr.slice 22 (.slice B b.length d) (some (.int .i64 (k : Int))) none none).run Try.prog W = .ok (.slice B' ys.length (d - k)) W) ∧
    (∀ w, k36.C w B b.length b → k36.C w B' ys.length ys) ∧ ys.length ≤ d - k := by
  obtain ⟨i0, hi, hz0, hz1, hz2⟩ := info_parts info36
  refine ⟨if d = k then B else B.map (·.add (k * 5)), _, rfl, fun W => ?_, fun w h => Kd.C_drop h hk hd, by rw [List.length_drop]; omega⟩
  have := cut_from 22 36 .i64 Try.underlying22 hi 5 hz1 B b.length d (k : Int) (by omega) (by omega) W
  rw [this, List.length_drop, Int.toNat_natCast]
/-- b[k:y]. -/
theorem cutM (B : Option Addr) (d : Nat) (b : List S36) (k y : Nat) (hk : k ≤ y) (hy : y ≤ b.length) (hd : b.length ≤ d) : ∃ B' ys, ys = (b.take y).drop k ∧ (∀ W : World, (Instr.slice 22 (.slice B b.length d) (some (.int .i64 (k : Int))) (some (.int .i64 (y : Int))) none).run Try.prog W = .ok (.slice B' ys.length (d - k)) W) ∧
    (∀ w, k36.C w B b.length b → k36.C w B' ys.length ys) ∧ ys.length ≤ d - k := by
  obtain ⟨i0, hi, hz0, hz1, hz2⟩ := info_parts info36
  have hl : ((b.take y).drop k).length = y - k := by rw [List.length_drop, List.length_take]; omega
  refine ⟨if d = k then B else B.map (·.add (k * 5)), _, rfl, fun W => ?_, fun w h => Kd.C_mid h hk hy hd, by rw [hl]; omega⟩
  have := cut_mid 22 36 .i64 .i64 Try.underlying22 hi 5 hz1 B b.length d (k : Int) (y : Int) (by omega) (by omega) (by omega) hd W
  rw [this, hl, Int.toNat_natCast, Int.toNat_natCast]
/-- What next answers. -/
def NextIs (a b : List S36) (i k : Nat) (v : Value) : Prop :=
  match nx (a.drop i) (b.drop k) with
  | none => v = .tuple #[.int .i64 a.length, .int .i64 b.length, .bool false]
  | some p => v = .tuple #[.int .i64 ((i + p.1 : Nat) : Int), .int .i64 ((k + p.2 : Nat) : Int), .bool true]
theorem three_new (w : World) (o0 o1 o2 : Obj) : ∃ W, W = ((w.alloc o0).alloc o1).alloc o2 ∧ W.heap[w.heap.size]? = some o0 ∧ W.heap[w.heap.size + 1]? = some o1 ∧ W.heap[w.heap.size + 1 + 1]? = some o2 ∧ Below w.heap.size w W ∧ W.heap.size = w.heap.size + 3 := by
  refine ⟨_, rfl, ?_, ?_, ?_, below_alloc (below_alloc (below_alloc (Below.refl _ _) _) _) _, by simp⟩
  · exact (Below.heap_alloc _ _ _ (by simp <;> omega)).trans ((Below.heap_alloc _ _ _ (by simp)).trans (World.alloc_heap_new w o0))
  · have := World.alloc_heap_new (w.alloc o0) o1
    simp only [World.size_alloc] at this
    exact (Below.heap_alloc _ _ _ (by simp)).trans this
  · have := World.alloc_heap_new ((w.alloc o0).alloc o1) o2
    simp only [World.size_alloc] at this
    exact this
theorem step_no {a b : List S36} {i m k n : Nat} (hm : m < a.length) (him : i ≤ m) (h : lead (rd_T36 a (m : Int)) (a.drop (m + 1)) (b.drop k) ≠ n) (hn : lcs (a.drop m) (b.drop k) = n) (h0 : n ≠ 0) (hx : nx (a.drop i) (b.drop k) = (nx (a.drop m) (b.drop k)).map (fun p => (p.1 + (m - i), p.2))) :
    m + 1 < a.length ∧ lcs (a.drop (m + 1)) (b.drop k) = n ∧ nx (a.drop i) (b.drop k) = (nx (a.drop (m + 1)) (b.drop k)).map (fun p => (p.1 + (m + 1 - i), p.2)) := by
  have e := drop_rd hm
  rw [e] at hn hx
  have s := nx_skip (x := rd_T36 a (m : Int)) (a := a.drop (m + 1)) (b := b.drop k) (.inl (by rw [hn]; exact h))
  have l := (s.2 (by rw [hn]; exact h0)).trans hn
  refine ⟨?_, l, ?_⟩
  · rcases Nat.lt_or_ge (m + 1) a.length with h' | h'
    · exact h'
    · rw [List.drop_eq_nil_of_le h'] at l; exact absurd l.symm h0
  · rw [hx, s.1]
    cases nx (a.drop (m + 1)) (b.drop k) with
    | none => rfl
    | some p => simp; omega
set_option maxRecDepth 100000 in
set_option maxHeartbeats 8000000 in
theorem next_ok (w : World) (g cap nn : Nat) (A : Option Addr) (c : Nat) (a : List S36) (B : Option Addr) (d : Nat) (b : List S36) (i k : Nat) (hi : i ≤ a.length) (hk : k ≤ b.length) (hA : k36.C w A a.length a) (hB : k36.C w B b.length b) (hd : b.length ≤ d) (ha : a.length ≤ 300) (hb : b.length ≤ 300)
    (hT : TabIs w g a b) (hn : nn = (a.length + 1) * (b.length + 1)) :
    Calls Try.prog 22 #[.agg #[.slice (some ⟨g, 0, none⟩) nn cap, .int .i64 ((b.length : Int) + 1)], .slice A a.length c, .slice B b.length d, .int .i64 i, .int .i64 k] w fun e w' => ∃ v, e = .returned v ∧ NextIs a b i k v ∧ Below w.heap.size w w' := by
  have hgw : g < w.heap.size := World.block_lt_of_cell? _ _ (hT 0 0 (by omega) (by omega))
  obtain ⟨w0, ew, b0, b1, b2, bel, hs⟩ := three_new w (.cells #[.slice (some ⟨g, 0, none⟩) nn cap, .int .i64 ((b.length : Int) + 1)] 53) (.cells #[.slice A a.length c] 22) (.cells #[.int .i64 i] 3)
  have HA := Lib.hid hA; have HB := Lib.hid hB; have HT := Lib.hid (hT.below bel); have HN := Lib.hid hn; have BEL := Lib.hid bel; have EW := Lib.hid ew
  have B0 := Lib.hid b0; have B1 := Lib.hid b1; have B2 := Lib.hid b2
  have t0 := blk_cell b0 0; have t1 := blk_cell b0 1; have a0 := blk_cell b1 0; have i0 := blk_cell b2 0
  simp at t0 t1 a0 i0
  have l1 : i * (b.length + 1) + k < nn := by rw [hn]; exact idx_lt hi hk
  have hnn : nn ≤ 90601 := by rw [hn]; have := Nat.mul_le_mul (show a.length + 1 ≤ 301 by omega) (show b.length + 1 ≤ 301 by omega); omega
  have L1 := Lib.hid l1
  clear hA hB hT hn bel ew b0 b1 b2 l1
  go_enter Try.func22, Try.ntmps22
  go_upto_region 1 with (fail)
  rw [← EW.out]
  go_wp2_with fail
  refine (at_b w0 g cap nn (i * (b.length + 1)) _ _ _ i k (b.length + 1) rfl rfl (by push_cast; rfl) rfl _ L1.out (by omega) (HT.out i k hi hk)).mono ?_
  rintro e w1 ⟨rfl, b1, _⟩
  have D1 := Lib.hid b1
  clear b1
  by_cases hz : lcs (a.drop i) (b.drop k) = 0
  · have hx := Lib.hid (nx_none _ _ hz)
    have a1 := (D1.out.cell (World.block_lt_of_cell? _ _ a0)).trans a0
    rw [hz]
    clear hz
    go_wp2_with fail
    go_ret3
    refine ⟨_, rfl, ?_, BEL.out.trans (D1.out.mono BEL.out.size)⟩
    unfold NextIs
    rw [hx.out]
    rfl
  · obtain ⟨n, en⟩ : ∃ n, n = lcs (a.drop i) (b.drop k) := ⟨_, rfl⟩
    rw [← en] at hz ⊢
    have hzb : ((n : Int) == 0) = false := by simp; omega
    have EN := Lib.hid en; have HZ := Lib.hid hz
    obtain ⟨B', ys, hys, hcut, hC', hl'⟩ := cutK B d b k hk hd
    have HYS := Lib.hid hys
    clear hys
    have HC' := Lib.hid hC'; have HL' := Lib.hid hl'
    have hia : i < a.length := by
      rcases Nat.lt_or_ge i a.length with h | h
      · exact h
      · rw [List.drop_eq_nil_of_le h] at en; exact absurd en hz
    have hil := Lib.hid (And.intro (lt_of_blk B0.out) (And.intro (lt_of_blk B1.out) (lt_of_blk B2.out)))
    have hgl : Hid (g < w.heap.size) := Lib.hid hgw
    have I1 := Lib.hid ((D1.out.block _ hil.out.2.2).trans B2.out)
    clear en hz hC' hl' t0 t1 a0 i0
    go_wp2_with fail
    go_loopw [14] (fun _ wr => ∃ m : Nat, i ≤ m ∧ m < a.length ∧ wr.heap[w.heap.size + 1 + 1]? = some (.cells #[.int .i64 m] 3 (0, 0)) ∧ lcs (a.drop m) (b.drop k) = n ∧ nx (a.drop i) (b.drop k) = (nx (a.drop m) (b.drop k)).map (fun p => (p.1 + (m - i), p.2)) ∧ Keep (fun q => q = w.heap.size + 1 + 1 ∨ w0.heap.size ≤ q) w0 wr)
      (fun _ wr => a.length - (match wr.cell? ⟨w.heap.size + 1 + 1, 0, none⟩ with | some v => (intOf v).toNat | none => 0))
    case atStart => exact ⟨i, Nat.le_refl _, hia, I1.out, EN.out.symm, by cases nx (a.drop i) (b.drop k) <;> simp, Keep.of_below D1.out (fun i h1 h2 => .inr (by omega))⟩
    case round =>
      obtain ⟨m, him, hm, hbm, hlm, hxm, hkm⟩ := hrel
      have nF : ∀ q, q < w0.heap.size → q ≠ w.heap.size + 1 + 1 → ¬ (q = w.heap.size + 1 + 1 ∨ w0.heap.size ≤ q) := fun q h1 h2 h => h.elim h2 (fun h => by omega)
      have bl0 := (hkm.block w.heap.size (by omega) (nF _ (by omega) (by omega))).trans B0.out
      have bl1 := (hkm.block (w.heap.size + 1) (by omega) (nF _ (by omega) (by omega))).trans B1.out
      have belr : Below w.heap.size w wr := BEL.out.trans (hkm.below (fun i hi h => h.elim (fun h => by omega) (fun h => by omega)) BEL.out.size)
      have hTr : TabIs wr g a b := fun i' k' hi' hk' => by
        have e1 := HT.out i' k' hi' hk'
        rw [← e1]
        have hgw : g < w.heap.size := hgl.out
        have := hkm.block g (by omega) (nF _ (by omega) (by omega))
        simp [World.cell?, this]
      have t0 := blk_cell bl0 0; have t1 := blk_cell bl0 1; have a0 := blk_cell bl1 0; have i0 := blk_cell hbm 0
      have fz := blk_frozen hbm 0
      simp at t0 t1 a0 i0
      have HTR := Lib.hid hTr; have BELR := Lib.hid belr; have HLM := Lib.hid hlm; have HXM := Lib.hid hxm; have KM := Lib.hid hkm; have IM := Lib.hid hbm; have A0 := Lib.hid a0; have I0 := Lib.hid i0; have BL0 := Lib.hid bl0
      clear hTr belr hlm hxm hkm hbm nF bl0 bl1
      have hbl : ys.length ≤ 300 := by rw [HYS.out, List.length_drop]; omega
      go_wp2_with fail
      refine (index34_ok wr B' (d - k) ys (HC'.out _ (Kd.C_below HB.out BELR.out)) hbl (w.heap.size + 1) (w.heap.size + 1 + 1) A c a m hm (Kd.C_below HA.out BELR.out) A0.out I0.out ha).mono ?_
      rintro e w2 ⟨rfl, d2⟩
      have D2 := Lib.hid d2
      have t0' := (d2.cell (World.block_lt_of_cell? _ _ t0)).trans t0
      have t1' := (d2.cell (World.block_lt_of_cell? _ _ t1)).trans t1
      have i0' := (d2.cell (World.block_lt_of_cell? _ _ i0)).trans i0
      have IM2 := Lib.hid ((d2.block _ (lt_of_blk IM.out)).trans IM.out)
      have KM2 := Lib.hid (KM.out.trans (Keep.of_below (F := fun q => q = w.heap.size + 1 + 1 ∨ w0.heap.size ≤ q) d2 (fun i h1 h2 => .inr (by have := KM.out.size; omega))) (fun _ _ h => h))
      have fz' := blk_frozen IM2.out 0
      clear d2 t0 t1 a0 i0 fz hcut
      rw [HYS.out]
      cases hp : pos (idOf (rd_T36 a (m : Int))) (b.drop k) with
      | none =>
        have ei : idx (idOf (rd_T36 a (m : Int))) (b.drop k) = -1 := by unfold idx; rw [hp]
        have hl : lead (rd_T36 a (m : Int)) (a.drop (m + 1)) (b.drop k) ≠ n := by unfold lead; rw [hp]; exact fun h => HZ.out h.symm
        have HS := Lib.hid (step_no hm him hl HLM.out HZ.out HXM.out)
        rw [ei]
        clear hp ei hl
        go_wp2_with fail
        have nb : (w2.setCell ⟨w.heap.size + 1 + 1, 0, none⟩ (.int .i64 ((m : Int) + 1))).heap[w.heap.size + 1 + 1]? = some (.cells #[.int .i64 ((m + 1 : Nat) : Int)] 3 (0, 0)) := by simpa using blk_set IM2.out 0 (.int .i64 ((m : Int) + 1))
        have nc := blk_cell nb 0
        simp at nc
        refine ⟨⟨m + 1, by omega, HS.out.1, nb, HS.out.2.1, HS.out.2.2, KM2.out.trans (Keep.setCell (F := fun q => q = w.heap.size + 1 + 1 ∨ w0.heap.size ≤ q) w2 (p := ⟨w.heap.size + 1 + 1, 0, none⟩) (.inl rfl) _) (fun _ _ h => h)⟩, ?_⟩
        rw [nc, I0.out]
        simp [intOf]
        omega
      | some j =>
        have ei : idx (idOf (rd_T36 a (m : Int))) (b.drop k) = (j : Int) := by unfold idx; rw [hp]
        obtain ⟨hj, _⟩ := pos_lt hp
        rw [List.length_drop] at hj
        have hl : lead (rd_T36 a (m : Int)) (a.drop (m + 1)) (b.drop k) = lcs (a.drop (m + 1)) (b.drop (k + j + 1)) + 1 := by
          unfold lead; rw [hp]; simp only; rw [List.drop_drop, show k + (j + 1) = k + j + 1 by omega]
        obtain ⟨v, ev⟩ : ∃ v, v = lcs (a.drop (m + 1)) (b.drop (k + j + 1)) := ⟨_, rfl⟩
        have hv3 : v ≤ 300 := by rw [ev]; have := lcs_le (a.drop (m + 1)) (b.drop (k + j + 1)); rw [List.length_drop] at this; omega
        have hcell := (HTR.out.below D2.out) (m + 1) (k + j + 1) (by omega) (by omega)
        have hix := Lib.hid (idx_lt (la := a.length) (lb := b.length) (i := m + 1) (k := k + j + 1) (by omega) (by omega))
        rw [← ev] at hl hcell
        have HP := Lib.hid hp; have HV := Lib.hid ev; have HCELL := Lib.hid hcell
        rw [ei]
        clear hp ei ev hcell
        by_cases hvn : v + 1 = n
        · have tst : ((v : Int) + 1 == (n : Int)) = true := by simp; omega
          have HVN := Lib.hid hvn
          clear hvn hl
          go_wp2_with fail
          refine (at_b w2 g cap nn ((m + 1) * (b.length + 1)) _ _ _ (m + 1) (k + j + 1) (b.length + 1) (by omega) (by omega) (by omega) rfl _ (by rw [HN.out]; exact hix.out) (by omega) HCELL.out).mono ?_
          rintro e w3 ⟨rfl, d3, _⟩
          have D3 := Lib.hid d3
          have i03 := (d3.cell (World.block_lt_of_cell? _ _ i0')).trans i0'
          clear d3
          go_wp2_with fail
          have en : nx (a.drop i) (b.drop k) = some (m - i, j) := by
            have h1 := HLM.out
            rw [drop_rd hm] at h1
            rw [HXM.out, drop_rd hm, nx_here HP.out (by rw [h1, List.drop_drop, show k + (j + 1) = k + j + 1 by omega, ← HV.out]; exact HVN.out)]
            simp
          have belw : Below w.heap.size w w3 := BELR.out.trans ((D2.out.trans (D3.out.mono D2.out.size)).mono BELR.out.size)
          have fin : NextIs a b i k (.tuple #[.int .i64 (m : Int), .int .i64 ((k : Int) + (j : Int)), .bool true]) := by
            unfold NextIs
            rw [en]
            simp only
            rw [show i + (m - i) = m by omega]
            push_cast
            rfl
          go_ret3
          exact ⟨_, rfl, fin, belw⟩
        · have tst : ((v : Int) + 1 == (n : Int)) = false := by simp; omega
          have HS := Lib.hid (step_no hm him (by rw [hl]; exact hvn) HLM.out HZ.out HXM.out)
          clear hvn hl
          go_wp2_with fail
          refine (at_b w2 g cap nn ((m + 1) * (b.length + 1)) _ _ _ (m + 1) (k + j + 1) (b.length + 1) (by omega) (by omega) (by omega) rfl _ (by rw [HN.out]; exact hix.out) (by omega) HCELL.out).mono ?_
          rintro e w3 ⟨rfl, d3, _⟩
          have D3 := Lib.hid d3
          have i03 := (d3.cell (World.block_lt_of_cell? _ _ i0')).trans i0'
          have IM3 := Lib.hid ((d3.block _ (lt_of_blk IM2.out)).trans IM2.out)
          have KM3 := Lib.hid (KM2.out.trans (Keep.of_below (F := fun q => q = w.heap.size + 1 + 1 ∨ w0.heap.size ≤ q) d3 (fun i h1 h2 => .inr (by have := KM2.out.size; omega))) (fun _ _ h => h))
          have fz3 := blk_frozen IM3.out 0
          clear d3
          go_wp2_with fail
          have nb : (w3.setCell ⟨w.heap.size + 1 + 1, 0, none⟩ (.int .i64 ((m : Int) + 1))).heap[w.heap.size + 1 + 1]? = some (.cells #[.int .i64 ((m + 1 : Nat) : Int)] 3 (0, 0)) := by simpa using blk_set IM3.out 0 (.int .i64 ((m : Int) + 1))
          have nc := blk_cell nb 0
          simp at nc
          refine ⟨⟨m + 1, by omega, HS.out.1, nb, HS.out.2.1, HS.out.2.2, KM3.out.trans (Keep.setCell (F := fun q => q = w.heap.size + 1 + 1 ∨ w0.heap.size ≤ q) w3 (p := ⟨w.heap.size + 1 + 1, 0, none⟩) (.inl rfl) _) (fun _ _ h => h)⟩, ?_⟩
          rw [nc, I0.out]
          simp [intOf]
          omega
end Go.Proofs.Ytbaihnpanoibdaa.Q
