/- The writer of layer 28: what its methods make of its list. -/
import Derived.Test.YtbaihnpanoibdaaMath
import Derived.Test.YtbaihnpanoibdaaMem
import Derived.Test.YtbaihnpanoibdaaQx2
import Derived.Deep.RegionLaw
namespace Go.Proofs.Ytbaihnpanoibdaa.Q
open Go.RowKit Go.Proofs.YtbaihnpanoibdaaW.PrintWords Go.Proofs.YtbaihnpanoibdaaW.PrintLast Go.Proofs.YtbaihnpanoibdaaW.PrintMore Go.Proofs.Ytbaihnpanoibdaa.Mem
set_option linter.unusedVariables false
set_option linter.unusedSimpArgs false

/-- At bw a writer with this list; all that it owns lies from base on. -/
structure WrAt (w : World) (base bw : Nat) (ch : List S38) : Prop where
  mem : ∃ A c, w.heap[bw]? = some (.cells #[.slice A ch.length c] 57 (0, 0)) ∧ k38.R 38 w base (fun k => k ≠ bw) (.slice A ch.length c) ch
  own : base ≤ bw
theorem WrAt.below {w w' : World} {base bw : Nat} {ch : List S38} (h : WrAt w base bw ch) (hb : Below w.heap.size w w') : WrAt w' base bw ch := by
  obtain ⟨A, c, h1, h2⟩ := h.mem
  exact ⟨⟨A, c, (hb.block bw (lt_of_blk h1)).trans h1, Kd.R_below h2 hb⟩, h.own⟩
theorem WrAt.lt {w : World} {base bw : Nat} {ch : List S38} (h : WrAt w base bw ch) : bw < w.heap.size := by
  obtain ⟨A, c, h1, h2⟩ := h.mem
  exact lt_of_blk h1
set_option maxHeartbeats 4000000 in
theorem one_ok (w : World) (base bw : Nat) (ch : List S38) (hw : WrAt w base bw ch) (hl : ch.length < 100000) (kind : Int) (y : S36) :
    Calls Try.prog 35 #[.pointer (some ⟨bw, 0, none⟩), .int .i64 kind, .agg #[.int .i64 y.f0.f0, .int .i64 y.f0.f1, .int .i64 y.f1, .bool y.f2, .string y.f3]] w fun e w' => e = .returned (.tuple #[]) ∧ WrAt w' base bw (ch ++ [⟨kind, 0, y⟩]) ∧ Below base w w' := by
  obtain ⟨A, c, hb, hr⟩ := hw.mem
  obtain ⟨w0, ew⟩ : ∃ w0, w0 = w.alloc (.cells #[.int .i64 y.f0.f0, .int .i64 y.f0.f1, .int .i64 y.f1, .bool y.f2, .string y.f3] 36) := ⟨_, rfl⟩
  have b0 : Below w.heap.size w w0 := by rw [ew]; exact below_alloc (Below.refl _ _) _
  have hy0 : w0.heap[w.heap.size]? = some (.cells #[.int .i64 y.f0.f0, .int .i64 y.f0.f1, .int .i64 y.f1, .bool y.f2, .string y.f3] 36 (0, 0)) := by rw [ew]; exact heap_alloc_new w _
  have hlt := lt_of_blk hb
  have hb0 := (b0.block bw hlt).trans hb
  have c0 := blk_cell hb0 0
  have y0 := blk_cell hy0 0; have y1 := blk_cell hy0 1; have y2 := blk_cell hy0 2; have y3 := blk_cell hy0 3; have y4 := blk_cell hy0 4
  simp at c0 y0 y1 y2 y3 y4
  have c0' := fun o => ((below_alloc (Below.refl w0.heap.size w0) o).cell (p := ⟨bw, 0, none⟩) (lt_of_blk hb0)).trans c0
  have hbase : base ≤ w.heap.size := Nat.le_trans hw.own (Nat.le_of_lt hlt)
  have hlt0 := lt_of_blk hb0
  have HB0 := Lib.hid hb0; have HR := Lib.hid hr; have B0 := Lib.hid b0; have EW := Lib.hid ew; have HBS := Lib.hid hbase; have OWN := Lib.hid hw.own; have HLT := Lib.hid (And.intro hlt hlt0); have LEN := Lib.hid hl
  clear hb hr hw b0 hy0 hb0 ew hbase hlt hlt0 hl
  go_enter Try.func35, Try.ntmps35
  go_upto_region 1 with (fail)
  rw [← EW.out]
  go_region_law ((refine Kd.R_append_step k38 (w0 := w) base (by rfl) (.tmp 10) (.tmp 14) 25 38 (.agg #[(.int .i64 0), (.int .i64 0), (.int .i64 0), (.int .i64 0), (.int .i64 0), (.bool false), (.string ⟨#[]⟩)]) 64 (by rfl) Try.underlying25 info38 rfl (by decide) (by omega) (.slice A ch.length c) ch ⟨kind, 0, y⟩ [.int .i64 kind, .int .i64 0, .int .i64 y.f0.f0, .int .i64 y.f0.f1, .int .i64 y.f1, .bool y.f2, .string y.f3] (fun k => k ≠ bw) (fun _ => False) (by rfl) (by rfl) (k38_mkM _ _ _ ⟨kind, 0, y⟩) (fun _ h => h.elim) (fun k hk => (by have := HLT.out.2; simp at hk; omega)) (Kd.R_drew (Kd.R_below HR.out B0.out)) (below_drew1 (B0.out.mono HBS.out)) (by have := HBS.out; have := B0.out.size; simp; omega) (by have := LEN.out; omega) ?_; intro v1 w1 hr1 hb1 hg1 hat1; obtain ⟨A1, c1, e1⟩ := Kd.R_slice hr1; subst e1; have HR1 := Lib.hid hr1; have HB1 := Lib.hid hb1; have hne : some bw ≠ (Value.slice A ch.length c).ownBlock := fun e => HR.out.1 bw e.symm rfl; have hbw : w1.heap[bw]? = some (.cells #[.slice A ch.length c] 57 (0, 0)) := (hg1.block bw HLT.out.2 hne).trans HB0.out; have HBW := Lib.hid hbw; have hd1 := blk_cell hbw 0; have hf1 := blk_frozen hbw 0; simp at hd1; clear hr1 hg1 hat1 hne hbw hb1))
  all_goals
    go_wp2_with fail
    go_end0
    exact ⟨rfl, ⟨⟨A1, c1, by simpa using blk_set HBW.out 0 (.slice A1 (ch ++ [(⟨kind, 0, y⟩ : S38)]).length c1), Kd.R_far HR1.out (fun k hk => hk) _⟩, OWN.out⟩, HB1.out.setCell (p := ⟨bw, 0, none⟩) OWN.out _⟩
/-- What some makes of a list. -/
def someF (ch : List S38) (kind n : Int) : List S38 :=
  if n = 0 then ch else match ch.getLast? with
    | some x => if x.f0 = kind then ch.dropLast ++ [⟨x.f0, x.f1 + n, x.f2⟩] else ch ++ [⟨kind, n, z36⟩]
    | none => ch ++ [⟨kind, n, z36⟩]
theorem R_last {w : World} {base bw : Nat} {A : Option Addr} {c m : Nat} {ch' : List S38} {x : S38} (hm : m = ch'.length) (h : k38.R 38 w base (fun k => k ≠ bw) (.slice A (m + 1) c) (ch' ++ [x])) :
    ∃ g, A = some ⟨g, 0, none⟩ ∧ g ≠ bw ∧ base ≤ g ∧ g < w.heap.size ∧ w.cell? ⟨g, m * 7, none⟩ = some (.int .i64 x.f0) ∧ w.cell? ⟨g, m * 7 + 1, none⟩ = some (.int .i64 x.f1) ∧ w.frozen? ⟨g, m * 7 + 1, none⟩ = false ∧
      ∀ v, k38.R 38 (w.setCell ⟨g, m * 7 + 1, none⟩ (.int .i64 v)) base (fun k => k ≠ bw) (.slice A (m + 1) c) (ch' ++ [⟨x.f0, v, x.f2⟩]) := by
  have hC := (Kd.R_reads' h).2.2
  obtain ⟨h0, inner, hown, hr⟩ := h
  have hlen : (ch' ++ [x]).length = m + 1 := by simp [hm]
  have hlen' : ∀ y : S38, (ch' ++ [y]).length = m + 1 := fun y => by simp [hm]
  rw [hlen] at hown
  rcases hown.2 with ⟨_, h1⟩ | ⟨g, cap, cur, e, hb, hg, hcap⟩
  · omega
  · injection e with e1 e2 e3
    subst e1; subst e3
    obtain ⟨ad, eA, c0, c1, _⟩ := at_T38 hC (m : Int) (by omega) (by omega)
    cases eA
    have hrd : rd_T38 (ch' ++ [x]) (m : Int) = x := by unfold rd_T38; rw [Int.toNat_natCast, hm]; simp
    rw [Int.toNat_natCast, hrd] at c0 c1
    have ea : (⟨g, 0, none⟩ : Addr).add (m * 7) = ⟨g, m * 7, none⟩ := by
      unfold Addr.add
      split <;> simp_all
    rw [ea] at c0 c1
    refine ⟨g, rfl, h0 g rfl, hb, lt_of_blk hg, c0, c1, blk_frozen hg _, fun v => ?_⟩
    obtain ⟨st, _⟩ := hown.stored (m * 7 + 1) (.int .i64 v)
    refine ⟨h0, inner.set (m * 7 + 1) (.int .i64 v), by rw [hlen']; exact st, ?_⟩
    have hsz : k38.sz = 7 := rfl
    have hil : inner.length = (m + 1) * 7 := by have := hr.1; rw [hlen, hsz] at this; exact this
    refine ⟨by rw [List.length_set, hlen', hil]; rfl, fun j p hj => ?_⟩
    rw [hsz]
    by_cases hjm : j < m
    · have hq : (ch' ++ [x])[j]? = some p := by
        rw [List.getElem?_append_left (by omega)] at hj ⊢; exact hj
      have := hr.2 j p hq
      rw [hsz] at this
      have e1 : ((inner.set (m * 7 + 1) (.int .i64 v)).drop (j * 7)).take 7 = (inner.drop (j * 7)).take 7 := by
        rw [List.drop_set, if_neg (by omega), List.take_set_of_le (by omega)]
      rw [e1]
      rw [k38_openM this]
      exact k38_mkM _ _ _ p
    · have hjm' : j = m := by
        have : j < (ch' ++ [(⟨x.f0, v, x.f2⟩ : S38)]).length := (List.getElem?_eq_some_iff.1 hj).1
        rw [hlen'] at this
        omega
      subst hjm'
      have hp : p = ⟨x.f0, v, x.f2⟩ := by
        rw [hm, List.getElem?_append_right (Nat.le_refl _)] at hj; simpa using hj.symm
      have hq : (ch' ++ [x])[j]? = some x := by rw [hm]; simp
      have := hr.2 j x hq
      rw [hsz] at this
      have hx := k38_openM this
      have e1 : ((inner.set (j * 7 + 1) (.int .i64 v)).drop (j * 7)).take 7 = ((inner.drop (j * 7)).take 7).set 1 (.int .i64 v) := by
        rw [List.drop_set, if_neg (by omega), show j * 7 + 1 - j * 7 = 1 by omega, List.take_set]
      rw [e1, hx, hp]
      exact k38_mkM _ _ _ ⟨x.f0, v, x.f2⟩
set_option maxHeartbeats 4000000 in
theorem some_ok (w : World) (base bw : Nat) (ch : List S38) (hw : WrAt w base bw ch) (hl : ch.length < 100000) (kind n : Int) (hn0 : 0 ≤ n) (hn1 : n ≤ 1000000) (hx : ∀ x, ch.getLast? = some x → 0 ≤ x.f1 ∧ x.f1 ≤ 1000000) :
    Calls Try.prog 23 #[.pointer (some ⟨bw, 0, none⟩), .int .i64 kind, .int .i64 n] w fun e w' => e = .returned (.tuple #[]) ∧ WrAt w' base bw (someF ch kind n) ∧ Below base w w' := by
  have hlt := hw.lt
  have hbase : base ≤ w.heap.size := Nat.le_trans hw.own (Nat.le_of_lt hlt)
  by_cases h0 : n = 0
  · subst h0
    have e : someF ch kind 0 = ch := by unfold someF; rw [if_pos rfl]
    rw [e]
    have HW := Lib.hid hw
    clear hw hx e
    go_enter Try.func23, Try.ntmps23
    go_wp2_with fail
    first | go_end0 | ((try simp only [Exit.inBlock, Exit.then]); refine bodyPost_ret (results_none rfl _ _ _) rfl ?_)
    exact ⟨rfl, HW.out, Below.refl _ _⟩
  · have hn : (n == 0) = false := by simpa using h0
    obtain ⟨A, c, hb, hr⟩ := hw.mem
    have OWN := Lib.hid hw.own
    have arm : ∀ (hs : someF ch kind n = ch ++ [⟨kind, n, z36⟩]) (k0 : Nat), True := fun _ _ => trivial
    have app : ∀ (W : World), W.heap[bw]? = some (.cells #[.slice A ch.length c] 57 (0, 0)) → True := fun _ _ => trivial
    clear arm app
    rcases List.eq_nil_or_concat ch with rfl | ⟨ch', x, rfl⟩
    · have e : someF [] kind n = [⟨kind, n, z36⟩] := by unfold someF; rw [if_neg h0]; rfl
      rw [e]
      have c0 := blk_cell hb 0
      simp at c0
      have HB0 := Lib.hid hb; have HR := Lib.hid hr; have HBS := Lib.hid hbase; have LEN := Lib.hid hl
      clear hb hr hw hbase hl e hx h0
      go_enter Try.func23, Try.ntmps23
      go_wp2_with ((at_builtin; refine Kd.R_append k38 (w0 := w) base (by rfl) (.tmp 45) (.tmp 49) 25 38 (.agg #[(.int .i64 0), (.int .i64 0), (.int .i64 0), (.int .i64 0), (.int .i64 0), (.bool false), (.string ⟨#[]⟩)]) 64 (by rfl) Try.underlying25 info38 rfl (by decide) (by omega) (.slice A 0 c) [] ⟨kind, n, z36⟩ [.int .i64 kind, .int .i64 n, .int .i64 0, .int .i64 0, .int .i64 0, .bool false, .string ⟨#[]⟩] (fun k => k ≠ bw) (fun _ => False) (by rfl) (by rfl) (k38_mkM _ _ _ ⟨kind, n, z36⟩) (fun _ h => h.elim) (fun k hk => (by omega)) HR.out (Below.refl _ _) HBS.out (by simp) ?_; intro v1 w1 hr1 hb1 hg1 hat1; obtain ⟨A1, c1, e1⟩ := Kd.R_slice hr1; subst e1; have HR1 := Lib.hid hr1; have HB1 := Lib.hid hb1; have hne : some bw ≠ (Value.slice A 0 c).ownBlock := fun e => HR.out.1 bw e.symm rfl; have hbw : w1.heap[bw]? = some (.cells #[.slice A 0 c] 57 (0, 0)) := (hg1.block bw hlt hne).trans HB0.out; have HBW := Lib.hid hbw; have hd1 := blk_cell hbw 0; have hf1 := blk_frozen hbw 0; simp at hd1; clear hr1 hg1 hat1 hne hbw hb1))
      go_end0
      exact ⟨rfl, ⟨⟨A1, c1, by simpa using blk_set HBW.out 0 (.slice A1 1 c1), Kd.R_far HR1.out (fun k hk => hk) _⟩, OWN.out⟩, HB1.out.setCell (p := ⟨bw, 0, none⟩) OWN.out _⟩
    · rw [List.concat_eq_append] at hb hr hl hx hw ⊢
      obtain ⟨m, hm⟩ : ∃ m, m = ch'.length := ⟨_, rfl⟩
      have hlen : ∀ y : S38, (ch' ++ [y]).length = m + 1 := fun y => by simp [hm]
      rw [hlen] at hb hr hl
      have hml : m ≤ 100000 := by omega
      obtain ⟨g, rfl, hgb, hbg, hgl, c0, c1, f1, hset⟩ := R_last hm hr
      have d0 := blk_cell hb 0
      simp at d0
      have hx2 := hx x (by simp)
      obtain ⟨hx3, hx4⟩ := hx2
      have e0 : someF (ch' ++ [x]) kind n = if x.f0 = kind then ch' ++ [⟨x.f0, x.f1 + n, x.f2⟩] else ch' ++ [x] ++ [⟨kind, n, z36⟩] := by
        unfold someF; rw [if_neg h0]; simp
      by_cases hk : x.f0 = kind
      · have hkb : (x.f0 == kind) = true := by simpa using hk
        rw [e0, if_pos hk]
        have HB0 := Lib.hid hb; have HS := Lib.hid hset; have HL := Lib.hid hlen
        clear hb hr hw hbase hl e0 hx h0 hset hk hlen hm
        go_enter Try.func23, Try.ntmps23
        go_wp2_with fail
        first | go_end0 | ((try simp only [Exit.inBlock, Exit.then]); refine bodyPost_ret (results_none rfl _ _ _) rfl ?_)
        refine ⟨rfl, ⟨⟨some ⟨g, 0, none⟩, c, ?_, ?_⟩, OWN.out⟩, (Below.refl base w).setCell (p := ⟨g, m * 7 + 1, none⟩) hbg _⟩
        · rw [HL.out]; exact blk_far HB0.out (fun e => hgb e.symm) _
        · rw [HL.out]; exact HS.out _
      · have hkb : (x.f0 == kind) = false := by simpa using hk
        rw [e0, if_neg hk]
        have HB0 := Lib.hid hb; have HR := Lib.hid hr; have HBS := Lib.hid hbase; have LEN := Lib.hid hl; have HL := Lib.hid hlen
        have hl2 : (ch' ++ [x] ++ [(⟨kind, n, z36⟩ : S38)]).length = m + 1 + 1 := by simp [hm]
        have HL2 := Lib.hid hl2
        clear hb hr hw hbase hl e0 hx h0 hset hk hlen hm hl2
        go_enter Try.func23, Try.ntmps23
        go_wp2_with ((at_builtin; refine Kd.R_append k38 (w0 := w) base (by rfl) (.tmp 45) (.tmp 49) 25 38 (.agg #[(.int .i64 0), (.int .i64 0), (.int .i64 0), (.int .i64 0), (.int .i64 0), (.bool false), (.string ⟨#[]⟩)]) 64 (by rfl) Try.underlying25 info38 rfl (by decide) (by omega) (.slice (some ⟨g, 0, none⟩) (m + 1) c) (ch' ++ [x]) ⟨kind, n, z36⟩ [.int .i64 kind, .int .i64 n, .int .i64 0, .int .i64 0, .int .i64 0, .bool false, .string ⟨#[]⟩] (fun k => k ≠ bw) (fun _ => False) (by rfl) (by rfl) (k38_mkM _ _ _ ⟨kind, n, z36⟩) (fun _ h => h.elim) (fun k hk => (by omega)) HR.out (Below.refl _ _) HBS.out (by have := LEN.out; rw [HL.out]; omega) ?_; intro v1 w1 hr1 hb1 hg1 hat1; obtain ⟨A1, c9, e1⟩ := Kd.R_slice hr1; subst e1; have HR1 := Lib.hid hr1; have HB1 := Lib.hid hb1; have hne : some bw ≠ (Value.slice (some ⟨g, 0, none⟩) (m + 1) c).ownBlock := fun e => HR.out.1 bw e.symm rfl; have hbw : w1.heap[bw]? = some (.cells #[.slice (some ⟨g, 0, none⟩) (m + 1) c] 57 (0, 0)) := (hg1.block bw hlt hne).trans HB0.out; have HBW := Lib.hid hbw; have hd1 := blk_cell hbw 0; have hf1 := blk_frozen hbw 0; simp at hd1; clear hr1 hg1 hat1 hne hbw hb1))
        first | go_end0 | ((try simp only [Exit.inBlock, Exit.then]); refine bodyPost_ret (results_none rfl _ _ _) rfl ?_)
        exact ⟨rfl, ⟨⟨A1, c9, by simpa using blk_set HBW.out 0 (.slice A1 (ch' ++ [x] ++ [(⟨kind, n, z36⟩ : S38)]).length c9), Kd.R_far HR1.out (fun k hk => hk) _⟩, OWN.out⟩, HB1.out.setCell (p := ⟨bw, 0, none⟩) OWN.out _⟩
/-- Are two blocks alike? -/
def sameB (x y : S36) : Bool := (x.f0.f0 == y.f0.f0 && (x.f0.f1 == y.f0.f1)) && (x.f1 == y.f1 && (x.f2 == y.f2 && (x.f3.toList == y.f3.toList)))
theorem sameB_iff {x y : S36} : sameB x y = true ↔ x = y := by
  constructor
  · intro h
    simp only [sameB, Bool.and_eq_true, beq_iff_eq] at h
    obtain ⟨⟨h1, h2⟩, h3, h4, h5⟩ := h
    obtain ⟨⟨a, b⟩, c, d, e⟩ := x
    obtain ⟨⟨a', b'⟩, c', d', e'⟩ := y
    simp only at h1 h2 h3 h4 h5
    have : e = e' := by
      rw [ByteArray.toList_eq, ByteArray.toList_eq] at h5
      exact ByteArray.ext (Array.ext' h5)
    subst h1 h2 h3 h4 this
    rfl
  · rintro rfl
    simp [sameB]
/-- What kept makes of a list. -/
def keptF (ch : List S38) (x y : S36) : List S38 := if sameB x y = true then someF ch 1 1 else ch ++ [⟨4, 0, y⟩]
attribute [local go_sem high] eqA36 in
set_option maxHeartbeats 2000000 in
theorem kept_ok (w : World) (base bw : Nat) (ch : List S38) (hw : WrAt w base bw ch) (hl : ch.length < 100000) (hx : ∀ x, ch.getLast? = some x → 0 ≤ x.f1 ∧ x.f1 ≤ 1000000) (x y : S36) :
    Calls Try.prog 25 #[.pointer (some ⟨bw, 0, none⟩), .agg #[.int .i64 x.f0.f0, .int .i64 x.f0.f1, .int .i64 x.f1, .bool x.f2, .string x.f3], .agg #[.int .i64 y.f0.f0, .int .i64 y.f0.f1, .int .i64 y.f1, .bool y.f2, .string y.f3]] w fun e w' => e = .returned (.tuple #[]) ∧ WrAt w' base bw (keptF ch x y) ∧ Below base w w' := by
  obtain ⟨w0, ew⟩ : ∃ w0, w0 = (w.alloc (.cells #[.int .i64 x.f0.f0, .int .i64 x.f0.f1, .int .i64 x.f1, .bool x.f2, .string x.f3] 36)).alloc (.cells #[.int .i64 y.f0.f0, .int .i64 y.f0.f1, .int .i64 y.f1, .bool y.f2, .string y.f3] 36) := ⟨_, rfl⟩
  have b0 : Below w.heap.size w w0 := by rw [ew]; exact below_alloc (below_alloc (Below.refl _ _) _) _
  have hx0 : w0.heap[w.heap.size]? = some (.cells #[.int .i64 x.f0.f0, .int .i64 x.f0.f1, .int .i64 x.f1, .bool x.f2, .string x.f3] 36 (0, 0)) := by rw [ew]; exact (Below.heap_alloc _ _ _ (by simp)).trans (heap_alloc_new w _)
  have hy0 : w0.heap[w.heap.size + 1]? = some (.cells #[.int .i64 y.f0.f0, .int .i64 y.f0.f1, .int .i64 y.f1, .bool y.f2, .string y.f3] 36 (0, 0)) := by
    rw [ew]
    have := heap_alloc_new (w.alloc (.cells #[.int .i64 x.f0.f0, .int .i64 x.f0.f1, .int .i64 x.f1, .bool x.f2, .string x.f3] 36)) (.cells #[.int .i64 y.f0.f0, .int .i64 y.f0.f1, .int .i64 y.f1, .bool y.f2, .string y.f3] 36)
    simp only [World.size_alloc] at this
    exact this
  have x0 := blk_cell hx0 0; have x1 := blk_cell hx0 1; have x2 := blk_cell hx0 2; have x3 := blk_cell hx0 3; have x4 := blk_cell hx0 4
  have y0 := blk_cell hy0 0; have y1 := blk_cell hy0 1; have y2 := blk_cell hy0 2; have y3 := blk_cell hy0 3; have y4 := blk_cell hy0 4
  simp at x0 x1 x2 x3 x4 y0 y1 y2 y3 y4
  have HW := Lib.hid (hw.below b0); have HL := Lib.hid hl; have HX := Lib.hid hx; have EW := Lib.hid ew
  have BB := Lib.hid (b0.mono (Nat.le_trans hw.own (Nat.le_of_lt hw.lt)))
  clear hw hl hx b0 hx0 hy0 ew
  cases hs : sameB x y with
  | true =>
    have HS := Lib.hid hs
    unfold sameB at hs
    go_enter Try.func25, Try.ntmps25
    go_upto_region 1 with (fail)
    rw [← EW.out]
    go_wp2_with fail
    refine (some_ok w0 base bw ch HW.out HL.out 1 1 (by omega) (by omega) HX.out).mono ?_
    rintro e w1 ⟨rfl, wr1, b1⟩
    have WR1 := Lib.hid wr1; have B1 := Lib.hid (BB.out.trans b1)
    clear wr1 b1
    go_wp2_with fail
    go_end0
    exact ⟨rfl, by unfold keptF; rw [if_pos HS.out]; exact WR1.out, B1.out⟩
  | false =>
    have HS := Lib.hid hs
    unfold sameB at hs
    go_enter Try.func25, Try.ntmps25
    go_upto_region 1 with (fail)
    rw [← EW.out]
    go_wp2_with fail
    refine (one_ok w0 base bw ch HW.out HL.out 4 y).mono ?_
    rintro e w1 ⟨rfl, wr1, b1⟩
    have WR1 := Lib.hid wr1; have B1 := Lib.hid (BB.out.trans b1)
    clear wr1 b1
    go_wp2_with fail
    go_end0
    exact ⟨rfl, by unfold keptF; rw [if_neg (by rw [HS.out]; simp)]; exact WR1.out, B1.out⟩
/-- A block that is put. -/
def putC (y : S36) : S38 := ⟨3, 0, y⟩
set_option maxHeartbeats 2000000 in
theorem puts_ok (wb w : World) (base bw : Nat) (ch : List S38) (hw : WrAt w base bw ch) (B : Option Addr) (d : Nat) (ys : List S36) (hB : k36.C wb B ys.length ys) (hbb : wb.heap.size ≤ base) (hW : Below wb.heap.size wb w) (hl : ch.length + ys.length < 100000) :
    Calls Try.prog 24 #[.pointer (some ⟨bw, 0, none⟩), .slice B ys.length d] w fun e w' => e = .returned (.tuple #[]) ∧ WrAt w' base bw (ch ++ ys.map putC) ∧ Below base w w' := by
  have HB := Lib.hid hB; have HW := Lib.hid hW; have WR := Lib.hid hw
  clear hB hW hw
  go_enter Try.func24, Try.ntmps24
  go_wp2
  go_loopw [8] (fun i wr => ∃ m : Nat, m ≤ ys.length ∧ i = .int .i64 m ∧ WrAt wr base bw (ch ++ (ys.take m).map putC) ∧ Below base w wr) (fun i _ => ys.length - (intOf i).toNat)
  case atStart => exact ⟨0, by omega, rfl, by simpa using WR.out, Below.refl _ _⟩
  case round =>
    obtain ⟨m, hm, rfl, hwm, hbm⟩ := hrel
    have WM := Lib.hid hwm; have BM := Lib.hid hbm
    clear hwm hbm
    by_cases hlt : m < ys.length
    · obtain ⟨ad, eA, c0, c1, c2, c3, c4⟩ := at_T36 (Kd.C_below HB.out (HW.out.trans (BM.out.mono hbb))) (m : Int) (by omega) (by omega)
      rw [Int.toNat_natCast] at c0 c1 c2 c3 c4
      subst eA
      have hsn : (ys.take (m + 1)).map putC = (ys.take m).map putC ++ [⟨3, 0, rd_T36 ys (m : Int)⟩] := by
        have : rd_T36 ys (m : Int) = ys[m] := by unfold rd_T36; rw [Int.toNat_natCast, List.getD_eq_getElem?_getD, List.getElem?_eq_getElem hlt]; rfl
        rw [this, List.take_succ_eq_append_getElem hlt, List.map_append]; rfl
      have hle : (ch ++ (ys.take m).map putC).length < 100000 := by rw [List.length_append, List.length_map, List.length_take]; omega
      have HSN := Lib.hid hsn; have HLE := Lib.hid hle
      clear hsn hle
      go_wp2_with fail
      refine (one_ok _ base bw _ (WM.out.below (below_alloc (Below.refl _ _) _)) HLE.out 3 (rd_T36 ys (m : Int))).mono ?_
      rintro e w1 ⟨rfl, wr1, b1⟩
      have WR1 := Lib.hid wr1; have B1 := Lib.hid (BM.out.trans ((below_alloc (Below.refl wr.heap.size wr) _).mono (Nat.le_trans WM.out.own (Nat.le_of_lt WM.out.lt)) |>.trans b1))
      clear wr1 b1 c0 c1 c2 c3 c4
      go_wp2_with fail
      refine ⟨⟨m + 1, by omega, by go_num, ?_, B1.out⟩, by simp [intOf]; omega⟩
      rw [HSN.out, ← List.append_assoc]
      exact WR1.out
    · obtain rfl : m = ys.length := by omega
      go_wp2_with fail
      go_end0
      refine ⟨rfl, ?_, BM.out⟩
      have := WM.out
      rw [List.take_length] at this
      exact this
end Go.Proofs.Ytbaihnpanoibdaa.Q
