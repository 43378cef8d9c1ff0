/- The table of layer 28: newTable, at every two outlines. -/
import Derived.Test.YtbaihnpanoibdaaTab
import Derived.Test.YtbaihnpanoibdaaQx1
namespace Go.Proofs.Ytbaihnpanoibdaa.Q
open Go.RowKit Go.Shelf Go.Proofs.YtbaihnpanoibdaaW.PrintWords Go.Proofs.YtbaihnpanoibdaaW.PrintLast Go.Proofs.YtbaihnpanoibdaaW.PrintMore Go.Proofs.Ytbaihnpanoibdaa.Mem Go.Proofs.Ytbaihnpanoibdaa.Lift
set_option linter.unusedVariables false
set_option linter.unusedSimpArgs false
theorem max2_mx (k k' : IntKind) (x y : Int) : Builtin.max2 (.int k x) (.int k' y) = pure (.int k (mx x y)) := max2_int k k' x y
attribute [local go_sem] Oper.semAt_some max2_mx max_two
attribute [local go_sem high] eqA34

/-- A table's cells: at g, n of them. -/
def TabSt (W : World) (g n : Nat) (f : Nat → Int) : Prop := ∀ j, j < n → W.cell? ⟨g, j, none⟩ = some (.int .i64 (f j)) ∧ W.frozen? ⟨g, j, none⟩ = false
/-- What lies there when newTable's first statement is over: slot 5. -/
def Made (w W : World) (lb : Nat) (B : Option Addr) (d nn : Nat) (v : Value) : Prop :=
  ∃ p g, v = .pointer (some ⟨p, 0, none⟩) ∧ Below w.heap.size w W ∧ W.heap[w.heap.size]? = some (.cells #[.slice B lb d] 22 (0, 0)) ∧ W.heap[w.heap.size + 1]? = some (.cells #[.slice none 0 0, .int .i64 0] 53 (0, 0)) ∧
    W.heap[p]? = some (.cells #[.slice (some ⟨g, 0, none⟩) nn nn, .int .i64 ((lb : Int) + 1)] 53 (0, 0)) ∧ TabSt W g nn (fun _ => 0) ∧ g < W.heap.size ∧ p ≠ g ∧ w.heap.size + 2 ≤ g ∧ w.heap.size + 2 ≤ p
theorem four_new (w : World) (o0 o1 o2 o3 : Obj) : ∃ W, W = ((((w.alloc o0).alloc o1).alloc o2).alloc o3).drew ∧ W.heap[w.heap.size]? = some o0 ∧ W.heap[w.heap.size + 1]? = some o1 ∧ W.heap[w.heap.size + 1 + 1]? = some o2 ∧ W.heap[w.heap.size + 1 + 1 + 1]? = some o3 ∧ Below w.heap.size w W ∧ W.heap.size = w.heap.size + 4 := by
  refine ⟨_, rfl, ?_, ?_, ?_, ?_, below_drew1 (below_alloc (below_alloc (below_alloc (below_alloc (Below.refl _ _) _) _) _) _), by simp⟩
  · exact (Below.heap_alloc _ _ _ (by simp <;> omega)).trans ((Below.heap_alloc _ _ _ (by simp <;> omega)).trans ((Below.heap_alloc _ _ _ (by simp)).trans (World.alloc_heap_new w o0)))
  · have := World.alloc_heap_new (w.alloc o0) o1
    simp only [World.size_alloc] at this
    exact (Below.heap_alloc _ _ _ (by simp <;> omega)).trans ((Below.heap_alloc _ _ _ (by simp)).trans this)
  · have := World.alloc_heap_new ((w.alloc o0).alloc o1) o2
    simp only [World.size_alloc] at this
    exact (Below.heap_alloc _ _ _ (by simp)).trans this
  · have := World.alloc_heap_new (((w.alloc o0).alloc o1).alloc o2) o3
    simp only [World.size_alloc] at this
    exact this
theorem tab_made {W : World} {g nn : Nat} (h : W.heap[g]? = some (.cells (madeCells #[.int .i64 0] nn) 3 (0, 0))) : TabSt W g nn (fun _ => 0) := fun j hj => by
  refine ⟨?_, blk_frozen h j⟩
  rw [blk_cell h j]
  simp [madeCells, hj, Nat.mod_one]
theorem own_blk {β : Type} (k : Nat) (cs : Array Value) (q : TypeId) : Own (fun (_ : β) W => W.heap[k]? = some (.cells cs q (0, 0))) := fun s X Y row hs hg hrow =>
  (hg.block k (Array.getElem?_eq_some_iff.1 hs).1 (fun e' => by obtain ⟨o, ho, hc⟩ := hrow k e'.symm; rw [show X.heap[k]? = _ from hs] at ho; cases ho; cases hc)).trans hs
theorem own_keep {β : Type} {F : Nat → Prop} {w0 : World} {M : Nat} (hF : ∀ k, M ≤ k → F k) : OwnFrom M (fun (_ : β) W => Keep F w0 W) := fun s X Y row hs hg hrow =>
  hs.trans (Keep.of_grown (F := F) hg (fun i e => hF i (hrow i e).1)) (fun _ _ h => h)
theorem TabSt.kept {W W' : World} {g n : Nat} {f : Nat → Int} (h : TabSt W g n f) (e : W'.heap[g]? = W.heap[g]?) : TabSt W' g n f := fun j hj => by
  have := h j hj
  constructor
  · rw [← this.1]; simp [World.cell?, e]
  · rw [← this.2]; simp [World.frozen?, e]
theorem TabSt.grown {W W' : World} {g n : Nat} {f : Nat → Int} {row : Option Nat} (h : TabSt W g n f) (hg : W.grownBy W' row) (hlt : g < W.heap.size) (hr : some g ≠ row) : TabSt W' g n f := h.kept (hg.block g hlt hr)
theorem TabSt.set {W : World} {g n : Nat} {f : Nat → Int} (h : TabSt W g n f) (j : Nat) (v : Int) (hj : j < n) : TabSt (W.setCell ⟨g, j, none⟩ (.int .i64 v)) g n (fun i => if i = j then v else f i) := fun i hi => by
  refine ⟨?_, by rw [World.frozen?_setCell]; exact (h i hi).2⟩
  by_cases e : i = j
  · subst e
    dsimp only
    rw [if_pos rfl]
    exact World.cell?_setCell_same' _ _ _ (by rw [(h i hi).1]; rfl)
  · dsimp only
    rw [if_neg e]
    rw [← (h i hi).1]
    exact World.cell?_setCell_other _ _ _ _ (fun e' => e (by cases e'; rfl))
theorem keep_kb {F : Nat → Prop} {M : Nat} (hF : ∀ k, M ≤ k → F k) (W : World) (l : Nat) (o o' : Obj) (hl : M ≤ l) (h : W.heap[l]? = some o) (_ : o.isCells = false) (_ : o.isWalk = false) : Keep F W (W.putObj l o') :=
  Keep.of_grown (grownBy_putObj' W l o') (fun i e => by cases e; exact hF _ hl)
theorem idx_lt {la lb i k : Nat} (hi : i ≤ la) (hk : k ≤ lb) : i * (lb + 1) + k < (la + 1) * (lb + 1) := by
  have := Nat.mul_le_mul_right (lb + 1) hi
  rw [Nat.add_mul]; omega
theorem at_b (w : World) (g cap n q : Nat) (i k wd : Int) (ii kk ww : Nat) (hi : i = (ii : Int)) (hk : k = (kk : Int)) (hw : wd = (ww : Int)) (hq : ii * ww = q) (v : Int) (hqn : q + kk < n) (hn : n ≤ 1000000) (hc : w.cell? ⟨g, q + kk, none⟩ = some (.int .i64 v)) :
    Calls Try.prog 31 #[.agg #[.slice (some ⟨g, 0, none⟩) n cap, .int .i64 wd], .int .i64 i, .int .i64 k] w fun e w' => e = .returned (.int .i64 v) ∧ Below w.heap.size w w' ∧ KeepsOthers w w' := by
  subst hi; subst hk; subst hw
  refine (at_ok w g cap n q ii kk ww v (by rw [← hq]; push_cast; rfl) hqn hn hc).mono ?_
  rintro e w' ⟨rfl, rfl⟩
  exact ⟨rfl, below_alloc (Below.refl _ _) _, KeepsOthers.alloc _ _⟩
theorem set_b (w : World) (g cap n q : Nat) (i k wd : Int) (ii kk ww : Nat) (hi : i = (ii : Int)) (hk : k = (kk : Int)) (hw : wd = (ww : Int)) (hq : ii * ww = q) (v x : Int) (hqn : q + kk < n) (hn : n ≤ 1000000) (hc : w.cell? ⟨g, q + kk, none⟩ = some (.int .i64 x)) (hf : w.frozen? ⟨g, q + kk, none⟩ = false) :
    Calls Try.prog 32 #[.agg #[.slice (some ⟨g, 0, none⟩) n cap, .int .i64 wd], .int .i64 i, .int .i64 k, .int .i64 v] w fun e w' => e = .returned (.tuple #[]) ∧ ∃ o, w' = (w.setCell ⟨g, q + kk, none⟩ (.int .i64 v)).alloc o := by
  subst hi; subst hk; subst hw
  refine (set_ok w g cap n q ii kk ww v x (by rw [← hq]; push_cast; rfl) hqn hn hc hf).mono ?_
  rintro e w' ⟨rfl, rfl⟩
  exact ⟨rfl, _, rfl⟩
/-- What the round's first statement reads. -/
structure Held8 (p g nn : Nat) (wd : Int) (Bi : Nat) (i : Int) (w : World) : Prop where
  c0 : w.cell? ⟨p, 0, none⟩ = some (.slice (some ⟨g, 0, none⟩) nn nn)
  c1 : w.cell? ⟨p, 1, none⟩ = some (.int .i64 wd)
  c2 : w.cell? ⟨Bi, 0, none⟩ = some (.int .i64 i)
theorem Held8.below {p g nn : Nat} {wd : Int} {Bi : Nat} {i : Int} {w w' : World} (h : Held8 p g nn wd Bi i w) (hb : Below w.heap.size w w') : Held8 p g nn wd Bi i w' :=
  ⟨(hb.cell (World.block_lt_of_cell? _ _ h.c0)).trans h.c0, (hb.cell (World.block_lt_of_cell? _ _ h.c1)).trans h.c1, (hb.cell (World.block_lt_of_cell? _ _ h.c2)).trans h.c2⟩
/-- What is known of the table when m rows are whole, and of the next one all from place r on. -/
def Good (a b : List S36) (f : Nat → Int) (m r : Nat) : Prop := ∀ i k, i ≤ a.length → k ≤ b.length → (a.length ≤ i + m ∨ (a.length = i + m + 1 ∧ r ≤ k) ∨ k = b.length) → f (i * (b.length + 1) + k) = lcs (a.drop i) (b.drop k)
theorem good_next {a b : List S36} {f : Nat → Int} {m : Nat} (h : Good a b f m 0) : Good a b f (m + 1) b.length := fun i k hi hk hc => h i k hi hk (by omega)
theorem lcs_le : ∀ (a b : List S36), lcs a b ≤ a.length
  | [], _ => Nat.le_refl _
  | x :: a, b => by have := (lcs_step a b).1 x; have := lcs_le a b; simp only [List.length_cons]; omega
theorem idx_inj {lb i k i' k' : Nat} (hk : k ≤ lb) (hk' : k' ≤ lb) (h : i * (lb + 1) + k = i' * (lb + 1) + k') : i = i' ∧ k = k' := by
  have e1 : (i * (lb + 1) + k) / (lb + 1) = i := by rw [Nat.mul_comm, Nat.mul_add_div (by omega), Nat.div_eq_of_lt (by omega)]; rfl
  have e2 : (i' * (lb + 1) + k') / (lb + 1) = i' := by rw [Nat.mul_comm, Nat.mul_add_div (by omega), Nat.div_eq_of_lt (by omega)]; rfl
  have e : i = i' := by rw [← e1, ← e2, h]
  subst e
  exact ⟨rfl, by omega⟩
theorem good_set {a b : List S36} {f : Nat → Int} {m r i k : Nat} {v : Int} (hi : a.length = i + m + 1) (hk : b.length = k + r + 1) (hG : Good a b f m (b.length - r)) (hv : v = lcs (a.drop i) (b.drop k)) :
    Good a b (fun j => if j = i * (b.length + 1) + k then v else f j) m (b.length - (r + 1)) := fun i2 k2 hi2 hk2 hc => by
  dsimp only
  by_cases e : i2 * (b.length + 1) + k2 = i * (b.length + 1) + k
  · rw [if_pos e]
    obtain ⟨e1, e2⟩ := idx_inj hk2 (by omega) e
    rw [e1, e2]; exact hv
  · rw [if_neg e]
    refine hG i2 k2 hi2 hk2 ?_
    rcases hc with h | ⟨h1, h2⟩ | h
    · exact .inl h
    · have : i2 = i := by omega
      subst this
      have : k2 ≠ k := fun h => by subst h; exact e rfl
      exact .inr (.inl ⟨h1, by omega⟩)
    · exact .inr (.inr h)
theorem drop_rd {a : List S36} {i : Nat} (h : i < a.length) : a.drop i = rd_T36 a (i : Int) :: a.drop (i + 1) := by
  have : rd_T36 a (i : Int) = a[i] := by unfold rd_T36; rw [Int.toNat_natCast, List.getD_eq_getElem?_getD, List.getElem?_eq_getElem h]; rfl
  rw [this]
  exact List.drop_eq_getElem_cons h
theorem good_eq {a b : List S36} {f : Nat → Int} {m r i k : Nat} (hi : a.length = i + m + 1) (hk : b.length = k + r + 1) (hG : Good a b f m (b.length - r)) (ha : a.length ≤ 300) (he : idOf (rd_T36 a (i : Int)) = idOf (rd_T36 b (k : Int))) :
    IntKind.i64.wrap (f ((i + 1) * (b.length + 1) + (k + 1)) + 1) = lcs (a.drop i) (b.drop k) := by
  have h := hG (i + 1) (k + 1) (by omega) (by omega) (.inl (by omega))
  have h2 := lcs_le (a.drop (i + 1)) (b.drop (k + 1))
  rw [List.length_drop] at h2
  rw [h, drop_rd (show i < a.length by omega), drop_rd (show k < b.length by omega), lcs_eq _ _ he]
  rw [IntWalk.i64_in _ (by omega)]
  push_cast; rfl
theorem good_ne {a b : List S36} {f : Nat → Int} {m r i k : Nat} (hi : a.length = i + m + 1) (hk : b.length = k + r + 1) (hG : Good a b f m (b.length - r)) (he : idOf (rd_T36 a (i : Int)) ≠ idOf (rd_T36 b (k : Int))) :
    mx (f ((i + 1) * (b.length + 1) + k)) (f (i * (b.length + 1) + (k + 1))) = lcs (a.drop i) (b.drop k) := by
  have h1 := hG (i + 1) k (by omega) (by omega) (.inl (by omega))
  have h2 := hG i (k + 1) (by omega) (by omega) (.inr (.inl ⟨hi, by omega⟩))
  rw [h1, h2]
  have e1 := drop_rd (show i < a.length by omega)
  have e2 := drop_rd (show k < b.length by omega)
  have e3 : lcs (a.drop i) (b.drop k) = max (lcs (a.drop (i + 1)) (b.drop k)) (lcs (a.drop i) (b.drop (k + 1))) := by
    conv => lhs; rw [e1, e2]
    rw [lcs_ne _ _ he, ← e1, ← e2]
  rw [e3]
  unfold mx
  split <;> omega
/-- The table between two rounds of the outer loop. -/
def Rows1 (g nn : Nat) (a b : List S36) (pre : List (Fin a.length)) (W : World) : Prop := g < W.heap.size ∧ ∃ f, TabSt W g nn f ∧ (Came pre → Good a b f pre.length b.length)
/-- .. and of the inner one, within the row x. -/
def Rows2 (g nn : Nat) (a b : List S36) (pre : List (Fin a.length)) (x : Fin a.length) (pre' : List (Fin b.length)) (W : World) : Prop := g < W.heap.size ∧ ∃ f, TabSt W g nn f ∧ (Came (pre ++ [x]) → Came pre' → Good a b f pre.length (b.length - pre'.length))
theorem rows1_own {g nn M : Nat} {a b : List S36} (hM : g < M) : OwnFrom M (Rows1 g nn a b) := fun s X Y row hs hg hrow => by
  obtain ⟨h0, f, h1, h2⟩ := hs
  exact ⟨Nat.lt_of_lt_of_le h0 hg.size, f, h1.grown hg h0 (fun e => by have := (hrow g e.symm).1; omega), h2⟩
theorem rows2_own {g nn M : Nat} {a b : List S36} {pre : List (Fin a.length)} {x : Fin a.length} (hM : g < M) : OwnFrom M (Rows2 g nn a b pre x) := fun s X Y row hs hg hrow => by
  obtain ⟨h0, f, h1, h2⟩ := hs
  exact ⟨Nat.lt_of_lt_of_le h0 hg.size, f, h1.grown hg h0 (fun e => by have := (hrow g e.symm).1; omega), h2⟩
/-- The table of two outlines lies at g. -/
def TabIs (W : World) (g : Nat) (a b : List S36) : Prop := ∀ i k, i ≤ a.length → k ≤ b.length → W.cell? ⟨g, i * (b.length + 1) + k, none⟩ = some (.int .i64 (lcs (a.drop i) (b.drop k)))
theorem TabIs.below {W W' : World} {g : Nat} {a b : List S36} (h : TabIs W g a b) (hb : Below W.heap.size W W') : TabIs W' g a b := fun i k hi hk => by
  have := h i k hi hk
  exact (hb.cell (World.block_lt_of_cell? _ _ this)).trans this
set_option maxRecDepth 100000 in
set_option maxHeartbeats 8000000 in
theorem newTable_ok (w : World) (A : Option Addr) (c : Nat) (a : List S36) (B : Option Addr) (d : Nat) (b : List S36) (hA : k36.C w A a.length a) (hB : k36.C w B b.length b) (ha : a.length ≤ 300) (hb : b.length ≤ 300) :
    Calls Try.prog 21 #[.slice A a.length c, .slice B b.length d] w fun e w' => ∃ g cap, e = .returned (.agg #[.slice (some ⟨g, 0, none⟩) ((a.length + 1) * (b.length + 1)) cap, .int .i64 ((b.length : Int) + 1)]) ∧ Below w.heap.size w w' ∧ TabIs w' g a b := by
  obtain ⟨nn, hnn⟩ : ∃ nn, nn = (a.length + 1) * (b.length + 1) := ⟨_, rfl⟩
  have hq : ((a.length : Int) + 1) * ((b.length : Int) + 1) = (nn : Int) := by rw [hnn]; push_cast; rfl
  have hn1 : nn ≤ 90601 := by have := Nat.mul_le_mul (show a.length + 1 ≤ 301 by omega) (show b.length + 1 ≤ 301 by omega); omega
  have hmk := print_make (P := Try.prog) 44 3 .i64 8 Try.underlying44 info3 (by decide) nn (by omega)
  have HA := Lib.hid hA; have HB := Lib.hid hB; have HNN := Lib.hid hnn
  clear hA hB hnn
  refine (callsIn_wide (n := 10)).1 ?_
  refine callsIn_of_wp_marks Try.func21 rfl trivial ?_ rfl
  simp only [Try.ntmps21, List.size_toArray, List.length_cons, List.length_nil, Nat.reduceAdd, Nat.reduceSub, Array.replicate_succ, Array.replicate_zero, List.push_toArray, List.append_toArray, List.nil_append, List.cons_append]
  gi_wp2
  refine wpIn_wide.2 ?_
  go_cut [5] from 11 to 22 (fun s5 wx => Made w wx b.length B d nn s5)
  case first =>
    have hbox : (w.alloc (.cells #[.slice B b.length d] 22)).cell? ⟨w.heap.size, 0, none⟩ = some (.slice B b.length d) := by go_simp
    have wa : IntKind.i64.wrap ((a.length : Int) + 1) = (a.length : Int) + 1 := IntWalk.i64_in _ (by omega)
    have wb : IntKind.i64.wrap ((b.length : Int) + 1) = (b.length : Int) + 1 := IntWalk.i64_in _ (by omega)
    have wn : IntKind.i64.wrap (nn : Int) = (nn : Int) := IntWalk.i64_in _ (by omega)
    go_region_held3 (fun w' => w'.cell? ⟨w.heap.size, 0, none⟩ = some (.slice B b.length d)) (go_keep) (fail)
    · obtain ⟨W, eW, h0, h1, h2, h3, hb, hs⟩ := four_new w (.cells #[.slice B b.length d] 22) (.cells #[.slice none 0 0, .int .i64 0] 53) (.cells (madeCells #[.int .i64 0] nn) 3) (.cells #[.slice (some ⟨w.heap.size + 1 + 1, 0, none⟩) nn nn, .int .i64 ((b.length : Int) + 1)] 53)
      rw [← eW]
      go_wp2_with fail
      go_meet
      exact ⟨_, _, rfl, hb, h0, h1, h3, tab_made h2, by omega, by omega, by omega, by omega⟩
    · obtain ⟨W, eW, h0, h1, h2, h3, hb, hs⟩ := four_new w (.cells #[.slice B b.length d] 22) (.cells #[.slice none 0 0, .int .i64 0] 53) (.cells #[.slice (some ⟨w.heap.size + 1 + 1 + 1, 0, none⟩) nn nn, .int .i64 ((b.length : Int) + 1)] 53) (.cells (madeCells #[.int .i64 0] nn) 3)
      rw [← eW]
      go_wp2_with fail
      go_meet
      exact ⟨_, _, rfl, hb, h0, h1, h2, tab_made h3, by omega, by omega, by omega, by omega⟩
  case rest =>
    obtain ⟨p, g, rfl, hB1, hbx, hrs, htb, hts, hg, hpg, hg2, hp2⟩ := hcut
    gi_wp2_with (refine ⟨trivial, ?_⟩; gi_at_call 30; refine (back_in Fence.wide 9 trivial rfl _ _ _ _).mono ?_; rintro e w' ⟨rfl, rfl⟩)
    have hs0 := hB1.size
    have hl0 : w.heap.size < wc.heap.size := lt_of_blk hbx
    have hl1 : w.heap.size + 1 < wc.heap.size := lt_of_blk hrs
    have hlp : p < wc.heap.size := lt_of_blk htb
    obtain ⟨W0, hW0⟩ : ∃ W0, W0 = wc.alloc (.cells #[.slice A a.length c] 22) := ⟨_, rfl⟩
    have hBa : W0.cell? ⟨wc.heap.size, 0, none⟩ = some (.slice A a.length c) := by rw [hW0]; go_simp
    have hZ0 : W0.heap.size = wc.heap.size + 1 := by rw [hW0]; simp
    have bel0 : Below wc.heap.size wc W0 := by rw [hW0]; exact below_alloc (Below.refl _ _) _
    have B0 := Lib.hid (hB1.trans (bel0.mono hs0))
    have htb0 := (bel0.block p hlp).trans htb
    have hbx0 := (bel0.block _ hl0).trans hbx
    have hrs0 := (bel0.block _ hl1).trans hrs
    have hts0 : TabSt W0 g nn (fun _ => 0) := hts.kept (bel0.block g hg)
    rw [← hW0]
    clear hW0 hB1 hbx hrs htb hts
    refine wpIn_rangeFunc_ownH (F := Fence.wide) (n := 10) rfl (by omega) (gf := 36) (lb := #[.pointer (some ⟨wc.heap.size, 0, none⟩)]) rfl trivial (enters_of Try.func36 (by kernel_rfl) rfl)
      (back_stops Fence.wide 9 trivial rfl (by omega) wc.heap.size W0.heap.size g A c a ha w W0 HA.out B0.out (by omega) (by omega) (by omega) (by omega) hBa)
      (fun h k => h.trans k (fun _ _ h => h)) (keep_kb (fun k hk => .inr hk)) (Below.refl _ _) (fun _ => rfl)
      (fun pre W => Rows1 g nn a b pre W ∧ Keep (TF g W0.heap.size) W0 W) (fun _ _ _ => False)
      (OwnFrom.and (rows1_own (by omega)) (own_keep (fun k hk => .inr hk))) (fun _ _ _ _ _ hs _ _ => hs)
      ⟨⟨by omega, _, hts0, fun _ i k hi hk h => ?_⟩, Keep.refl _ _⟩
      (fun x a' W => ∃ Bi Bx, W0.heap.size ≤ Bi ∧ W0.heap.size ≤ Bx ∧ W.heap[Bi]? = some (.cells #[.int .i64 (x.1 : Int)] 3 (0, 0)) ∧ W.heap[Bx]? = some (.cells #[.int .i64 (rd_T36 a (x.1 : Int)).f0.f0, .int .i64 (rd_T36 a (x.1 : Int)).f0.f1, .int .i64 (rd_T36 a (x.1 : Int)).f1, .bool (rd_T36 a (x.1 : Int)).f2, .string (rd_T36 a (x.1 : Int)).f3] 36 (0, 0)) ∧ a' = { tmps := #[.slice A a.length c, .slice B b.length d, undef, .pointer (some ⟨w.heap.size, 0, none⟩), .pointer (some ⟨w.heap.size + 1, 0, none⟩), .pointer (some ⟨p, 0, none⟩), .pointer (some ⟨Bi, 0, none⟩), .pointer (some ⟨Bx, 0, none⟩), undef, undef, undef, u11, u12, u13, u14, u15, u16, u17, u18, u19, u20, u21, u22, .slice A a.length c, .func (.func 36) #[] #[.pointer (some ⟨wc.heap.size, 0, none⟩)], .int .i64 (x.1 : Int), bv (rd_T36 a (x.1 : Int)), undef, undef, undef, undef, undef, undef, undef, undef, undef, undef, undef, undef, undef, undef, undef, undef, undef, undef, undef, undef, undef, undef, undef, undef, undef, undef, undef, undef, undef, undef, undef, undef, undef], defers := [] })
      (fun x a' s X Y row hs hg hr => by obtain ⟨Bi, Bx, h1, h2, h3, h4, h5⟩ := hs; exact ⟨Bi, Bx, h1, h2, own_blk (β := Unit) Bi _ 3 () X Y row h3 hg (fun r e => (hr r e).2), own_blk (β := Unit) Bx _ 36 () X Y row h4 hg (fun r e => (hr r e).2), h5⟩)
      ?assign ?body ?done ?stop
    · have e0 : lcs (a.drop i) (b.drop k) = 0 := by
        rcases h with h | h | h
        · rw [List.drop_eq_nil_of_le (by simpa using h)]; rfl
        · rw [List.drop_eq_nil_of_le (show b.length ≤ k from h.2)]; exact lcs_nil' _
        · rw [List.drop_eq_nil_of_le (show b.length ≤ k by omega)]; exact lcs_nil' _
      rw [e0]; rfl
    case assign =>
      rintro l pre x W K ⟨hr1, hk1⟩ hK
      dsimp only [encB, bv]
      gi_wp2
      have z1 := hk1.size
      have n1 := World.alloc_heap_new W (.cells #[.int .i64 (x.1 : Int)] 3)
      have n2 := World.alloc_heap_new (W.alloc (.cells #[.int .i64 (x.1 : Int)] 3)) (.cells #[.int .i64 (rd_T36 a (x.1 : Int)).f0.f0, .int .i64 (rd_T36 a (x.1 : Int)).f0.f1, .int .i64 (rd_T36 a (x.1 : Int)).f1, .bool (rd_T36 a (x.1 : Int)).f2, .string (rd_T36 a (x.1 : Int)).f3] 36)
      rw [World.size_alloc] at n2
      have kp : Keep (TF g W0.heap.size) W ((W.alloc (.cells #[.int .i64 (x.1 : Int)] 3)).alloc (.cells #[.int .i64 (rd_T36 a (x.1 : Int)).f0.f0, .int .i64 (rd_T36 a (x.1 : Int)).f0.f1, .int .i64 (rd_T36 a (x.1 : Int)).f1, .bool (rd_T36 a (x.1 : Int)).f2, .string (rd_T36 a (x.1 : Int)).f3] 36)) := (Keep.alloc _ W _).trans (Keep.alloc _ _ _) (fun _ _ h => h)
      exact hK _ _ (((KeepsOthers.alloc _ _).trans (KeepsOthers.alloc _ _)).from _) kp ⟨(rows1_own (M := W0.heap.size) (by omega)).alloc _ ((rows1_own (M := W0.heap.size) (by omega)).alloc _ hr1), hk1.trans kp (fun _ _ h => h)⟩
        ⟨W.heap.size, W.heap.size + 1, z1, by omega, (Below.heap_alloc _ _ _ (by simp)).trans n1, n2, rfl⟩
    case body =>
      rintro l pre x a' W hl ⟨r, hr⟩ ⟨hr1, hk1⟩ ⟨Bi, Bx, hBi, hBx, bI, bX, rfl⟩ hlt
      have z1 := hk1.size
      have hbx1 := (hk1.block w.heap.size (lt_of_blk hbx0) (fun h => h.elim (fun h => by omega) (fun h => by omega))).trans hbx0
      have htb1 := (hk1.block p (lt_of_blk htb0) (fun h => h.elim hpg (fun h => by have := lt_of_blk htb0; omega))).trans htb0
      have cB := blk_cell hbx1 0
      simp at cB
      have K1 := Lib.hid hk1; have R1 := Lib.hid hr1; have BI := Lib.hid bI; have BX := Lib.hid bX; have HR := Lib.hid hr; have TB1 := Lib.hid htb1
      have hIl := lt_of_blk bI; have hXl := lt_of_blk bX; have hPl := lt_of_blk htb1
      clear hk1 hr1 bI bX hr htb1 hbx1
      gi_wp2_with (refine ⟨trivial, ?_⟩; gi_at_call 30; refine (CallsIn.inRound l (back_in Fence.wide 7 trivial rfl _ _ _ _)).mono ?_; rintro e w' ⟨rfl, rfl⟩)
      obtain ⟨W2, hW2⟩ : ∃ W2, W2 = W.alloc (.cells #[.slice B b.length d] 22) := ⟨_, rfl⟩
      have hBb : W2.cell? ⟨W.heap.size, 0, none⟩ = some (.slice B b.length d) := by rw [hW2]; go_simp
      have hZ2 : W2.heap.size = W.heap.size + 1 := by rw [hW2]; simp
      have bel2 : Below W.heap.size W W2 := by rw [hW2]; exact below_alloc (Below.refl _ _) _
      have ko2 : KeepsFrom W0.heap.size W W2 := by rw [hW2]; exact (KeepsOthers.alloc _ _).from _
      have r2 : Rows1 g nn a b pre W2 := by rw [hW2]; exact (rows1_own (M := W0.heap.size) (by omega)).alloc _ R1.out
      have hr' : W2.heap[l]? = some (.loop r) := (bel2.block l (Array.getElem?_eq_some_iff.1 HR.out).1).trans HR.out
      have kw2 : Keep (TF g W0.heap.size) W W2 := Keep.of_below bel2 (fun i h1 h2 => by omega)
      have bI2 := (bel2.block Bi hIl).trans BI.out
      have bX2 := (bel2.block Bx hXl).trans BX.out
      have tb2 := (bel2.block p hPl).trans TB1.out
      have bW2 : Below w.heap.size w W2 := (B0.out.trans (K1.out.below (fun i hi h => h.elim (fun h => by omega) (fun h => by omega)) B0.out.size)).trans (bel2.mono (by have := B0.out.size; omega))
      rw [← hW2]
      clear hW2 cB
      refine wpIn_rangeFunc_ownN (F := Fence.wide.inRound l) (n := 8) (l₀ := l) (r₀ := r) rfl hr' (by omega) (gf := 36) (lb := #[.pointer (some ⟨W.heap.size, 0, none⟩)]) rfl trivial (enters_of Try.func36 (by kernel_rfl) rfl)
        ((back_stops Fence.wide 7 trivial rfl (by omega) W.heap.size W2.heap.size g B d b hb w W2 HB.out bW2 (by omega) (by omega) (by omega) (by omega) hBb).inRound l)
        (fun h k => h.trans k (fun _ _ h => h)) (keep_kb (fun k hk => .inr hk)) (Below.refl _ _) (fun _ => rfl)
        (fun pre' W' => Rows2 g nn a b pre x pre' W' ∧ Keep (TF g W2.heap.size) W2 W' ∧ KeepsFrom W0.heap.size W W') (fun _ _ _ => False)
        (OwnFrom.and (rows2_own (by omega)) (OwnFrom.and (own_keep (fun k hk => .inr hk)) (ownFrom_keepsFrom (by omega)))) (fun _ _ _ _ _ hs _ _ => hs)
        ⟨?_, Keep.refl _ _, ko2⟩
        (fun y a'' W' => ∃ By, W2.heap.size ≤ By ∧ W'.heap[By]? = some (.cells #[.int .i64 (rd_T36 b (y.1 : Int)).f0.f0, .int .i64 (rd_T36 b (y.1 : Int)).f0.f1, .int .i64 (rd_T36 b (y.1 : Int)).f1, .bool (rd_T36 b (y.1 : Int)).f2, .string (rd_T36 b (y.1 : Int)).f3] 36 (0, 0)) ∧ a'' = { tmps := #[.slice A a.length c, .slice B b.length d, undef, .pointer (some ⟨w.heap.size, 0, none⟩), .pointer (some ⟨w.heap.size + 1, 0, none⟩), .pointer (some ⟨p, 0, none⟩), .pointer (some ⟨Bi, 0, none⟩), .pointer (some ⟨Bx, 0, none⟩), .int .i64 (y.1 : Int), .pointer (some ⟨By, 0, none⟩), undef, u11, u12, u13, u14, u15, u16, u17, u18, u19, u20, u21, u22, .slice A a.length c, .func (.func 36) #[] #[.pointer (some ⟨wc.heap.size, 0, none⟩)], .int .i64 (x.1 : Int), bv (rd_T36 a (x.1 : Int)), .slice B b.length d, .func (.func 36) #[] #[.pointer (some ⟨W.heap.size, 0, none⟩)], .int .i64 (y.1 : Int), bv (rd_T36 b (y.1 : Int)), undef, undef, undef, undef, undef, undef, undef, undef, undef, undef, undef, undef, undef, undef, undef, undef, undef, undef, undef, undef, undef, undef, undef, undef, undef, undef, undef, undef, undef], defers := [] })
        (fun y a'' s X Y row hs hg hr => by obtain ⟨By, h1, h2, h3⟩ := hs; exact ⟨By, h1, own_blk (β := Unit) By _ 36 () X Y row h2 hg (fun r e => (hr r e).2), h3⟩)
        ?assign2 ?body2 ?done2 ?stop2
      · obtain ⟨h1, f, h2, h3⟩ := r2
        exact ⟨h1, f, h2, fun h _ => h3 (Came.snoc.1 h).1⟩
      case assign2 =>
        rintro l2 pre' y W' K ⟨hr3, hk3, hf3⟩ hK
        dsimp only [encB, bv]
        gi_wp2
        have z3 := hk3.size
        have n1 := World.alloc_heap_new W' (.cells #[.int .i64 (rd_T36 b (y.1 : Int)).f0.f0, .int .i64 (rd_T36 b (y.1 : Int)).f0.f1, .int .i64 (rd_T36 b (y.1 : Int)).f1, .bool (rd_T36 b (y.1 : Int)).f2, .string (rd_T36 b (y.1 : Int)).f3] 36)
        have kp : Keep (TF g W2.heap.size) W' (W'.alloc (.cells #[.int .i64 (rd_T36 b (y.1 : Int)).f0.f0, .int .i64 (rd_T36 b (y.1 : Int)).f0.f1, .int .i64 (rd_T36 b (y.1 : Int)).f1, .bool (rd_T36 b (y.1 : Int)).f2, .string (rd_T36 b (y.1 : Int)).f3] 36)) := Keep.alloc _ W' _
        exact hK _ _ ((KeepsOthers.alloc _ _).from _) kp ⟨(rows2_own (M := W2.heap.size) (by omega)).alloc _ hr3, hk3.trans kp (fun _ _ h => h), hf3.trans ((KeepsOthers.alloc _ _).from _)⟩
          ⟨W'.heap.size, z3, n1, rfl⟩
      case body2 =>
        rintro l2 pre' y a'' W' _ _ ⟨hr3, hk3, hf3⟩ ⟨By, hBy, bY, rfl⟩ _
        obtain ⟨hg3, f, hT, hG⟩ := hr3
        have z3 := hk3.size
        have bI3 := (hk3.block Bi (lt_of_blk bI2) (fun h => h.elim (fun h => by omega) (fun h => by have := lt_of_blk bI2; omega))).trans bI2
        have bX3 := (hk3.block Bx (lt_of_blk bX2) (fun h => h.elim (fun h => by omega) (fun h => by have := lt_of_blk bX2; omega))).trans bX2
        have tb3 := (hk3.block p (lt_of_blk tb2) (fun h => h.elim hpg (fun h => by have := lt_of_blk tb2; omega))).trans tb2
        have hi := x.2
        have hk := y.2
        have cp0 := blk_cell tb3 0
        have cp1 := blk_cell tb3 1
        have ci := blk_cell bI3 0
        simp at cp0 cp1 ci
        have H8 := Lib.hid (Held8.mk cp0 cp1 ci)
        have BX3 := Lib.hid bX3; have BY3 := Lib.hid bY; have HT3 := Lib.hid hT; have HG3 := Lib.hid hG; have K3 := Lib.hid hk3; have F3 := Lib.hid hf3
        have l1 : ((x.1 + 1) * (b.length + 1) + y.1) < nn := by rw [HNN.out]; exact idx_lt (by omega) (by omega)
        have l2' : (x.1 * (b.length + 1) + (y.1 + 1)) < nn := by rw [HNN.out]; exact idx_lt (by omega) (by omega)
        have l3 : ((x.1 + 1) * (b.length + 1) + (y.1 + 1)) < nn := by rw [HNN.out]; exact idx_lt (by omega) (by omega)
        have l0 : (x.1 * (b.length + 1) + y.1) < nn := by rw [HNN.out]; exact idx_lt (by omega) (by omega)
        have L1 := Lib.hid l1; have L2 := Lib.hid l2'; have L3 := Lib.hid l3; have L0 := Lib.hid l0
        clear hT hG bI3 bX3 bY hk3 hf3 tb3 cp0 cp1 ci l1 l2' l3 l0 hq
        gi_wp2
        have D0 := Lib.hid (below_drew1 (Below.refl W'.heap.size W'))
        have O0 := Lib.hid (KeepsOthers.drew W')
        have wx : IntKind.i64.wrap ((x.1 : Int) + 1) = (x.1 : Int) + 1 := IntWalk.i64_in _ (by omega)
        have wy : IntKind.i64.wrap ((y.1 : Int) + 1) = (y.1 : Int) + 1 := IntWalk.i64_in _ (by omega)
        refine region_held (S := Held8 p g nn ((b.length : Int) + 1) Bi (x.1 : Int)) (by kernel_rfl) (by kernel_rfl) (fun _ _ h => h) (H8.out.below D0.out) (fun hHeld => ?_)
        refine wpAnyH_take (i := 0) (oi := _) (v := ?_) rfl (by kernel_rfl) (by kernel_rfl) (by kernel_rfl) (fun _ _ _ h => h) (Or.inl ⟨by rfl, ?_⟩) (by assumption) ?_
        rotate_left
        · rintro w9 ⟨q0, q1, q2⟩
          go_simp
          with_reducible rfl
        try simp only [Act.put, List.setIfInBounds_toArray, List.set_cons_zero, List.set_cons_succ]
        refine wpAnyH_take (i := 1) (oi := _) (v := ?_) rfl (by kernel_rfl) (by kernel_rfl) (by kernel_rfl) (fun _ _ _ h => h) (Or.inl ⟨by rfl, ?_⟩) (by assumption) ?_
        rotate_left
        · rintro w9 ⟨q0, q1, q2⟩
          go_simp
          with_reducible rfl
        try simp only [Act.put, List.setIfInBounds_toArray, List.set_cons_zero, List.set_cons_succ]
        refine wpAnyH_take (i := 2) (oi := _) (v := ?_) rfl (by kernel_rfl) (by kernel_rfl) (by kernel_rfl) (fun _ _ _ h => h) (Or.inl ⟨by rfl, ?_⟩) (by assumption) ?_
        rotate_left
        · rintro w9 ⟨q0, q1, q2⟩
          go_simp
          with_reducible rfl
        try simp only [Act.put, List.setIfInBounds_toArray, List.set_cons_zero, List.set_cons_succ]
        refine wpAnyH_take (i := 3) (oi := _) (v := ?_) rfl (by kernel_rfl) (by kernel_rfl) (by kernel_rfl) (fun _ _ _ h => h) (Or.inl ⟨by rfl, ?_⟩) (by assumption) ?_
        rotate_left
        · rintro w9 ⟨q0, q1, q2⟩
          go_simp
          with_reducible rfl
        try simp only [Act.put, List.setIfInBounds_toArray, List.set_cons_zero, List.set_cons_succ]
        refine wpAnyH_take (i := 5) (oi := _) (v := ?_) rfl (by kernel_rfl) (by kernel_rfl) (by kernel_rfl) (fun _ _ _ h => h) (Or.inl ⟨by rfl, ?_⟩) (by assumption) ?_
        rotate_left
        · rintro w9 ⟨q0, q1, q2⟩
          go_simp
          with_reducible rfl
        try simp only [Act.put, List.setIfInBounds_toArray, List.set_cons_zero, List.set_cons_succ]
        refine wpAnyH_take (i := 6) (oi := _) (v := ?_) rfl (by kernel_rfl) (by kernel_rfl) (by kernel_rfl) (fun _ _ _ h => h) (Or.inl ⟨by rfl, ?_⟩) (by assumption) ?_
        rotate_left
        · rintro w9 ⟨q0, q1, q2⟩
          go_simp
          with_reducible rfl
        try simp only [Act.put, List.setIfInBounds_toArray, List.set_cons_zero, List.set_cons_succ]
        refine wpAnyH_take (i := 7) (oi := _) (v := ?_) rfl (by kernel_rfl) (by kernel_rfl) (by kernel_rfl) (fun _ _ _ h => h) (Or.inl ⟨by rfl, ?_⟩) (by assumption) ?_
        rotate_left
        · rintro w9 ⟨q0, q1, q2⟩
          go_simp
          with_reducible rfl
        try simp only [Act.put, List.setIfInBounds_toArray, List.set_cons_zero, List.set_cons_succ]
        refine wpAnyH_take (i := 8) (oi := _) (v := ?_) rfl (by kernel_rfl) (by kernel_rfl) (by kernel_rfl) (fun _ _ _ h => h) (Or.inl ⟨by rfl, ?_⟩) (by assumption) ?_
        rotate_left
        · rintro w9 ⟨q0, q1, q2⟩
          go_simp
          with_reducible rfl
        try simp only [Act.put, List.setIfInBounds_toArray, List.set_cons_zero, List.set_cons_succ]
        refine wpAnyH_ready (rs := [4]) (by kernel_rfl) (by simp) ?_
        refine AllReadyH.cons (o := _) rfl (fun K hK => ?_) AllReadyH.nil
        go_simp
        refine (at_b _ g nn nn ((x.1 + 1) * (b.length + 1)) _ _ _ (x.1 + 1) y.1 (b.length + 1) (by push_cast; rfl) (by push_cast; rfl) (by push_cast; rfl) rfl (f ((x.1 + 1) * (b.length + 1) + y.1)) L1.out (by omega) ((HT3.out.kept ((D0).out.block g hg3)) _ L1.out).1).mono ?_
        rintro e z1 ⟨rfl, d1, o1⟩
        have D1 := Lib.hid ((D0).out.trans (d1.mono (D0).out.size)); have O1 := Lib.hid ((O0).out.trans o1)
        clear d1 o1
        refine hK.out _ _ (H8.out.below D1.out) (fun hHeld1 => ?_)
        clear hK K
        try simp only [Act.put, List.setIfInBounds_toArray, List.set_cons_zero, List.set_cons_succ]
        refine wpAnyH_ready (rs := [9]) (by kernel_rfl) (by simp) ?_
        refine AllReadyH.cons (o := _) rfl (fun K hK => ?_) AllReadyH.nil
        go_simp
        refine (at_b _ g nn nn (x.1 * (b.length + 1)) _ _ _ x.1 (y.1 + 1) (b.length + 1) (by push_cast; rfl) (by push_cast; rfl) (by push_cast; rfl) rfl (f (x.1 * (b.length + 1) + (y.1 + 1))) L2.out (by omega) ((HT3.out.kept ((D1).out.block g hg3)) _ L2.out).1).mono ?_
        rintro e z2 ⟨rfl, d2, o2⟩
        have D2 := Lib.hid ((D1).out.trans (d2.mono (D1).out.size)); have O2 := Lib.hid ((O1).out.trans o2)
        clear d2 o2
        refine hK.out _ _ (H8.out.below D2.out) (fun hHeld2 => ?_)
        clear hK K
        try simp only [Act.put, List.setIfInBounds_toArray, List.set_cons_zero, List.set_cons_succ]
        refine wpAnyH_ready (rs := [10]) (by kernel_rfl) (by simp) ?_
        refine AllReadyH.cons (o := _) rfl (fun K hK => ?_) AllReadyH.nil
        go_simp
        refine hK.out _ _ (H8.out.below D2.out) (fun hHeld3 => ?_)
        clear hK K
        try simp only [Act.put, List.setIfInBounds_toArray, List.set_cons_zero, List.set_cons_succ]
        refine wpAnyH_ready (rs := [11]) (by kernel_rfl) (by simp) ?_
        refine AllReadyH.cons (o := _) rfl (fun K hK => ?_) AllReadyH.nil
        go_simp
        refine hK.out _ _ (H8.out.below D2.out) (fun hHeld4 => ?_)
        clear hK K
        try simp only [Act.put, List.setIfInBounds_toArray, List.set_cons_zero, List.set_cons_succ]
        refine wpAnyH_done (by kernel_rfl) ?_ _
        clear hHeld hHeld1 hHeld2 hHeld3 hHeld4
        have BX4 := Lib.hid ((D2.out.block Bx (lt_of_blk BX3.out)).trans BX3.out)
        have BY4 := Lib.hid ((D2.out.block By (lt_of_blk BY3.out)).trans BY3.out)
        have x0 := blk_cell BX4.out 0
        have x1 := blk_cell BX4.out 1
        have y0 := blk_cell BY4.out 0
        have y1 := blk_cell BY4.out 1
        simp at x0 x1 y0 y1
        have h8 := H8.out.below D2.out
        have p0 := h8.c0
        have p1 := h8.c1
        have p2 := h8.c2
        clear h8
        by_cases he : idOf (rd_T36 a (x.1 : Int)) = idOf (rd_T36 b (y.1 : Int))
        · have h0 : ((rd_T36 a (x.1 : Int)).f0.f0 == (rd_T36 b (y.1 : Int)).f0.f0) = true := by have := congrArg Prod.fst he; simpa [idOf] using this
          have h1 : ((rd_T36 a (x.1 : Int)).f0.f1 == (rd_T36 b (y.1 : Int)).f0.f1) = true := by have := congrArg Prod.snd he; simpa [idOf] using this
          have HE := Lib.hid he
          clear he
          gi_wp2_with (first
            | (refine ⟨trivial, ?_⟩; gi_at_call 31; refine (CallsIn.inRound l2 (callsIn_wide.2 (at_b z2 g nn nn ((x.1 + 1) * (b.length + 1)) _ _ _ (x.1 + 1) (y.1 + 1) (b.length + 1) (by push_cast; rfl) (by push_cast; rfl) (by push_cast; rfl) rfl (f ((x.1 + 1) * (b.length + 1) + (y.1 + 1))) L3.out (by omega) ((HT3.out.kept (D2.out.block g hg3)) _ L3.out).1))).mono ?_; rintro e z3 ⟨rfl, d3, o3⟩; have D3 := Lib.hid (D2.out.trans (d3.mono D2.out.size)); have O3 := Lib.hid (O2.out.trans o3); have h9 := H8.out.below D3.out; have r0 := h9.c0; have r1 := h9.c1; have r2 := h9.c2; clear h9 d3 o3)
            | (refine ⟨trivial, ?_⟩; gi_at_call 32; refine (CallsIn.inRound l2 (callsIn_wide.2 (set_b z3 g nn nn (x.1 * (b.length + 1)) _ _ _ x.1 y.1 (b.length + 1) rfl rfl (by push_cast; rfl) rfl _ (f (x.1 * (b.length + 1) + y.1)) L0.out (by omega) ((HT3.out.kept (D3.out.block g hg3)) _ L0.out).1 ((HT3.out.kept (D3.out.block g hg3)) _ L0.out).2))).mono ?_; rintro e z4 ⟨rfl, o, ez4⟩))
          have kp : Keep (TF g W2.heap.size) W' ((z3.setCell ⟨g, x.1 * (b.length + 1) + y.1, none⟩ (.int .i64 (wrap64 (f ((x.1 + 1) * (b.length + 1) + (y.1 + 1)) + 1)))).alloc o) :=
            ((Keep.of_below (F := TF g W2.heap.size) D3.out (fun i h1 h2 => .inr (by omega))).trans (Keep.setCell (F := TF g W2.heap.size) z3 (p := ⟨g, x.1 * (b.length + 1) + y.1, none⟩) (.inl rfl) _) (fun _ _ h => h)).trans (Keep.alloc (TF g W2.heap.size) _ o) (fun _ _ h => h)
          have ko : KeepsFrom W0.heap.size W' ((z3.setCell ⟨g, x.1 * (b.length + 1) + y.1, none⟩ (.int .i64 (wrap64 (f ((x.1 + 1) * (b.length + 1) + (y.1 + 1)) + 1)))).alloc o) := ((O3.out.trans (KeepsOthers.setCell _ _ _)).trans (KeepsOthers.alloc _ _)).from _
          have ts := ((HT3.out.kept (D3.out.block g hg3)).set (x.1 * (b.length + 1) + y.1) (wrap64 (f ((x.1 + 1) * (b.length + 1) + (y.1 + 1)) + 1)) L0.out).grown (World.grownBy_alloc (z3.setCell ⟨g, x.1 * (b.length + 1) + y.1, none⟩ (.int .i64 (wrap64 (f ((x.1 + 1) * (b.length + 1) + (y.1 + 1)) + 1)))) o none) (by simp [World.setCell]; exact Nat.lt_of_lt_of_le hg3 D3.out.size) (by simp)
          refine ⟨((O3.out.trans (KeepsOthers.setCell _ _ _)).trans (KeepsOthers.alloc _ _)).from _, kp, ⟨Nat.lt_of_lt_of_le hg3 kp.size, _, ts, fun h h' => ?_⟩, K3.out.trans kp (fun _ _ h => h), F3.out.trans ko⟩
          have c1 := (Came.snoc.1 h).2
          have c2 := Came.snoc.1 h'
          rw [List.length_append]
          exact good_set (by omega) (by omega) (HG3.out h c2.1) ((i64_w _).symm.trans (good_eq (by omega) (by omega) (HG3.out h c2.1) ha HE.out))
        · have h0 : ((rd_T36 a (x.1 : Int)).f0.f0 == (rd_T36 b (y.1 : Int)).f0.f0 && (rd_T36 a (x.1 : Int)).f0.f1 == (rd_T36 b (y.1 : Int)).f0.f1) = false := by
            rw [Bool.eq_false_iff]
            intro h
            simp only [Bool.and_eq_true, beq_iff_eq] at h
            exact he (Prod.ext h.1 h.2)
          have HE := Lib.hid he
          clear he
          gi_wp2_with (refine ⟨trivial, ?_⟩; gi_at_call 32; refine (CallsIn.inRound l2 (callsIn_wide.2 (set_b z2 g nn nn (x.1 * (b.length + 1)) _ _ _ x.1 y.1 (b.length + 1) rfl rfl (by push_cast; rfl) rfl _ (f (x.1 * (b.length + 1) + y.1)) L0.out (by omega) ((HT3.out.kept (D2.out.block g hg3)) _ L0.out).1 ((HT3.out.kept (D2.out.block g hg3)) _ L0.out).2))).mono ?_; rintro e z4 ⟨rfl, o, ez4⟩)
          have kp : Keep (TF g W2.heap.size) W' ((z2.setCell ⟨g, x.1 * (b.length + 1) + y.1, none⟩ (.int .i64 (mx (f ((x.1 + 1) * (b.length + 1) + y.1)) (f (x.1 * (b.length + 1) + (y.1 + 1)))))).alloc o) :=
            ((Keep.of_below (F := TF g W2.heap.size) D2.out (fun i h1 h2 => .inr (by omega))).trans (Keep.setCell (F := TF g W2.heap.size) z2 (p := ⟨g, x.1 * (b.length + 1) + y.1, none⟩) (.inl rfl) _) (fun _ _ h => h)).trans (Keep.alloc (TF g W2.heap.size) _ o) (fun _ _ h => h)
          have ko : KeepsFrom W0.heap.size W' ((z2.setCell ⟨g, x.1 * (b.length + 1) + y.1, none⟩ (.int .i64 (mx (f ((x.1 + 1) * (b.length + 1) + y.1)) (f (x.1 * (b.length + 1) + (y.1 + 1)))))).alloc o) := ((O2.out.trans (KeepsOthers.setCell _ _ _)).trans (KeepsOthers.alloc _ _)).from _
          have ts := ((HT3.out.kept (D2.out.block g hg3)).set (x.1 * (b.length + 1) + y.1) (mx (f ((x.1 + 1) * (b.length + 1) + y.1)) (f (x.1 * (b.length + 1) + (y.1 + 1)))) L0.out).grown (World.grownBy_alloc (z2.setCell ⟨g, x.1 * (b.length + 1) + y.1, none⟩ (.int .i64 (mx (f ((x.1 + 1) * (b.length + 1) + y.1)) (f (x.1 * (b.length + 1) + (y.1 + 1)))))) o none) (by simp [World.setCell]; exact Nat.lt_of_lt_of_le hg3 D2.out.size) (by simp)
          refine ⟨((O2.out.trans (KeepsOthers.setCell _ _ _)).trans (KeepsOthers.alloc _ _)).from _, kp, ⟨Nat.lt_of_lt_of_le hg3 kp.size, _, ts, fun h h' => ?_⟩, K3.out.trans kp (fun _ _ h => h), F3.out.trans ko⟩
          have c1 := (Came.snoc.1 h).2
          have c2 := Came.snoc.1 h'
          rw [List.length_append]
          exact good_set (by omega) (by omega) (HG3.out h c2.1) (good_ne (by omega) (by omega) (HG3.out h c2.1) HE.out)
      case done2 =>
        rintro ys W' ⟨hcm, hlen⟩ ⟨hr3, hk3, hf3⟩
        gi_wp2
        have kk : Keep (TF g W0.heap.size) W W' := kw2.trans hk3 (fun i hi h => h.imp id (fun h => by omega))
        obtain ⟨h1, f, h2, h3⟩ := hr3
        exact ⟨hf3, kk, ⟨h1, f, h2, fun h => by
          have := h3 h hcm
          rw [hlen, Nat.sub_self] at this
          rw [List.length_append]
          exact good_next this⟩, K1.out.trans kk (fun _ _ h => h)⟩
      case stop2 =>
        rintro c pre' W' _ h
        exact h.elim
    case done =>
      rintro D ys W hD ⟨hcm, hlen⟩ ⟨hr1, hk1⟩ hK
      obtain ⟨hg3, f, hT, hG⟩ := hr1
      have hG := hG hcm
      rw [hlen] at hG
      have tb3 := (hk1.block p (lt_of_blk htb0) (fun h => h.elim hpg (fun h => by have := lt_of_blk htb0; omega))).trans htb0
      have rs3 := (hk1.block (w.heap.size + 1) (lt_of_blk hrs0) (fun h => h.elim (fun h => by omega) (fun h => by omega))).trans hrs0
      have cp0 := blk_cell tb3 0
      have cp1 := blk_cell tb3 1
      have cr0 := blk_cell rs3 0
      have cr1 := blk_cell rs3 1
      have fr0 := blk_frozen rs3 0
      have fr1 := blk_frozen rs3 1
      simp at cp0 cp1 cr0 cr1
      have HT3 := Lib.hid hT; have HG3 := Lib.hid hG; have K1 := Lib.hid hk1; have HK := Lib.hid hK; have RS3 := Lib.hid rs3
      have hlr := lt_of_blk rs3
      clear hT hG hk1 hK tb3 rs3
      gi_wp2
      obtain ⟨W5, e5⟩ : ∃ W5, W5 = (W.setCell ⟨w.heap.size + 1, 0, none⟩ (.slice (some ⟨g, 0, none⟩) nn nn)).setCell ⟨w.heap.size + 1, 1, none⟩ (.int .i64 ((b.length : Int) + 1)) := ⟨_, rfl⟩
      rw [← e5]
      have hK5 : W5.heap[D]? = some (.deferred (some [])) := by
        rw [e5]
        exact (KeepsOthers.setCell _ _ _).same D _ ((KeepsOthers.setCell _ _ _).same D _ HK.out rfl) rfl
      have blk5 : W5.heap[w.heap.size + 1]? = some (.cells #[.slice (some ⟨g, 0, none⟩) nn nn, .int .i64 ((b.length : Int) + 1)] 53 (0, 0)) := by
        rw [e5]
        simpa using blk_set (blk_set RS3.out 0 (.slice (some ⟨g, 0, none⟩) nn nn)) 1 (.int .i64 ((b.length : Int) + 1))
      have k5 : Keep (fun k => k = w.heap.size + 1) W W5 := by
        rw [e5]
        exact (Keep.setCell (F := fun k => k = w.heap.size + 1) W (p := ⟨w.heap.size + 1, 0, none⟩) rfl _).trans (Keep.setCell (F := fun k => k = w.heap.size + 1) _ (p := ⟨w.heap.size + 1, 1, none⟩) rfl _) (fun _ _ h => h)
      have gl : ∀ k o, W5.heap[k]? = some o → k ≠ D → (W5.putObj D (.deferred none)).heap[k]? = some o := fun k o h hne => ((grownBy_putObj' W5 D (.deferred none)).block k (lt_of_blk h) (fun e => hne (by cases e; rfl))).trans h
      have hneD : w.heap.size + 1 ≠ D := by omega
      have blk6 := gl _ _ blk5 hneD
      have c6 := blk_cell blk6 0
      have c7 := blk_cell blk6 1
      simp at c6 c7
      have bel : Below w.heap.size w (W5.putObj D (.deferred none)) :=
        ((B0.out.trans (K1.out.below (fun i hi h => h.elim (fun h => by omega) (fun h => by omega)) B0.out.size)).trans (k5.below (fun i hi h => by omega) (by have := B0.out.size; have := K1.out.size; omega))).trans
          (belowK_b (w := w) (Nat.le_refl _) W5 D _ _ (by omega) hK5 rfl rfl)
      have tab : TabIs (W5.putObj D (.deferred none)) g a b := fun i k hi hk => by
        have hj : i * (b.length + 1) + k < nn := by rw [HNN.out]; exact idx_lt hi hk
        have e1 := (HT3.out _ hj).1
        rw [HG3.out i k hi hk (.inl (by omega))] at e1
        have e2 : W5.heap[g]? = W.heap[g]? := k5.block g hg3 (fun h => by omega)
        have hgD : g ≠ D := by omega
        have e3 : (W5.putObj D (.deferred none)).heap[g]? = W5.heap[g]? := (grownBy_putObj' W5 D (.deferred none)).block g (Nat.lt_of_lt_of_le hg3 k5.size) (fun e => hgD (by cases e; rfl))
        rw [← e1]
        simp [World.cell?, e3, e2]
      clear K1 B0 HT3 HG3 gl blk5 k5 e5
      refine ⟨by simp, .inl ⟨_, _, rfl, run_takeDeferred hK5, ?_⟩⟩
      refine ⟨.agg #[.slice (some ⟨g, 0, none⟩) nn nn, .int .i64 ((b.length : Int) + 1)], ?_, g, nn, by rw [HNN.out], bel, tab⟩
      simp [results, Try.f21, go_sem, c6, c7]
    case stop =>
      rintro D c pre W _ _ h _
      exact h.elim
end Go.Proofs.Ytbaihnpanoibdaa.Q
