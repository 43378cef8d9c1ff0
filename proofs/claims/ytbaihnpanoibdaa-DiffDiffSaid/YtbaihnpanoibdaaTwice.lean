/- Does an outline tell a name twice? -/
import Derived.Test.YtbaihnpanoibdaaNext
import Derived.DeepKeys5
import Derived.WideKeyEntry
namespace Go.Proofs.Ytbaihnpanoibdaa.Q
open Go.RowKit Go.Proofs.YtbaihnpanoibdaaW.PrintWords Go.Proofs.YtbaihnpanoibdaaW.PrintLast Go.Proofs.YtbaihnpanoibdaaW.PrintMore Go.Proofs.Ytbaihnpanoibdaa.Mem
set_option linter.unusedVariables false
set_option linter.unusedSimpArgs false
attribute [local go_sem high] eqA34

abbrev keyV (r n : Int) : Value := .agg #[.int .i64 r, .int .i64 n]
theorem check3 (em : Bool) (m : Nat) (r : Int) (w : World) : (Instr.checkKey em (m + 1) 3 (.int .i64 r)).run Try.prog w = .ok () w := by
  unfold Instr.checkKey
  simp [run_underlying Try.underlying3, go_sem]
theorem check34 (em : Bool) (r n : Int) (w : World) : (Instr.checkKey em 10000 34 (keyV r n)).run Try.prog w = .ok () w := by
  rw [show (10000 : Nat) = 9998 + 1 + 1 from rfl]
  unfold Instr.checkKey
  simp [run_underlying Try.underlying34, part, go_sem]
  rw [show (9999 : Nat) = 9998 + 1 from rfl]
  simp [check3, Result.andThen]
theorem stay34 (r n : Int) (w : World) : (Instr.keyThatStays (keyV r n) (keyV r n)).run Try.prog w = .ok (keyV r n) w := by
  unfold Instr.keyThatStays
  have : Instr.sameBits 10000 (keyV r n) (keyV r n) = true := by
    rw [show (10000 : Nat) = 9998 + 1 + 1 from rfl]
    simp [Instr.sameBits]
  simp [this]
theorem equal34 (r n r' n' : Int) (w : World) : (Op.equal 34 (keyV r n) (keyV r' n')).run Try.prog w = .ok (r == r' && n == n') w := eqA34 _ w r r' n n'
/-- An entry: when it was born, its key, how often. -/
abbrev En := Nat × (Int × Int) × Int
def toE (x : En) : MapEntry := ⟨keyV x.2.1.1 x.2.1.2, .int .i64 x.2.2, x.1⟩
def arr (M : List En) : Array MapEntry := (M.map toE).toArray
def findM (p : Int × Int) : List En → Nat → Option (Nat × Value)
  | [], _ => none
  | x :: M, i => if p = x.2.1 then some (i, .int .i64 x.2.2) else findM p M (i + 1)
theorem findM_none {p : Int × Int} : ∀ {M : List En} (i : Nat), (∀ x ∈ M, x.2.1 ≠ p) → findM p M i = none
  | [], _, _ => rfl
  | x :: M, i, h => by
    unfold findM
    rw [if_neg (fun e => h x (by simp) e.symm)]
    exact findM_none (i + 1) (fun y hy => h y (by simp [hy]))
theorem findM_at {p : Int × Int} {x : En} {M2 : List En} (hx : x.2.1 = p) : ∀ {M1 : List En} (i : Nat), (∀ y ∈ M1, y.2.1 ≠ p) → findM p (M1 ++ x :: M2) i = some (i + M1.length, .int .i64 x.2.2)
  | [], i, _ => by simp [findM, hx]
  | y :: M1, i, h => by
    show findM p (y :: (M1 ++ x :: M2)) i = _
    unfold findM
    rw [if_neg (fun e => h y (by simp) e.symm), findM_at hx (i + 1) (fun z hz => h z (by simp [hz]))]
    simp; omega
theorem asking_run (p : Int × Int) : ∀ (M : List En) (i : Nat) (w : World), (Instr.findAsking 34 (keyV p.1 p.2) (M.map toE) i).run Try.prog w = .ok (findM p M i) w
  | [], i, w => by simp [Instr.findAsking, findM]
  | x :: M, i, w => by
    have h := equal34 p.1 p.2 x.2.1.1 x.2.1.2 w
    unfold findM
    rw [List.map_cons]
    unfold Instr.findAsking
    by_cases e : p = x.2.1
    · have e1 : (p.1 == x.2.1.1 && p.2 == x.2.1.2) = true := by rw [e]; simp
      rw [e1] at h
      rw [if_pos e]
      simp [toE, h, Result.andThen]
    · have e1 : (p.1 == x.2.1.1 && p.2 == x.2.1.2) = false := by
        rw [Bool.eq_false_iff]; intro h'; simp only [Bool.and_eq_true, beq_iff_eq] at h'; exact e (Prod.ext h'.1 h'.2)
      rw [e1] at h
      rw [if_neg e]
      simp [toE, h, Result.andThen]
      exact asking_run p M (i + 1) w
theorem find_run (p : Int × Int) (M : List En) (w : World) : (Instr.findKey 34 (keyV p.1 p.2) (M.map toE)).run Try.prog w = .ok (findM p M 0) w := by
  unfold Instr.findKey
  have h := asking_run p M 0 w
  cases M with
  | nil => simp [run_underlying Try.underlying34, Instr.findNow, findM]
  | cons x M =>
    simp [run_underlying Try.underlying34, Instr.findNow, Instr.sameNow, Result.andThen] at h ⊢
    exact h
theorem look_run {w : World} {mb : Nat} {M : List En} {clock : Nat} (hb : w.heap[mb]? = some (.map (arr M) clock)) (p : Int × Int) (c : Int) (h : (findM p M 0).map (·.2) = some (.int .i64 c) ∨ findM p M 0 = none ∧ c = 0) :
    (Instr.lookup 66 (.map (some mb)) (keyV p.1 p.2) false).run Try.prog w = .ok (.int .i64 c) w := by
  have hz : (zeroValue 3).run Try.prog w = .ok (.int .i64 0) w := by kernel_rfl
  unfold Instr.lookup
  have hf := find_run p M w
  have ht : (arr M).toList = M.map toE := by simp [arr]
  rcases h with h | ⟨h, rfl⟩
  · cases e : findM p M 0 with
    | none => rw [e] at h; cases h
    | some q =>
      rw [e] at h hf
      obtain ⟨j, v⟩ := q
      simp only [Option.map_some, Option.some.injEq] at h
      subst h
      simp [run_underlying Try.underlying66, MapKept.run_getObj_map hb, check34, ht, hf, Result.andThen]
  · rw [h] at hf
    simp [run_underlying Try.underlying66, MapKept.run_getObj_map hb, check34, ht, hf, hz, Result.andThen]
open Go.ChangeMaps (setBlock modify_eq_set)
theorem entry_none {w : World} {mb : Nat} {M : List En} {clock : Nat} (hb : w.heap[mb]? = some (.map (arr M) clock)) (p : Int × Int) (h : findM p M 0 = none) :
    (Instr.mapEntry 66 (.map (some mb)) (keyV p.1 p.2)).run Try.prog w = .ok (.tuple #[.int .i64 0, .int .i64 clock]) (setBlock w mb (.map (arr (M ++ [(clock, p, 0)])) (clock + 1))) := by
  have hz : ∀ w : World, (zeroValue 3).run Try.prog w = .ok (.int .i64 0) w := fun w => by kernel_rfl
  have hf := find_run p M w
  rw [h] at hf
  have ht : (arr M).toList = M.map toE := by simp [arr]
  have hp : (arr M).push ⟨keyV p.1 p.2, .int .i64 0, clock⟩ = arr (M ++ [(clock, p, 0)]) := by simp [arr, toE]
  simp [Instr.mapEntry, run_underlying Try.underlying66, MapKept.run_getObj_map hb, check34, ht, hf, hz, MapKept.run_setObj_map _ hb, Result.andThen, setBlock, goInt]
  rw [← hp]
theorem arr_at (M1 M2 : List En) (x : En) : (arr (M1 ++ x :: M2))[M1.length]? = some (toE x) := by
  simp [arr]
theorem arr_modify (M1 M2 : List En) (x : En) (f : MapEntry → MapEntry) (y : En) (h : f (toE x) = toE y) : (arr (M1 ++ x :: M2)).modify M1.length f = arr (M1 ++ y :: M2) := by
  apply Array.ext'
  rw [Array.toList_modify, modify_eq_set _ _ _ (toE x) (by simp [arr]), h]
  simp [arr]
theorem entry_gen {w : World} {mb : Nat} {M : List En} {x : En} {clock k : Nat} (hb : w.heap[mb]? = some (.map (arr M) clock)) (h : findM x.2.1 M 0 = some (k, .int .i64 x.2.2)) (ha : (arr M)[k]? = some (toE x))
    (hm : (arr M).modify k (fun e => { e with key := keyV x.2.1.1 x.2.1.2 }) = arr M) :
    (Instr.mapEntry 66 (.map (some mb)) (keyV x.2.1.1 x.2.1.2)).run Try.prog w = .ok (.tuple #[.int .i64 x.2.2, .int .i64 x.1]) (setBlock w mb (.map (arr M) clock)) := by
  have hf := find_run x.2.1 M w
  rw [h] at hf
  have ht : (arr M).toList = M.map toE := by simp [arr]
  have hk : (toE x).key = keyV x.2.1.1 x.2.1.2 := rfl
  have hbn : (toE x).born = x.1 := rfl
  simp [Instr.mapEntry, run_underlying Try.underlying66, MapKept.run_getObj_map hb, check34, ht, hf, ha, hk, stay34, hm, hbn, MapKept.run_setObj_map _ hb, Result.andThen, setBlock, goInt]
theorem entry_some {w : World} {mb : Nat} {M1 M2 : List En} {x : En} {clock : Nat} (hb : w.heap[mb]? = some (.map (arr (M1 ++ x :: M2)) clock)) (h : ∀ y ∈ M1, y.2.1 ≠ x.2.1) :
    (Instr.mapEntry 66 (.map (some mb)) (keyV x.2.1.1 x.2.1.2)).run Try.prog w = .ok (.tuple #[.int .i64 x.2.2, .int .i64 x.1]) (setBlock w mb (.map (arr (M1 ++ x :: M2)) clock)) :=
  entry_gen hb (by rw [findM_at rfl 0 h, Nat.zero_add]) (arr_at M1 M2 x) (arr_modify M1 M2 x _ x rfl)
theorem store_run {w : World} {mb : Nat} {M1 M2 : List En} {x : En} {clock : Nat} (hb : w.heap[mb]? = some (.map (arr (M1 ++ x :: M2)) clock)) (h : ∀ y ∈ M1, y.1 ≠ x.1) (v : Int) :
    (Instr.entryStore 66 (.map (some mb)) (.int .i64 (x.1 : Int)) (.int .i64 v)).run Try.prog w = .ok () (setBlock w mb (.map (arr (M1 ++ (x.1, x.2.1, v) :: M2)) clock)) := by
  have hidx : (arr (M1 ++ x :: M2)).findIdx? (fun e => ((e.born : Nat) : Int) == ((x.1 : Nat) : Int)) = some M1.length := by
    rw [Go.WideElems.findIdx_arr]
    have : (arr (M1 ++ x :: M2)).toList = M1.map toE ++ toE x :: M2.map toE := by simp [arr]
    rw [this, List.findIdx?_append]
    have h1 : (M1.map toE).findIdx? (fun e => ((e.born : Nat) : Int) == ((x.1 : Nat) : Int)) = none := by
      rw [List.findIdx?_eq_none_iff]
      intro e he
      obtain ⟨y, hy, rfl⟩ := List.mem_map.1 he
      have := h y hy
      simp [toE]; omega
    rw [h1]
    simp [List.findIdx?_cons, toE]
  have hm := arr_modify M1 M2 x (fun e => { e with val := .int .i64 v }) (x.1, x.2.1, v) rfl
  simp [Instr.entryStore, MapKept.run_getObj_map hb, asInt, asIntOf, hidx, hm, MapKept.run_setObj_map _ hb, Result.andThen, setBlock]
/-- The map when these names have been seen, each once. -/
def ents : Nat → List (Int × Int) → List En
  | _, [] => []
  | n, p :: l => (n, p, 1) :: ents (n + 1) l
theorem ents_snoc : ∀ (l : List (Int × Int)) (n : Nat) (p : Int × Int), ents n (l ++ [p]) = ents n l ++ [(n + l.length, p, 1)]
  | [], n, p => rfl
  | q :: l, n, p => by
    show (n, q, 1) :: ents (n + 1) (l ++ [p]) = _
    rw [ents_snoc l (n + 1) p]
    simp [ents]; omega
theorem ents_mem : ∀ {l : List (Int × Int)} {n : Nat} {y : En}, y ∈ ents n l → n ≤ y.1 ∧ y.1 < n + l.length ∧ y.2.1 ∈ l ∧ y.2.2 = 1
  | [], _, _, h => by cases h
  | q :: l, n, y, h => by
    rcases List.mem_cons.1 h with rfl | h
    · simp
    · obtain ⟨h1, h2, h3, h4⟩ := ents_mem h
      exact ⟨by omega, by simp only [List.length_cons]; omega, List.mem_cons_of_mem _ h3, h4⟩
theorem ents_split : ∀ {l : List (Int × Int)} {n : Nat} {p : Int × Int}, p ∈ l → ∃ M1 M2 b, ents n l = M1 ++ (b, p, 1) :: M2 ∧ (∀ y ∈ M1, y.2.1 ≠ p) ∧ (∀ y ∈ M1, y.1 ≠ b)
  | [], _, _, h => by cases h
  | q :: l, n, p, h => by
    by_cases e : q = p
    · subst e
      exact ⟨[], ents (n + 1) l, n, rfl, (fun _ h => by cases h), (fun _ h => by cases h)⟩
    · obtain ⟨M1, M2, b, h1, h2, h3⟩ := ents_split (n := n + 1) ((List.mem_cons.1 h).resolve_left (fun e' => e e'.symm))
      have hb : (b, p, (1 : Int)) ∈ ents (n + 1) l := by rw [h1]; simp
      have := (ents_mem hb).1
      refine ⟨(n, q, 1) :: M1, M2, b, by show (n, q, 1) :: ents (n + 1) l = _; rw [h1]; rfl, fun y hy => ?_, fun y hy => ?_⟩
      · rcases List.mem_cons.1 hy with rfl | hy
        · exact e
        · exact h2 y hy
      · rcases List.mem_cons.1 hy with rfl | hy
        · simp only at this ⊢; omega
        · exact h3 y hy
/-- What the closure's statement leaves, in the words of the walk: a world w2 in which the count is c + 1. -/
theorem count_runs {w : World} {mb : Nat} {pre : List (Int × Int)} (hb : w.heap[mb]? = some (.map (arr (ents 0 pre)) pre.length)) (p : Int × Int) : ∃ (c : Int) (st : Nat) (es1 es2 : Array MapEntry) (k1 : Nat),
    c = (if p ∈ pre then 1 else 0) ∧
    (∀ W : World, W.heap[mb]? = some (.map (arr (ents 0 pre)) pre.length) → (Instr.lookup 66 (.map (some mb)) (keyV p.1 p.2) false).run Try.prog W = .ok (.int .i64 c) W ∧
      ∃ v, (Instr.mapEntry 66 (.map (some mb)) (keyV p.1 p.2)).run Try.prog W = .ok (.tuple #[v, .int .i64 st]) (setBlock W mb (.map es1 k1))) ∧
    (∀ W : World, W.heap[mb]? = some (.map es1 k1) → (Instr.lookup 66 (.map (some mb)) (keyV p.1 p.2) false).run Try.prog W = .ok (.int .i64 c) W ∧
      (Instr.entryStore 66 (.map (some mb)) (.int .i64 st) (.int .i64 (c + 1))).run Try.prog W = .ok () (setBlock W mb (.map es2 k1))) ∧
    (∀ W : World, W.heap[mb]? = some (.map es2 k1) → (Instr.lookup 66 (.map (some mb)) (keyV p.1 p.2) false).run Try.prog W = .ok (.int .i64 (c + 1)) W) ∧
    (p ∉ pre → es2 = arr (ents 0 (pre ++ [p])) ∧ k1 = pre.length + 1) := by
  by_cases h : p ∈ pre
  · obtain ⟨M1, M2, b, h1, h2, h3⟩ := ents_split (n := 0) h
    refine ⟨1, b, arr (ents 0 pre), arr (M1 ++ (b, p, 2) :: M2), pre.length, by rw [if_pos h], fun W hW => ⟨look_run hW p 1 (.inl (by rw [h1, findM_at (x := (b, p, 1)) rfl 0 h2]; rfl)), .int .i64 1, ?_⟩, fun W hW => ⟨look_run hW p 1 (.inl (by rw [h1, findM_at (x := (b, p, 1)) rfl 0 h2]; rfl)), ?_⟩, fun W hW => look_run hW p 2 (.inl (by rw [findM_at (x := (b, p, 2)) rfl 0 h2]; rfl)), fun h' => absurd h h'⟩
    · rw [h1] at hW ⊢
      exact entry_some (x := (b, p, 1)) hW h2
    · rw [h1] at hW
      exact store_run (x := (b, p, 1)) hW h3 2
  · have hn : ∀ y ∈ ents 0 pre, y.2.1 ≠ p := fun y hy e => h (by rw [← e]; exact (ents_mem hy).2.2.1)
    have hf := findM_none (p := p) 0 hn
    have hs : ents 0 (pre ++ [p]) = ents 0 pre ++ (pre.length, p, 1) :: [] := by rw [ents_snoc]; simp
    refine ⟨0, pre.length, arr (ents 0 pre ++ [(pre.length, p, 0)]), arr (ents 0 (pre ++ [p])), pre.length + 1, by rw [if_neg h], fun W hW => ⟨look_run hW p 0 (.inr ⟨hf, rfl⟩), .int .i64 0, entry_none hW p hf⟩, fun W hW => ⟨look_run hW p 0 (.inl (by rw [findM_at (x := (pre.length, p, 0)) rfl 0 hn]; rfl)), ?_⟩, fun W hW => look_run hW p 1 (.inl (by rw [hs, findM_at (x := (pre.length, p, 1)) rfl 0 hn]; rfl)), fun _ => ⟨rfl, rfl⟩⟩
    rw [hs]
    exact store_run (x := (pre.length, p, 0)) hW (fun y hy => by have := (ents_mem hy).2.1; simp only; omega) 1
theorem setBlock_keep (w : World) (mb : Nat) (o : Obj) : Keep (fun k => k = mb) w (setBlock w mb o) := ⟨rfl, rfl, rfl, by simp [setBlock], fun k hk hn => by simp [setBlock, Array.getElem?_setIfInBounds]; intro h; exact absurd h.symm hn⟩
theorem setBlock_at {w : World} {mb : Nat} (o : Obj) (h : mb < w.heap.size) : (setBlock w mb o).heap[mb]? = some o := by simp [setBlock, Array.getElem?_setIfInBounds, h]
set_option maxRecDepth 100000 in
set_option maxHeartbeats 4000000 in
theorem twice1_ok (w : World) (y : S36) (p3 mb : Nat) (pre : List (Int × Int)) (h3 : w.heap[p3]? = some (.cells #[.map (some mb)] 66 (0, 0))) (hm : w.heap[mb]? = some (.map (arr (ents 0 pre)) pre.length)) (hne : p3 ≠ mb) :
    Calls Try.prog 29 #[bv y, .pointer (some ⟨p3, 0, none⟩)] w fun e w' => e = .returned (.bool (decide (idOf y ∈ pre))) ∧ Keep (fun k => k = mb) w w' ∧ (idOf y ∉ pre → w'.heap[mb]? = some (.map (arr (ents 0 (pre ++ [idOf y]))) (pre.length + 1))) := by
  obtain ⟨wA, eA⟩ : ∃ wA, wA = w.alloc (.cells #[.int .i64 y.f0.f0, .int .i64 y.f0.f1, .int .i64 y.f1, .bool y.f2, .string y.f3] 36) := ⟨_, rfl⟩
  obtain ⟨w0, ew⟩ : ∃ w0, w0 = wA.drew := ⟨_, rfl⟩
  have b0 : Below w.heap.size w w0 := by rw [ew, eA]; exact below_drew1 (below_alloc (Below.refl _ _) _)
  have hm0 := (b0.block mb (lt_of_blk hm)).trans hm
  have h30 := (b0.block p3 (lt_of_blk h3)).trans h3
  have hy0 : w0.heap[w.heap.size]? = some (.cells #[.int .i64 y.f0.f0, .int .i64 y.f0.f1, .int .i64 y.f1, .bool y.f2, .string y.f3] 36 (0, 0)) := by rw [ew, eA]; exact World.alloc_heap_new w _
  have hmw := lt_of_blk hm
  obtain ⟨c, st, es1, es2, k1, hc, r0, r1, r2, hfin⟩ := count_runs hm0 (idOf y)
  obtain ⟨w1, e1⟩ : ∃ w1, w1 = setBlock w0 mb (.map es1 k1) := ⟨_, rfl⟩
  obtain ⟨w2, e2⟩ : ∃ w2, w2 = setBlock w1 mb (.map es2 k1) := ⟨_, rfl⟩
  have hl0 := lt_of_blk hm0
  have hm1 : w1.heap[mb]? = some (.map es1 k1) := by rw [e1]; exact setBlock_at _ hl0
  have k01 : Keep (fun k => k = mb) w0 w1 := by rw [e1]; exact setBlock_keep _ _ _
  have hm2 : w2.heap[mb]? = some (.map es2 k1) := by rw [e2]; exact setBlock_at _ (lt_of_blk hm1)
  have k12 : Keep (fun k => k = mb) w1 w2 := by rw [e2]; exact setBlock_keep _ _ _
  have h31 := (k01.block p3 (lt_of_blk h30) hne).trans h30
  have h32 := (k12.block p3 (lt_of_blk h31) hne).trans h31
  have hyne : w.heap.size ≠ mb := by omega
  have hy1 := (k01.block _ (lt_of_blk hy0) hyne).trans hy0
  have hy2 := (k12.block _ (lt_of_blk hy1) hyne).trans hy1
  obtain ⟨l0, v, m0⟩ := r0 w0 hm0
  rw [← e1] at m0
  obtain ⟨l1, s1⟩ := r1 w1 hm1
  rw [← e2] at s1
  have l2 := r2 w2 hm2
  have l0 : (Instr.lookup 66 (.map (some mb)) (.agg #[.int .i64 y.f0.f0, .int .i64 y.f0.f1]) false).run Try.prog w0 = .ok (.int .i64 c) w0 := l0
  have m0 : (Instr.mapEntry 66 (.map (some mb)) (.agg #[.int .i64 y.f0.f0, .int .i64 y.f0.f1])).run Try.prog w0 = .ok (.tuple #[v, .int .i64 st]) w1 := m0
  have l1 : (Instr.lookup 66 (.map (some mb)) (.agg #[.int .i64 y.f0.f0, .int .i64 y.f0.f1]) false).run Try.prog w1 = .ok (.int .i64 c) w1 := l1
  have l2 : (Instr.lookup 66 (.map (some mb)) (.agg #[.int .i64 y.f0.f0, .int .i64 y.f0.f1]) false).run Try.prog w2 = .ok (.int .i64 (c + 1)) w2 := l2
  have a0 := blk_cell h30 0; have b0' := blk_cell hy0 0; have c0 := blk_cell hy0 1
  have a1 := blk_cell h31 0; have b1' := blk_cell hy1 0; have c1 := blk_cell hy1 1
  have a2 := blk_cell h32 0; have b2' := blk_cell hy2 0; have c2 := blk_cell hy2 1
  simp at a0 b0' c0 a1 b1' c1 a2 b2' c2
  have hcb : 0 ≤ c ∧ c ≤ 1 := by rw [hc]; split <;> omega
  have hc1 := hcb.1; have hc2 := hcb.2
  have KK := Lib.hid ((Keep.of_below (F := fun k => k = mb) b0 (fun i h1 h2 => by omega)).trans (k01.trans k12 (fun _ _ h => h)) (fun _ _ h => h))
  have HM2 := Lib.hid hm2; have HC := Lib.hid hc; have HF := Lib.hid hfin; have EA := Lib.hid eA
  subst ew
  have wc : IntKind.i64.wrap (c + 1) = c + 1 := IntWalk.i64_in _ (by omega)
  clear h3 hm b0 hm0 h30 hy0 r0 r1 r2 e1 e2 hm1 hm2 k01 k12 h31 h32 hy1 hy2 hcb hc hfin eA hl0
  go_enter Try.func29, Try.ntmps29
  go_upto_region 1 with (fail)
  rw [← EA.out]
  go_region_held3 (fun w' => w'.cell? ⟨p3, 0, none⟩ = some (.map (some mb)) ∧ w'.cell? ⟨w.heap.size, 0, none⟩ = some (.int .i64 y.f0.f0) ∧ w'.cell? ⟨w.heap.size, 1, none⟩ = some (.int .i64 y.f0.f1))
    (first | exact ⟨a2, b2', c2⟩ | exact ⟨a1, b1', c1⟩ | exact ⟨a0, b0', c0⟩) (fail)
  all_goals
    by_cases h : idOf y ∈ pre
    · have hc := HC.out
      rw [if_pos h] at hc
      have H := Lib.hid h
      clear h
      subst hc
      go_wp2_with fail
      go_ret
      exact ⟨by rw [decide_eq_true H.out]; rfl, KK.out, fun h' => absurd H.out h'⟩
    · have hc := HC.out
      rw [if_neg h] at hc
      have H := Lib.hid h
      clear h
      subst hc
      go_wp2_with fail
      go_ret
      exact ⟨by rw [decide_eq_false H.out]; rfl, KK.out, fun h' => by rw [HM2.out, (HF.out h').1, (HF.out h').2]⟩
end Go.Proofs.Ytbaihnpanoibdaa.Q
