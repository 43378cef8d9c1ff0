/- The contracts of package vec and of its reference: what each method of Vec does. -/
import Derived.Test.YtbnblddgnhdneaaMem
import Derived.StillTailTactics
import Derived.Lib.QuietBelow
namespace Go.Proofs.Ytbnblddgnhdneaa.Vec
open Go.RowKit Go.Proofs.YtbnblddgnhdneaaW.PrintWords Go.Proofs.YtbnblddgnhdneaaW.PrintLast Go.Proofs.YtbnblddgnhdneaaW.PrintMore Go.Proofs.Ytbnblddgnhdneaa.Mem
attribute [local go_sem] max2_int min2_int max_two min_two
set_option linter.unusedVariables false
set_option linter.unusedSimpArgs false

/-- Sixteen numbers, each of how many ops. -/
structure Sixteen (xs : List Int) : Prop where
  len : xs.length = 16
  rng : ∀ i, 0 ≤ xs.getD i 0 ∧ xs.getD i 0 ≤ 1048576
/-- At b a vector (of type t). -/
structure VecAt (w : World) (t : Nat) (b : Nat) (xs : List Int) : Prop where
  blk : w.heap[b]? = some (.cells (nums .i64 xs).toArray t (0, 0))
  six : Sixteen xs

section
variable {w w' : World} {F : Nat → Prop} {t b : Nat} {xs : List Int}
theorem VecAt.lt (h : VecAt w t b xs) : b < w.heap.size := lt_of_blk h.blk
theorem VecAt.kept (h : VecAt w t b xs) (hk : Keep F w w') (hd : ¬ F b) : VecAt w' t b xs := ⟨hk.at_ h.blk hd, h.six⟩
theorem VecAt.below {B : Nat} (h : VecAt w t b xs) (hb : Below B w w') (hB : b < B) : VecAt w' t b xs := ⟨(hb.block b hB).trans h.blk, h.six⟩
theorem VecAt.cell (h : VecAt w t b xs) (i : Nat) (hi : i < 16) : w.cell? ⟨b, i, none⟩ = some (.int .i64 (xs.getD i 0)) := by
  rw [blk_cell h.blk i]
  have : i < xs.length := by rw [h.six.len]; exact hi
  simp [nums, List.getElem?_eq_getElem this]
theorem VecAt.frozen (h : VecAt w t b xs) (i : Nat) : w.frozen? ⟨b, i, none⟩ = false := blk_frozen h.blk i
theorem Sixteen.set (h : Sixteen xs) (i : Nat) (v : Int) (h0 : 0 ≤ v) (h1 : v ≤ 1048576) : Sixteen (xs.set i v) :=
  ⟨by rw [List.length_set]; exact h.len, fun j => by
    have := h.rng j
    simp only [List.getD_eq_getElem?_getD, List.getElem?_set] at this ⊢
    split
    · split
      · simpa using ⟨h0, h1⟩
      · simp
    · exact this⟩
theorem VecAt.set (h : VecAt w t b xs) (i : Nat) (v : Int) (h0 : 0 ≤ v) (h1 : v ≤ 1048576) : VecAt (w.setCell ⟨b, i, none⟩ (.int .i64 v)) t b (xs.set i v) :=
  ⟨by have := blk_set h.blk i (.int .i64 v)
      rw [this]
      congr 2
      simp [nums, List.map_set], h.six.set i v h0 h1⟩
end

/-- Is it an op's name? -/
def rightB (r n : Int) : Bool := decide (0 ≤ r ∧ r < 16 ∧ 1 ≤ n ∧ n ≤ 1048576)
theorem rightB_true {r n : Int} (h : rightB r n = true) : 0 ≤ r ∧ r < 16 ∧ 1 ≤ n ∧ n ≤ 1048576 := of_decide_eq_true h
theorem rightB_mk {r n : Int} (h : 0 ≤ r ∧ r < 16 ∧ 1 ≤ n ∧ n ≤ 1048576) : rightB r n = true := decide_eq_true h
theorem rightB_no {r n : Int} (h : ¬ (0 ≤ r ∧ r < 16 ∧ 1 ≤ n ∧ n ≤ 1048576)) : rightB r n = false := decide_eq_false h

set_option maxHeartbeats 400000 in
theorem rightOp_ok (r n : Int) (w : World) : Calls Try.prog 31 #[.agg #[.int .i64 r, .int .i64 n]] w fun e w' => e = .returned (.bool (rightB r n)) ∧ Below w.heap.size w w' := by
  by_cases h0 : 0 ≤ r
  · have g0 : decide (0 ≤ r) = true := decide_eq_true h0
    by_cases h1 : r < 16
    · have g1 : decide (r < 16) = true := decide_eq_true h1
      by_cases h2 : 1 ≤ n
      · have g2 : decide (1 ≤ n) = true := decide_eq_true h2
        by_cases h3 : n ≤ 1048576
        · have g3 : decide (n ≤ 1048576) = true := decide_eq_true h3
          have e := rightB_mk (r := r) (n := n) ⟨h0, h1, h2, h3⟩
          rw [e]
          clear e
          go_enter Try.func31, Try.ntmps31
          go_wp2
          go_ret
          exact ⟨rfl, below_alloc (Below.refl _ _) _⟩
        · have g3 : decide (n ≤ 1048576) = false := decide_eq_false h3
          have e := rightB_no (r := r) (n := n) (fun h => h3 h.2.2.2)
          rw [e]
          clear e
          go_enter Try.func31, Try.ntmps31
          go_wp2
          go_ret
          exact ⟨rfl, below_alloc (Below.refl _ _) _⟩
      · have g2 : decide (1 ≤ n) = false := decide_eq_false h2
        have e := rightB_no (r := r) (n := n) (fun h => h2 h.2.2.1)
        rw [e]
        clear e
        go_enter Try.func31, Try.ntmps31
        go_wp2
        go_ret
        exact ⟨rfl, below_alloc (Below.refl _ _) _⟩
    · have g1 : decide (r < 16) = false := decide_eq_false h1
      have e := rightB_no (r := r) (n := n) (fun h => h1 h.2.1)
      rw [e]
      clear e
      go_enter Try.func31, Try.ntmps31
      go_wp2
      go_ret
      exact ⟨rfl, below_alloc (Below.refl _ _) _⟩
  · have g0 : decide (0 ≤ r) = false := decide_eq_false h0
    have e := rightB_no (r := r) (n := n) (fun h => h0 h.1)
    rw [e]
    clear e
    go_enter Try.func31, Try.ntmps31
    go_wp2
    go_ret
    exact ⟨rfl, below_alloc (Below.refl _ _) _⟩

def zeros16 : List Int := List.replicate 16 0
theorem six_zeros : Sixteen zeros16 := ⟨rfl, fun i => by unfold zeros16; simp only [List.getD_eq_getElem?_getD, List.getElem?_replicate]; split <;> simp⟩
set_option maxHeartbeats 400000 in
theorem new_ok (w : World) : Calls Try.prog 14 #[] w fun e w' => ∃ b, e = .returned (.pointer (some ⟨b, 0, none⟩)) ∧ VecAt w' 59 b zeros16 ∧ w.heap.size ≤ b ∧ Below w.heap.size w w' := by
  go_enter Try.func14, Try.ntmps14
  go_wp2
  go_ret
  exact ⟨w.heap.size, rfl, ⟨heap_alloc_new w _, six_zeros⟩, Nat.le_refl _, below_alloc (Below.refl _ _) _⟩
set_option maxHeartbeats 400000 in
theorem next_ok {w : World} {b : Nat} {xs : List Int} (hv : VecAt w 59 b xs) (i : Nat) (hi : i < 16) (h : xs.getD i 0 < 1048576) :
    Calls Try.prog 15 #[.pointer (some ⟨b, 0, none⟩), .int .i64 i] w fun e w' => e = .returned (.int .i64 (xs.getD i 0 + 1)) ∧ ∃ k, w' = w.drewN k := by
  have hc := hv.cell i hi
  have hr := hv.six.rng i
  obtain ⟨x, hx⟩ : ∃ x, x = xs.getD i 0 := ⟨_, rfl⟩
  rw [← hx] at hc hr h ⊢
  have g0 : decide ((i : Int) < 0) = false := decide_eq_false (by omega)
  have g1 : decide ((16 : Int) ≤ i) = false := decide_eq_false (by omega)
  have g2 : (x == 1048576) = false := by simp; omega
  clear hv hx
  go_enter Try.func15, Try.ntmps15
  go_wp2
  repeat (go_quiet (fail); try go_wp2)
  go_ret
  exact ⟨rfl, by first | exact ⟨_, rfl⟩ | exact ⟨0, rfl⟩⟩
set_option maxHeartbeats 400000 in
theorem next_bad {w : World} {b : Nat} {xs : List Int} (i : Int) (h : i < 0 ∨ 16 ≤ i) :
    Calls Try.prog 15 #[.pointer (some ⟨b, 0, none⟩), .int .i64 i] w fun e w' => e = .returned (.int .i64 0) ∧ ∃ k, w' = w.drewN k := by
  by_cases h0 : i < 0
  · have g0 : decide (i < 0) = true := decide_eq_true h0
    go_enter Try.func15, Try.ntmps15
    go_wp2
    repeat (go_quiet (fail); try go_wp2)
    go_ret
    exact ⟨rfl, by first | exact ⟨_, rfl⟩ | exact ⟨0, rfl⟩⟩
  · have g0 : decide (i < 0) = false := decide_eq_false h0
    have g1 : decide ((16 : Int) ≤ i) = true := decide_eq_true (by omega)
    go_enter Try.func15, Try.ntmps15
    go_wp2
    repeat (go_quiet (fail); try go_wp2)
    go_ret
    exact ⟨rfl, by first | exact ⟨_, rfl⟩ | exact ⟨0, rfl⟩⟩
set_option maxHeartbeats 400000 in
theorem next_end {w : World} {b : Nat} {xs : List Int} (hv : VecAt w 59 b xs) (i : Nat) (hi : i < 16) (h : xs.getD i 0 = 1048576) :
    Calls Try.prog 15 #[.pointer (some ⟨b, 0, none⟩), .int .i64 i] w fun e w' => e = .returned (.int .i64 0) ∧ ∃ k, w' = w.drewN k := by
  have hc := hv.cell i hi
  rw [h] at hc
  have g0 : decide ((i : Int) < 0) = false := decide_eq_false (by omega)
  have g1 : decide ((16 : Int) ≤ i) = false := decide_eq_false (by omega)
  clear hv h
  go_enter Try.func15, Try.ntmps15
  go_wp2
  repeat (go_quiet (fail); try go_wp2)
  go_ret
  exact ⟨rfl, by first | exact ⟨_, rfl⟩ | exact ⟨0, rfl⟩⟩
/-- The number of a replica's next op. -/
def nextV (xs : List Int) (r : Int) : Int := if 0 ≤ r ∧ r < 16 ∧ xs.getD r.toNat 0 < 1048576 then xs.getD r.toNat 0 + 1 else 0
theorem next_any {w : World} {b : Nat} {xs : List Int} (hv : VecAt w 59 b xs) (r : Int) :
    Calls Try.prog 15 #[.pointer (some ⟨b, 0, none⟩), .int .i64 r] w fun e w' => e = .returned (.int .i64 (nextV xs r)) ∧ ∃ k, w' = w.drewN k := by
  unfold nextV
  by_cases h : 0 ≤ r ∧ r < 16
  · obtain ⟨i, rfl⟩ := Int.eq_ofNat_of_zero_le h.1
    have hr := hv.six.rng i
    by_cases h2 : xs.getD i 0 < 1048576
    · rw [if_pos ⟨h.1, h.2, h2⟩]
      exact next_ok hv i (by omega) h2
    · rw [if_neg (fun x => h2 x.2.2)]
      exact next_end hv i (by omega) (by omega)
  · rw [if_neg (fun x => h ⟨x.1, x.2.1⟩)]
    exact next_bad (xs := xs) r (by omega)

theorem rightOp_no (r n : Int) (w : World) (h : rightB r n = false) : Calls Try.prog 31 #[.agg #[.int .i64 r, .int .i64 n]] w fun e w' => e = .returned (.bool false) ∧ Below w.heap.size w w' := by
  rw [← h]; exact rightOp_ok r n w
theorem rightOp_yes (r n : Int) (w : World) (h : rightB r n = true) : Calls Try.prog 31 #[.agg #[.int .i64 r, .int .i64 n]] w fun e w' => e = .returned (.bool true) ∧ Below w.heap.size w w' := by
  rw [← h]; exact rightOp_ok r n w
/-- Is an op there? -/
def hasB (xs : List Int) (r n : Int) : Bool := rightB r n && decide (n ≤ xs.getD r.toNat 0)
set_option maxHeartbeats 400000 in
theorem has_no {w : World} {b : Nat} (r n : Int) (h : rightB r n = false) :
    Calls Try.prog 12 #[.pointer (some ⟨b, 0, none⟩), .agg #[.int .i64 r, .int .i64 n]] w fun e w' => e = .returned (.bool false) ∧ Below w.heap.size w w' := by
  have H := Lib.hid h
  clear h
  go_enter Try.func12, Try.ntmps12
  go_wp2
  have hb : Below w.heap.size w (w.alloc (.cells #[.int .i64 r, .int .i64 n] 31)) := below_alloc (Below.refl _ _) _
  have k0 := cell_regrown (w := w.alloc (.cells #[.int .i64 r, .int .i64 n] 31)) (a := ⟨w.heap.size, 0, none⟩) (v := .int .i64 r) (by go_simp)
  have k1 := cell_regrown (w := w.alloc (.cells #[.int .i64 r, .int .i64 n] 31)) (a := ⟨w.heap.size, 1, none⟩) (v := .int .i64 n) (by go_simp)
  generalize w.alloc (.cells #[.int .i64 r, .int .i64 n] 31) = w0 at *
  have cQ : ∀ d os, Calls Try.prog 31 #[.agg #[.int .i64 r, .int .i64 n]] (Go.Sort.grow (redrawn w0 d) os) fun e w'' => e = .returned (.bool false) ∧ ∃ p : Regrown, w'' = Go.Sort.grow (redrawn w0 p.d) p.os := fun d os => Calls.regrown_of (rightOp_no r n _ H.out)
  have HB := Lib.hid hb
  clear hb
  refine wp_region_quiet_below (by kernel_rfl) (by kernel_rfl) ?_
  repeat (any_goals (first | go_big_quiet_step (exact cQ _ _) | quiet_step (exact cQ _ _)))
  refine wpQuiet_nil ?_
  intro _ hw'
  obtain ⟨⟨dq, osq⟩, hw''⟩ := hw'
  subst hw''
  go_wp2
  go_ret
  exact ⟨rfl, HB.out.trans ((below_regrown _ _ _).mono HB.out.size)⟩
set_option maxHeartbeats 400000 in
theorem has_yes {w : World} {b : Nat} {xs : List Int} (hv : VecAt w 59 b xs) (i : Nat) (n : Int) (h : rightB i n = true) :
    Calls Try.prog 12 #[.pointer (some ⟨b, 0, none⟩), .agg #[.int .i64 i, .int .i64 n]] w fun e w' => e = .returned (.bool (decide (n ≤ xs.getD i 0))) ∧ Below w.heap.size w w' := by
  have hi : i < 16 := by have := rightB_true h; omega
  have hc := hv.cell i hi
  obtain ⟨x, hx⟩ : ∃ x, x = xs.getD i 0 := ⟨_, rfl⟩
  rw [← hx] at hc ⊢
  have H := Lib.hid h
  clear h hv hx
  have hi' : (i : Int) < 16 := by omega
  go_enter Try.func12, Try.ntmps12
  go_wp2
  have hb : Below w.heap.size w (w.alloc (.cells #[.int .i64 i, .int .i64 n] 31)) := below_alloc (Below.refl _ _) _
  have k0 := cell_regrown (w := w.alloc (.cells #[.int .i64 i, .int .i64 n] 31)) (a := ⟨w.heap.size, 0, none⟩) (v := .int .i64 i) (by go_simp)
  have k1 := cell_regrown (w := w.alloc (.cells #[.int .i64 i, .int .i64 n] 31)) (a := ⟨w.heap.size, 1, none⟩) (v := .int .i64 n) (by go_simp)
  have k2 := cell_regrown (w := w.alloc (.cells #[.int .i64 i, .int .i64 n] 31)) (a := ⟨b, i, none⟩) (v := .int .i64 x) ((hb.cell (World.block_lt_of_cell? w _ hc)).trans hc)
  clear hc
  generalize w.alloc (.cells #[.int .i64 i, .int .i64 n] 31) = w0 at *
  have cQ : ∀ d os, Calls Try.prog 31 #[.agg #[.int .i64 i, .int .i64 n]] (Go.Sort.grow (redrawn w0 d) os) fun e w'' => e = .returned (.bool true) ∧ ∃ p : Regrown, w'' = Go.Sort.grow (redrawn w0 p.d) p.os := fun d os => Calls.regrown_of (rightOp_yes i n _ H.out)
  have HB := Lib.hid hb
  clear hb
  refine wp_region_quiet_below (by kernel_rfl) (by kernel_rfl) ?_
  repeat (any_goals (first | go_big_quiet_step (exact cQ _ _) | quiet_step (exact cQ _ _)))
  refine wpQuiet_nil ?_
  intro _ hw'
  obtain ⟨⟨dq, osq⟩, hw''⟩ := hw'
  subst hw''
  go_wp2
  go_ret
  exact ⟨rfl, HB.out.trans ((below_regrown _ _ _).mono HB.out.size)⟩
theorem has_any {w : World} {b : Nat} {xs : List Int} (hv : VecAt w 59 b xs) (r n : Int) :
    Calls Try.prog 12 #[.pointer (some ⟨b, 0, none⟩), .agg #[.int .i64 r, .int .i64 n]] w fun e w' => e = .returned (.bool (hasB xs r n)) ∧ Below w.heap.size w w' := by
  unfold hasB
  cases h : rightB r n with
  | false => exact has_no r n h
  | true =>
    obtain ⟨i, rfl⟩ := Int.eq_ofNat_of_zero_le (rightB_true h).1
    exact has_yes hv i n h

/-! ### Add -/
def addE (xs : List Int) (r n : Int) : Int := if rightB r n = false then 10 else if n ≤ xs.getD r.toNat 0 then 12 else if n ≠ xs.getD r.toNat 0 + 1 then 22 else 0
def addV (xs : List Int) (r n : Int) : List Int := if addE xs r n = 0 then xs.set r.toNat n else xs
set_option maxHeartbeats 400000 in
theorem add_form {w : World} {b : Nat} (r n : Int) (h : rightB r n = false) :
    Calls Try.prog 13 #[.pointer (some ⟨b, 0, none⟩), .agg #[.int .i64 r, .int .i64 n]] w fun e w' => e = .returned (.int .i64 10) ∧ Below w.heap.size w w' := by
  have H := Lib.hid h
  clear h
  go_enter Try.func13, Try.ntmps13
  go_wp2_with (go_at_call 31; refine (rightOp_no r n _ H.out).mono ?_; rintro e w1 ⟨rfl, hb⟩; have HB := Lib.hid hb; clear hb)
  go_ret
  exact ⟨rfl, (below_alloc (Below.refl _ _) _).trans (HB.out.mono (by simp))⟩
set_option maxHeartbeats 400000 in
theorem add_there {w : World} {b : Nat} {xs : List Int} (hv : VecAt w 59 b xs) (i : Nat) (n : Int) (h : rightB i n = true) (hn : n ≤ xs.getD i 0) :
    Calls Try.prog 13 #[.pointer (some ⟨b, 0, none⟩), .agg #[.int .i64 i, .int .i64 n]] w fun e w' => e = .returned (.int .i64 12) ∧ Below w.heap.size w w' := by
  have H := Lib.hid h; have HV := Lib.hid hv; have HN := Lib.hid hn
  clear h hv hn
  go_enter Try.func13, Try.ntmps13
  go_wp2_with fail
  refine (rightOp_yes i n _ H.out).mono ?_
  rintro e w1 ⟨rfl, hb⟩
  have g1 : Below w.heap.size w w1 := (below_alloc (Below.refl _ _) _).trans (hb.mono (by simp))
  have c0 : w1.cell? ⟨w.heap.size, 0, none⟩ = some (.int .i64 i) := by rw [hb.cell (by simp)]; go_simp
  have c1 : w1.cell? ⟨w.heap.size, 1, none⟩ = some (.int .i64 n) := by rw [hb.cell (by simp)]; go_simp
  have G1 := Lib.hid g1
  clear hb g1
  go_wp2_with fail
  refine (has_yes (HV.out.below G1.out HV.out.lt) i n H.out).mono ?_
  have hd : decide (n ≤ xs.getD i 0) = true := decide_eq_true HN.out
  rw [hd]
  rintro e w2 ⟨rfl, hb⟩
  have G2 := Lib.hid (G1.out.trans (hb.mono G1.out.size))
  clear hb hd
  go_wp2_with fail
  go_ret
  exact ⟨rfl, G2.out⟩
set_option maxHeartbeats 400000 in
theorem add_early {w : World} {b : Nat} {xs : List Int} (hv : VecAt w 59 b xs) (i : Nat) (n : Int) (h : rightB i n = true) (hn : xs.getD i 0 < n) (hne : n ≠ xs.getD i 0 + 1) :
    Calls Try.prog 13 #[.pointer (some ⟨b, 0, none⟩), .agg #[.int .i64 i, .int .i64 n]] w fun e w' => e = .returned (.int .i64 22) ∧ Below w.heap.size w w' := by
  have H := Lib.hid h; have HV := Lib.hid hv; have HN := Lib.hid hn; have HNE := Lib.hid hne
  clear h hv hn hne
  go_enter Try.func13, Try.ntmps13
  go_wp2_with fail
  refine (rightOp_yes i n _ H.out).mono ?_
  rintro e w1 ⟨rfl, hb⟩
  have g1 : Below w.heap.size w w1 := (below_alloc (Below.refl _ _) _).trans (hb.mono (by simp))
  have c0 : w1.cell? ⟨w.heap.size, 0, none⟩ = some (.int .i64 i) := by rw [hb.cell (by simp)]; go_simp
  have c1 : w1.cell? ⟨w.heap.size, 1, none⟩ = some (.int .i64 n) := by rw [hb.cell (by simp)]; go_simp
  have G1 := Lib.hid g1
  clear hb g1
  go_wp2_with fail
  refine (has_yes (HV.out.below G1.out HV.out.lt) i n H.out).mono ?_
  have hd : decide (n ≤ xs.getD i 0) = false := decide_eq_false (by have := HN.out; omega)
  rw [hd]
  rintro e w2 ⟨rfl, hb⟩
  have G2 := Lib.hid (G1.out.trans (hb.mono G1.out.size))
  have d0 : w2.cell? ⟨w.heap.size, 0, none⟩ = some (.int .i64 i) := (hb.cell (World.block_lt_of_cell? w1 _ c0)).trans c0
  have d1 : w2.cell? ⟨w.heap.size, 1, none⟩ = some (.int .i64 n) := (hb.cell (World.block_lt_of_cell? w1 _ c1)).trans c1
  have hnx : ∀ k, Calls Try.prog 15 #[.pointer (some ⟨b, 0, none⟩), .int .i64 i] (w2.drewN k) fun e w' => e = .returned (.int .i64 (nextV xs i)) ∧ ∃ m, w' = w2.drewN m := fun k =>
    Calls.quiet_of (next_any (w := w2.drewN k) (b := b) (xs := xs) ⟨(HV.out.below G2.out HV.out.lt).blk, HV.out.six⟩ i)
  have hne : (n != nextV xs i) = true := by
    have h1 := HN.out
    have h2 := HNE.out
    have h3 := rightB_true H.out
    rw [bne_iff_ne]
    unfold nextV
    split
    · simpa using h2
    · omega
  have NX := Lib.hid hnx
  obtain ⟨nx, hnx'⟩ : ∃ nx, nx = nextV xs i := ⟨_, rfl⟩
  have NX : Hid (∀ k, Calls Try.prog 15 #[.pointer (some ⟨b, 0, none⟩), .int .i64 i] (w2.drewN k) fun e w' => e = .returned (.int .i64 nx) ∧ ∃ m, w' = w2.drewN m) := by rw [hnx']; exact NX
  rw [← hnx'] at hne
  clear hb hd c0 c1 hnx hnx'
  go_wp2_with fail
  go_quiet ((go_at_call 15; exact NX.out _))
  go_wp2
  go_ret
  exact ⟨rfl, pw_below_drewN G2.out _⟩
set_option maxHeartbeats 400000 in
theorem add_ok {w : World} {b : Nat} {xs : List Int} (hv : VecAt w 59 b xs) (i : Nat) (n : Int) (h : rightB i n = true) (hn : n = xs.getD i 0 + 1) :
    Calls Try.prog 13 #[.pointer (some ⟨b, 0, none⟩), .agg #[.int .i64 i, .int .i64 n]] w fun e w' => e = .returned (.int .i64 0) ∧ VecAt w' 59 b (xs.set i n) ∧ Keep (fun k => k = b) w w' := by
  have H := Lib.hid h; have HV := Lib.hid hv; have HN := Lib.hid hn
  clear h hv hn
  go_enter Try.func13, Try.ntmps13
  go_wp2_with fail
  refine (rightOp_yes i n _ H.out).mono ?_
  rintro e w1 ⟨rfl, hb⟩
  have g1 : Below w.heap.size w w1 := (below_alloc (Below.refl _ _) _).trans (hb.mono (by simp))
  have c0 : w1.cell? ⟨w.heap.size, 0, none⟩ = some (.int .i64 i) := by rw [hb.cell (by simp)]; go_simp
  have c1 : w1.cell? ⟨w.heap.size, 1, none⟩ = some (.int .i64 n) := by rw [hb.cell (by simp)]; go_simp
  have G1 := Lib.hid g1
  clear hb g1
  go_wp2_with fail
  refine (has_yes (HV.out.below G1.out HV.out.lt) i n H.out).mono ?_
  have hd : decide (n ≤ xs.getD i 0) = false := decide_eq_false (by have := HN.out; omega)
  rw [hd]
  rintro e w2 ⟨rfl, hb⟩
  have G2 := Lib.hid (G1.out.trans (hb.mono G1.out.size))
  have d0 : w2.cell? ⟨w.heap.size, 0, none⟩ = some (.int .i64 i) := (hb.cell (World.block_lt_of_cell? w1 _ c0)).trans c0
  have d1 : w2.cell? ⟨w.heap.size, 1, none⟩ = some (.int .i64 n) := (hb.cell (World.block_lt_of_cell? w1 _ c1)).trans c1
  have NX := Lib.hid (fun k => Calls.quiet_of (next_any (w := w2.drewN k) (b := b) (xs := xs) ⟨(HV.out.below G2.out HV.out.lt).blk, HV.out.six⟩ i))
  have hne : (n != nextV xs i) = false := by
    have h2 := HN.out
    have h3 := rightB_true H.out
    rw [bne_eq_false_iff_eq]
    unfold nextV
    rw [if_pos ⟨by omega, by omega, by simp only [Int.toNat_natCast]; omega⟩]
    exact h2
  obtain ⟨nx, hnx'⟩ : ∃ nx, nx = nextV xs i := ⟨_, rfl⟩
  have NX : Hid (∀ k, Calls Try.prog 15 #[.pointer (some ⟨b, 0, none⟩), .int .i64 i] (w2.drewN k) fun e w' => e = .returned (.int .i64 nx) ∧ ∃ m, w' = w2.drewN m) := by rw [hnx']; exact NX
  rw [← hnx'] at hne
  have hv2 := HV.out.below G2.out HV.out.lt
  have hcv := hv2.cell i (by have := rightB_true H.out; omega)
  have hfz := hv2.frozen i
  have hi' : (i : Int) < 16 := (rightB_true H.out).2.1
  have HV2 := Lib.hid hv2
  clear hb hd c0 c1 hnx' hv2
  go_wp2_with fail
  go_quiet ((go_at_call 15; exact NX.out _))
  go_wp2
  go_region
  go_wp2
  go_ret
  have h3 := rightB_true H.out
  refine ⟨rfl, ?_, ?_⟩
  · exact VecAt.set (w := w2.drewN (nq + 1)) ⟨HV2.out.blk, HV2.out.six⟩ i n (by omega) (by omega)
  · exact ((Keep.of_below (F := fun k => k = b) G2.out (fun i h1 h2 => by omega)).trans (Keep.drewN (fun k => k = b) w2 (nq + 1)) (fun _ _ h => h)).trans (Keep.setCell (F := fun k => k = b) (w2.drewN (nq + 1)) (p := ⟨b, i, none⟩) rfl _) (fun _ _ h => h)
theorem add_any {w : World} {b : Nat} {xs : List Int} (hv : VecAt w 59 b xs) (r n : Int) :
    Calls Try.prog 13 #[.pointer (some ⟨b, 0, none⟩), .agg #[.int .i64 r, .int .i64 n]] w fun e w' => e = .returned (.int .i64 (addE xs r n)) ∧ VecAt w' 59 b (addV xs r n) ∧ Keep (fun k => k = b) w w' := by
  have same : ∀ w', Below w.heap.size w w' → VecAt w' 59 b xs ∧ Keep (fun k => k = b) w w' := fun w' h => ⟨hv.below h hv.lt, Keep.of_below h (fun i h1 h2 => by omega)⟩
  unfold addV addE
  cases h : rightB r n with
  | false =>
    refine (add_form r n h).mono ?_
    rintro e w' ⟨rfl, hb⟩
    exact ⟨rfl, same w' hb⟩
  | true =>
    obtain ⟨i, rfl⟩ := Int.eq_ofNat_of_zero_le (rightB_true h).1
    simp only [Int.toNat_natCast, Bool.true_eq_false, if_false]
    by_cases h1 : n ≤ xs.getD i 0
    · rw [if_pos h1]
      refine (add_there hv i n h h1).mono ?_
      rintro e w' ⟨rfl, hb⟩
      exact ⟨rfl, same w' hb⟩
    · rw [if_neg h1]
      by_cases h2 : n = xs.getD i 0 + 1
      · rw [if_neg (by omega)]
        exact add_ok hv i n h h2
      · rw [if_pos h2]
        refine (add_early hv i n h (by omega) h2).mono ?_
        rintro e w' ⟨rfl, hb⟩
        exact ⟨rfl, same w' hb⟩
end Go.Proofs.Ytbnblddgnhdneaa.Vec
