/- The contracts of the reference's methods: RightOp, Has, Next. -/
import Derived.Test.YtbnblddgnhdneaaJoinW
namespace Go.Proofs.Ytbnblddgnhdneaa.Vec
open Go.RowKit Go.Proofs.YtbnblddgnhdneaaW.PrintWords Go.Proofs.YtbnblddgnhdneaaW.PrintLast Go.Proofs.YtbnblddgnhdneaaW.PrintMore Go.Proofs.Ytbnblddgnhdneaa.Mem
attribute [local go_sem] max2_int min2_int max_two min_two
set_option linter.unusedVariables false
set_option linter.unusedSimpArgs false

set_option maxHeartbeats 400000 in
theorem refRightOp_ok (r n : Int) (w : World) : Calls Try.prog 33 #[.agg #[.int .i64 r, .int .i64 n]] w fun e w' => e = .returned (.bool (rightB r n)) ∧ Below w.heap.size w w' := by
  by_cases h0 : 0 ≤ r
  · have g0 : decide (0 ≤ r) = true := decide_eq_true h0
    by_cases h1 : r < 16
    · have g1 : decide (r ≤ 15) = true := decide_eq_true (by omega)
      by_cases h2 : 1 ≤ n
      · have g2 : decide (1 ≤ n) = true := decide_eq_true h2
        by_cases h3 : n ≤ 1048576
        · have g3 : decide (n ≤ 1048576) = true := decide_eq_true h3
          have e := rightB_mk (r := r) (n := n) ⟨h0, h1, h2, h3⟩
          rw [e]
          clear e
          go_enter Try.func33, Try.ntmps33
          go_wp2
          go_ret
          exact ⟨rfl, below_alloc (Below.refl _ _) _⟩
        · have g3 : decide (n ≤ 1048576) = false := decide_eq_false h3
          have e := rightB_no (r := r) (n := n) (fun h => h3 h.2.2.2)
          rw [e]
          clear e
          go_enter Try.func33, Try.ntmps33
          go_wp2
          go_ret
          exact ⟨rfl, below_alloc (Below.refl _ _) _⟩
      · have g2 : decide (1 ≤ n) = false := decide_eq_false h2
        have e := rightB_no (r := r) (n := n) (fun h => h2 h.2.2.1)
        rw [e]
        clear e
        go_enter Try.func33, Try.ntmps33
        go_wp2
        go_ret
        exact ⟨rfl, below_alloc (Below.refl _ _) _⟩
    · have g1 : decide (r ≤ 15) = false := decide_eq_false (by omega)
      have e := rightB_no (r := r) (n := n) (fun h => h1 h.2.1)
      rw [e]
      clear e
      go_enter Try.func33, Try.ntmps33
      go_wp2
      go_ret
      exact ⟨rfl, below_alloc (Below.refl _ _) _⟩
  · have g0 : decide (0 ≤ r) = false := decide_eq_false h0
    have e := rightB_no (r := r) (n := n) (fun h => h0 h.1)
    rw [e]
    clear e
    go_enter Try.func33, Try.ntmps33
    go_wp2
    go_ret
    exact ⟨rfl, below_alloc (Below.refl _ _) _⟩

theorem refRightOp_no (r n : Int) (w : World) (h : rightB r n = false) : Calls Try.prog 33 #[.agg #[.int .i64 r, .int .i64 n]] w fun e w' => e = .returned (.bool false) ∧ Below w.heap.size w w' := by
  rw [← h]; exact refRightOp_ok r n w
theorem refRightOp_yes (r n : Int) (w : World) (h : rightB r n = true) : Calls Try.prog 33 #[.agg #[.int .i64 r, .int .i64 n]] w fun e w' => e = .returned (.bool true) ∧ Below w.heap.size w w' := by
  rw [← h]; exact refRightOp_ok r n w
set_option maxHeartbeats 400000 in
theorem refHas_no {w : World} {b : Nat} (r n : Int) (h : rightB r n = false) :
    Calls Try.prog 22 #[.pointer (some ⟨b, 0, none⟩), .agg #[.int .i64 r, .int .i64 n]] w fun e w' => e = .returned (.bool false) ∧ Below w.heap.size w w' := by
  have H := Lib.hid h
  clear h
  go_enter Try.func22, Try.ntmps22
  go_wp2
  have hb : Below w.heap.size w (w.alloc (.cells #[.int .i64 r, .int .i64 n] 31)) := below_alloc (Below.refl _ _) _
  have k0 := cell_regrown (w := w.alloc (.cells #[.int .i64 r, .int .i64 n] 31)) (a := ⟨w.heap.size, 0, none⟩) (v := .int .i64 r) (by go_simp)
  have k1 := cell_regrown (w := w.alloc (.cells #[.int .i64 r, .int .i64 n] 31)) (a := ⟨w.heap.size, 1, none⟩) (v := .int .i64 n) (by go_simp)
  generalize w.alloc (.cells #[.int .i64 r, .int .i64 n] 31) = w0 at *
  have cQ : ∀ d os, Calls Try.prog 33 #[.agg #[.int .i64 r, .int .i64 n]] (Go.Sort.grow (redrawn w0 d) os) fun e w'' => e = .returned (.bool false) ∧ ∃ p : Regrown, w'' = Go.Sort.grow (redrawn w0 p.d) p.os := fun d os => Calls.regrown_of (refRightOp_no r n _ H.out)
  have HB := Lib.hid hb
  clear hb
  refine wp_region_quiet_below (by kernel_rfl) (by kernel_rfl) ?_
  repeat (any_goals (first | go_big_quiet_step (exact cQ _ _) | quiet_step (exact cQ _ _)))
  refine wpQuiet_nil ?_
  intro _ hw'
  obtain ⟨⟨dq, osq⟩, hw''⟩ := hw'
  subst hw''
  go_wp2
  go_ret
  exact ⟨rfl, HB.out.trans ((below_regrown _ _ _).mono HB.out.size)⟩
set_option maxHeartbeats 400000 in
theorem refHas_yes {w : World} {b : Nat} {xs : List Int} (hv : VecAt w 53 b xs) (i : Nat) (n : Int) (h : rightB i n = true) :
    Calls Try.prog 22 #[.pointer (some ⟨b, 0, none⟩), .agg #[.int .i64 i, .int .i64 n]] w fun e w' => e = .returned (.bool (decide (n ≤ xs.getD i 0))) ∧ Below w.heap.size w w' := by
  have hi : i < 16 := by have := rightB_true h; omega
  have hc := hv.cell i hi
  obtain ⟨x, hx⟩ : ∃ x, x = xs.getD i 0 := ⟨_, rfl⟩
  rw [← hx] at hc ⊢
  have H := Lib.hid h
  clear h hv hx
  have hi' : (i : Int) < 16 := by omega
  go_enter Try.func22, Try.ntmps22
  go_wp2
  have hb : Below w.heap.size w (w.alloc (.cells #[.int .i64 i, .int .i64 n] 31)) := below_alloc (Below.refl _ _) _
  have k0 := cell_regrown (w := w.alloc (.cells #[.int .i64 i, .int .i64 n] 31)) (a := ⟨w.heap.size, 0, none⟩) (v := .int .i64 i) (by go_simp)
  have k1 := cell_regrown (w := w.alloc (.cells #[.int .i64 i, .int .i64 n] 31)) (a := ⟨w.heap.size, 1, none⟩) (v := .int .i64 n) (by go_simp)
  have k2 := cell_regrown (w := w.alloc (.cells #[.int .i64 i, .int .i64 n] 31)) (a := ⟨b, i, none⟩) (v := .int .i64 x) ((hb.cell (World.block_lt_of_cell? w _ hc)).trans hc)
  clear hc
  generalize w.alloc (.cells #[.int .i64 i, .int .i64 n] 31) = w0 at *
  have cQ : ∀ d os, Calls Try.prog 33 #[.agg #[.int .i64 i, .int .i64 n]] (Go.Sort.grow (redrawn w0 d) os) fun e w'' => e = .returned (.bool true) ∧ ∃ p : Regrown, w'' = Go.Sort.grow (redrawn w0 p.d) p.os := fun d os => Calls.regrown_of (refRightOp_yes i n _ H.out)
  have HB := Lib.hid hb
  clear hb
  refine wp_region_quiet_below (by kernel_rfl) (by kernel_rfl) ?_
  repeat (any_goals (first | go_big_quiet_step (exact cQ _ _) | quiet_step (exact cQ _ _)))
  refine wpQuiet_nil ?_
  intro _ hw'
  obtain ⟨⟨dq, osq⟩, hw''⟩ := hw'
  subst hw''
  go_wp2
  go_ret
  exact ⟨rfl, HB.out.trans ((below_regrown _ _ _).mono HB.out.size)⟩
theorem refHas_any {w : World} {b : Nat} {xs : List Int} (hv : VecAt w 53 b xs) (r n : Int) :
    Calls Try.prog 22 #[.pointer (some ⟨b, 0, none⟩), .agg #[.int .i64 r, .int .i64 n]] w fun e w' => e = .returned (.bool (hasB xs r n)) ∧ Below w.heap.size w w' := by
  unfold hasB
  cases h : rightB r n with
  | false => exact refHas_no r n h
  | true =>
    obtain ⟨i, rfl⟩ := Int.eq_ofNat_of_zero_le (rightB_true h).1
    exact refHas_yes hv i n h

set_option maxHeartbeats 400000 in
theorem refNext_ok {w : World} {b : Nat} {xs : List Int} (hv : VecAt w 53 b xs) (i : Nat) (hi : i < 16) (h : xs.getD i 0 < 1048576) :
    Calls Try.prog 23 #[.pointer (some ⟨b, 0, none⟩), .int .i64 i] w fun e w' => e = .returned (.int .i64 (xs.getD i 0 + 1)) ∧ ∃ k, w' = w.drewN k := by
  have hc := hv.cell i hi
  have hr := hv.six.rng i
  obtain ⟨x, hx⟩ : ∃ x, x = xs.getD i 0 := ⟨_, rfl⟩
  rw [← hx] at hc hr h ⊢
  have g0 : decide ((i : Int) < 0) = false := decide_eq_false (by omega)
  have g1 : decide ((15 : Int) < i) = false := decide_eq_false (by omega)
  have g2 : decide (1048576 ≤ x) = false := decide_eq_false (by omega)
  clear hv hx
  go_enter Try.func23, Try.ntmps23
  go_wp2
  repeat (go_quiet (fail); try go_wp2)
  go_ret
  exact ⟨rfl, by first | exact ⟨_, rfl⟩ | exact ⟨0, rfl⟩⟩
set_option maxHeartbeats 400000 in
theorem refNext_bad {w : World} {b : Nat} {xs : List Int} (i : Int) (h : i < 0 ∨ 16 ≤ i) :
    Calls Try.prog 23 #[.pointer (some ⟨b, 0, none⟩), .int .i64 i] w fun e w' => e = .returned (.int .i64 0) ∧ ∃ k, w' = w.drewN k := by
  by_cases h0 : i < 0
  · have g0 : decide (i < 0) = true := decide_eq_true h0
    go_enter Try.func23, Try.ntmps23
    go_wp2
    repeat (go_quiet (fail); try go_wp2)
    go_ret
    exact ⟨rfl, by first | exact ⟨_, rfl⟩ | exact ⟨0, rfl⟩⟩
  · have g0 : decide (i < 0) = false := decide_eq_false h0
    have g1 : decide ((15 : Int) < i) = true := decide_eq_true (by omega)
    go_enter Try.func23, Try.ntmps23
    go_wp2
    repeat (go_quiet (fail); try go_wp2)
    go_ret
    exact ⟨rfl, by first | exact ⟨_, rfl⟩ | exact ⟨0, rfl⟩⟩
set_option maxHeartbeats 400000 in
theorem refNext_end {w : World} {b : Nat} {xs : List Int} (hv : VecAt w 53 b xs) (i : Nat) (hi : i < 16) (h : xs.getD i 0 = 1048576) :
    Calls Try.prog 23 #[.pointer (some ⟨b, 0, none⟩), .int .i64 i] w fun e w' => e = .returned (.int .i64 0) ∧ ∃ k, w' = w.drewN k := by
  have hc := hv.cell i hi
  rw [h] at hc
  have g0 : decide ((i : Int) < 0) = false := decide_eq_false (by omega)
  have g1 : decide ((15 : Int) < i) = false := decide_eq_false (by omega)
  clear hv h
  go_enter Try.func23, Try.ntmps23
  go_wp2
  repeat (go_quiet (fail); try go_wp2)
  go_ret
  exact ⟨rfl, by first | exact ⟨_, rfl⟩ | exact ⟨0, rfl⟩⟩
theorem refNext_any {w : World} {b : Nat} {xs : List Int} (hv : VecAt w 53 b xs) (r : Int) :
    Calls Try.prog 23 #[.pointer (some ⟨b, 0, none⟩), .int .i64 r] w fun e w' => e = .returned (.int .i64 (nextV xs r)) ∧ ∃ k, w' = w.drewN k := by
  unfold nextV
  by_cases h : 0 ≤ r ∧ r < 16
  · obtain ⟨i, rfl⟩ := Int.eq_ofNat_of_zero_le h.1
    have hr := hv.six.rng i
    by_cases h2 : xs.getD i 0 < 1048576
    · rw [if_pos ⟨h.1, h.2, h2⟩]
      exact refNext_ok hv i (by omega) h2
    · rw [if_neg (fun x => h2 x.2.2)]
      exact refNext_end hv i (by omega) (by omega)
  · rw [if_neg (fun x => h ⟨x.1, x.2.1⟩)]
    exact refNext_bad (xs := xs) r (by omega)

end Go.Proofs.Ytbnblddgnhdneaa.Vec
