/- The clock of layer 3: what its functions compute. -/
import Derived.Test.YtiakdnoafmojlaaDoorBase
import Derived.Test.YtiakdnoafmojlaaDoorFns
namespace Go.Proofs.YtiakdnoafmojlaaDoor.Q
open Go.RowKit Go.Proofs.YtiakdnoafmojlaaDoorW.PrintWords Go.Proofs.YtiakdnoafmojlaaDoorW.PrintLast Go.Proofs.YtiakdnoafmojlaaDoorW.PrintMore Go.Proofs.YtiakdnoafmojlaaDoor.Mem
set_option linter.unusedVariables false
set_option linter.unusedSimpArgs false

theorem size24 : (Tryd.prog.info? 24).map (·.size) = some 2 := by kernel_rfl
/-- At b a clock. -/
def ClkAt (w : World) (b : Nat) (r t n : Int) : Prop := w.heap[b]? = some (.cells #[.int .i64 r, .int .i64 t, .int .i64 n] 64 (0, 0))
theorem load_ok (w : World) (a : Addr) (x : Int) (h : w.cell? a = some (.int .i64 x)) :
    Calls Tryd.prog 37 #[.pointer (some a)] w fun e w' => e = .returned (.int .i64 x) ∧ w' = w := by
  have hl := run_call_load (P := Tryd.prog) Tryd.func46 (by kernel_rfl) (by kernel_rfl) (by kernel_rfl) .i64 (by kernel_rfl) h
  go_enter Tryd.func37, Tryd.ntmps37
  go_wp2
  go_ret
  exact ⟨rfl, rfl⟩
theorem cas_ok (w : World) (a : Addr) (x y : Int) (h : w.cell? a = some (.int .i64 x)) (hf : w.frozen? a = false) :
    Calls Tryd.prog 45 #[.pointer (some a), .int .i64 x, .int .i64 y] w fun e w' => e = .returned (.bool true) ∧ w' = w.setCell a (.int .i64 y) := by
  have hl := run_call_cas_hit (P := Tryd.prog) Tryd.func52 (by kernel_rfl) (by kernel_rfl) (by kernel_rfl) .i64 (by kernel_rfl) (y := y) h hf
  go_enter Tryd.func45, Tryd.ntmps45
  go_wp2
  go_ret
  exact ⟨rfl, rfl⟩
theorem now_ok (w : World) (b : Nat) (r t n : Int) (h : ClkAt w b r t n) :
    Calls Tryd.prog 19 #[.pointer (some ⟨b, 0, none⟩)] w fun e w' => e = .returned (.int .i64 t) ∧ w' = w := by
  have c1 := blk_cell h 1
  simp at c1
  have H := Lib.hid h
  clear h
  go_enter Tryd.func19, Tryd.ntmps19
  go_wp2_with (go_at_call 37; refine (load_ok _ _ _ c1).mono ?_; rintro e w' ⟨rfl, rfl⟩)
  go_ret
  exact ⟨rfl, rfl⟩
theorem last_ok (w : World) (b : Nat) (r t n : Int) (h : ClkAt w b r t n) :
    Calls Tryd.prog 20 #[.pointer (some ⟨b, 0, none⟩)] w fun e w' => e = .returned (.int .i64 n) ∧ w' = w := by
  have c1 := blk_cell h 2
  simp at c1
  have H := Lib.hid h
  clear h
  go_enter Tryd.func20, Tryd.ntmps20
  go_wp2_with (go_at_call 37; refine (load_ok _ _ _ c1).mono ?_; rintro e w' ⟨rfl, rfl⟩)
  go_ret
  exact ⟨rfl, rfl⟩
theorem newClock_bad (w : World) (r : Int) (h : r < 0 ∨ 15 < r) :
    Calls Tryd.prog 14 #[.int .i64 r] w fun e w' => e = .returned (.tuple #[.pointer none, .int .i64 11]) ∧ w' = w := by
  by_cases h0 : r < 0
  · have g0 : decide (r < 0) = true := decide_eq_true h0
    clear h
    go_enter Tryd.func14, Tryd.ntmps14
    go_wp2
    go_ret2
    exact ⟨rfl, rfl⟩
  · have h1 : 16 ≤ r := by omega
    clear h
    go_enter Tryd.func14, Tryd.ntmps14
    go_wp2
    go_ret2
    exact ⟨rfl, rfl⟩
theorem newClock_ok (w : World) (r : Int) (h0 : 0 ≤ r) (h1 : r ≤ 15) :
    Calls Tryd.prog 14 #[.int .i64 r] w fun e w' => e = .returned (.tuple #[.pointer (some ⟨w.heap.size, 0, none⟩), .int .i64 0]) ∧ ClkAt w' w.heap.size r 0 0 ∧ Below w.heap.size w w' := by
  have g0 : ¬ r < 0 := by omega
  have g1 : ¬ 16 ≤ r := by omega
  go_enter Tryd.func14, Tryd.ntmps14
  go_wp2
  go_ret2
  exact ⟨rfl, heap_alloc_new _ _, below_alloc (Below.refl _ _) _⟩
theorem next_end (w : World) (a : Addr) (x m : Int) (h : w.cell? a = some (.int .i64 x)) (hm : m ≤ x) :
    Calls Tryd.prog 35 #[.pointer (some a), .int .i64 m] w fun e w' => e = .returned (.tuple #[.int .i64 0, .bool false]) ∧ w' = w := by
  have H := Lib.hid h
  clear h
  go_enter Tryd.func35, Tryd.ntmps35
  go_wp2_with fail
  go_loopw [6] (fun _ wr => wr = w) (fun _ _ => 0)
  case atStart => rfl
  case round =>
    obtain rfl := hrel
    go_wp2_with (go_at_call 37; refine (load_ok _ _ _ H.out).mono ?_; rintro e w' ⟨rfl, rfl⟩)
    go_ret2
    exact ⟨rfl, rfl⟩
theorem next_ok (w : World) (a : Addr) (x m : Int) (h : w.cell? a = some (.int .i64 x)) (hf : w.frozen? a = false) (h0 : 0 ≤ x) (hm : x < m) (hm2 : m ≤ 1099511627776) :
    Calls Tryd.prog 35 #[.pointer (some a), .int .i64 m] w fun e w' => e = .returned (.tuple #[.int .i64 (x + 1), .bool true]) ∧ w' = w.setCell a (.int .i64 (x + 1)) := by
  have H := Lib.hid h; have F := Lib.hid hf
  clear h hf
  go_enter Tryd.func35, Tryd.ntmps35
  go_wp2_with fail
  go_loopw [6] (fun _ wr => wr = w) (fun _ _ => 0)
  case atStart => rfl
  case round =>
    obtain rfl := hrel
    go_wp2_with (first | (go_at_call 37; refine (load_ok _ _ _ H.out).mono ?_; rintro e w' ⟨rfl, rfl⟩) | (go_at_call 45; refine (cas_ok _ _ _ (x + 1) H.out F.out).mono ?_; rintro e w' ⟨rfl, rfl⟩))
    go_ret2
    exact ⟨rfl, rfl⟩
theorem raise_le (w : World) (a : Addr) (x m : Int) (h : w.cell? a = some (.int .i64 x)) (hm : m ≤ x) :
    Calls Tryd.prog 36 #[.pointer (some a), .int .i64 m] w fun e w' => e = .returned (.tuple #[]) ∧ w' = w := by
  have H := Lib.hid h
  clear h
  go_enter Tryd.func36, Tryd.ntmps36
  go_wp2_with fail
  go_loopw [4] (fun _ wr => wr = w) (fun _ _ => 0)
  case atStart => rfl
  case round =>
    obtain rfl := hrel
    go_wp2_with (go_at_call 37; refine (load_ok _ _ _ H.out).mono ?_; rintro e w' ⟨rfl, rfl⟩)
    first | go_end0 | ((try simp only [Exit.inBlock, Exit.then]); refine bodyPost_ret (results_none rfl _ _ _) rfl ?_)
    exact ⟨rfl, rfl⟩
theorem raise_gt (w : World) (a : Addr) (x m : Int) (h : w.cell? a = some (.int .i64 x)) (hf : w.frozen? a = false) (hm : ¬ m ≤ x) :
    Calls Tryd.prog 36 #[.pointer (some a), .int .i64 m] w fun e w' => e = .returned (.tuple #[]) ∧ w' = w.setCell a (.int .i64 m) := by
  have H := Lib.hid h; have F := Lib.hid hf
  clear h hf
  go_enter Tryd.func36, Tryd.ntmps36
  go_wp2_with fail
  go_loopw [4] (fun _ wr => wr = w) (fun _ _ => 0)
  case atStart => rfl
  case round =>
    obtain rfl := hrel
    go_wp2_with (first | (go_at_call 37; refine (load_ok _ _ _ H.out).mono ?_; rintro e w' ⟨rfl, rfl⟩) | (go_at_call 45; refine (cas_ok _ _ _ m H.out F.out).mono ?_; rintro e w' ⟨rfl, rfl⟩))
    first | go_end0 | ((try simp only [Exit.inBlock, Exit.then]); refine bodyPost_ret (results_none rfl _ _ _) rfl ?_)
    exact ⟨rfl, rfl⟩
set_option maxHeartbeats 1000000 in
theorem tick_ok (w : World) (b : Nat) (r t n : Int) (h : ClkAt w b r t n) (ht : 0 ≤ t) (hn : 0 ≤ n) (ht1 : t < 1099511627776) (hn1 : n < 1048576) :
    Calls Tryd.prog 15 #[.pointer (some ⟨b, 0, none⟩)] w fun e w' => e = .returned (.tuple #[.agg #[.int .i64 r, .int .i64 (n + 1)], .int .i64 (t + 1), .int .i64 0]) ∧ ClkAt w' b r (t + 1) (n + 1) ∧ Keep (fun k => k = b) w w' := by
  have hlt := lt_of_blk h
  obtain ⟨w0, e0⟩ : ∃ w0, w0 = w.alloc (.cells #[.int .i64 0, .int .i64 0] 24) := ⟨_, rfl⟩
  have b0 : Below w.heap.size w w0 := by rw [e0]; exact below_alloc (Below.refl _ _) _
  have h0 : ClkAt w0 b r t n := (b0.block b hlt).trans h
  have hc0 : w0.heap[w.heap.size]? = some (.cells #[.int .i64 0, .int .i64 0] 24 (0, 0)) := by rw [e0]; exact heap_alloc_new w _
  have c1 := blk_cell h0 1; have c2 := blk_cell h0 2; have f1 := blk_frozen h0 1
  simp at c1 c2
  obtain ⟨w1, e1⟩ : ∃ w1, w1 = w0.setCell ⟨b, 1, none⟩ (.int .i64 (t + 1)) := ⟨_, rfl⟩
  have h1 : ClkAt w1 b r (t + 1) n := by rw [e1]; unfold ClkAt; simpa using blk_set h0 1 (.int .i64 (t + 1))
  have hne : w.heap.size ≠ b := by omega
  have hc1 : w1.heap[w.heap.size]? = some (.cells #[.int .i64 0, .int .i64 0] 24 (0, 0)) := by rw [e1]; exact blk_far hc0 hne _
  have d2 := blk_cell h1 2; have f2 := blk_frozen h1 2
  simp at d2
  obtain ⟨w2, e2⟩ : ∃ w2, w2 = w1.setCell ⟨b, 2, none⟩ (.int .i64 (n + 1)) := ⟨_, rfl⟩
  have h2 : ClkAt w2 b r (t + 1) (n + 1) := by rw [e2]; unfold ClkAt; simpa using blk_set h1 2 (.int .i64 (n + 1))
  have hc2 : w2.heap[w.heap.size]? = some (.cells #[.int .i64 0, .int .i64 0] 24 (0, 0)) := by rw [e2]; exact blk_far hc1 hne _
  have k0 := blk_cell h2 0
  have q0 := blk_cell hc2 0; have q1 := blk_cell hc2 1; have g0 := blk_frozen hc2 0; have g1 := blk_frozen hc2 1
  simp at k0 q0 q1
  have kp : Keep (fun k => k = b) w w2 := by
    rw [e2, e1]
    exact ((Keep.of_below b0 (F := fun k => k = b) (fun i h1 h2 => by omega)).trans (Keep.setCell (F := fun k => k = b) w0 (p := ⟨b, 1, none⟩) rfl _) (fun _ _ h => h)).trans (Keep.setCell (F := fun k => k = b) _ (p := ⟨b, 2, none⟩) rfl _) (fun _ _ h => h)
  have H0 := Lib.hid h0; have H2 := Lib.hid h2; have KP := Lib.hid kp; have E0 := Lib.hid e0; have E1 := Lib.hid e1; have E2 := Lib.hid e2; have C1 := Lib.hid c1; have F1 := Lib.hid f1; have D2 := Lib.hid d2; have F2 := Lib.hid f2; have HLT := Lib.hid hlt; have HC2 := Lib.hid hc2
  have ht2 : ¬ 1099511627776 ≤ t := by omega
  have hn2 : ¬ 1048576 ≤ n := by omega
  clear h h0 h1 h2 e0 e1 e2 c1 c2 f1 d2 f2 hlt hne kp hc0 hc1 hc2 b0
  go_enter Tryd.func15, Tryd.ntmps15
  go_upto_region 1 with (fail)
  rw [← E0.out]
  go_upto_region 4 with (first | (go_at_call 19; refine (now_ok _ _ _ _ _ H0.out).mono ?_; rintro e w' ⟨rfl, rfl⟩) | (go_at_call 20; refine (last_ok _ _ _ _ _ H0.out).mono ?_; rintro e w' ⟨rfl, rfl⟩) | (go_at_call 35; refine (next_ok _ _ _ _ C1.out F1.out ht ht1 (by omega)).mono ?_; rintro e w' ⟨rfl, rfl⟩))
  rw [← E1.out]
  go_upto_region 7 with (first | (go_at_call 35; refine (next_ok _ _ _ _ D2.out F2.out hn hn1 (by omega)).mono ?_; rintro e w' ⟨rfl, rfl⟩))
  rw [← E2.out]
  go_wp2_with fail
  have hr1 := blk_set HC2.out 0 (.int .i64 r)
  simp at hr1
  have hr2 := blk_set hr1 1 (.int .i64 (n + 1))
  simp at hr2
  have hne : w.heap.size ≠ b := by have := HLT.out; omega
  refine bodyPost_ret (results_list (rs := [.cell 2 24, .tmp 3, .tmp 4]) rfl (by simp) (.cell w.heap.size 24 #[.int .i64 r, .int .i64 (n + 1)] (0, 0) _ rfl hr2 Tryd.underlying24 rfl size24 (.tmp (.tmp .nil)))) rfl ?_
  refine ⟨rfl, blk_far (blk_far H2.out hne.symm _) hne.symm _, ?_⟩
  refine ⟨KP.out.os, KP.out.tape, KP.out.output, by have := KP.out.size; simpa [World.setCell] using this, fun k hk hn => ?_⟩
  rw [Below.heap_setCell _ _ _ _ (by show k ≠ w.heap.size; omega), Below.heap_setCell _ _ _ _ (by show k ≠ w.heap.size; omega)]
  exact KP.out.block k hk hn
set_option maxHeartbeats 1000000 in
theorem tick_end (w : World) (b : Nat) (r t n : Int) (h : ClkAt w b r t n) (ht : 1099511627776 ≤ t ∨ 1048576 ≤ n) :
    Calls Tryd.prog 15 #[.pointer (some ⟨b, 0, none⟩)] w fun e w' => e = .returned (.tuple #[.agg #[.int .i64 0, .int .i64 0], .int .i64 0, .int .i64 19]) ∧ Below w.heap.size w w' := by
  have hlt := lt_of_blk h
  obtain ⟨w0, e0⟩ : ∃ w0, w0 = w.alloc (.cells #[.int .i64 0, .int .i64 0] 24) := ⟨_, rfl⟩
  have b0 : Below w.heap.size w w0 := by rw [e0]; exact below_alloc (Below.refl _ _) _
  have h0 : ClkAt w0 b r t n := (b0.block b hlt).trans h
  have hc0 : w0.heap[w.heap.size]? = some (.cells #[.int .i64 0, .int .i64 0] 24 (0, 0)) := by rw [e0]; exact heap_alloc_new w _
  have q0 := blk_cell hc0 0; have q1 := blk_cell hc0 1; have g0 := blk_frozen hc0 0; have g1 := blk_frozen hc0 1
  simp at q0 q1
  have H0 := Lib.hid h0; have E0 := Lib.hid e0; have HC0 := Lib.hid hc0; have B0 := Lib.hid b0
  by_cases ht1 : 1099511627776 ≤ t
  · clear h h0 e0 hlt hc0 b0 ht
    go_enter Tryd.func15, Tryd.ntmps15
    go_upto_region 1 with (fail)
    rw [← E0.out]
    go_wp2_with (first | (go_at_call 19; refine (now_ok _ _ _ _ _ H0.out).mono ?_; rintro e w' ⟨rfl, rfl⟩) | (go_at_call 20; refine (last_ok _ _ _ _ _ H0.out).mono ?_; rintro e w' ⟨rfl, rfl⟩))
    have hr1 := blk_set HC0.out 0 (.int .i64 0)
    simp at hr1
    have hr2 := blk_set hr1 1 (.int .i64 0)
    simp at hr2
    refine bodyPost_ret (results_list (rs := [.cell 2 24, .tmp 3, .tmp 4]) rfl (by simp) (.cell w.heap.size 24 #[.int .i64 0, .int .i64 0] (0, 0) _ rfl hr2 Tryd.underlying24 rfl size24 (.tmp (.tmp .nil)))) rfl ?_
    exact ⟨rfl, (B0.out.setCell (p := ⟨w.heap.size, 0, none⟩) (Nat.le_refl _) _).setCell (p := ⟨w.heap.size, 1, none⟩) (Nat.le_refl _) _⟩
  · have hn1 : 1048576 ≤ n := ht.resolve_left ht1
    clear h h0 e0 hlt hc0 b0 ht
    go_enter Tryd.func15, Tryd.ntmps15
    go_upto_region 1 with (fail)
    rw [← E0.out]
    go_wp2_with (first | (go_at_call 19; refine (now_ok _ _ _ _ _ H0.out).mono ?_; rintro e w' ⟨rfl, rfl⟩) | (go_at_call 20; refine (last_ok _ _ _ _ _ H0.out).mono ?_; rintro e w' ⟨rfl, rfl⟩))
    have hr1 := blk_set HC0.out 0 (.int .i64 0)
    simp at hr1
    have hr2 := blk_set hr1 1 (.int .i64 0)
    simp at hr2
    refine bodyPost_ret (results_list (rs := [.cell 2 24, .tmp 3, .tmp 4]) rfl (by simp) (.cell w.heap.size 24 #[.int .i64 0, .int .i64 0] (0, 0) _ rfl hr2 Tryd.underlying24 rfl size24 (.tmp (.tmp .nil)))) rfl ?_
    exact ⟨rfl, (B0.out.setCell (p := ⟨w.heap.size, 0, none⟩) (Nat.le_refl _) _).setCell (p := ⟨w.heap.size, 1, none⟩) (Nat.le_refl _) _⟩
end Go.Proofs.YtiakdnoafmojlaaDoor.Q
