/- The reference's clock: what its functions compute. -/
import Derived.Test.YtiakdnoafmojlaaDoorSee
namespace Go.Proofs.YtiakdnoafmojlaaDoor.Q
open Go.RowKit Go.Proofs.YtiakdnoafmojlaaDoorW.PrintWords Go.Proofs.YtiakdnoafmojlaaDoorW.PrintLast Go.Proofs.YtiakdnoafmojlaaDoorW.PrintMore Go.Proofs.YtiakdnoafmojlaaDoor.Mem
attribute [local go_sem] max2_int min2_int max_two min_two
set_option linter.unusedVariables false
set_option linter.unusedSimpArgs false

/-- At b the reference's clock. -/
def RefAt (w : World) (b : Nat) (r t n : Int) : Prop := w.heap[b]? = some (.cells #[.int .i64 r, .int .i64 t, .int .i64 n] 38 (0, 0))
set_option maxHeartbeats 1000000 in
theorem rtick_ok (w : World) (b : Nat) (r t n : Int) (h : RefAt w b r t n) (ht : 0 ≤ t) (hn : 0 ≤ n) (ht1 : t < 1099511627776) (hn1 : n < 1048576) :
    Calls Tryd.prog 16 #[.pointer (some ⟨b, 0, none⟩)] w fun e w' => e = .returned (.tuple #[.agg #[.int .i64 r, .int .i64 (n + 1)], .int .i64 (t + 1), .int .i64 0]) ∧ RefAt w' b r (t + 1) (n + 1) ∧ Keep (fun k => k = b) w w' := by
  have hlt := lt_of_blk h
  obtain ⟨w0, e0⟩ : ∃ w0, w0 = w.alloc (.cells #[.int .i64 0, .int .i64 0] 24) := ⟨_, rfl⟩
  have b0 : Below w.heap.size w w0 := by rw [e0]; exact below_alloc (Below.refl _ _) _
  have h0 : RefAt w0 b r t n := (b0.block b hlt).trans h
  have hc0 : w0.heap[w.heap.size]? = some (.cells #[.int .i64 0, .int .i64 0] 24 (0, 0)) := by rw [e0]; exact heap_alloc_new w _
  have c0 := blk_cell h0 0; have c1 := blk_cell h0 1; have c2 := blk_cell h0 2; have f1 := blk_frozen h0 1; have f2 := blk_frozen h0 2
  simp at c0 c1 c2
  obtain ⟨w1, e1⟩ : ∃ w1, w1 = w0.setCell ⟨b, 1, none⟩ (.int .i64 (t + 1)) := ⟨_, rfl⟩
  have h1 : RefAt w1 b r (t + 1) n := by rw [e1]; unfold RefAt; simpa using blk_set h0 1 (.int .i64 (t + 1))
  have hne : w.heap.size ≠ b := by omega
  have hc1 : w1.heap[w.heap.size]? = some (.cells #[.int .i64 0, .int .i64 0] 24 (0, 0)) := by rw [e1]; exact blk_far hc0 hne _
  have d0 := blk_cell h1 0; have d1 := blk_cell h1 1; have d2 := blk_cell h1 2; have g2 := blk_frozen h1 2
  simp at d0 d1 d2
  obtain ⟨w2, e2⟩ : ∃ w2, w2 = w1.setCell ⟨b, 2, none⟩ (.int .i64 (n + 1)) := ⟨_, rfl⟩
  have h2 : RefAt w2 b r (t + 1) (n + 1) := by rw [e2]; unfold RefAt; simpa using blk_set h1 2 (.int .i64 (n + 1))
  have hc2 : w2.heap[w.heap.size]? = some (.cells #[.int .i64 0, .int .i64 0] 24 (0, 0)) := by rw [e2]; exact blk_far hc1 hne _
  have k0 := blk_cell h2 0; have k1 := blk_cell h2 1; have k2 := blk_cell h2 2
  have q0 := blk_cell hc2 0; have q1 := blk_cell hc2 1; have p0 := blk_frozen hc2 0; have p1 := blk_frozen hc2 1
  simp at k0 k1 k2 q0 q1
  have kp : Keep (fun k => k = b) w w2 := by
    rw [e2, e1]
    exact ((Keep.of_below b0 (F := fun k => k = b) (fun i h1 h2 => by omega)).trans (Keep.setCell (F := fun k => k = b) w0 (p := ⟨b, 1, none⟩) rfl _) (fun _ _ h => h)).trans (Keep.setCell (F := fun k => k = b) _ (p := ⟨b, 2, none⟩) rfl _) (fun _ _ h => h)
  have H2 := Lib.hid h2; have KP := Lib.hid kp; have E0 := Lib.hid e0; have E1 := Lib.hid e1; have E2 := Lib.hid e2; have HLT := Lib.hid hlt; have HC2 := Lib.hid hc2; have HNE := Lib.hid hne
  have ht2 : ¬ 1099511627776 ≤ t := by omega
  have hn2 : ¬ 1048576 ≤ n := by omega
  clear h h0 h1 h2 e0 e1 e2 hlt hne kp hc0 hc1 hc2 b0
  go_enter Tryd.func16, Tryd.ntmps16
  go_upto_region 1 with (fail)
  rw [← E0.out]
  go_upto_region 4 with (fail)
  rw [← E1.out]
  go_upto_region 5 with (fail)
  rw [← E2.out]
  go_region_held3 (fun z => z.cell? ⟨b, 0, none⟩ = some (.int .i64 r) ∧ z.cell? ⟨b, 1, none⟩ = some (.int .i64 (t + 1)) ∧ z.cell? ⟨b, 2, none⟩ = some (.int .i64 (n + 1)))
    (first | exact ⟨k0, k1, k2⟩ | (refine ⟨(World.cell?_setCell_other _ _ _ _ ?_).trans ((World.cell?_setCell_other _ _ _ _ ?_).trans k0), (World.cell?_setCell_other _ _ _ _ ?_).trans ((World.cell?_setCell_other _ _ _ _ ?_).trans k1), (World.cell?_setCell_other _ _ _ _ ?_).trans ((World.cell?_setCell_other _ _ _ _ ?_).trans k2)⟩ <;> exact fun e => HNE.out (congrArg Addr.block e)))
    (fail)
  go_wp2_with fail
  have hr1 := blk_set HC2.out 0 (.int .i64 r)
  simp at hr1
  have hr2 := blk_set hr1 1 (.int .i64 (n + 1))
  simp at hr2
  have hne := HNE.out
  refine bodyPost_ret (results_list (rs := [.cell 2 24, .tmp 3, .tmp 4]) rfl (by simp) (.cell w.heap.size 24 #[.int .i64 r, .int .i64 (n + 1)] (0, 0) _ rfl hr2 Tryd.underlying24 rfl size24 (.tmp (.tmp .nil)))) rfl ?_
  refine ⟨rfl, blk_far (blk_far H2.out hne.symm _) hne.symm _, ?_⟩
  refine ⟨KP.out.os, KP.out.tape, KP.out.output, by have := KP.out.size; simpa [World.setCell] using this, fun k hk hn => ?_⟩
  refine (Below.heap_setCell _ _ _ k (by show k ≠ w.heap.size; omega)).trans ((Below.heap_setCell _ _ _ k (by show k ≠ w.heap.size; omega)).trans ?_)
  exact KP.out.block k hk hn
set_option maxHeartbeats 1000000 in
theorem rtick_end (w : World) (b : Nat) (r t n : Int) (h : RefAt w b r t n) (ht : 1099511627776 ≤ t ∨ 1048576 ≤ n) :
    Calls Tryd.prog 16 #[.pointer (some ⟨b, 0, none⟩)] w fun e w' => e = .returned (.tuple #[.agg #[.int .i64 0, .int .i64 0], .int .i64 0, .int .i64 19]) ∧ Below w.heap.size w w' := by
  have hlt := lt_of_blk h
  obtain ⟨w0, e0⟩ : ∃ w0, w0 = w.alloc (.cells #[.int .i64 0, .int .i64 0] 24) := ⟨_, rfl⟩
  have b0 : Below w.heap.size w w0 := by rw [e0]; exact below_alloc (Below.refl _ _) _
  have h0 : RefAt w0 b r t n := (b0.block b hlt).trans h
  have hc0 : w0.heap[w.heap.size]? = some (.cells #[.int .i64 0, .int .i64 0] 24 (0, 0)) := by rw [e0]; exact heap_alloc_new w _
  have c1 := blk_cell h0 1; have c2 := blk_cell h0 2
  have q0 := blk_cell hc0 0; have q1 := blk_cell hc0 1; have g0 := blk_frozen hc0 0; have g1 := blk_frozen hc0 1
  simp at q0 q1 c1 c2
  have E0 := Lib.hid e0; have HC0 := Lib.hid hc0; have B0 := Lib.hid b0
  by_cases ht1 : 1099511627776 ≤ t
  · clear h h0 e0 hlt hc0 b0 ht
    go_enter Tryd.func16, Tryd.ntmps16
    go_upto_region 1 with (fail)
    rw [← E0.out]
    go_wp2_with fail
    have hr1 := blk_set HC0.out 0 (.int .i64 0)
    simp at hr1
    have hr2 := blk_set hr1 1 (.int .i64 0)
    simp at hr2
    refine bodyPost_ret (results_list (rs := [.cell 2 24, .tmp 3, .tmp 4]) rfl (by simp) (.cell w.heap.size 24 #[.int .i64 0, .int .i64 0] (0, 0) _ rfl hr2 Tryd.underlying24 rfl size24 (.tmp (.tmp .nil)))) rfl ?_
    exact ⟨rfl, (B0.out.setCell (p := ⟨w.heap.size, 0, none⟩) (Nat.le_refl _) _).setCell (p := ⟨w.heap.size, 1, none⟩) (Nat.le_refl _) _⟩
  · have hn1 : 1048576 ≤ n := ht.resolve_left ht1
    clear h h0 e0 hlt hc0 b0 ht
    go_enter Tryd.func16, Tryd.ntmps16
    go_upto_region 1 with (fail)
    rw [← E0.out]
    go_wp2_with fail
    have hr1 := blk_set HC0.out 0 (.int .i64 0)
    simp at hr1
    have hr2 := blk_set hr1 1 (.int .i64 0)
    simp at hr2
    refine bodyPost_ret (results_list (rs := [.cell 2 24, .tmp 3, .tmp 4]) rfl (by simp) (.cell w.heap.size 24 #[.int .i64 0, .int .i64 0] (0, 0) _ rfl hr2 Tryd.underlying24 rfl size24 (.tmp (.tmp .nil)))) rfl ?_
    exact ⟨rfl, (B0.out.setCell (p := ⟨w.heap.size, 0, none⟩) (Nat.le_refl _) _).setCell (p := ⟨w.heap.size, 1, none⟩) (Nat.le_refl _) _⟩
theorem rrop_f (R N : Int) : offshootref03_RightOp.f R N = some (rop R N) := by
  unfold offshootref03_RightOp.f rop
  by_cases h1 : 0 ≤ R
  · by_cases h2 : R < 16
    · by_cases h3 : 1 ≤ N
      · rw [if_pos h1, if_pos (by omega), if_pos h3]; simp [h1, h2, h3]
      · rw [if_pos h1, if_pos (by omega), if_neg h3]; simp [h3]
    · rw [if_pos h1, if_neg (by omega)]; simp [h2]
  · rw [if_neg h1]; simp [h1]
theorem rrop_ok (w : World) (R N : Int) : Calls Tryd.prog 25 #[.agg #[.int .i64 R, .int .i64 N]] w fun e w' => e = .returned (.bool (rop R N)) ∧ Below w.heap.size w w' := offshootref03_RightOp.calls R N (rop R N) w (rrop_f R N)
end Go.Proofs.YtiakdnoafmojlaaDoor.Q
