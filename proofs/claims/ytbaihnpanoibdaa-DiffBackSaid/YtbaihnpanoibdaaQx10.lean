/- The reference's Patch computes what its Lean function here says. Written by the kit's print.py (see wip/tools/diffprint.sh of this session); what it could not print is proved by hand. -/
import Derived.Test.YtbaihnpanoibdaaQx0
import Derived.Test.YtbaihnpanoibdaaQx1
namespace Go.Proofs.Ytbaihnpanoibdaa.Q
open Go.RowKit Go.Proofs.YtbaihnpanoibdaaW.PrintWords Go.Proofs.YtbaihnpanoibdaaW.PrintLast Go.Proofs.YtbaihnpanoibdaaW.PrintMore
attribute [local go_sem] max2_int min2_int max_two min_two max_three min_three max_four min_four   -- for this text's walks alone
set_option linter.unusedVariables false
set_option linter.unusedSimpArgs false

attribute [local go_sem high] eqA34
/-! ### offshootref28_Patch: function 14 -/
mutual
def offshootref28_Patch.l0 : Nat → List (S36) → List (S39) → List (S36) → Int → Int → Option ((List (S36)) × Int)
  | 0, _, _, _, _, _ => none
  | k + 1, x0, x1, x6, x7, x8 => if x8 < (x1.length : Int) then (if 0 ≤ x8 then (if ((rd_T39 x1 x8).f0) = 1 then (offshootref28_Patch.j1 k x0 x1 x6 x7 x8 ((rd_T39 x1 x8).f0) (((rd_T39 x1 x8).f0) == 1) ((rd_T39 x1 x8).f0) ((rd_T39 x1 x8).f1) ((rd_T39 x1 x8).f2.f0.f0) ((rd_T39 x1 x8).f2.f0.f1) ((rd_T39 x1 x8).f2.f1) ((rd_T39 x1 x8).f2.f2) ((rd_T39 x1 x8).f2.f3)) else (offshootref28_Patch.j1 k x0 x1 x6 x7 x8 ((rd_T39 x1 x8).f0) (((rd_T39 x1 x8).f0) == 2) ((rd_T39 x1 x8).f0) ((rd_T39 x1 x8).f1) ((rd_T39 x1 x8).f2.f0.f0) ((rd_T39 x1 x8).f2.f0.f1) ((rd_T39 x1 x8).f2.f1) ((rd_T39 x1 x8).f2.f2) ((rd_T39 x1 x8).f2.f3))) else (none)) else (if x7 < (x0.length : Int) then (some (([] : List (S36)), 10)) else (some (x6, 0)))
def offshootref28_Patch.j1 : Nat → List (S36) → List (S39) → List (S36) → Int → Int → Int → Bool → Int → Int → Int → Int → Int → Bool → ByteArray → Option ((List (S36)) × Int)
  | 0, _, _, _, _, _, _, _, _, _, _, _, _, _, _ => none
  | k + 1, x0, x1, x6, x7, x8, x22, x23, x228000, x228001, x228002, x228003, x228004, x228005, x228006 => if x23 = true then (if x228001 < 1 then (offshootref28_Patch.j2 k x0 x1 x6 x7 x8 true x228000 x228001 x228002 x228003 x228004 x228005 x228006) else (offshootref28_Patch.j2 k x0 x1 x6 x7 x8 (decide (x228001 > (wrap64 ((x0.length : Int) - x7)))) x228000 x228001 x228002 x228003 x228004 x228005 x228006)) else (if x22 = 3 then (if x6.length < 2932031007402 then (offshootref28_Patch.l0 k x0 x1 (x6 ++ [(⟨(⟨x228002, x228003⟩ : S34), x228004, x228005, x228006⟩ : S36)]) x7 (wrap64 (x8 + 1))) else (none)) else (if x22 = 4 then (if x7 ≥ (x0.length : Int) then (some (([] : List (S36)), 10)) else (if 0 ≤ x7 then (if x7 < (x0.length : Int) then (if (!(((rd_T36 x0 x7).f0.f0) == x228002) || (!(((rd_T36 x0 x7).f0.f1) == x228003))) = true then (some (([] : List (S36)), 10)) else (if x6.length < 2932031007402 then (offshootref28_Patch.l0 k x0 x1 (x6 ++ [(⟨(⟨x228002, x228003⟩ : S34), x228004, x228005, x228006⟩ : S36)]) (wrap64 (x7 + 1)) (wrap64 (x8 + 1))) else (none))) else (none)) else (none))) else (some (([] : List (S36)), 10))))
def offshootref28_Patch.j2 : Nat → List (S36) → List (S39) → List (S36) → Int → Int → Bool → Int → Int → Int → Int → Int → Bool → ByteArray → Option ((List (S36)) × Int)
  | 0, _, _, _, _, _, _, _, _, _, _, _, _, _ => none
  | k + 1, x0, x1, x6, x7, x8, x37, x228000, x228001, x228002, x228003, x228004, x228005, x228006 => if x37 = true then (some (([] : List (S36)), 10)) else (if x228000 = 1 then (if 0 ≤ x7 then (if x7 ≤ (wrap64 (x7 + x228001)) then (if (wrap64 (x7 + x228001)) ≤ (x0.length : Int) then ((some ((x0.take ((wrap64 (x7 + x228001)) : Int).toNat).drop (x7 : Int).toNat : List (S36))).bind fun y228 => (if x6.length + y228.length < 2932031007402 then (offshootref28_Patch.l0 k x0 x1 (x6 ++ y228) (wrap64 (x7 + x228001)) (wrap64 (x8 + 1))) else (none))) else (none)) else (none)) else (none)) else (offshootref28_Patch.l0 k x0 x1 x6 (wrap64 (x7 + x228001)) (wrap64 (x8 + 1))))
end
def offshootref28_Patch.f (k : Nat) (l0 : List (S36)) (l1 : List (S39)) : Option ((List (S36)) × Int) := offshootref28_Patch.l0 k l0 l1 (([] : List (S36))) 0 0
theorem offshootref28_Patch.mono_l : ∀ k, (∀ y0 y1 y2 y3 y4, LeO (offshootref28_Patch.l0 k y0 y1 y2 y3 y4) (offshootref28_Patch.l0 (k + 1) y0 y1 y2 y3 y4)) ∧ (∀ y0 y1 y2 y3 y4 y5 y6 y7 y8 y9 y10 y11 y12 y13, LeO (offshootref28_Patch.j1 k y0 y1 y2 y3 y4 y5 y6 y7 y8 y9 y10 y11 y12 y13) (offshootref28_Patch.j1 (k + 1) y0 y1 y2 y3 y4 y5 y6 y7 y8 y9 y10 y11 y12 y13)) ∧ (∀ y0 y1 y2 y3 y4 y5 y6 y7 y8 y9 y10 y11 y12, LeO (offshootref28_Patch.j2 k y0 y1 y2 y3 y4 y5 y6 y7 y8 y9 y10 y11 y12) (offshootref28_Patch.j2 (k + 1) y0 y1 y2 y3 y4 y5 y6 y7 y8 y9 y10 y11 y12))
  | 0 => ⟨fun _ _ _ _ _ r h => by simp [offshootref28_Patch.l0] at h, fun _ _ _ _ _ _ _ _ _ _ _ _ _ _ r h => by simp [offshootref28_Patch.j1] at h, fun _ _ _ _ _ _ _ _ _ _ _ _ _ r h => by simp [offshootref28_Patch.j2] at h⟩
  | k + 1 => by
    obtain ⟨ih0, ih1, ih2⟩ := offshootref28_Patch.mono_l k
    refine ⟨?_, ?_, ?_⟩
    · intro y0 y1 y2 y3 y4
      unfold offshootref28_Patch.l0
      repeat' first
      | (with_reducible exact ih0 _ _ _ _ _)
      | (with_reducible exact ih1 _ _ _ _ _ _ _ _ _ _ _ _ _ _)
      | (with_reducible exact ih2 _ _ _ _ _ _ _ _ _ _ _ _ _)
      | (with_reducible exact LeO.refl _)
      | (with_reducible exact LeO.none _)
      | (with_reducible refine LeO.ite ?_ ?_)
      | (with_reducible refine LeO.bind ?_ (fun _ => ?_))
      | exact ih0 _ _ _ _ _
      | exact ih1 _ _ _ _ _ _ _ _ _ _ _ _ _ _
      | exact ih2 _ _ _ _ _ _ _ _ _ _ _ _ _
      | exact LeO.none _
      | refine LeO.ite ?_ ?_
      | refine LeO.bind ?_ (fun _ => ?_)
    · intro y0 y1 y2 y3 y4 y5 y6 y7 y8 y9 y10 y11 y12 y13
      unfold offshootref28_Patch.j1
      repeat' first
      | (with_reducible exact ih0 _ _ _ _ _)
      | (with_reducible exact ih1 _ _ _ _ _ _ _ _ _ _ _ _ _ _)
      | (with_reducible exact ih2 _ _ _ _ _ _ _ _ _ _ _ _ _)
      | (with_reducible exact LeO.refl _)
      | (with_reducible exact LeO.none _)
      | (with_reducible refine LeO.ite ?_ ?_)
      | (with_reducible refine LeO.bind ?_ (fun _ => ?_))
      | exact ih0 _ _ _ _ _
      | exact ih1 _ _ _ _ _ _ _ _ _ _ _ _ _ _
      | exact ih2 _ _ _ _ _ _ _ _ _ _ _ _ _
      | exact LeO.none _
      | refine LeO.ite ?_ ?_
      | refine LeO.bind ?_ (fun _ => ?_)
    · intro y0 y1 y2 y3 y4 y5 y6 y7 y8 y9 y10 y11 y12
      unfold offshootref28_Patch.j2
      repeat' first
      | (with_reducible exact ih0 _ _ _ _ _)
      | (with_reducible exact ih1 _ _ _ _ _ _ _ _ _ _ _ _ _ _)
      | (with_reducible exact ih2 _ _ _ _ _ _ _ _ _ _ _ _ _)
      | (with_reducible exact LeO.refl _)
      | (with_reducible exact LeO.none _)
      | (with_reducible refine LeO.ite ?_ ?_)
      | (with_reducible refine LeO.bind ?_ (fun _ => ?_))
      | exact ih0 _ _ _ _ _
      | exact ih1 _ _ _ _ _ _ _ _ _ _ _ _ _ _
      | exact ih2 _ _ _ _ _ _ _ _ _ _ _ _ _
      | exact LeO.none _
      | refine LeO.ite ?_ ?_
      | refine LeO.bind ?_ (fun _ => ?_)
theorem offshootref28_Patch.mono : ∀ a0 a1 k, LeO (offshootref28_Patch.f k a0 a1) (offshootref28_Patch.f (k + 1) a0 a1) := by
  intro a0 a1 k
  obtain ⟨ih0, ih1, ih2⟩ := offshootref28_Patch.mono_l k
  unfold offshootref28_Patch.f
  repeat' first
      | (with_reducible exact ih0 _ _ _ _ _)
      | (with_reducible exact ih1 _ _ _ _ _ _ _ _ _ _ _ _ _ _)
      | (with_reducible exact ih2 _ _ _ _ _ _ _ _ _ _ _ _ _)
      | (with_reducible exact LeO.refl _)
      | (with_reducible exact LeO.none _)
      | (with_reducible refine LeO.ite ?_ ?_)
      | (with_reducible refine LeO.bind ?_ (fun _ => ?_))
      | exact ih0 _ _ _ _ _
      | exact ih1 _ _ _ _ _ _ _ _ _ _ _ _ _ _
      | exact ih2 _ _ _ _ _ _ _ _ _ _ _ _ _
      | exact LeO.none _
      | refine LeO.ite ?_ ?_
      | refine LeO.bind ?_ (fun _ => ?_)
set_option maxHeartbeats 8000000 in
set_option maxRecDepth 100000 in
theorem offshootref28_Patch.calls (k : Nat) (A0 : Option Addr) (c0 : Nat) (l0 : List (S36)) (A1 : Option Addr) (c1 : Nat) (l1 : List (S39)) (r1 : List (S36)) (r2 : Int) (w : World) (hr0 : Kd.C k36 w A0 l0.length l0) (hc0 : l0.length ≤ c0) (hr1 : Kd.C k39 w A1 l1.length l1) (hc1 : l1.length ≤ c1) (h : offshootref28_Patch.f k l0 l1 = some (r1, r2)) :
    Calls Try.prog 14 #[.slice A0 l0.length c0, .slice A1 l1.length c1] w fun e w' => ∃ v0_ : Value, e = .returned (.tuple #[v0_, .int .i64 r2]) ∧ Kd.R k36 36 w' w.heap.size (fun _ => True) v0_ r1 ∧ Below w.heap.size w w' := by
  have hu39 := Try.underlying39
  have hu36 := Try.underlying36
  have hu34 := Try.underlying34
  have HR0 := Aside0.mk hr0
  have HC0 := Aside0.mk hc0
  clear hr0 hc0
  have HR1 := Aside0.mk hr1
  have HC1 := Aside0.mk hc1
  clear hr1 hc1
  have HB := Aside0.mk (Below.refl w.heap.size w)
  have H : (offshootref28_Patch.l0 k l0 l1 (([] : List (S36))) 0 0) = some (r1, r2) := h
  clear h
  obtain ⟨y223, hy223⟩ : ∃ y_ : List (S36), y_ = (([] : List (S36))) := ⟨_, rfl⟩
  replace H : (offshootref28_Patch.l0 k l0 l1 y223 0 0) = some (r1, r2) := by first | (rw [hy223]; with_reducible exact H) | (have H2_ := (Option.bind_some _ _).symm.trans H; rw [hy223]; with_reducible exact H2_) | (have H2_ := (Option.bind_some _ _).symm.trans H; with_reducible exact H2_) | with_reducible exact H | (rw [hy223]; exact H) | exact H
  have Ny223 := Aside0.mk hy223
  clear hy223
  have H' := Aside0.mk H
  clear H
  go_enter Try.func14, Try.ntmps14
  go_wp2_with (first | ((with_reducible refine gate_dst (N := 10) rfl ?_); (try (refine gate_guard (by rfl) ?_; dsimp only)); refine Kd.R_lit k36 _ 36 ?hg (N := 10) ?hd (xs := ([] : List (S36))) (inner := []) (ok := fun _ => True) (okp := fun _ => True) ?hr ?hp (fun _ hk => hk) trivial (Below.refl _ _) (Nat.le_refl _) (by simp) ?_; (case hd => rfl); (case hg => rfl); (case hr => first | (go_simp; done) | (go_simp; rfl)); (case hp => exact (Reps.none _ _)); intro v224 w3 ho4 hb hg_ hnew_; clear hg_ hnew_; (first | rw [← Ny223.out] at ho4 | (simp only [Int.reduceToNat] at ho4; rw [← Ny223.out] at ho4)); have n0_ := Aside0.mk (Kd.R_lower ho4 (below_size (by repeat (first | (with_reducible first | exact HB.out | apply below_alloc | apply pw_below_drewN | apply below_drew1) | exact HB.out)))); have n1_ := Aside0.mk (below_step (by repeat (first | (with_reducible first | exact HB.out | apply below_alloc | apply pw_below_drewN | apply below_drew1) | exact HB.out)) hb); clear HB; have HO225 := n0_; have HB := n1_; clear n0_ n1_; clear hb ho4))
  repeat (go_quiet (first | ((with_reducible refine gate_dst (N := 10) rfl ?_); (try (refine gate_guard (by rfl) ?_; dsimp only)); refine Kd.R_lit k36 _ 36 ?hg (N := 10) ?hd (xs := ([] : List (S36))) (inner := []) (ok := fun _ => True) (okp := fun _ => True) ?hr ?hp (fun _ hk => hk) trivial (Below.refl _ _) (Nat.le_refl _) (by simp) ?_; (case hd => rfl); (case hg => rfl); (case hr => first | (go_simp; done) | (go_simp; rfl)); (case hp => exact (Reps.none _ _)); intro v224 w3 ho4 hb hg_ hnew_; clear hg_ hnew_; (first | rw [← Ny223.out] at ho4 | (simp only [Int.reduceToNat] at ho4; rw [← Ny223.out] at ho4)); have n0_ := Aside0.mk (Kd.R_lower ho4 (below_size (by repeat (first | (with_reducible first | exact HB.out | apply below_alloc | apply pw_below_drewN | apply below_drew1) | exact HB.out)))); have n1_ := Aside0.mk (below_step (by repeat (first | (with_reducible first | exact HB.out | apply below_alloc | apply pw_below_drewN | apply below_drew1) | exact HB.out)) hb); clear HB; have HO225 := n0_; have HB := n1_; clear n0_ n1_; clear hb ho4)); try go_wp2_with (first | ((with_reducible refine gate_dst (N := 10) rfl ?_); (try (refine gate_guard (by rfl) ?_; dsimp only)); refine Kd.R_lit k36 _ 36 ?hg (N := 10) ?hd (xs := ([] : List (S36))) (inner := []) (ok := fun _ => True) (okp := fun _ => True) ?hr ?hp (fun _ hk => hk) trivial (Below.refl _ _) (Nat.le_refl _) (by simp) ?_; (case hd => rfl); (case hg => rfl); (case hr => first | (go_simp; done) | (go_simp; rfl)); (case hp => exact (Reps.none _ _)); intro v224 w3 ho4 hb hg_ hnew_; clear hg_ hnew_; (first | rw [← Ny223.out] at ho4 | (simp only [Int.reduceToNat] at ho4; rw [← Ny223.out] at ho4)); have n0_ := Aside0.mk (Kd.R_lower ho4 (below_size (by repeat (first | (with_reducible first | exact HB.out | apply below_alloc | apply pw_below_drewN | apply below_drew1) | exact HB.out)))); have n1_ := Aside0.mk (below_step (by repeat (first | (with_reducible first | exact HB.out | apply below_alloc | apply pw_below_drewN | apply below_drew1) | exact HB.out)) hb); clear HB; have HO225 := n0_; have HB := n1_; clear n0_ n1_; clear hb ho4)))
  go_loopg [6, 7, 8] k (fun kq v6 v7 v8 w' => ∃ (x6_1 : List (S36)) (x7_1 : Int) (x8_1 : Int), v7 = .int .i64 x7_1 ∧ v8 = .int .i64 x8_1 ∧ Aside0 (offshootref28_Patch.l0 kq l0 l1 x6_1 x7_1 x8_1 = some (r1, r2)) ∧ Aside0 (kq ≤ k) ∧ Aside0 (Kd.R k36 36 w' w.heap.size (fun _ => True) v6 x6_1) ∧ Aside0 (Below w.heap.size w w'))
  case atStart => exact ⟨(y223), (0), (0), (by first | rfl | (simp; done) | (simp [*]; done)), (by first | rfl | (simp; done) | (simp [*]; done)), H', ⟨Nat.le_refl _⟩, ⟨by (with_reducible repeat (first | apply Kd.R_alloc | apply Kd.R_drewN | apply Kd.R_drew)); exact HO225.out⟩, ⟨by repeat (first | (with_reducible first | exact HB.out | apply below_alloc | apply pw_below_drewN | apply below_drew1) | exact HB.out)⟩⟩
  case round =>
    clear H'
    try clear c1
    try clear p2
    obtain ⟨x6_1, x7_1, x8_1, rfl, rfl, HA, HK1, HO_6, HB⟩ := hrel
    cases gk with
    | zero => exact absurd HA.out (by simp [offshootref28_Patch.l0])
    | succ k1 =>
      have H := HA.out
      clear HA
      simp only [offshootref28_Patch.l0] at H
      by_cases c5 : x8_1 < (l1.length : Int)
      · rw [if_pos c5] at H
        have c5b0 : decide (x8_1 < (l1.length : Int)) = true := decide_eq_true c5
        clear c5
        by_cases c6 : 0 ≤ x8_1
        · rw [if_pos c6] at H
          have c6b0 : decide (0 ≤ x8_1) = true := decide_eq_true c6
          clear c6
          have HC7 := Aside0.mk H
          clear H
          have p226 : 0 ≤ (x8_1 : Int) := of_decide_eq_true (by first | (with_reducible assumption) | assumption)
          have q226 : x8_1 < (l1.length : Int) := of_decide_eq_true (by first | (with_reducible assumption) | assumption)
          obtain ⟨ad226, e226, hx226_0, hx226_1, hx226_2, hx226_3, hx226_4, hx226_5, hx226_6⟩ := at_T39 HR1.out x8_1 p226 q226
          cases e226
          replace hx226_0 := (HB.out.cell (World.block_lt_of_cell? w _ hx226_0)).trans hx226_0
          replace hx226_1 := (HB.out.cell (World.block_lt_of_cell? w _ hx226_1)).trans hx226_1
          replace hx226_2 := (HB.out.cell (World.block_lt_of_cell? w _ hx226_2)).trans hx226_2
          replace hx226_3 := (HB.out.cell (World.block_lt_of_cell? w _ hx226_3)).trans hx226_3
          replace hx226_4 := (HB.out.cell (World.block_lt_of_cell? w _ hx226_4)).trans hx226_4
          replace hx226_5 := (HB.out.cell (World.block_lt_of_cell? w _ hx226_5)).trans hx226_5
          replace hx226_6 := (HB.out.cell (World.block_lt_of_cell? w _ hx226_6)).trans hx226_6
          replace p226 := eq_true p226
          replace q226 := eq_true q226
          go_upto_if 23 with (first | ((with_reducible refine gate_dst (N := 9) rfl ?_); (try (refine gate_guard (by rfl) ?_; dsimp only)); refine box_event ?hg (N := 9) ?hd (cs := #[.int .i64 0, .int .i64 0, .int .i64 0, .int .i64 0, .int .i64 0, .bool false, .string (⟨#[]⟩ : ByteArray)]) (t := 39) ?hr ?_; (case hd => rfl); (case hg => rfl); (case hr => first | (go_simp; done) | (go_simp; rfl)); intro gb227 hg w8 hbox hb; have n0_ := Aside0.mk (Kd.R_below (by (with_reducible repeat (first | apply Kd.R_alloc | apply Kd.R_drewN | apply Kd.R_drew)); exact HO_6.out) hb); have n1_ := Aside0.mk (below_step (by repeat (first | (with_reducible first | exact HB.out | apply below_alloc | apply pw_below_drewN | apply below_drew1) | exact HB.out)) hb); have n2_ := Aside0.mk (hbox); have n3_ := Aside0.mk ((by rw [hg]; exact (below_size (by repeat (first | (with_reducible first | exact HB.out | apply below_alloc | apply pw_below_drewN | apply below_drew1) | exact HB.out))) : w.heap.size ≤ gb227)); have n4_ := Aside0.mk ((by rw [hg]; exact (below_size (by repeat (first | (with_reducible first | exact HB.out | apply below_alloc | apply pw_below_drewN | apply below_drew1) | exact HB.out))) : w.heap.size ≤ gb227)); clear HO_6; clear HB; have HO_6 := n0_; have HB := n1_; have BK227 := n2_; have GW227 := n3_; have GE227 := n4_; clear n0_ n1_ n2_ n3_ n4_; clear hb hbox hg; have hcz9_0 : w8.cell? ⟨gb227, 0, none⟩ = some (.int .i64 0) := (blk_cell BK227.out 0).trans rfl; have hcz9_1 : w8.cell? ⟨gb227, 1, none⟩ = some (.int .i64 0) := (blk_cell BK227.out 1).trans rfl; have hcz9_2 : w8.cell? ⟨gb227, 2, none⟩ = some (.int .i64 0) := (blk_cell BK227.out 2).trans rfl; have hcz9_3 : w8.cell? ⟨gb227, 3, none⟩ = some (.int .i64 0) := (blk_cell BK227.out 3).trans rfl; have hcz9_4 : w8.cell? ⟨gb227, 4, none⟩ = some (.int .i64 0) := (blk_cell BK227.out 4).trans rfl; have hcz9_5 : w8.cell? ⟨gb227, 5, none⟩ = some (.bool false) := (blk_cell BK227.out 5).trans rfl; have hcz9_6 : w8.cell? ⟨gb227, 6, none⟩ = some (.string (⟨#[]⟩ : ByteArray)) := (blk_cell BK227.out 6).trans rfl; have hfz9_0 := blk_frozen BK227.out 0; have hfz9_1 := blk_frozen BK227.out 1; have hfz9_2 := blk_frozen BK227.out 2; have hfz9_3 := blk_frozen BK227.out 3; have hfz9_4 := blk_frozen BK227.out 4; have hfz9_5 := blk_frozen BK227.out 5; have hfz9_6 := blk_frozen BK227.out 6))
          repeat (go_quiet (first | ((with_reducible refine gate_dst (N := 9) rfl ?_); (try (refine gate_guard (by rfl) ?_; dsimp only)); refine box_event ?hg (N := 9) ?hd (cs := #[.int .i64 0, .int .i64 0, .int .i64 0, .int .i64 0, .int .i64 0, .bool false, .string (⟨#[]⟩ : ByteArray)]) (t := 39) ?hr ?_; (case hd => rfl); (case hg => rfl); (case hr => first | (go_simp; done) | (go_simp; rfl)); intro gb227 hg w8 hbox hb; have n0_ := Aside0.mk (Kd.R_below (by (with_reducible repeat (first | apply Kd.R_alloc | apply Kd.R_drewN | apply Kd.R_drew)); exact HO_6.out) hb); have n1_ := Aside0.mk (below_step (by repeat (first | (with_reducible first | exact HB.out | apply below_alloc | apply pw_below_drewN | apply below_drew1) | exact HB.out)) hb); have n2_ := Aside0.mk (hbox); have n3_ := Aside0.mk ((by rw [hg]; exact (below_size (by repeat (first | (with_reducible first | exact HB.out | apply below_alloc | apply pw_below_drewN | apply below_drew1) | exact HB.out))) : w.heap.size ≤ gb227)); have n4_ := Aside0.mk ((by rw [hg]; exact (below_size (by repeat (first | (with_reducible first | exact HB.out | apply below_alloc | apply pw_below_drewN | apply below_drew1) | exact HB.out))) : w.heap.size ≤ gb227)); clear HO_6; clear HB; have HO_6 := n0_; have HB := n1_; have BK227 := n2_; have GW227 := n3_; have GE227 := n4_; clear n0_ n1_ n2_ n3_ n4_; clear hb hbox hg; have hcz9_0 : w8.cell? ⟨gb227, 0, none⟩ = some (.int .i64 0) := (blk_cell BK227.out 0).trans rfl; have hcz9_1 : w8.cell? ⟨gb227, 1, none⟩ = some (.int .i64 0) := (blk_cell BK227.out 1).trans rfl; have hcz9_2 : w8.cell? ⟨gb227, 2, none⟩ = some (.int .i64 0) := (blk_cell BK227.out 2).trans rfl; have hcz9_3 : w8.cell? ⟨gb227, 3, none⟩ = some (.int .i64 0) := (blk_cell BK227.out 3).trans rfl; have hcz9_4 : w8.cell? ⟨gb227, 4, none⟩ = some (.int .i64 0) := (blk_cell BK227.out 4).trans rfl; have hcz9_5 : w8.cell? ⟨gb227, 5, none⟩ = some (.bool false) := (blk_cell BK227.out 5).trans rfl; have hcz9_6 : w8.cell? ⟨gb227, 6, none⟩ = some (.string (⟨#[]⟩ : ByteArray)) := (blk_cell BK227.out 6).trans rfl; have hfz9_0 := blk_frozen BK227.out 0; have hfz9_1 := blk_frozen BK227.out 1; have hfz9_2 := blk_frozen BK227.out 2; have hfz9_3 := blk_frozen BK227.out 3; have hfz9_4 := blk_frozen BK227.out 4; have hfz9_5 := blk_frozen BK227.out 5; have hfz9_6 := blk_frozen BK227.out 6)); go_upto_if 23 with (first | ((with_reducible refine gate_dst (N := 9) rfl ?_); (try (refine gate_guard (by rfl) ?_; dsimp only)); refine box_event ?hg (N := 9) ?hd (cs := #[.int .i64 0, .int .i64 0, .int .i64 0, .int .i64 0, .int .i64 0, .bool false, .string (⟨#[]⟩ : ByteArray)]) (t := 39) ?hr ?_; (case hd => rfl); (case hg => rfl); (case hr => first | (go_simp; done) | (go_simp; rfl)); intro gb227 hg w8 hbox hb; have n0_ := Aside0.mk (Kd.R_below (by (with_reducible repeat (first | apply Kd.R_alloc | apply Kd.R_drewN | apply Kd.R_drew)); exact HO_6.out) hb); have n1_ := Aside0.mk (below_step (by repeat (first | (with_reducible first | exact HB.out | apply below_alloc | apply pw_below_drewN | apply below_drew1) | exact HB.out)) hb); have n2_ := Aside0.mk (hbox); have n3_ := Aside0.mk ((by rw [hg]; exact (below_size (by repeat (first | (with_reducible first | exact HB.out | apply below_alloc | apply pw_below_drewN | apply below_drew1) | exact HB.out))) : w.heap.size ≤ gb227)); have n4_ := Aside0.mk ((by rw [hg]; exact (below_size (by repeat (first | (with_reducible first | exact HB.out | apply below_alloc | apply pw_below_drewN | apply below_drew1) | exact HB.out))) : w.heap.size ≤ gb227)); clear HO_6; clear HB; have HO_6 := n0_; have HB := n1_; have BK227 := n2_; have GW227 := n3_; have GE227 := n4_; clear n0_ n1_ n2_ n3_ n4_; clear hb hbox hg; have hcz9_0 : w8.cell? ⟨gb227, 0, none⟩ = some (.int .i64 0) := (blk_cell BK227.out 0).trans rfl; have hcz9_1 : w8.cell? ⟨gb227, 1, none⟩ = some (.int .i64 0) := (blk_cell BK227.out 1).trans rfl; have hcz9_2 : w8.cell? ⟨gb227, 2, none⟩ = some (.int .i64 0) := (blk_cell BK227.out 2).trans rfl; have hcz9_3 : w8.cell? ⟨gb227, 3, none⟩ = some (.int .i64 0) := (blk_cell BK227.out 3).trans rfl; have hcz9_4 : w8.cell? ⟨gb227, 4, none⟩ = some (.int .i64 0) := (blk_cell BK227.out 4).trans rfl; have hcz9_5 : w8.cell? ⟨gb227, 5, none⟩ = some (.bool false) := (blk_cell BK227.out 5).trans rfl; have hcz9_6 : w8.cell? ⟨gb227, 6, none⟩ = some (.string (⟨#[]⟩ : ByteArray)) := (blk_cell BK227.out 6).trans rfl; have hfz9_0 := blk_frozen BK227.out 0; have hfz9_1 := blk_frozen BK227.out 1; have hfz9_2 := blk_frozen BK227.out 2; have hfz9_3 := blk_frozen BK227.out 3; have hfz9_4 := blk_frozen BK227.out 4; have hfz9_5 := blk_frozen BK227.out 5; have hfz9_6 := blk_frozen BK227.out 6)))
          (try simp only [Act.put, List.setIfInBounds_toArray, List.set_cons_zero, List.set_cons_succ])
          go_cut [23] (fun v23 wc => ∃ (kq : Nat) (x23_6 : Bool), v23 = .bool x23_6 ∧ Aside0 (offshootref28_Patch.j1 kq l0 l1 x6_1 x7_1 x8_1 ((rd_T39 l1 x8_1).f0) x23_6 ((rd_T39 l1 x8_1).f0) ((rd_T39 l1 x8_1).f1) ((rd_T39 l1 x8_1).f2.f0.f0) ((rd_T39 l1 x8_1).f2.f0.f1) ((rd_T39 l1 x8_1).f2.f1) ((rd_T39 l1 x8_1).f2.f2) ((rd_T39 l1 x8_1).f2.f3) = some (r1, r2)) ∧ Aside0 (kq ≤ k1) ∧ Aside0 (Kd.R k36 36 wc w.heap.size (fun _ => True) u6 x6_1) ∧ Aside0 (wc.heap[gb227]? = some (.cells #[.int .i64 ((rd_T39 l1 x8_1).f0), .int .i64 ((rd_T39 l1 x8_1).f1), .int .i64 ((rd_T39 l1 x8_1).f2.f0.f0), .int .i64 ((rd_T39 l1 x8_1).f2.f0.f1), .int .i64 ((rd_T39 l1 x8_1).f2.f1), .bool ((rd_T39 l1 x8_1).f2.f2), .string ((rd_T39 l1 x8_1).f2.f3)] 39 (0, 0))) ∧ Aside0 (Below w.heap.size w wc))
          case first =>
            have H := HC7.out
            clear HC7
            by_cases c10 : ((rd_T39 l1 x8_1).f0) = 1
            · rw [if_pos c10] at H
              have c10b0 : (((rd_T39 l1 x8_1).f0) == 1) = true := beq_iff_eq.mpr c10
              have c10b1 : (((rd_T39 l1 x8_1).f0) != 1) = false := bne_eq_false_iff_eq.mpr c10
              clear c10
              (first | rw [c10b0] | (simp only [i64_w, i32_w]; rw [c10b0]) | skip)
              have H' := Aside0.mk H
              clear H
              go_wp2
              repeat (go_quiet (fail); try go_wp2)
              go_meet
              case rel => exact ⟨_, ((((rd_T39 l1 x8_1).f0) == 1)), (by first | rfl | (simp; done) | (simp [*]; done)), H', ⟨by have := HK1.out; first | omega | exact Nat.le_refl _⟩, ⟨by (with_reducible repeat (first | apply Kd.R_alloc | apply Kd.R_drewN | apply Kd.R_drew)); exact Kd.R_mono (Kd.R_far (p := ⟨gb227, 6, none⟩) (Kd.R_far (p := ⟨gb227, 5, none⟩) (Kd.R_far (p := ⟨gb227, 4, none⟩) (Kd.R_far (p := ⟨gb227, 3, none⟩) (Kd.R_far (p := ⟨gb227, 2, none⟩) (Kd.R_far (p := ⟨gb227, 1, none⟩) (Kd.R_far (p := ⟨gb227, 0, none⟩) (Kd.R_types HO_6.out BK227.out (by decide)) (fun _ hk => hk.2) (.int .i64 ((rd_T39 l1 x8_1).f0))) (fun _ hk => hk.2) (.int .i64 ((rd_T39 l1 x8_1).f1))) (fun _ hk => hk.2) (.int .i64 ((rd_T39 l1 x8_1).f2.f0.f0))) (fun _ hk => hk.2) (.int .i64 ((rd_T39 l1 x8_1).f2.f0.f1))) (fun _ hk => hk.2) (.int .i64 ((rd_T39 l1 x8_1).f2.f1))) (fun _ hk => hk.2) (.bool ((rd_T39 l1 x8_1).f2.f2))) (fun _ hk => hk.2) (.string ((rd_T39 l1 x8_1).f2.f3))) (fun _ hk => trivial)⟩, ⟨by (with_reducible repeat (first | refine blk_drewN ?_ _ | refine blk_drew ?_ | refine blk_alloc ?_ _)); refine blk_put (cs := #[.int .i64 ((rd_T39 l1 x8_1).f0), .int .i64 ((rd_T39 l1 x8_1).f1), .int .i64 ((rd_T39 l1 x8_1).f2.f0.f0), .int .i64 ((rd_T39 l1 x8_1).f2.f0.f1), .int .i64 ((rd_T39 l1 x8_1).f2.f1), .bool ((rd_T39 l1 x8_1).f2.f2), .string (⟨#[]⟩ : ByteArray)]) ?_ 6 _ rfl; (with_reducible repeat (first | refine blk_drewN ?_ _ | refine blk_drew ?_ | refine blk_alloc ?_ _)); refine blk_put (cs := #[.int .i64 ((rd_T39 l1 x8_1).f0), .int .i64 ((rd_T39 l1 x8_1).f1), .int .i64 ((rd_T39 l1 x8_1).f2.f0.f0), .int .i64 ((rd_T39 l1 x8_1).f2.f0.f1), .int .i64 ((rd_T39 l1 x8_1).f2.f1), .bool false, .string (⟨#[]⟩ : ByteArray)]) ?_ 5 _ rfl; (with_reducible repeat (first | refine blk_drewN ?_ _ | refine blk_drew ?_ | refine blk_alloc ?_ _)); refine blk_put (cs := #[.int .i64 ((rd_T39 l1 x8_1).f0), .int .i64 ((rd_T39 l1 x8_1).f1), .int .i64 ((rd_T39 l1 x8_1).f2.f0.f0), .int .i64 ((rd_T39 l1 x8_1).f2.f0.f1), .int .i64 0, .bool false, .string (⟨#[]⟩ : ByteArray)]) ?_ 4 _ rfl; (with_reducible repeat (first | refine blk_drewN ?_ _ | refine blk_drew ?_ | refine blk_alloc ?_ _)); refine blk_put (cs := #[.int .i64 ((rd_T39 l1 x8_1).f0), .int .i64 ((rd_T39 l1 x8_1).f1), .int .i64 ((rd_T39 l1 x8_1).f2.f0.f0), .int .i64 0, .int .i64 0, .bool false, .string (⟨#[]⟩ : ByteArray)]) ?_ 3 _ rfl; (with_reducible repeat (first | refine blk_drewN ?_ _ | refine blk_drew ?_ | refine blk_alloc ?_ _)); refine blk_put (cs := #[.int .i64 ((rd_T39 l1 x8_1).f0), .int .i64 ((rd_T39 l1 x8_1).f1), .int .i64 0, .int .i64 0, .int .i64 0, .bool false, .string (⟨#[]⟩ : ByteArray)]) ?_ 2 _ rfl; (with_reducible repeat (first | refine blk_drewN ?_ _ | refine blk_drew ?_ | refine blk_alloc ?_ _)); refine blk_put (cs := #[.int .i64 ((rd_T39 l1 x8_1).f0), .int .i64 0, .int .i64 0, .int .i64 0, .int .i64 0, .bool false, .string (⟨#[]⟩ : ByteArray)]) ?_ 1 _ rfl; (with_reducible repeat (first | refine blk_drewN ?_ _ | refine blk_drew ?_ | refine blk_alloc ?_ _)); refine blk_put (cs := #[.int .i64 0, .int .i64 0, .int .i64 0, .int .i64 0, .int .i64 0, .bool false, .string (⟨#[]⟩ : ByteArray)]) ?_ 0 _ rfl; (with_reducible repeat (first | refine blk_drewN ?_ _ | refine blk_drew ?_ | refine blk_alloc ?_ _)); exact BK227.out⟩, ⟨by repeat (first | (with_reducible first | exact HB.out | apply below_alloc | apply pw_below_drewN | apply below_drew1 | refine below_set ?_ GE227.out) | exact HB.out)⟩⟩
            · rw [if_neg c10] at H
              have c10b0 : (((rd_T39 l1 x8_1).f0) == 1) = false := beq_eq_false_iff_ne.mpr c10
              have c10b1 : (((rd_T39 l1 x8_1).f0) != 1) = true := bne_iff_ne.mpr c10
              (first | rw [c10b0] | (simp only [i64_w, i32_w]; rw [c10b0]) | skip)
              have H' := Aside0.mk H
              clear H
              go_wp2
              repeat (go_quiet (fail); try go_wp2)
              go_meet
              case rel => exact ⟨_, ((((rd_T39 l1 x8_1).f0) == 2)), (by first | rfl | (simp; done) | (simp [*]; done)), H', ⟨by have := HK1.out; first | omega | exact Nat.le_refl _⟩, ⟨by (with_reducible repeat (first | apply Kd.R_alloc | apply Kd.R_drewN | apply Kd.R_drew)); exact Kd.R_mono (Kd.R_far (p := ⟨gb227, 6, none⟩) (Kd.R_far (p := ⟨gb227, 5, none⟩) (Kd.R_far (p := ⟨gb227, 4, none⟩) (Kd.R_far (p := ⟨gb227, 3, none⟩) (Kd.R_far (p := ⟨gb227, 2, none⟩) (Kd.R_far (p := ⟨gb227, 1, none⟩) (Kd.R_far (p := ⟨gb227, 0, none⟩) (Kd.R_types HO_6.out BK227.out (by decide)) (fun _ hk => hk.2) (.int .i64 ((rd_T39 l1 x8_1).f0))) (fun _ hk => hk.2) (.int .i64 ((rd_T39 l1 x8_1).f1))) (fun _ hk => hk.2) (.int .i64 ((rd_T39 l1 x8_1).f2.f0.f0))) (fun _ hk => hk.2) (.int .i64 ((rd_T39 l1 x8_1).f2.f0.f1))) (fun _ hk => hk.2) (.int .i64 ((rd_T39 l1 x8_1).f2.f1))) (fun _ hk => hk.2) (.bool ((rd_T39 l1 x8_1).f2.f2))) (fun _ hk => hk.2) (.string ((rd_T39 l1 x8_1).f2.f3))) (fun _ hk => trivial)⟩, ⟨by (with_reducible repeat (first | refine blk_drewN ?_ _ | refine blk_drew ?_ | refine blk_alloc ?_ _)); refine blk_put (cs := #[.int .i64 ((rd_T39 l1 x8_1).f0), .int .i64 ((rd_T39 l1 x8_1).f1), .int .i64 ((rd_T39 l1 x8_1).f2.f0.f0), .int .i64 ((rd_T39 l1 x8_1).f2.f0.f1), .int .i64 ((rd_T39 l1 x8_1).f2.f1), .bool ((rd_T39 l1 x8_1).f2.f2), .string (⟨#[]⟩ : ByteArray)]) ?_ 6 _ rfl; (with_reducible repeat (first | refine blk_drewN ?_ _ | refine blk_drew ?_ | refine blk_alloc ?_ _)); refine blk_put (cs := #[.int .i64 ((rd_T39 l1 x8_1).f0), .int .i64 ((rd_T39 l1 x8_1).f1), .int .i64 ((rd_T39 l1 x8_1).f2.f0.f0), .int .i64 ((rd_T39 l1 x8_1).f2.f0.f1), .int .i64 ((rd_T39 l1 x8_1).f2.f1), .bool false, .string (⟨#[]⟩ : ByteArray)]) ?_ 5 _ rfl; (with_reducible repeat (first | refine blk_drewN ?_ _ | refine blk_drew ?_ | refine blk_alloc ?_ _)); refine blk_put (cs := #[.int .i64 ((rd_T39 l1 x8_1).f0), .int .i64 ((rd_T39 l1 x8_1).f1), .int .i64 ((rd_T39 l1 x8_1).f2.f0.f0), .int .i64 ((rd_T39 l1 x8_1).f2.f0.f1), .int .i64 0, .bool false, .string (⟨#[]⟩ : ByteArray)]) ?_ 4 _ rfl; (with_reducible repeat (first | refine blk_drewN ?_ _ | refine blk_drew ?_ | refine blk_alloc ?_ _)); refine blk_put (cs := #[.int .i64 ((rd_T39 l1 x8_1).f0), .int .i64 ((rd_T39 l1 x8_1).f1), .int .i64 ((rd_T39 l1 x8_1).f2.f0.f0), .int .i64 0, .int .i64 0, .bool false, .string (⟨#[]⟩ : ByteArray)]) ?_ 3 _ rfl; (with_reducible repeat (first | refine blk_drewN ?_ _ | refine blk_drew ?_ | refine blk_alloc ?_ _)); refine blk_put (cs := #[.int .i64 ((rd_T39 l1 x8_1).f0), .int .i64 ((rd_T39 l1 x8_1).f1), .int .i64 0, .int .i64 0, .int .i64 0, .bool false, .string (⟨#[]⟩ : ByteArray)]) ?_ 2 _ rfl; (with_reducible repeat (first | refine blk_drewN ?_ _ | refine blk_drew ?_ | refine blk_alloc ?_ _)); refine blk_put (cs := #[.int .i64 ((rd_T39 l1 x8_1).f0), .int .i64 0, .int .i64 0, .int .i64 0, .int .i64 0, .bool false, .string (⟨#[]⟩ : ByteArray)]) ?_ 1 _ rfl; (with_reducible repeat (first | refine blk_drewN ?_ _ | refine blk_drew ?_ | refine blk_alloc ?_ _)); refine blk_put (cs := #[.int .i64 0, .int .i64 0, .int .i64 0, .int .i64 0, .int .i64 0, .bool false, .string (⟨#[]⟩ : ByteArray)]) ?_ 0 _ rfl; (with_reducible repeat (first | refine blk_drewN ?_ _ | refine blk_drew ?_ | refine blk_alloc ?_ _)); exact BK227.out⟩, ⟨by repeat (first | (with_reducible first | exact HB.out | apply below_alloc | apply pw_below_drewN | apply below_drew1 | refine below_set ?_ GE227.out) | exact HB.out)⟩⟩
          case rest =>
            clear HC7
            try clear c1
            try clear p2
            try clear q2
            try clear hx2
            try clear c5
            try clear c5b0
            try clear c6
            try clear c6b0
            try clear c10
            try clear c10b0
            try clear c10b1
            try clear hcz9_0
            try clear hcz9_1
            try clear hcz9_2
            try clear hcz9_3
            try clear hcz9_4
            try clear hcz9_5
            try clear hcz9_6
            try clear hfz9_0
            try clear hfz9_1
            try clear hfz9_2
            try clear hfz9_3
            try clear hfz9_4
            try clear hfz9_5
            try clear hfz9_6
            try clear hx226_0
            try clear hx226_1
            try clear hx226_2
            try clear hx226_3
            try clear hx226_4
            try clear hx226_5
            try clear hx226_6
            try clear p2
            try clear p226
            try clear q226
            obtain ⟨kq, x23_6, rfl, HA, HJ6, HO_6, BK227, HB⟩ := hcut
            cases kq with
            | zero => exact absurd HA.out (by simp [offshootref28_Patch.j1])
            | succ kj6 =>
              have H := HA.out
              clear HA
              simp only [offshootref28_Patch.j1] at H
              by_cases c11 : x23_6 = true
              · subst c11
                have H1 : (if ((rd_T39 l1 x8_1).f1) < 1 then (offshootref28_Patch.j2 kj6 l0 l1 x6_1 x7_1 x8_1 true ((rd_T39 l1 x8_1).f0) ((rd_T39 l1 x8_1).f1) ((rd_T39 l1 x8_1).f2.f0.f0) ((rd_T39 l1 x8_1).f2.f0.f1) ((rd_T39 l1 x8_1).f2.f1) ((rd_T39 l1 x8_1).f2.f2) ((rd_T39 l1 x8_1).f2.f3)) else (offshootref28_Patch.j2 kj6 l0 l1 x6_1 x7_1 x8_1 (decide (((rd_T39 l1 x8_1).f1) > (wrap64 ((l0.length : Int) - x7_1)))) ((rd_T39 l1 x8_1).f0) ((rd_T39 l1 x8_1).f1) ((rd_T39 l1 x8_1).f2.f0.f0) ((rd_T39 l1 x8_1).f2.f0.f1) ((rd_T39 l1 x8_1).f2.f1) ((rd_T39 l1 x8_1).f2.f2) ((rd_T39 l1 x8_1).f2.f3))) = some (r1, r2) := by rw [if_pos rfl] at H; exact H
                clear H
                have H := H1
                clear H1
                have HC12 := Aside0.mk H
                clear H
                go_upto_region 11 with (fail)
                repeat (go_quiet (fail); go_upto_region 11 with (fail))
                go_cut [37] (fun v37 wc => ∃ (kq : Nat) (x37_11 : Bool), v37 = .bool x37_11 ∧ Aside0 (offshootref28_Patch.j2 kq l0 l1 x6_1 x7_1 x8_1 x37_11 ((rd_T39 l1 x8_1).f0) ((rd_T39 l1 x8_1).f1) ((rd_T39 l1 x8_1).f2.f0.f0) ((rd_T39 l1 x8_1).f2.f0.f1) ((rd_T39 l1 x8_1).f2.f1) ((rd_T39 l1 x8_1).f2.f2) ((rd_T39 l1 x8_1).f2.f3) = some (r1, r2)) ∧ Aside0 (kq ≤ kj6) ∧ Aside0 (Kd.R k36 36 wc w.heap.size (fun _ => True) u6 x6_1) ∧ Aside0 (wc.heap[gb227]? = some (.cells #[.int .i64 ((rd_T39 l1 x8_1).f0), .int .i64 ((rd_T39 l1 x8_1).f1), .int .i64 ((rd_T39 l1 x8_1).f2.f0.f0), .int .i64 ((rd_T39 l1 x8_1).f2.f0.f1), .int .i64 ((rd_T39 l1 x8_1).f2.f1), .bool ((rd_T39 l1 x8_1).f2.f2), .string ((rd_T39 l1 x8_1).f2.f3)] 39 (0, 0))) ∧ Aside0 (Below w.heap.size w wc))
                case first =>
                  have H := HC12.out
                  clear HC12
                  by_cases c13 : ((rd_T39 l1 x8_1).f1) < 1
                  · rw [if_pos c13] at H
                    have c13b0 : decide (((rd_T39 l1 x8_1).f1) < 1) = true := decide_eq_true c13
                    clear c13
                    (first | rw [c13b0] | (simp only [i64_w, i32_w]; rw [c13b0]) | skip)
                    have H' := Aside0.mk H
                    clear H
                    have hcz14_0 : wc.cell? ⟨gb227, 0, none⟩ = some (.int .i64 ((rd_T39 l1 x8_1).f0)) := (blk_cell BK227.out 0).trans rfl
                    have hcz14_1 : wc.cell? ⟨gb227, 1, none⟩ = some (.int .i64 ((rd_T39 l1 x8_1).f1)) := (blk_cell BK227.out 1).trans rfl
                    have hcz14_2 : wc.cell? ⟨gb227, 2, none⟩ = some (.int .i64 ((rd_T39 l1 x8_1).f2.f0.f0)) := (blk_cell BK227.out 2).trans rfl
                    have hcz14_3 : wc.cell? ⟨gb227, 3, none⟩ = some (.int .i64 ((rd_T39 l1 x8_1).f2.f0.f1)) := (blk_cell BK227.out 3).trans rfl
                    have hcz14_4 : wc.cell? ⟨gb227, 4, none⟩ = some (.int .i64 ((rd_T39 l1 x8_1).f2.f1)) := (blk_cell BK227.out 4).trans rfl
                    have hcz14_5 : wc.cell? ⟨gb227, 5, none⟩ = some (.bool ((rd_T39 l1 x8_1).f2.f2)) := (blk_cell BK227.out 5).trans rfl
                    have hcz14_6 : wc.cell? ⟨gb227, 6, none⟩ = some (.string ((rd_T39 l1 x8_1).f2.f3)) := (blk_cell BK227.out 6).trans rfl
                    have hfz14_0 := blk_frozen BK227.out 0
                    have hfz14_1 := blk_frozen BK227.out 1
                    have hfz14_2 := blk_frozen BK227.out 2
                    have hfz14_3 := blk_frozen BK227.out 3
                    have hfz14_4 := blk_frozen BK227.out 4
                    have hfz14_5 := blk_frozen BK227.out 5
                    have hfz14_6 := blk_frozen BK227.out 6
                    go_wp2
                    repeat (go_quiet (fail); try go_wp2)
                    go_meet
                    case rel => exact ⟨_, (true), (by first | rfl | (simp; done) | (simp [*]; done)), H', ⟨by have := HK1.out; have := HJ6.out; first | omega | exact Nat.le_refl _⟩, ⟨by (with_reducible repeat (first | apply Kd.R_alloc | apply Kd.R_drewN | apply Kd.R_drew)); exact HO_6.out⟩, ⟨by (with_reducible repeat (first | refine blk_drewN ?_ _ | refine blk_drew ?_ | refine blk_alloc ?_ _)); exact BK227.out⟩, ⟨by repeat (first | (with_reducible first | exact HB.out | apply below_alloc | apply pw_below_drewN | apply below_drew1 | refine below_set ?_ GE227.out) | exact HB.out)⟩⟩
                  · rw [if_neg c13] at H
                    have c13b0 : decide (((rd_T39 l1 x8_1).f1) < 1) = false := decide_eq_false c13
                    clear c13
                    (first | rw [c13b0] | (simp only [i64_w, i32_w]; rw [c13b0]) | skip)
                    have H' := Aside0.mk H
                    clear H
                    have hcz15_0 : wc.cell? ⟨gb227, 0, none⟩ = some (.int .i64 ((rd_T39 l1 x8_1).f0)) := (blk_cell BK227.out 0).trans rfl
                    have hcz15_1 : wc.cell? ⟨gb227, 1, none⟩ = some (.int .i64 ((rd_T39 l1 x8_1).f1)) := (blk_cell BK227.out 1).trans rfl
                    have hcz15_2 : wc.cell? ⟨gb227, 2, none⟩ = some (.int .i64 ((rd_T39 l1 x8_1).f2.f0.f0)) := (blk_cell BK227.out 2).trans rfl
                    have hcz15_3 : wc.cell? ⟨gb227, 3, none⟩ = some (.int .i64 ((rd_T39 l1 x8_1).f2.f0.f1)) := (blk_cell BK227.out 3).trans rfl
                    have hcz15_4 : wc.cell? ⟨gb227, 4, none⟩ = some (.int .i64 ((rd_T39 l1 x8_1).f2.f1)) := (blk_cell BK227.out 4).trans rfl
                    have hcz15_5 : wc.cell? ⟨gb227, 5, none⟩ = some (.bool ((rd_T39 l1 x8_1).f2.f2)) := (blk_cell BK227.out 5).trans rfl
                    have hcz15_6 : wc.cell? ⟨gb227, 6, none⟩ = some (.string ((rd_T39 l1 x8_1).f2.f3)) := (blk_cell BK227.out 6).trans rfl
                    have hfz15_0 := blk_frozen BK227.out 0
                    have hfz15_1 := blk_frozen BK227.out 1
                    have hfz15_2 := blk_frozen BK227.out 2
                    have hfz15_3 := blk_frozen BK227.out 3
                    have hfz15_4 := blk_frozen BK227.out 4
                    have hfz15_5 := blk_frozen BK227.out 5
                    have hfz15_6 := blk_frozen BK227.out 6
                    go_wp2
                    repeat (go_quiet (fail); try go_wp2)
                    go_meet
                    case rel => exact ⟨_, (decide (((rd_T39 l1 x8_1).f1) > (wrap64 ((l0.length : Int) - x7_1)))), (by first | rfl | (simp; done) | (simp [*]; done)), H', ⟨by have := HK1.out; have := HJ6.out; first | omega | exact Nat.le_refl _⟩, ⟨by (with_reducible repeat (first | apply Kd.R_alloc | apply Kd.R_drewN | apply Kd.R_drew)); exact HO_6.out⟩, ⟨by (with_reducible repeat (first | refine blk_drewN ?_ _ | refine blk_drew ?_ | refine blk_alloc ?_ _)); exact BK227.out⟩, ⟨by repeat (first | (with_reducible first | exact HB.out | apply below_alloc | apply pw_below_drewN | apply below_drew1 | refine below_set ?_ GE227.out) | exact HB.out)⟩⟩
                case rest =>
                  clear HC12
                  try clear c1
                  try clear p2
                  try clear q2
                  try clear hx2
                  try clear c5
                  try clear c5b0
                  try clear c6
                  try clear c6b0
                  try clear p6
                  try clear c10
                  try clear c10b0
                  try clear c10b1
                  try clear c11
                  try clear c13
                  try clear c13b0
                  try clear c14
                  try clear hcz14_0
                  try clear hcz14_1
                  try clear hcz14_2
                  try clear hcz14_3
                  try clear hcz14_4
                  try clear hcz14_5
                  try clear hcz14_6
                  try clear hcz15_0
                  try clear hcz15_1
                  try clear hcz15_2
                  try clear hcz15_3
                  try clear hcz15_4
                  try clear hcz15_5
                  try clear hcz15_6
                  try clear hcz9_0
                  try clear hcz9_1
                  try clear hcz9_2
                  try clear hcz9_3
                  try clear hcz9_4
                  try clear hcz9_5
                  try clear hcz9_6
                  try clear hfz14_0
                  try clear hfz14_1
                  try clear hfz14_2
                  try clear hfz14_3
                  try clear hfz14_4
                  try clear hfz14_5
                  try clear hfz14_6
                  try clear hfz15_0
                  try clear hfz15_1
                  try clear hfz15_2
                  try clear hfz15_3
                  try clear hfz15_4
                  try clear hfz15_5
                  try clear hfz15_6
                  try clear hfz9_0
                  try clear hfz9_1
                  try clear hfz9_2
                  try clear hfz9_3
                  try clear hfz9_4
                  try clear hfz9_5
                  try clear hfz9_6
                  try clear hx226_0
                  try clear hx226_1
                  try clear hx226_2
                  try clear hx226_3
                  try clear hx226_4
                  try clear hx226_5
                  try clear hx226_6
                  try clear p2
                  try clear p226
                  try clear q2
                  try clear q226
                  obtain ⟨kq, x37_11, rfl, HA, HJ11, HO_6, BK227, HB⟩ := hcut
                  cases kq with
                  | zero => exact absurd HA.out (by simp [offshootref28_Patch.j2])
                  | succ kj11 =>
                    have H := HA.out
                    clear HA
                    simp only [offshootref28_Patch.j2] at H
                    by_cases c16 : x37_11 = true
                    · subst c16
                      have H1 : (some (([] : List (S36)), 10)) = some (r1, r2) := by rw [if_pos rfl] at H; exact H
                      clear H
                      have H := H1
                      clear H1
                      simp only [Option.some.injEq, Prod.mk.injEq] at H
                      obtain ⟨rfl, rfl⟩ := H
                      go_wp2
                      repeat (go_quiet (fail); try go_wp2)
                      go_ret2
                      exact ⟨_, by first | rfl | (simp [errW_none, errW_some] <;> rfl) | (simp [*, errW_none, errW_some] <;> rfl), by first | exact Kd.R_nil _ _ _ _ _ | exact Kd.N_nil _ _ _ _ _ | exact Kd.V_nil _ _ _ _ _ | exact Kd.Q_nil _ _ _ _ _ | exact Kd.S_nil _ _ _ _ _, by repeat (first | (with_reducible first | exact HB.out | apply below_alloc | apply pw_below_drewN | apply below_drew1 | refine below_set ?_ GE227.out) | exact HB.out)⟩
                    · replace c16 := Bool.eq_false_iff.mpr c16
                      subst c16
                      have H1 : (if ((rd_T39 l1 x8_1).f0) = 1 then (if 0 ≤ x7_1 then (if x7_1 ≤ (wrap64 (x7_1 + ((rd_T39 l1 x8_1).f1))) then (if (wrap64 (x7_1 + ((rd_T39 l1 x8_1).f1))) ≤ (l0.length : Int) then ((some ((l0.take ((wrap64 (x7_1 + ((rd_T39 l1 x8_1).f1))) : Int).toNat).drop (x7_1 : Int).toNat : List (S36))).bind fun y228 => (if x6_1.length + y228.length < 2932031007402 then (offshootref28_Patch.l0 kj11 l0 l1 (x6_1 ++ y228) (wrap64 (x7_1 + ((rd_T39 l1 x8_1).f1))) (wrap64 (x8_1 + 1))) else (none))) else (none)) else (none)) else (none)) else (offshootref28_Patch.l0 kj11 l0 l1 x6_1 (wrap64 (x7_1 + ((rd_T39 l1 x8_1).f1))) (wrap64 (x8_1 + 1)))) = some (r1, r2) := by rw [if_neg (show ¬ (false = true) by decide)] at H; exact H
                      clear H
                      have H := H1
                      clear H1
                      by_cases c17 : ((rd_T39 l1 x8_1).f0) = 1
                      · rw [if_pos c17] at H
                        have c17b0 : (((rd_T39 l1 x8_1).f0) == 1) = true := beq_iff_eq.mpr c17
                        have c17b1 : (((rd_T39 l1 x8_1).f0) != 1) = false := bne_eq_false_iff_eq.mpr c17
                        clear c17
                        by_cases c18 : 0 ≤ x7_1
                        · rw [if_pos c18] at H
                          have c18b0 := eq_true c18
                          have c18b1 : decide (0 ≤ x7_1) = true := decide_eq_true c18
                          clear c18
                          by_cases c19 : x7_1 ≤ (wrap64 (x7_1 + ((rd_T39 l1 x8_1).f1)))
                          · rw [if_pos c19] at H
                            have c19b0 := eq_true c19
                            have c19b1 : decide (x7_1 ≤ (wrap64 (x7_1 + ((rd_T39 l1 x8_1).f1)))) = true := decide_eq_true c19
                            by_cases c20 : (wrap64 (x7_1 + ((rd_T39 l1 x8_1).f1))) ≤ (l0.length : Int)
                            · rw [if_pos c20] at H
                              have c20b0 := eq_true c20
                              have c20b1 : decide ((wrap64 (x7_1 + ((rd_T39 l1 x8_1).f1))) ≤ (l0.length : Int)) = true := decide_eq_true c20
                              obtain ⟨y228, hy228⟩ : ∃ y_ : List (S36), y_ = ((l0.take ((wrap64 (x7_1 + ((rd_T39 l1 x8_1).f1))) : Int).toNat).drop (x7_1 : Int).toNat) := ⟨_, rfl⟩
                              replace H : (if x6_1.length + y228.length < 2932031007402 then (offshootref28_Patch.l0 kj11 l0 l1 (x6_1 ++ y228) (wrap64 (x7_1 + ((rd_T39 l1 x8_1).f1))) (wrap64 (x8_1 + 1))) else (none)) = some (r1, r2) := by first | (rw [hy228]; with_reducible exact H) | (have H2_ := (Option.bind_some _ _).symm.trans H; rw [hy228]; with_reducible exact H2_) | (have H2_ := (Option.bind_some _ _).symm.trans H; with_reducible exact H2_) | with_reducible exact H | (rw [hy228]; exact H) | exact H
                              have Ny228 := Aside0.mk hy228
                              clear hy228
                              by_cases c21 : x6_1.length + y228.length < 2932031007402
                              · rw [if_pos c21] at H
                                have LMc21 := Aside0.mk c21
                                clear c21
                                obtain ⟨y232, hy232⟩ : ∃ y_ : List (S36), y_ = (x6_1 ++ y228) := ⟨_, rfl⟩
                                replace H : (offshootref28_Patch.l0 kj11 l0 l1 y232 (wrap64 (x7_1 + ((rd_T39 l1 x8_1).f1))) (wrap64 (x8_1 + 1))) = some (r1, r2) := by first | (rw [hy232]; with_reducible exact H) | (have H2_ := (Option.bind_some _ _).symm.trans H; rw [hy232]; with_reducible exact H2_) | (have H2_ := (Option.bind_some _ _).symm.trans H; with_reducible exact H2_) | with_reducible exact H | (rw [hy232]; exact H) | exact H
                                have Ny232 := Aside0.mk hy232
                                clear hy232
                                have H' := Aside0.mk H
                                clear H
                                have hcz22_0 : wc.cell? ⟨gb227, 0, none⟩ = some (.int .i64 ((rd_T39 l1 x8_1).f0)) := (blk_cell BK227.out 0).trans rfl
                                have hcz22_1 : wc.cell? ⟨gb227, 1, none⟩ = some (.int .i64 ((rd_T39 l1 x8_1).f1)) := (blk_cell BK227.out 1).trans rfl
                                have hcz22_2 : wc.cell? ⟨gb227, 2, none⟩ = some (.int .i64 ((rd_T39 l1 x8_1).f2.f0.f0)) := (blk_cell BK227.out 2).trans rfl
                                have hcz22_3 : wc.cell? ⟨gb227, 3, none⟩ = some (.int .i64 ((rd_T39 l1 x8_1).f2.f0.f1)) := (blk_cell BK227.out 3).trans rfl
                                have hcz22_4 : wc.cell? ⟨gb227, 4, none⟩ = some (.int .i64 ((rd_T39 l1 x8_1).f2.f1)) := (blk_cell BK227.out 4).trans rfl
                                have hcz22_5 : wc.cell? ⟨gb227, 5, none⟩ = some (.bool ((rd_T39 l1 x8_1).f2.f2)) := (blk_cell BK227.out 5).trans rfl
                                have hcz22_6 : wc.cell? ⟨gb227, 6, none⟩ = some (.string ((rd_T39 l1 x8_1).f2.f3)) := (blk_cell BK227.out 6).trans rfl
                                have hfz22_0 := blk_frozen BK227.out 0
                                have hfz22_1 := blk_frozen BK227.out 1
                                have hfz22_2 := blk_frozen BK227.out 2
                                have hfz22_3 := blk_frozen BK227.out 3
                                have hfz22_4 := blk_frozen BK227.out 4
                                have hfz22_5 := blk_frozen BK227.out 5
                                have hfz22_6 := blk_frozen BK227.out 6
                                have q23 : ((wrap64 (x7_1 + ((rd_T39 l1 x8_1).f1))) : Int) ≤ ((l0.length : Int) : Int) := of_decide_eq_true (by first | (with_reducible assumption) | assumption)
                                obtain ⟨i023, hi023, _, hsz23, _⟩ := info_parts info36
                                have hroom23 : l0.length ≤ c0 := HC0.out
                                have hC23 : Kd.C k36 _ A0 l0.length l0 := HR0.out
                                have ql23 : (x7_1 : Int) ≤ ((wrap64 (x7_1 + ((rd_T39 l1 x8_1).f1))) : Int) := of_decide_eq_true (by first | (with_reducible assumption) | assumption)
                                have q023 : (0 : Int) ≤ (x7_1 : Int) := of_decide_eq_true (by first | (with_reducible assumption) | assumption)
                                have hcut23 := cut_mid (P := Try.prog) 22 36 .i64 .i64 Try.underlying22 hi023 5 hsz23 A0 l0.length c0 x7_1 (wrap64 (x7_1 + ((rd_T39 l1 x8_1).f1))) q023 ql23 q23 hroom23
                                have hr23 := Kd.C_mid (lo := (x7_1 : Int).toNat) (hi := ((wrap64 (x7_1 + ((rd_T39 l1 x8_1).f1))) : Int).toNat) (c := c0) hC23 (by omega) (by omega) hroom23
                                obtain ⟨A23, hA23⟩ : ∃ A1, A1 = (if c0 = (x7_1 : Int).toNat then A0 else (A0 : Option Addr).map (·.add ((x7_1 : Int).toNat * 5))) := ⟨_, rfl⟩
                                obtain ⟨c23, hc23⟩ : ∃ c1, c1 = c0 - (x7_1 : Int).toNat := ⟨_, rfl⟩
                                have hy23 : y228.length = ((wrap64 (x7_1 + ((rd_T39 l1 x8_1).f1))) : Int).toNat - (x7_1 : Int).toNat := (by rw [Ny228.out, List.length_drop, List.length_take] <;> omega)
                                rw [show ((l0).take ((wrap64 (x7_1 + ((rd_T39 l1 x8_1).f1))) : Int).toNat).drop (x7_1 : Int).toNat = y228 from Ny228.out.symm] at hr23
                                replace hr23 : Kd.C k36 _ A23 y228.length y228 := (by rw [hA23]; exact hr23)
                                rw [← hy23, ← hA23, ← hc23] at hcut23
                                have HR231 := Aside0.mk hr23
                                have HC231 := Aside0.mk (show y228.length ≤ c23 from by rw [hy23, hc23]; exact Nat.sub_le_sub_right (Nat.le_trans (by omega) hroom23) _)
                                clear hr23 hC23 hroom23 hi023 hsz23 hc23
                                have KY23 := Aside0.mk hy23
                                have KA23 := Aside0.mk hA23
                                clear hy23 hA23
                                replace q23 := eq_true q23
                                go_wp2_with (first | ((with_reducible refine gate_builtin (b := .append) (xs := #[.tmp 41, .tmp 48]) rfl ?_); (try (refine gate_guard (by rfl) ?_; dsimp only)); at_builtin; refine Kd.R_append_rows k36 (w0 := w) w.heap.size rfl (.tmp 41) (.tmp 48) 22 36 (.agg #[(.int .i64 0), (.int .i64 0), (.int .i64 0), (.bool false), (.string ⟨#[]⟩)]) 48 rfl Try.underlying22 info36 rfl (by decide) (by omega) u6 x6_1 y228 _ _ _ (fun _ => True) (fun _ => False) rfl rfl ?aO ?aR (fun _ _ h => h) (fun _ h => h.elim) ?aF ?aB ?aS ?aL ?_; (case aR => repeat (first | exact (Kd.C_below HR231.out HB.out) | (with_reducible refine Kd.C_alloc ?_ _) | (with_reducible refine Kd.C_drewN ?_ _) | (with_reducible refine Kd.C_drew ?_))); (case aB => exact (by repeat (first | (with_reducible first | exact HB.out | apply below_alloc | apply pw_below_drewN | apply below_drew1 | refine below_set ?_ GE227.out) | exact HB.out))); (case aF => exact (fun _ _ => trivial)); (case aO => exact (by (with_reducible repeat (first | apply Kd.R_alloc | apply Kd.R_drewN | apply Kd.R_drew)); exact HO_6.out)); (case aS => exact (below_size (by repeat (first | (with_reducible first | exact HB.out | apply below_alloc | apply pw_below_drewN | apply below_drew1 | refine below_set ?_ GE227.out) | exact HB.out)))); (case aL => have := LMc21.out; omega); intro v233 w24 ho hb hg hat; rw [← Ny232.out] at ho; have n0_ := Aside0.mk (blk_grown (g := gb227) (o := .cells #[.int .i64 ((rd_T39 l1 x8_1).f0), .int .i64 ((rd_T39 l1 x8_1).f1), .int .i64 ((rd_T39 l1 x8_1).f2.f0.f0), .int .i64 ((rd_T39 l1 x8_1).f2.f0.f1), .int .i64 ((rd_T39 l1 x8_1).f2.f1), .bool ((rd_T39 l1 x8_1).f2.f2), .string ((rd_T39 l1 x8_1).f2.f3)] 39 (0, 0)) (by (with_reducible repeat (first | refine blk_drewN ?_ _ | refine blk_drew ?_ | refine blk_alloc ?_ _)); exact BK227.out) hg (Kd.R_ne HO_6.out BK227.out (by decide))); have n1_ := Aside0.mk (hb); have n2_ := Aside0.mk (ho); clear BK227; clear HB; clear HO_6; have BK227 := n0_; have HB := n1_; have HO234 := n2_; clear n0_ n1_ n2_; clear ho hb hg hat; have hcz25_0 : w24.cell? ⟨gb227, 0, none⟩ = some (.int .i64 ((rd_T39 l1 x8_1).f0)) := (blk_cell BK227.out 0).trans rfl; have hcz25_1 : w24.cell? ⟨gb227, 1, none⟩ = some (.int .i64 ((rd_T39 l1 x8_1).f1)) := (blk_cell BK227.out 1).trans rfl; have hcz25_2 : w24.cell? ⟨gb227, 2, none⟩ = some (.int .i64 ((rd_T39 l1 x8_1).f2.f0.f0)) := (blk_cell BK227.out 2).trans rfl; have hcz25_3 : w24.cell? ⟨gb227, 3, none⟩ = some (.int .i64 ((rd_T39 l1 x8_1).f2.f0.f1)) := (blk_cell BK227.out 3).trans rfl; have hcz25_4 : w24.cell? ⟨gb227, 4, none⟩ = some (.int .i64 ((rd_T39 l1 x8_1).f2.f1)) := (blk_cell BK227.out 4).trans rfl; have hcz25_5 : w24.cell? ⟨gb227, 5, none⟩ = some (.bool ((rd_T39 l1 x8_1).f2.f2)) := (blk_cell BK227.out 5).trans rfl; have hcz25_6 : w24.cell? ⟨gb227, 6, none⟩ = some (.string ((rd_T39 l1 x8_1).f2.f3)) := (blk_cell BK227.out 6).trans rfl; have hfz25_0 := blk_frozen BK227.out 0; have hfz25_1 := blk_frozen BK227.out 1; have hfz25_2 := blk_frozen BK227.out 2; have hfz25_3 := blk_frozen BK227.out 3; have hfz25_4 := blk_frozen BK227.out 4; have hfz25_5 := blk_frozen BK227.out 5; have hfz25_6 := blk_frozen BK227.out 6))
                                repeat (go_quiet (first | ((with_reducible refine gate_builtin (b := .append) (xs := #[.tmp 41, .tmp 48]) rfl ?_); (try (refine gate_guard (by rfl) ?_; dsimp only)); at_builtin; refine Kd.R_append_rows k36 (w0 := w) w.heap.size rfl (.tmp 41) (.tmp 48) 22 36 (.agg #[(.int .i64 0), (.int .i64 0), (.int .i64 0), (.bool false), (.string ⟨#[]⟩)]) 48 rfl Try.underlying22 info36 rfl (by decide) (by omega) u6 x6_1 y228 _ _ _ (fun _ => True) (fun _ => False) rfl rfl ?aO ?aR (fun _ _ h => h) (fun _ h => h.elim) ?aF ?aB ?aS ?aL ?_; (case aR => repeat (first | exact (Kd.C_below HR231.out HB.out) | (with_reducible refine Kd.C_alloc ?_ _) | (with_reducible refine Kd.C_drewN ?_ _) | (with_reducible refine Kd.C_drew ?_))); (case aB => exact (by repeat (first | (with_reducible first | exact HB.out | apply below_alloc | apply pw_below_drewN | apply below_drew1 | refine below_set ?_ GE227.out) | exact HB.out))); (case aF => exact (fun _ _ => trivial)); (case aO => exact (by (with_reducible repeat (first | apply Kd.R_alloc | apply Kd.R_drewN | apply Kd.R_drew)); exact HO_6.out)); (case aS => exact (below_size (by repeat (first | (with_reducible first | exact HB.out | apply below_alloc | apply pw_below_drewN | apply below_drew1 | refine below_set ?_ GE227.out) | exact HB.out)))); (case aL => have := LMc21.out; omega); intro v233 w24 ho hb hg hat; rw [← Ny232.out] at ho; have n0_ := Aside0.mk (blk_grown (g := gb227) (o := .cells #[.int .i64 ((rd_T39 l1 x8_1).f0), .int .i64 ((rd_T39 l1 x8_1).f1), .int .i64 ((rd_T39 l1 x8_1).f2.f0.f0), .int .i64 ((rd_T39 l1 x8_1).f2.f0.f1), .int .i64 ((rd_T39 l1 x8_1).f2.f1), .bool ((rd_T39 l1 x8_1).f2.f2), .string ((rd_T39 l1 x8_1).f2.f3)] 39 (0, 0)) (by (with_reducible repeat (first | refine blk_drewN ?_ _ | refine blk_drew ?_ | refine blk_alloc ?_ _)); exact BK227.out) hg (Kd.R_ne HO_6.out BK227.out (by decide))); have n1_ := Aside0.mk (hb); have n2_ := Aside0.mk (ho); clear BK227; clear HB; clear HO_6; have BK227 := n0_; have HB := n1_; have HO234 := n2_; clear n0_ n1_ n2_; clear ho hb hg hat; have hcz25_0 : w24.cell? ⟨gb227, 0, none⟩ = some (.int .i64 ((rd_T39 l1 x8_1).f0)) := (blk_cell BK227.out 0).trans rfl; have hcz25_1 : w24.cell? ⟨gb227, 1, none⟩ = some (.int .i64 ((rd_T39 l1 x8_1).f1)) := (blk_cell BK227.out 1).trans rfl; have hcz25_2 : w24.cell? ⟨gb227, 2, none⟩ = some (.int .i64 ((rd_T39 l1 x8_1).f2.f0.f0)) := (blk_cell BK227.out 2).trans rfl; have hcz25_3 : w24.cell? ⟨gb227, 3, none⟩ = some (.int .i64 ((rd_T39 l1 x8_1).f2.f0.f1)) := (blk_cell BK227.out 3).trans rfl; have hcz25_4 : w24.cell? ⟨gb227, 4, none⟩ = some (.int .i64 ((rd_T39 l1 x8_1).f2.f1)) := (blk_cell BK227.out 4).trans rfl; have hcz25_5 : w24.cell? ⟨gb227, 5, none⟩ = some (.bool ((rd_T39 l1 x8_1).f2.f2)) := (blk_cell BK227.out 5).trans rfl; have hcz25_6 : w24.cell? ⟨gb227, 6, none⟩ = some (.string ((rd_T39 l1 x8_1).f2.f3)) := (blk_cell BK227.out 6).trans rfl; have hfz25_0 := blk_frozen BK227.out 0; have hfz25_1 := blk_frozen BK227.out 1; have hfz25_2 := blk_frozen BK227.out 2; have hfz25_3 := blk_frozen BK227.out 3; have hfz25_4 := blk_frozen BK227.out 4; have hfz25_5 := blk_frozen BK227.out 5; have hfz25_6 := blk_frozen BK227.out 6)); try go_wp2_with (first | ((with_reducible refine gate_builtin (b := .append) (xs := #[.tmp 41, .tmp 48]) rfl ?_); (try (refine gate_guard (by rfl) ?_; dsimp only)); at_builtin; refine Kd.R_append_rows k36 (w0 := w) w.heap.size rfl (.tmp 41) (.tmp 48) 22 36 (.agg #[(.int .i64 0), (.int .i64 0), (.int .i64 0), (.bool false), (.string ⟨#[]⟩)]) 48 rfl Try.underlying22 info36 rfl (by decide) (by omega) u6 x6_1 y228 _ _ _ (fun _ => True) (fun _ => False) rfl rfl ?aO ?aR (fun _ _ h => h) (fun _ h => h.elim) ?aF ?aB ?aS ?aL ?_; (case aR => repeat (first | exact (Kd.C_below HR231.out HB.out) | (with_reducible refine Kd.C_alloc ?_ _) | (with_reducible refine Kd.C_drewN ?_ _) | (with_reducible refine Kd.C_drew ?_))); (case aB => exact (by repeat (first | (with_reducible first | exact HB.out | apply below_alloc | apply pw_below_drewN | apply below_drew1 | refine below_set ?_ GE227.out) | exact HB.out))); (case aF => exact (fun _ _ => trivial)); (case aO => exact (by (with_reducible repeat (first | apply Kd.R_alloc | apply Kd.R_drewN | apply Kd.R_drew)); exact HO_6.out)); (case aS => exact (below_size (by repeat (first | (with_reducible first | exact HB.out | apply below_alloc | apply pw_below_drewN | apply below_drew1 | refine below_set ?_ GE227.out) | exact HB.out)))); (case aL => have := LMc21.out; omega); intro v233 w24 ho hb hg hat; rw [← Ny232.out] at ho; have n0_ := Aside0.mk (blk_grown (g := gb227) (o := .cells #[.int .i64 ((rd_T39 l1 x8_1).f0), .int .i64 ((rd_T39 l1 x8_1).f1), .int .i64 ((rd_T39 l1 x8_1).f2.f0.f0), .int .i64 ((rd_T39 l1 x8_1).f2.f0.f1), .int .i64 ((rd_T39 l1 x8_1).f2.f1), .bool ((rd_T39 l1 x8_1).f2.f2), .string ((rd_T39 l1 x8_1).f2.f3)] 39 (0, 0)) (by (with_reducible repeat (first | refine blk_drewN ?_ _ | refine blk_drew ?_ | refine blk_alloc ?_ _)); exact BK227.out) hg (Kd.R_ne HO_6.out BK227.out (by decide))); have n1_ := Aside0.mk (hb); have n2_ := Aside0.mk (ho); clear BK227; clear HB; clear HO_6; have BK227 := n0_; have HB := n1_; have HO234 := n2_; clear n0_ n1_ n2_; clear ho hb hg hat; have hcz25_0 : w24.cell? ⟨gb227, 0, none⟩ = some (.int .i64 ((rd_T39 l1 x8_1).f0)) := (blk_cell BK227.out 0).trans rfl; have hcz25_1 : w24.cell? ⟨gb227, 1, none⟩ = some (.int .i64 ((rd_T39 l1 x8_1).f1)) := (blk_cell BK227.out 1).trans rfl; have hcz25_2 : w24.cell? ⟨gb227, 2, none⟩ = some (.int .i64 ((rd_T39 l1 x8_1).f2.f0.f0)) := (blk_cell BK227.out 2).trans rfl; have hcz25_3 : w24.cell? ⟨gb227, 3, none⟩ = some (.int .i64 ((rd_T39 l1 x8_1).f2.f0.f1)) := (blk_cell BK227.out 3).trans rfl; have hcz25_4 : w24.cell? ⟨gb227, 4, none⟩ = some (.int .i64 ((rd_T39 l1 x8_1).f2.f1)) := (blk_cell BK227.out 4).trans rfl; have hcz25_5 : w24.cell? ⟨gb227, 5, none⟩ = some (.bool ((rd_T39 l1 x8_1).f2.f2)) := (blk_cell BK227.out 5).trans rfl; have hcz25_6 : w24.cell? ⟨gb227, 6, none⟩ = some (.string ((rd_T39 l1 x8_1).f2.f3)) := (blk_cell BK227.out 6).trans rfl; have hfz25_0 := blk_frozen BK227.out 0; have hfz25_1 := blk_frozen BK227.out 1; have hfz25_2 := blk_frozen BK227.out 2; have hfz25_3 := blk_frozen BK227.out 3; have hfz25_4 := blk_frozen BK227.out 4; have hfz25_5 := blk_frozen BK227.out 5; have hfz25_6 := blk_frozen BK227.out 6)))
                                go_roundg kj11
                                case measure => have := HK1.out; have := HJ6.out; have := HJ11.out; omega
                                case rel => exact ⟨(y232), (wrap64 (x7_1 + ((rd_T39 l1 x8_1).f1))), (wrap64 (x8_1 + 1)), (by first | rfl | (simp; done) | (simp [*]; done)), (by first | rfl | (simp; done) | (simp [*]; done)), H', ⟨by have := HK1.out; have := HJ6.out; have := HJ11.out; omega⟩, ⟨by (with_reducible repeat (first | apply Kd.R_alloc | apply Kd.R_drewN | apply Kd.R_drew)); exact HO234.out⟩, ⟨by repeat (first | (with_reducible first | exact HB.out | apply below_alloc | apply pw_below_drewN | apply below_drew1 | refine below_set ?_ GE227.out) | exact HB.out)⟩⟩
                              · rw [if_neg c21] at H
                                exact absurd H (by simp)
                            · rw [if_neg c20] at H
                              exact absurd H (by simp)
                          · rw [if_neg c19] at H
                            exact absurd H (by simp)
                        · rw [if_neg c18] at H
                          exact absurd H (by simp)
                      · rw [if_neg c17] at H
                        have c17b0 : (((rd_T39 l1 x8_1).f0) == 1) = false := beq_eq_false_iff_ne.mpr c17
                        have c17b1 : (((rd_T39 l1 x8_1).f0) != 1) = true := bne_iff_ne.mpr c17
                        have H' := Aside0.mk H
                        clear H
                        have hcz26_0 : wc.cell? ⟨gb227, 0, none⟩ = some (.int .i64 ((rd_T39 l1 x8_1).f0)) := (blk_cell BK227.out 0).trans rfl
                        have hcz26_1 : wc.cell? ⟨gb227, 1, none⟩ = some (.int .i64 ((rd_T39 l1 x8_1).f1)) := (blk_cell BK227.out 1).trans rfl
                        have hcz26_2 : wc.cell? ⟨gb227, 2, none⟩ = some (.int .i64 ((rd_T39 l1 x8_1).f2.f0.f0)) := (blk_cell BK227.out 2).trans rfl
                        have hcz26_3 : wc.cell? ⟨gb227, 3, none⟩ = some (.int .i64 ((rd_T39 l1 x8_1).f2.f0.f1)) := (blk_cell BK227.out 3).trans rfl
                        have hcz26_4 : wc.cell? ⟨gb227, 4, none⟩ = some (.int .i64 ((rd_T39 l1 x8_1).f2.f1)) := (blk_cell BK227.out 4).trans rfl
                        have hcz26_5 : wc.cell? ⟨gb227, 5, none⟩ = some (.bool ((rd_T39 l1 x8_1).f2.f2)) := (blk_cell BK227.out 5).trans rfl
                        have hcz26_6 : wc.cell? ⟨gb227, 6, none⟩ = some (.string ((rd_T39 l1 x8_1).f2.f3)) := (blk_cell BK227.out 6).trans rfl
                        have hfz26_0 := blk_frozen BK227.out 0
                        have hfz26_1 := blk_frozen BK227.out 1
                        have hfz26_2 := blk_frozen BK227.out 2
                        have hfz26_3 := blk_frozen BK227.out 3
                        have hfz26_4 := blk_frozen BK227.out 4
                        have hfz26_5 := blk_frozen BK227.out 5
                        have hfz26_6 := blk_frozen BK227.out 6
                        go_wp2
                        repeat (go_quiet (fail); try go_wp2)
                        go_roundg kj11
                        case measure => have := HK1.out; have := HJ6.out; have := HJ11.out; omega
                        case rel => exact ⟨(x6_1), (wrap64 (x7_1 + ((rd_T39 l1 x8_1).f1))), (wrap64 (x8_1 + 1)), (by first | rfl | (simp; done) | (simp [*]; done)), (by first | rfl | (simp; done) | (simp [*]; done)), H', ⟨by have := HK1.out; have := HJ6.out; have := HJ11.out; omega⟩, ⟨by (with_reducible repeat (first | apply Kd.R_alloc | apply Kd.R_drewN | apply Kd.R_drew)); exact HO_6.out⟩, ⟨by repeat (first | (with_reducible first | exact HB.out | apply below_alloc | apply pw_below_drewN | apply below_drew1 | refine below_set ?_ GE227.out) | exact HB.out)⟩⟩
              · replace c11 := Bool.eq_false_iff.mpr c11
                subst c11
                have H1 : (if ((rd_T39 l1 x8_1).f0) = 3 then (if x6_1.length < 2932031007402 then (offshootref28_Patch.l0 kj6 l0 l1 (x6_1 ++ [(⟨(⟨((rd_T39 l1 x8_1).f2.f0.f0), ((rd_T39 l1 x8_1).f2.f0.f1)⟩ : S34), ((rd_T39 l1 x8_1).f2.f1), ((rd_T39 l1 x8_1).f2.f2), ((rd_T39 l1 x8_1).f2.f3)⟩ : S36)]) x7_1 (wrap64 (x8_1 + 1))) else (none)) else (if ((rd_T39 l1 x8_1).f0) = 4 then (if x7_1 ≥ (l0.length : Int) then (some (([] : List (S36)), 10)) else (if 0 ≤ x7_1 then (if x7_1 < (l0.length : Int) then (if (!(((rd_T36 l0 x7_1).f0.f0) == ((rd_T39 l1 x8_1).f2.f0.f0)) || (!(((rd_T36 l0 x7_1).f0.f1) == ((rd_T39 l1 x8_1).f2.f0.f1)))) = true then (some (([] : List (S36)), 10)) else (if x6_1.length < 2932031007402 then (offshootref28_Patch.l0 kj6 l0 l1 (x6_1 ++ [(⟨(⟨((rd_T39 l1 x8_1).f2.f0.f0), ((rd_T39 l1 x8_1).f2.f0.f1)⟩ : S34), ((rd_T39 l1 x8_1).f2.f1), ((rd_T39 l1 x8_1).f2.f2), ((rd_T39 l1 x8_1).f2.f3)⟩ : S36)]) (wrap64 (x7_1 + 1)) (wrap64 (x8_1 + 1))) else (none))) else (none)) else (none))) else (some (([] : List (S36)), 10)))) = some (r1, r2) := by rw [if_neg (show ¬ (false = true) by decide)] at H; exact H
                clear H
                have H := H1
                clear H1
                by_cases c27 : ((rd_T39 l1 x8_1).f0) = 3
                · rw [if_pos c27] at H
                  have c27b0 : (((rd_T39 l1 x8_1).f0) == 3) = true := beq_iff_eq.mpr c27
                  have c27b1 : (((rd_T39 l1 x8_1).f0) != 3) = false := bne_eq_false_iff_eq.mpr c27
                  clear c27
                  by_cases c28 : x6_1.length < 2932031007402
                  · rw [if_pos c28] at H
                    have LMc28 := Aside0.mk c28
                    clear c28
                    obtain ⟨y235, hy235⟩ : ∃ y_ : List (S36), y_ = (x6_1 ++ [(⟨(⟨((rd_T39 l1 x8_1).f2.f0.f0), ((rd_T39 l1 x8_1).f2.f0.f1)⟩ : S34), ((rd_T39 l1 x8_1).f2.f1), ((rd_T39 l1 x8_1).f2.f2), ((rd_T39 l1 x8_1).f2.f3)⟩ : S36)]) := ⟨_, rfl⟩
                    replace H : (offshootref28_Patch.l0 kj6 l0 l1 y235 x7_1 (wrap64 (x8_1 + 1))) = some (r1, r2) := by first | (rw [hy235]; with_reducible exact H) | (have H2_ := (Option.bind_some _ _).symm.trans H; rw [hy235]; with_reducible exact H2_) | (have H2_ := (Option.bind_some _ _).symm.trans H; with_reducible exact H2_) | with_reducible exact H | (rw [hy235]; exact H) | exact H
                    have Ny235 := Aside0.mk hy235
                    clear hy235
                    have H' := Aside0.mk H
                    clear H
                    have hcz29_0 : wc.cell? ⟨gb227, 0, none⟩ = some (.int .i64 ((rd_T39 l1 x8_1).f0)) := (blk_cell BK227.out 0).trans rfl
                    have hcz29_1 : wc.cell? ⟨gb227, 1, none⟩ = some (.int .i64 ((rd_T39 l1 x8_1).f1)) := (blk_cell BK227.out 1).trans rfl
                    have hcz29_2 : wc.cell? ⟨gb227, 2, none⟩ = some (.int .i64 ((rd_T39 l1 x8_1).f2.f0.f0)) := (blk_cell BK227.out 2).trans rfl
                    have hcz29_3 : wc.cell? ⟨gb227, 3, none⟩ = some (.int .i64 ((rd_T39 l1 x8_1).f2.f0.f1)) := (blk_cell BK227.out 3).trans rfl
                    have hcz29_4 : wc.cell? ⟨gb227, 4, none⟩ = some (.int .i64 ((rd_T39 l1 x8_1).f2.f1)) := (blk_cell BK227.out 4).trans rfl
                    have hcz29_5 : wc.cell? ⟨gb227, 5, none⟩ = some (.bool ((rd_T39 l1 x8_1).f2.f2)) := (blk_cell BK227.out 5).trans rfl
                    have hcz29_6 : wc.cell? ⟨gb227, 6, none⟩ = some (.string ((rd_T39 l1 x8_1).f2.f3)) := (blk_cell BK227.out 6).trans rfl
                    have hfz29_0 := blk_frozen BK227.out 0
                    have hfz29_1 := blk_frozen BK227.out 1
                    have hfz29_2 := blk_frozen BK227.out 2
                    have hfz29_3 := blk_frozen BK227.out 3
                    have hfz29_4 := blk_frozen BK227.out 4
                    have hfz29_5 := blk_frozen BK227.out 5
                    have hfz29_6 := blk_frozen BK227.out 6
                    go_wp2_with (first | ((with_reducible refine gate_builtin (b := .append) (xs := #[.tmp 56, .tmp 59]) rfl ?_); (try (refine gate_guard (by rfl) ?_; dsimp only)); at_builtin; refine Kd.R_append k36 (w0 := w) w.heap.size rfl (.tmp 56) (.tmp 59) 22 36 (.agg #[(.int .i64 0), (.int .i64 0), (.int .i64 0), (.bool false), (.string ⟨#[]⟩)]) 48 rfl Try.underlying22 info36 rfl (by decide) (by omega) u6 x6_1 (⟨(⟨((rd_T39 l1 x8_1).f2.f0.f0), ((rd_T39 l1 x8_1).f2.f0.f1)⟩ : S34), ((rd_T39 l1 x8_1).f2.f1), ((rd_T39 l1 x8_1).f2.f2), ((rd_T39 l1 x8_1).f2.f3)⟩ : S36) [.int .i64 ((rd_T39 l1 x8_1).f2.f0.f0), .int .i64 ((rd_T39 l1 x8_1).f2.f0.f1), .int .i64 ((rd_T39 l1 x8_1).f2.f1), .bool ((rd_T39 l1 x8_1).f2.f2), .string ((rd_T39 l1 x8_1).f2.f3)] (fun _ => True) (fun _ => False) rfl rfl ?aP (fun _ hk => hk.elim) ?aF ?aO ?aB ?aS ?aL ?_; (case aP => exact k36_mkM _ _ _ (⟨(⟨((rd_T39 l1 x8_1).f2.f0.f0), ((rd_T39 l1 x8_1).f2.f0.f1)⟩ : S34), ((rd_T39 l1 x8_1).f2.f1), ((rd_T39 l1 x8_1).f2.f2), ((rd_T39 l1 x8_1).f2.f3)⟩ : S36)); (case aB => exact (by repeat (first | (with_reducible first | exact HB.out | apply below_alloc | apply pw_below_drewN | apply below_drew1 | refine below_set ?_ GE227.out) | exact HB.out))); (case aF => exact (fun _ _ => trivial)); (case aO => exact (by (with_reducible repeat (first | apply Kd.R_alloc | apply Kd.R_drewN | apply Kd.R_drew)); exact HO_6.out)); (case aS => exact (below_size (by repeat (first | (with_reducible first | exact HB.out | apply below_alloc | apply pw_below_drewN | apply below_drew1 | refine below_set ?_ GE227.out) | exact HB.out)))); (case aL => have := LMc28.out; omega); intro v236 w30 ho hb hg hat; rw [← Ny235.out] at ho; have n0_ := Aside0.mk (blk_grown (g := gb227) (o := .cells #[.int .i64 ((rd_T39 l1 x8_1).f0), .int .i64 ((rd_T39 l1 x8_1).f1), .int .i64 ((rd_T39 l1 x8_1).f2.f0.f0), .int .i64 ((rd_T39 l1 x8_1).f2.f0.f1), .int .i64 ((rd_T39 l1 x8_1).f2.f1), .bool ((rd_T39 l1 x8_1).f2.f2), .string ((rd_T39 l1 x8_1).f2.f3)] 39 (0, 0)) (by (with_reducible repeat (first | refine blk_drewN ?_ _ | refine blk_drew ?_ | refine blk_alloc ?_ _)); exact BK227.out) hg (Kd.R_ne HO_6.out BK227.out (by decide))); have n1_ := Aside0.mk (hb); have n2_ := Aside0.mk (ho); clear BK227; clear HB; clear HO_6; have BK227 := n0_; have HB := n1_; have HO237 := n2_; clear n0_ n1_ n2_; clear ho hb hg hat))
                    repeat (go_quiet (first | ((with_reducible refine gate_builtin (b := .append) (xs := #[.tmp 56, .tmp 59]) rfl ?_); (try (refine gate_guard (by rfl) ?_; dsimp only)); at_builtin; refine Kd.R_append k36 (w0 := w) w.heap.size rfl (.tmp 56) (.tmp 59) 22 36 (.agg #[(.int .i64 0), (.int .i64 0), (.int .i64 0), (.bool false), (.string ⟨#[]⟩)]) 48 rfl Try.underlying22 info36 rfl (by decide) (by omega) u6 x6_1 (⟨(⟨((rd_T39 l1 x8_1).f2.f0.f0), ((rd_T39 l1 x8_1).f2.f0.f1)⟩ : S34), ((rd_T39 l1 x8_1).f2.f1), ((rd_T39 l1 x8_1).f2.f2), ((rd_T39 l1 x8_1).f2.f3)⟩ : S36) [.int .i64 ((rd_T39 l1 x8_1).f2.f0.f0), .int .i64 ((rd_T39 l1 x8_1).f2.f0.f1), .int .i64 ((rd_T39 l1 x8_1).f2.f1), .bool ((rd_T39 l1 x8_1).f2.f2), .string ((rd_T39 l1 x8_1).f2.f3)] (fun _ => True) (fun _ => False) rfl rfl ?aP (fun _ hk => hk.elim) ?aF ?aO ?aB ?aS ?aL ?_; (case aP => exact k36_mkM _ _ _ (⟨(⟨((rd_T39 l1 x8_1).f2.f0.f0), ((rd_T39 l1 x8_1).f2.f0.f1)⟩ : S34), ((rd_T39 l1 x8_1).f2.f1), ((rd_T39 l1 x8_1).f2.f2), ((rd_T39 l1 x8_1).f2.f3)⟩ : S36)); (case aB => exact (by repeat (first | (with_reducible first | exact HB.out | apply below_alloc | apply pw_below_drewN | apply below_drew1 | refine below_set ?_ GE227.out) | exact HB.out))); (case aF => exact (fun _ _ => trivial)); (case aO => exact (by (with_reducible repeat (first | apply Kd.R_alloc | apply Kd.R_drewN | apply Kd.R_drew)); exact HO_6.out)); (case aS => exact (below_size (by repeat (first | (with_reducible first | exact HB.out | apply below_alloc | apply pw_below_drewN | apply below_drew1 | refine below_set ?_ GE227.out) | exact HB.out)))); (case aL => have := LMc28.out; omega); intro v236 w30 ho hb hg hat; rw [← Ny235.out] at ho; have n0_ := Aside0.mk (blk_grown (g := gb227) (o := .cells #[.int .i64 ((rd_T39 l1 x8_1).f0), .int .i64 ((rd_T39 l1 x8_1).f1), .int .i64 ((rd_T39 l1 x8_1).f2.f0.f0), .int .i64 ((rd_T39 l1 x8_1).f2.f0.f1), .int .i64 ((rd_T39 l1 x8_1).f2.f1), .bool ((rd_T39 l1 x8_1).f2.f2), .string ((rd_T39 l1 x8_1).f2.f3)] 39 (0, 0)) (by (with_reducible repeat (first | refine blk_drewN ?_ _ | refine blk_drew ?_ | refine blk_alloc ?_ _)); exact BK227.out) hg (Kd.R_ne HO_6.out BK227.out (by decide))); have n1_ := Aside0.mk (hb); have n2_ := Aside0.mk (ho); clear BK227; clear HB; clear HO_6; have BK227 := n0_; have HB := n1_; have HO237 := n2_; clear n0_ n1_ n2_; clear ho hb hg hat)); try go_wp2_with (first | ((with_reducible refine gate_builtin (b := .append) (xs := #[.tmp 56, .tmp 59]) rfl ?_); (try (refine gate_guard (by rfl) ?_; dsimp only)); at_builtin; refine Kd.R_append k36 (w0 := w) w.heap.size rfl (.tmp 56) (.tmp 59) 22 36 (.agg #[(.int .i64 0), (.int .i64 0), (.int .i64 0), (.bool false), (.string ⟨#[]⟩)]) 48 rfl Try.underlying22 info36 rfl (by decide) (by omega) u6 x6_1 (⟨(⟨((rd_T39 l1 x8_1).f2.f0.f0), ((rd_T39 l1 x8_1).f2.f0.f1)⟩ : S34), ((rd_T39 l1 x8_1).f2.f1), ((rd_T39 l1 x8_1).f2.f2), ((rd_T39 l1 x8_1).f2.f3)⟩ : S36) [.int .i64 ((rd_T39 l1 x8_1).f2.f0.f0), .int .i64 ((rd_T39 l1 x8_1).f2.f0.f1), .int .i64 ((rd_T39 l1 x8_1).f2.f1), .bool ((rd_T39 l1 x8_1).f2.f2), .string ((rd_T39 l1 x8_1).f2.f3)] (fun _ => True) (fun _ => False) rfl rfl ?aP (fun _ hk => hk.elim) ?aF ?aO ?aB ?aS ?aL ?_; (case aP => exact k36_mkM _ _ _ (⟨(⟨((rd_T39 l1 x8_1).f2.f0.f0), ((rd_T39 l1 x8_1).f2.f0.f1)⟩ : S34), ((rd_T39 l1 x8_1).f2.f1), ((rd_T39 l1 x8_1).f2.f2), ((rd_T39 l1 x8_1).f2.f3)⟩ : S36)); (case aB => exact (by repeat (first | (with_reducible first | exact HB.out | apply below_alloc | apply pw_below_drewN | apply below_drew1 | refine below_set ?_ GE227.out) | exact HB.out))); (case aF => exact (fun _ _ => trivial)); (case aO => exact (by (with_reducible repeat (first | apply Kd.R_alloc | apply Kd.R_drewN | apply Kd.R_drew)); exact HO_6.out)); (case aS => exact (below_size (by repeat (first | (with_reducible first | exact HB.out | apply below_alloc | apply pw_below_drewN | apply below_drew1 | refine below_set ?_ GE227.out) | exact HB.out)))); (case aL => have := LMc28.out; omega); intro v236 w30 ho hb hg hat; rw [← Ny235.out] at ho; have n0_ := Aside0.mk (blk_grown (g := gb227) (o := .cells #[.int .i64 ((rd_T39 l1 x8_1).f0), .int .i64 ((rd_T39 l1 x8_1).f1), .int .i64 ((rd_T39 l1 x8_1).f2.f0.f0), .int .i64 ((rd_T39 l1 x8_1).f2.f0.f1), .int .i64 ((rd_T39 l1 x8_1).f2.f1), .bool ((rd_T39 l1 x8_1).f2.f2), .string ((rd_T39 l1 x8_1).f2.f3)] 39 (0, 0)) (by (with_reducible repeat (first | refine blk_drewN ?_ _ | refine blk_drew ?_ | refine blk_alloc ?_ _)); exact BK227.out) hg (Kd.R_ne HO_6.out BK227.out (by decide))); have n1_ := Aside0.mk (hb); have n2_ := Aside0.mk (ho); clear BK227; clear HB; clear HO_6; have BK227 := n0_; have HB := n1_; have HO237 := n2_; clear n0_ n1_ n2_; clear ho hb hg hat)))
                    go_roundg kj6
                    case measure => have := HK1.out; have := HJ6.out; omega
                    case rel => exact ⟨(y235), (x7_1), (wrap64 (x8_1 + 1)), (by first | rfl | (simp; done) | (simp [*]; done)), (by first | rfl | (simp; done) | (simp [*]; done)), H', ⟨by have := HK1.out; have := HJ6.out; omega⟩, ⟨by (with_reducible repeat (first | apply Kd.R_alloc | apply Kd.R_drewN | apply Kd.R_drew)); exact HO237.out⟩, ⟨by repeat (first | (with_reducible first | exact HB.out | apply below_alloc | apply pw_below_drewN | apply below_drew1 | refine below_set ?_ GE227.out) | exact HB.out)⟩⟩
                  · rw [if_neg c28] at H
                    exact absurd H (by simp)
                · rw [if_neg c27] at H
                  have c27b0 : (((rd_T39 l1 x8_1).f0) == 3) = false := beq_eq_false_iff_ne.mpr c27
                  have c27b1 : (((rd_T39 l1 x8_1).f0) != 3) = true := bne_iff_ne.mpr c27
                  by_cases c31 : ((rd_T39 l1 x8_1).f0) = 4
                  · rw [if_pos c31] at H
                    have c31b0 : (((rd_T39 l1 x8_1).f0) == 4) = true := beq_iff_eq.mpr c31
                    have c31b1 : (((rd_T39 l1 x8_1).f0) != 4) = false := bne_eq_false_iff_eq.mpr c31
                    clear c31
                    by_cases c32 : x7_1 ≥ (l0.length : Int)
                    · rw [if_pos c32] at H
                      have c32b0 : decide ((l0.length : Int) ≤ x7_1) = true := decide_eq_true c32
                      clear c32
                      simp only [Option.some.injEq, Prod.mk.injEq] at H
                      obtain ⟨rfl, rfl⟩ := H
                      go_wp2
                      repeat (go_quiet (fail); try go_wp2)
                      go_ret2
                      exact ⟨_, by first | rfl | (simp [errW_none, errW_some] <;> rfl) | (simp [*, errW_none, errW_some] <;> rfl), by first | exact Kd.R_nil _ _ _ _ _ | exact Kd.N_nil _ _ _ _ _ | exact Kd.V_nil _ _ _ _ _ | exact Kd.Q_nil _ _ _ _ _ | exact Kd.S_nil _ _ _ _ _, by repeat (first | (with_reducible first | exact HB.out | apply below_alloc | apply pw_below_drewN | apply below_drew1 | refine below_set ?_ GE227.out) | exact HB.out)⟩
                    · rw [if_neg c32] at H
                      have c32b0 : decide ((l0.length : Int) ≤ x7_1) = false := decide_eq_false c32
                      clear c32
                      by_cases c33 : 0 ≤ x7_1
                      · rw [if_pos c33] at H
                        have c33b0 : decide (0 ≤ x7_1) = true := decide_eq_true c33
                        clear c33
                        by_cases c34 : x7_1 < (l0.length : Int)
                        · rw [if_pos c34] at H
                          have c34b0 : decide (x7_1 < (l0.length : Int)) = true := decide_eq_true c34
                          clear c34
                          by_cases c35 : (!(((rd_T36 l0 x7_1).f0.f0) == ((rd_T39 l1 x8_1).f2.f0.f0)) || (!(((rd_T36 l0 x7_1).f0.f1) == ((rd_T39 l1 x8_1).f2.f0.f1)))) = true
                          · rw [if_pos c35] at H
                            have c35b0 : (!(((rd_T36 l0 x7_1).f0.f0) == ((rd_T39 l1 x8_1).f2.f0.f0)) || (!(((rd_T36 l0 x7_1).f0.f1) == ((rd_T39 l1 x8_1).f2.f0.f1)))) = true := c35
                            clear c35
                            simp only [Option.some.injEq, Prod.mk.injEq] at H
                            obtain ⟨rfl, rfl⟩ := H
                            have p238 : 0 ≤ (x7_1 : Int) := of_decide_eq_true (by first | (with_reducible assumption) | assumption)
                            have q238 : x7_1 < (l0.length : Int) := of_decide_eq_true (by first | (with_reducible assumption) | assumption)
                            obtain ⟨ad238, e238, hx238_0, hx238_1, hx238_2, hx238_3, hx238_4⟩ := at_T36 HR0.out x7_1 p238 q238
                            cases e238
                            replace hx238_0 := (HB.out.cell (World.block_lt_of_cell? w _ hx238_0)).trans hx238_0
                            replace hx238_1 := (HB.out.cell (World.block_lt_of_cell? w _ hx238_1)).trans hx238_1
                            replace hx238_2 := (HB.out.cell (World.block_lt_of_cell? w _ hx238_2)).trans hx238_2
                            replace hx238_3 := (HB.out.cell (World.block_lt_of_cell? w _ hx238_3)).trans hx238_3
                            replace hx238_4 := (HB.out.cell (World.block_lt_of_cell? w _ hx238_4)).trans hx238_4
                            replace p238 := eq_true p238
                            replace q238 := eq_true q238
                            have hcz36_0 : wc.cell? ⟨gb227, 0, none⟩ = some (.int .i64 ((rd_T39 l1 x8_1).f0)) := (blk_cell BK227.out 0).trans rfl
                            have hcz36_1 : wc.cell? ⟨gb227, 1, none⟩ = some (.int .i64 ((rd_T39 l1 x8_1).f1)) := (blk_cell BK227.out 1).trans rfl
                            have hcz36_2 : wc.cell? ⟨gb227, 2, none⟩ = some (.int .i64 ((rd_T39 l1 x8_1).f2.f0.f0)) := (blk_cell BK227.out 2).trans rfl
                            have hcz36_3 : wc.cell? ⟨gb227, 3, none⟩ = some (.int .i64 ((rd_T39 l1 x8_1).f2.f0.f1)) := (blk_cell BK227.out 3).trans rfl
                            have hcz36_4 : wc.cell? ⟨gb227, 4, none⟩ = some (.int .i64 ((rd_T39 l1 x8_1).f2.f1)) := (blk_cell BK227.out 4).trans rfl
                            have hcz36_5 : wc.cell? ⟨gb227, 5, none⟩ = some (.bool ((rd_T39 l1 x8_1).f2.f2)) := (blk_cell BK227.out 5).trans rfl
                            have hcz36_6 : wc.cell? ⟨gb227, 6, none⟩ = some (.string ((rd_T39 l1 x8_1).f2.f3)) := (blk_cell BK227.out 6).trans rfl
                            have hfz36_0 := blk_frozen BK227.out 0
                            have hfz36_1 := blk_frozen BK227.out 1
                            have hfz36_2 := blk_frozen BK227.out 2
                            have hfz36_3 := blk_frozen BK227.out 3
                            have hfz36_4 := blk_frozen BK227.out 4
                            have hfz36_5 := blk_frozen BK227.out 5
                            have hfz36_6 := blk_frozen BK227.out 6
                            go_wp2
                            repeat (go_quiet (fail); try go_wp2)
                            go_ret2
                            exact ⟨_, by first | rfl | (simp [errW_none, errW_some] <;> rfl) | (simp [*, errW_none, errW_some] <;> rfl), by first | exact Kd.R_nil _ _ _ _ _ | exact Kd.N_nil _ _ _ _ _ | exact Kd.V_nil _ _ _ _ _ | exact Kd.Q_nil _ _ _ _ _ | exact Kd.S_nil _ _ _ _ _, by repeat (first | (with_reducible first | exact HB.out | apply below_alloc | apply pw_below_drewN | apply below_drew1 | refine below_set ?_ GE227.out) | exact HB.out)⟩
                          · rw [if_neg c35] at H
                            have c35b0 : (!(((rd_T36 l0 x7_1).f0.f0) == ((rd_T39 l1 x8_1).f2.f0.f0)) || (!(((rd_T36 l0 x7_1).f0.f1) == ((rd_T39 l1 x8_1).f2.f0.f1)))) = false := by simpa using c35
                            clear c35
                            by_cases c37 : x6_1.length < 2932031007402
                            · rw [if_pos c37] at H
                              have LMc37 := Aside0.mk c37
                              clear c37
                              obtain ⟨y239, hy239⟩ : ∃ y_ : List (S36), y_ = (x6_1 ++ [(⟨(⟨((rd_T39 l1 x8_1).f2.f0.f0), ((rd_T39 l1 x8_1).f2.f0.f1)⟩ : S34), ((rd_T39 l1 x8_1).f2.f1), ((rd_T39 l1 x8_1).f2.f2), ((rd_T39 l1 x8_1).f2.f3)⟩ : S36)]) := ⟨_, rfl⟩
                              replace H : (offshootref28_Patch.l0 kj6 l0 l1 y239 (wrap64 (x7_1 + 1)) (wrap64 (x8_1 + 1))) = some (r1, r2) := by first | (rw [hy239]; with_reducible exact H) | (have H2_ := (Option.bind_some _ _).symm.trans H; rw [hy239]; with_reducible exact H2_) | (have H2_ := (Option.bind_some _ _).symm.trans H; with_reducible exact H2_) | with_reducible exact H | (rw [hy239]; exact H) | exact H
                              have Ny239 := Aside0.mk hy239
                              clear hy239
                              have H' := Aside0.mk H
                              clear H
                              have p238 : 0 ≤ (x7_1 : Int) := of_decide_eq_true (by first | (with_reducible assumption) | assumption)
                              have q238 : x7_1 < (l0.length : Int) := of_decide_eq_true (by first | (with_reducible assumption) | assumption)
                              obtain ⟨ad238, e238, hx238_0, hx238_1, hx238_2, hx238_3, hx238_4⟩ := at_T36 HR0.out x7_1 p238 q238
                              cases e238
                              replace hx238_0 := (HB.out.cell (World.block_lt_of_cell? w _ hx238_0)).trans hx238_0
                              replace hx238_1 := (HB.out.cell (World.block_lt_of_cell? w _ hx238_1)).trans hx238_1
                              replace hx238_2 := (HB.out.cell (World.block_lt_of_cell? w _ hx238_2)).trans hx238_2
                              replace hx238_3 := (HB.out.cell (World.block_lt_of_cell? w _ hx238_3)).trans hx238_3
                              replace hx238_4 := (HB.out.cell (World.block_lt_of_cell? w _ hx238_4)).trans hx238_4
                              replace p238 := eq_true p238
                              replace q238 := eq_true q238
                              have hcz38_0 : wc.cell? ⟨gb227, 0, none⟩ = some (.int .i64 ((rd_T39 l1 x8_1).f0)) := (blk_cell BK227.out 0).trans rfl
                              have hcz38_1 : wc.cell? ⟨gb227, 1, none⟩ = some (.int .i64 ((rd_T39 l1 x8_1).f1)) := (blk_cell BK227.out 1).trans rfl
                              have hcz38_2 : wc.cell? ⟨gb227, 2, none⟩ = some (.int .i64 ((rd_T39 l1 x8_1).f2.f0.f0)) := (blk_cell BK227.out 2).trans rfl
                              have hcz38_3 : wc.cell? ⟨gb227, 3, none⟩ = some (.int .i64 ((rd_T39 l1 x8_1).f2.f0.f1)) := (blk_cell BK227.out 3).trans rfl
                              have hcz38_4 : wc.cell? ⟨gb227, 4, none⟩ = some (.int .i64 ((rd_T39 l1 x8_1).f2.f1)) := (blk_cell BK227.out 4).trans rfl
                              have hcz38_5 : wc.cell? ⟨gb227, 5, none⟩ = some (.bool ((rd_T39 l1 x8_1).f2.f2)) := (blk_cell BK227.out 5).trans rfl
                              have hcz38_6 : wc.cell? ⟨gb227, 6, none⟩ = some (.string ((rd_T39 l1 x8_1).f2.f3)) := (blk_cell BK227.out 6).trans rfl
                              have hfz38_0 := blk_frozen BK227.out 0
                              have hfz38_1 := blk_frozen BK227.out 1
                              have hfz38_2 := blk_frozen BK227.out 2
                              have hfz38_3 := blk_frozen BK227.out 3
                              have hfz38_4 := blk_frozen BK227.out 4
                              have hfz38_5 := blk_frozen BK227.out 5
                              have hfz38_6 := blk_frozen BK227.out 6
                              go_wp2_with (first | ((with_reducible refine gate_builtin (b := .append) (xs := #[.tmp 78, .tmp 81]) rfl ?_); (try (refine gate_guard (by rfl) ?_; dsimp only)); at_builtin; refine Kd.R_append k36 (w0 := w) w.heap.size rfl (.tmp 78) (.tmp 81) 22 36 (.agg #[(.int .i64 0), (.int .i64 0), (.int .i64 0), (.bool false), (.string ⟨#[]⟩)]) 48 rfl Try.underlying22 info36 rfl (by decide) (by omega) u6 x6_1 (⟨(⟨((rd_T39 l1 x8_1).f2.f0.f0), ((rd_T39 l1 x8_1).f2.f0.f1)⟩ : S34), ((rd_T39 l1 x8_1).f2.f1), ((rd_T39 l1 x8_1).f2.f2), ((rd_T39 l1 x8_1).f2.f3)⟩ : S36) [.int .i64 ((rd_T39 l1 x8_1).f2.f0.f0), .int .i64 ((rd_T39 l1 x8_1).f2.f0.f1), .int .i64 ((rd_T39 l1 x8_1).f2.f1), .bool ((rd_T39 l1 x8_1).f2.f2), .string ((rd_T39 l1 x8_1).f2.f3)] (fun _ => True) (fun _ => False) rfl rfl ?aP (fun _ hk => hk.elim) ?aF ?aO ?aB ?aS ?aL ?_; (case aP => exact k36_mkM _ _ _ (⟨(⟨((rd_T39 l1 x8_1).f2.f0.f0), ((rd_T39 l1 x8_1).f2.f0.f1)⟩ : S34), ((rd_T39 l1 x8_1).f2.f1), ((rd_T39 l1 x8_1).f2.f2), ((rd_T39 l1 x8_1).f2.f3)⟩ : S36)); (case aB => exact (by repeat (first | (with_reducible first | exact HB.out | apply below_alloc | apply pw_below_drewN | apply below_drew1 | refine below_set ?_ GE227.out) | exact HB.out))); (case aF => exact (fun _ _ => trivial)); (case aO => exact (by (with_reducible repeat (first | apply Kd.R_alloc | apply Kd.R_drewN | apply Kd.R_drew)); exact HO_6.out)); (case aS => exact (below_size (by repeat (first | (with_reducible first | exact HB.out | apply below_alloc | apply pw_below_drewN | apply below_drew1 | refine below_set ?_ GE227.out) | exact HB.out)))); (case aL => have := LMc37.out; omega); intro v240 w39 ho hb hg hat; rw [← Ny239.out] at ho; have n0_ := Aside0.mk (blk_grown (g := gb227) (o := .cells #[.int .i64 ((rd_T39 l1 x8_1).f0), .int .i64 ((rd_T39 l1 x8_1).f1), .int .i64 ((rd_T39 l1 x8_1).f2.f0.f0), .int .i64 ((rd_T39 l1 x8_1).f2.f0.f1), .int .i64 ((rd_T39 l1 x8_1).f2.f1), .bool ((rd_T39 l1 x8_1).f2.f2), .string ((rd_T39 l1 x8_1).f2.f3)] 39 (0, 0)) (by (with_reducible repeat (first | refine blk_drewN ?_ _ | refine blk_drew ?_ | refine blk_alloc ?_ _)); exact BK227.out) hg (Kd.R_ne HO_6.out BK227.out (by decide))); have n1_ := Aside0.mk (hb); have n2_ := Aside0.mk (ho); clear BK227; clear HB; clear HO_6; have BK227 := n0_; have HB := n1_; have HO241 := n2_; clear n0_ n1_ n2_; clear ho hb hg hat))
                              repeat (go_quiet (first | ((with_reducible refine gate_builtin (b := .append) (xs := #[.tmp 78, .tmp 81]) rfl ?_); (try (refine gate_guard (by rfl) ?_; dsimp only)); at_builtin; refine Kd.R_append k36 (w0 := w) w.heap.size rfl (.tmp 78) (.tmp 81) 22 36 (.agg #[(.int .i64 0), (.int .i64 0), (.int .i64 0), (.bool false), (.string ⟨#[]⟩)]) 48 rfl Try.underlying22 info36 rfl (by decide) (by omega) u6 x6_1 (⟨(⟨((rd_T39 l1 x8_1).f2.f0.f0), ((rd_T39 l1 x8_1).f2.f0.f1)⟩ : S34), ((rd_T39 l1 x8_1).f2.f1), ((rd_T39 l1 x8_1).f2.f2), ((rd_T39 l1 x8_1).f2.f3)⟩ : S36) [.int .i64 ((rd_T39 l1 x8_1).f2.f0.f0), .int .i64 ((rd_T39 l1 x8_1).f2.f0.f1), .int .i64 ((rd_T39 l1 x8_1).f2.f1), .bool ((rd_T39 l1 x8_1).f2.f2), .string ((rd_T39 l1 x8_1).f2.f3)] (fun _ => True) (fun _ => False) rfl rfl ?aP (fun _ hk => hk.elim) ?aF ?aO ?aB ?aS ?aL ?_; (case aP => exact k36_mkM _ _ _ (⟨(⟨((rd_T39 l1 x8_1).f2.f0.f0), ((rd_T39 l1 x8_1).f2.f0.f1)⟩ : S34), ((rd_T39 l1 x8_1).f2.f1), ((rd_T39 l1 x8_1).f2.f2), ((rd_T39 l1 x8_1).f2.f3)⟩ : S36)); (case aB => exact (by repeat (first | (with_reducible first | exact HB.out | apply below_alloc | apply pw_below_drewN | apply below_drew1 | refine below_set ?_ GE227.out) | exact HB.out))); (case aF => exact (fun _ _ => trivial)); (case aO => exact (by (with_reducible repeat (first | apply Kd.R_alloc | apply Kd.R_drewN | apply Kd.R_drew)); exact HO_6.out)); (case aS => exact (below_size (by repeat (first | (with_reducible first | exact HB.out | apply below_alloc | apply pw_below_drewN | apply below_drew1 | refine below_set ?_ GE227.out) | exact HB.out)))); (case aL => have := LMc37.out; omega); intro v240 w39 ho hb hg hat; rw [← Ny239.out] at ho; have n0_ := Aside0.mk (blk_grown (g := gb227) (o := .cells #[.int .i64 ((rd_T39 l1 x8_1).f0), .int .i64 ((rd_T39 l1 x8_1).f1), .int .i64 ((rd_T39 l1 x8_1).f2.f0.f0), .int .i64 ((rd_T39 l1 x8_1).f2.f0.f1), .int .i64 ((rd_T39 l1 x8_1).f2.f1), .bool ((rd_T39 l1 x8_1).f2.f2), .string ((rd_T39 l1 x8_1).f2.f3)] 39 (0, 0)) (by (with_reducible repeat (first | refine blk_drewN ?_ _ | refine blk_drew ?_ | refine blk_alloc ?_ _)); exact BK227.out) hg (Kd.R_ne HO_6.out BK227.out (by decide))); have n1_ := Aside0.mk (hb); have n2_ := Aside0.mk (ho); clear BK227; clear HB; clear HO_6; have BK227 := n0_; have HB := n1_; have HO241 := n2_; clear n0_ n1_ n2_; clear ho hb hg hat)); try go_wp2_with (first | ((with_reducible refine gate_builtin (b := .append) (xs := #[.tmp 78, .tmp 81]) rfl ?_); (try (refine gate_guard (by rfl) ?_; dsimp only)); at_builtin; refine Kd.R_append k36 (w0 := w) w.heap.size rfl (.tmp 78) (.tmp 81) 22 36 (.agg #[(.int .i64 0), (.int .i64 0), (.int .i64 0), (.bool false), (.string ⟨#[]⟩)]) 48 rfl Try.underlying22 info36 rfl (by decide) (by omega) u6 x6_1 (⟨(⟨((rd_T39 l1 x8_1).f2.f0.f0), ((rd_T39 l1 x8_1).f2.f0.f1)⟩ : S34), ((rd_T39 l1 x8_1).f2.f1), ((rd_T39 l1 x8_1).f2.f2), ((rd_T39 l1 x8_1).f2.f3)⟩ : S36) [.int .i64 ((rd_T39 l1 x8_1).f2.f0.f0), .int .i64 ((rd_T39 l1 x8_1).f2.f0.f1), .int .i64 ((rd_T39 l1 x8_1).f2.f1), .bool ((rd_T39 l1 x8_1).f2.f2), .string ((rd_T39 l1 x8_1).f2.f3)] (fun _ => True) (fun _ => False) rfl rfl ?aP (fun _ hk => hk.elim) ?aF ?aO ?aB ?aS ?aL ?_; (case aP => exact k36_mkM _ _ _ (⟨(⟨((rd_T39 l1 x8_1).f2.f0.f0), ((rd_T39 l1 x8_1).f2.f0.f1)⟩ : S34), ((rd_T39 l1 x8_1).f2.f1), ((rd_T39 l1 x8_1).f2.f2), ((rd_T39 l1 x8_1).f2.f3)⟩ : S36)); (case aB => exact (by repeat (first | (with_reducible first | exact HB.out | apply below_alloc | apply pw_below_drewN | apply below_drew1 | refine below_set ?_ GE227.out) | exact HB.out))); (case aF => exact (fun _ _ => trivial)); (case aO => exact (by (with_reducible repeat (first | apply Kd.R_alloc | apply Kd.R_drewN | apply Kd.R_drew)); exact HO_6.out)); (case aS => exact (below_size (by repeat (first | (with_reducible first | exact HB.out | apply below_alloc | apply pw_below_drewN | apply below_drew1 | refine below_set ?_ GE227.out) | exact HB.out)))); (case aL => have := LMc37.out; omega); intro v240 w39 ho hb hg hat; rw [← Ny239.out] at ho; have n0_ := Aside0.mk (blk_grown (g := gb227) (o := .cells #[.int .i64 ((rd_T39 l1 x8_1).f0), .int .i64 ((rd_T39 l1 x8_1).f1), .int .i64 ((rd_T39 l1 x8_1).f2.f0.f0), .int .i64 ((rd_T39 l1 x8_1).f2.f0.f1), .int .i64 ((rd_T39 l1 x8_1).f2.f1), .bool ((rd_T39 l1 x8_1).f2.f2), .string ((rd_T39 l1 x8_1).f2.f3)] 39 (0, 0)) (by (with_reducible repeat (first | refine blk_drewN ?_ _ | refine blk_drew ?_ | refine blk_alloc ?_ _)); exact BK227.out) hg (Kd.R_ne HO_6.out BK227.out (by decide))); have n1_ := Aside0.mk (hb); have n2_ := Aside0.mk (ho); clear BK227; clear HB; clear HO_6; have BK227 := n0_; have HB := n1_; have HO241 := n2_; clear n0_ n1_ n2_; clear ho hb hg hat)))
                              go_roundg kj6
                              case measure => have := HK1.out; have := HJ6.out; omega
                              case rel => exact ⟨(y239), (wrap64 (x7_1 + 1)), (wrap64 (x8_1 + 1)), (by first | rfl | (simp; done) | (simp [*]; done)), (by first | rfl | (simp; done) | (simp [*]; done)), H', ⟨by have := HK1.out; have := HJ6.out; omega⟩, ⟨by (with_reducible repeat (first | apply Kd.R_alloc | apply Kd.R_drewN | apply Kd.R_drew)); exact HO241.out⟩, ⟨by repeat (first | (with_reducible first | exact HB.out | apply below_alloc | apply pw_below_drewN | apply below_drew1 | refine below_set ?_ GE227.out) | exact HB.out)⟩⟩
                            · rw [if_neg c37] at H
                              exact absurd H (by simp)
                        · rw [if_neg c34] at H
                          exact absurd H (by simp)
                      · rw [if_neg c33] at H
                        exact absurd H (by simp)
                  · rw [if_neg c31] at H
                    have c31b0 : (((rd_T39 l1 x8_1).f0) == 4) = false := beq_eq_false_iff_ne.mpr c31
                    have c31b1 : (((rd_T39 l1 x8_1).f0) != 4) = true := bne_iff_ne.mpr c31
                    simp only [Option.some.injEq, Prod.mk.injEq] at H
                    obtain ⟨rfl, rfl⟩ := H
                    go_wp2
                    repeat (go_quiet (fail); try go_wp2)
                    go_ret2
                    exact ⟨_, by first | rfl | (simp [errW_none, errW_some] <;> rfl) | (simp [*, errW_none, errW_some] <;> rfl), by first | exact Kd.R_nil _ _ _ _ _ | exact Kd.N_nil _ _ _ _ _ | exact Kd.V_nil _ _ _ _ _ | exact Kd.Q_nil _ _ _ _ _ | exact Kd.S_nil _ _ _ _ _, by repeat (first | (with_reducible first | exact HB.out | apply below_alloc | apply pw_below_drewN | apply below_drew1 | refine below_set ?_ GE227.out) | exact HB.out)⟩
        · rw [if_neg c6] at H
          exact absurd H (by simp)
      · rw [if_neg c5] at H
        have c5b0 : decide (x8_1 < (l1.length : Int)) = false := decide_eq_false c5
        clear c5
        by_cases c40 : x7_1 < (l0.length : Int)
        · rw [if_pos c40] at H
          have c40b0 : decide (x7_1 < (l0.length : Int)) = true := decide_eq_true c40
          clear c40
          simp only [Option.some.injEq, Prod.mk.injEq] at H
          obtain ⟨rfl, rfl⟩ := H
          go_wp2
          repeat (go_quiet (fail); try go_wp2)
          go_ret2
          exact ⟨_, by first | rfl | (simp [errW_none, errW_some] <;> rfl) | (simp [*, errW_none, errW_some] <;> rfl), by first | exact Kd.R_nil _ _ _ _ _ | exact Kd.N_nil _ _ _ _ _ | exact Kd.V_nil _ _ _ _ _ | exact Kd.Q_nil _ _ _ _ _ | exact Kd.S_nil _ _ _ _ _, by repeat (first | (with_reducible first | exact HB.out | apply below_alloc | apply pw_below_drewN | apply below_drew1) | exact HB.out)⟩
        · rw [if_neg c40] at H
          have c40b0 : decide (x7_1 < (l0.length : Int)) = false := decide_eq_false c40
          clear c40
          simp only [Option.some.injEq, Prod.mk.injEq] at H
          obtain ⟨rfl, rfl⟩ := H
          go_wp2
          repeat (go_quiet (fail); try go_wp2)
          go_ret2
          exact ⟨_, by first | rfl | (simp [errW_none, errW_some] <;> rfl) | (simp [*, errW_none, errW_some] <;> rfl), by (with_reducible repeat (first | apply Kd.R_alloc | apply Kd.R_drewN | apply Kd.R_drew)); exact HO_6.out, by repeat (first | (with_reducible first | exact HB.out | apply below_alloc | apply pw_below_drewN | apply below_drew1) | exact HB.out)⟩

end Go.Proofs.Ytbaihnpanoibdaa.Q
