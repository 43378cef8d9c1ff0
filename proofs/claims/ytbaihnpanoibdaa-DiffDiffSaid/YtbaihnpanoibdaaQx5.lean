/- The program's Patch computes what its Lean function here says. Written by the kit's print.py (see wip/tools/diffprint.sh of this session); what it could not print is proved by hand. -/
import Derived.Test.YtbaihnpanoibdaaQx0
import Derived.Test.YtbaihnpanoibdaaQx1
namespace Go.Proofs.Ytbaihnpanoibdaa.Q
open Go.RowKit Go.Proofs.YtbaihnpanoibdaaW.PrintWords Go.Proofs.YtbaihnpanoibdaaW.PrintLast Go.Proofs.YtbaihnpanoibdaaW.PrintMore
attribute [local go_sem] max2_int min2_int max_two min_two max_three min_three max_four min_four   -- for this text's walks alone
set_option linter.unusedVariables false
set_option linter.unusedSimpArgs false

attribute [local go_sem high] eqA34
/-! ### diff_Patch: function 13 -/
mutual
def diff_Patch.l0 : Nat → List (S36) → List (S36) → List (S38) → Int → Int → Option ((List (S36)) × Int)
  | 0, _, _, _, _, _ => none
  | k + 1, x6, x7, x12, x13, x14 => if x14 < x13 then (if 0 ≤ x14 then (if x14 < (x12.length : Int) then (if ((rd_T38 x12 x14).f0) = 1 then (diff_Patch.j1 k x6 x7 0 x12 x13 x14 ((rd_T38 x12 x14).f0) (((rd_T38 x12 x14).f0) == 1) ((rd_T38 x12 x14).f0) ((rd_T38 x12 x14).f1) ((rd_T38 x12 x14).f2.f0.f0) ((rd_T38 x12 x14).f2.f0.f1) ((rd_T38 x12 x14).f2.f1) ((rd_T38 x12 x14).f2.f2) ((rd_T38 x12 x14).f2.f3)) else (diff_Patch.j1 k x6 x7 0 x12 x13 x14 ((rd_T38 x12 x14).f0) (((rd_T38 x12 x14).f0) == 2) ((rd_T38 x12 x14).f0) ((rd_T38 x12 x14).f1) ((rd_T38 x12 x14).f2.f0.f0) ((rd_T38 x12 x14).f2.f0.f1) ((rd_T38 x12 x14).f2.f1) ((rd_T38 x12 x14).f2.f2) ((rd_T38 x12 x14).f2.f3))) else (none)) else (none)) else (if (x7.length : Int) > 0 then (some (([] : List (S36)), 10)) else (some (x6, 0)))
def diff_Patch.j1 : Nat → List (S36) → List (S36) → Int → List (S38) → Int → Int → Int → Bool → Int → Int → Int → Int → Int → Bool → ByteArray → Option ((List (S36)) × Int)
  | 0, _, _, _, _, _, _, _, _, _, _, _, _, _, _, _ => none
  | k + 1, x6, x7, x10, x12, x13, x14, x19, x20, x120000, x120001, x120002, x120003, x120004, x120005, x120006 => if x20 = true then (if x120001 < 1 then (diff_Patch.j2 k x6 x7 x12 x13 x14 true x120000 x120001 x120002 x120003 x120004 x120005 x120006) else (diff_Patch.j2 k x6 x7 x12 x13 x14 (decide (x120001 > (x7.length : Int))) x120000 x120001 x120002 x120003 x120004 x120005 x120006)) else (if x19 = 4 then (if (x7.length : Int) = 0 then (some (([] : List (S36)), 10)) else (if 0 < (x7.length : Int) then (if (!(((rd_T36 x7 0).f0.f0) == x120002) || (!(((rd_T36 x7 0).f0.f1) == x120003))) = true then (some (([] : List (S36)), 10)) else (if x6.length < 2932031007402 then (if 1 ≤ (x7.length : Int) then (diff_Patch.l0 k (x6 ++ [(⟨(⟨x120002, x120003⟩ : S34), x120004, x120005, x120006⟩ : S36)]) (x7.drop 1) x12 x13 (wrap64 (x14 + 1))) else (none)) else (none))) else (none))) else (if x19 = 3 then (if x6.length < 2932031007402 then (if 0 ≤ x10 then (if x10 ≤ (x7.length : Int) then (diff_Patch.l0 k (x6 ++ [(⟨(⟨x120002, x120003⟩ : S34), x120004, x120005, x120006⟩ : S36)]) (x7.drop (x10 : Int).toNat) x12 x13 (wrap64 (x14 + 1))) else (none)) else (none)) else (none)) else (some (([] : List (S36)), 10))))
def diff_Patch.j2 : Nat → List (S36) → List (S36) → List (S38) → Int → Int → Bool → Int → Int → Int → Int → Int → Bool → ByteArray → Option ((List (S36)) × Int)
  | 0, _, _, _, _, _, _, _, _, _, _, _, _, _ => none
  | k + 1, x6, x7, x12, x13, x14, x32, x120000, x120001, x120002, x120003, x120004, x120005, x120006 => if x32 = true then (some (([] : List (S36)), 10)) else (if x120000 = 1 then (if 0 ≤ x120001 then (if x120001 ≤ (x7.length : Int) then ((some (x7.take (x120001 : Int).toNat : List (S36))).bind fun y120 => (if x6.length + y120.length < 2932031007402 then (diff_Patch.l0 k (x6 ++ y120) (x7.drop (x120001 : Int).toNat) x12 x13 (wrap64 (x14 + 1))) else (none))) else (none)) else (none)) else (if 0 ≤ x120001 then (if x120001 ≤ (x7.length : Int) then (diff_Patch.l0 k x6 (x7.drop (x120001 : Int).toNat) x12 x13 (wrap64 (x14 + 1))) else (none)) else (none)))
end
def diff_Patch.f (k : Nat) (l0 : List (S36)) (l1 : List (S38)) : Option ((List (S36)) × Int) := diff_Patch.l0 k ([] : List (S36)) l0 l1 (l1.length : Int) 0
theorem diff_Patch.mono_l : ∀ k, (∀ y0 y1 y2 y3 y4, LeO (diff_Patch.l0 k y0 y1 y2 y3 y4) (diff_Patch.l0 (k + 1) y0 y1 y2 y3 y4)) ∧ (∀ y0 y1 y2 y3 y4 y5 y6 y7 y8 y9 y10 y11 y12 y13 y14, LeO (diff_Patch.j1 k y0 y1 y2 y3 y4 y5 y6 y7 y8 y9 y10 y11 y12 y13 y14) (diff_Patch.j1 (k + 1) y0 y1 y2 y3 y4 y5 y6 y7 y8 y9 y10 y11 y12 y13 y14)) ∧ (∀ y0 y1 y2 y3 y4 y5 y6 y7 y8 y9 y10 y11 y12, LeO (diff_Patch.j2 k y0 y1 y2 y3 y4 y5 y6 y7 y8 y9 y10 y11 y12) (diff_Patch.j2 (k + 1) y0 y1 y2 y3 y4 y5 y6 y7 y8 y9 y10 y11 y12))
  | 0 => ⟨fun _ _ _ _ _ r h => by simp [diff_Patch.l0] at h, fun _ _ _ _ _ _ _ _ _ _ _ _ _ _ _ r h => by simp [diff_Patch.j1] at h, fun _ _ _ _ _ _ _ _ _ _ _ _ _ r h => by simp [diff_Patch.j2] at h⟩
  | k + 1 => by
    obtain ⟨ih0, ih1, ih2⟩ := diff_Patch.mono_l k
    refine ⟨?_, ?_, ?_⟩
    · intro y0 y1 y2 y3 y4
      unfold diff_Patch.l0
      repeat' first
      | (with_reducible exact ih0 _ _ _ _ _)
      | (with_reducible exact ih1 _ _ _ _ _ _ _ _ _ _ _ _ _ _ _)
      | (with_reducible exact ih2 _ _ _ _ _ _ _ _ _ _ _ _ _)
      | (with_reducible exact LeO.refl _)
      | (with_reducible exact LeO.none _)
      | (with_reducible refine LeO.ite ?_ ?_)
      | (with_reducible refine LeO.bind ?_ (fun _ => ?_))
      | exact ih0 _ _ _ _ _
      | exact ih1 _ _ _ _ _ _ _ _ _ _ _ _ _ _ _
      | exact ih2 _ _ _ _ _ _ _ _ _ _ _ _ _
      | exact LeO.none _
      | refine LeO.ite ?_ ?_
      | refine LeO.bind ?_ (fun _ => ?_)
    · intro y0 y1 y2 y3 y4 y5 y6 y7 y8 y9 y10 y11 y12 y13 y14
      unfold diff_Patch.j1
      repeat' first
      | (with_reducible exact ih0 _ _ _ _ _)
      | (with_reducible exact ih1 _ _ _ _ _ _ _ _ _ _ _ _ _ _ _)
      | (with_reducible exact ih2 _ _ _ _ _ _ _ _ _ _ _ _ _)
      | (with_reducible exact LeO.refl _)
      | (with_reducible exact LeO.none _)
      | (with_reducible refine LeO.ite ?_ ?_)
      | (with_reducible refine LeO.bind ?_ (fun _ => ?_))
      | exact ih0 _ _ _ _ _
      | exact ih1 _ _ _ _ _ _ _ _ _ _ _ _ _ _ _
      | exact ih2 _ _ _ _ _ _ _ _ _ _ _ _ _
      | exact LeO.none _
      | refine LeO.ite ?_ ?_
      | refine LeO.bind ?_ (fun _ => ?_)
    · intro y0 y1 y2 y3 y4 y5 y6 y7 y8 y9 y10 y11 y12
      unfold diff_Patch.j2
      repeat' first
      | (with_reducible exact ih0 _ _ _ _ _)
      | (with_reducible exact ih1 _ _ _ _ _ _ _ _ _ _ _ _ _ _ _)
      | (with_reducible exact ih2 _ _ _ _ _ _ _ _ _ _ _ _ _)
      | (with_reducible exact LeO.refl _)
      | (with_reducible exact LeO.none _)
      | (with_reducible refine LeO.ite ?_ ?_)
      | (with_reducible refine LeO.bind ?_ (fun _ => ?_))
      | exact ih0 _ _ _ _ _
      | exact ih1 _ _ _ _ _ _ _ _ _ _ _ _ _ _ _
      | exact ih2 _ _ _ _ _ _ _ _ _ _ _ _ _
      | exact LeO.none _
      | refine LeO.ite ?_ ?_
      | refine LeO.bind ?_ (fun _ => ?_)
theorem diff_Patch.mono : ∀ a0 a1 k, LeO (diff_Patch.f k a0 a1) (diff_Patch.f (k + 1) a0 a1) := by
  intro a0 a1 k
  obtain ⟨ih0, ih1, ih2⟩ := diff_Patch.mono_l k
  unfold diff_Patch.f
  repeat' first
      | (with_reducible exact ih0 _ _ _ _ _)
      | (with_reducible exact ih1 _ _ _ _ _ _ _ _ _ _ _ _ _ _ _)
      | (with_reducible exact ih2 _ _ _ _ _ _ _ _ _ _ _ _ _)
      | (with_reducible exact LeO.refl _)
      | (with_reducible exact LeO.none _)
      | (with_reducible refine LeO.ite ?_ ?_)
      | (with_reducible refine LeO.bind ?_ (fun _ => ?_))
      | exact ih0 _ _ _ _ _
      | exact ih1 _ _ _ _ _ _ _ _ _ _ _ _ _ _ _
      | exact ih2 _ _ _ _ _ _ _ _ _ _ _ _ _
      | exact LeO.none _
      | refine LeO.ite ?_ ?_
      | refine LeO.bind ?_ (fun _ => ?_)
set_option maxHeartbeats 8000000 in
set_option maxRecDepth 100000 in
theorem diff_Patch.calls (k : Nat) (P0_ : Nat → Prop) (A0 : Option Addr) (c0 : Nat) (l0 : List (S36)) (A1 : Option Addr) (c1 : Nat) (l1 : List (S38)) (r1 : List (S36)) (r2 : Int) (w : World) (hs0 : Kd.V k36 36 w w.heap.size (fun k_ => P0_ k_) (.slice A0 l0.length c0) l0) (hr1 : Kd.C k38 w A1 l1.length l1) (hc1 : l1.length ≤ c1) (h : diff_Patch.f k l0 l1 = some (r1, r2)) :
    Calls Try.prog 13 #[.slice A0 l0.length c0, .slice A1 l1.length c1] w fun e w' => ∃ v0_ : Value, e = .returned (.tuple #[v0_, .int .i64 r2]) ∧ Kd.R k36 36 w' w.heap.size (fun k_ => (w.heap.size ≤ k_)) v0_ r1 ∧ Below w.heap.size w w' := by
  have hu38 := Try.underlying38
  have hu34 := Try.underlying34
  have hu36 := Try.underlying36
  have HO0 := Aside0.mk (show Kd.V k36 36 w w.heap.size (fun k_ => (P0_ k_ ∨ w.heap.size ≤ k_)) (.slice A0 l0.length c0) l0 from Kd.V_mono hs0 (fun k_ hk => .inl hk))
  have HR1 := Aside0.mk hr1
  have HC1 := Aside0.mk hc1
  clear hr1 hc1
  have HB := Aside0.mk (Below.refl w.heap.size w)
  have H : (diff_Patch.l0 k ([] : List (S36)) l0 l1 (l1.length : Int) 0) = some (r1, r2) := h
  clear h
  have H' := Aside0.mk H
  clear H
  go_enter Try.func13, Try.ntmps13
  go_wp2
  repeat (go_quiet (fail); try go_wp2)
  go_loopg [6, 7, 14] k (fun kq v6 v7 v14 w' => ∃ (x6_1 : List (S36)) (x7_1 : List (S36)) (x14_1 : Int), v14 = .int .i64 x14_1 ∧ Aside0 (diff_Patch.l0 kq x6_1 x7_1 l1 (l1.length : Int) x14_1 = some (r1, r2)) ∧ Aside0 (kq ≤ k) ∧ Aside0 (Kd.R k36 36 w' w.heap.size (fun k_ => (w.heap.size ≤ k_)) v6 x6_1) ∧ Aside0 (Kd.V k36 36 w' w.heap.size (fun k_ => (P0_ k_ ∨ w.heap.size ≤ k_) ∧ some k_ ≠ (v6 : Value).ownBlock) v7 x7_1) ∧ Aside0 (Below w.heap.size w w'))
  case atStart => exact ⟨(([] : List (S36))), (l0), (0), (by first | rfl | (simp; done) | (simp [*]; done)), H', ⟨Nat.le_refl _⟩, ⟨by first | exact Kd.R_nil _ _ _ _ _ | exact Kd.N_nil _ _ _ _ _ | exact Kd.V_nil _ _ _ _ _ | exact Kd.Q_nil _ _ _ _ _ | exact Kd.S_nil _ _ _ _ _⟩, ⟨by (with_reducible repeat (first | apply Kd.V_alloc | apply Kd.V_drewN | apply Kd.V_drew)); exact Kd.V_mono HO0.out (fun _ hk => ⟨hk, (by simp [Value.ownBlock])⟩)⟩, ⟨by repeat (first | (with_reducible first | exact HB.out | apply below_alloc | apply pw_below_drewN | apply below_drew1) | exact HB.out)⟩⟩
  case round =>
    clear H'
    try clear c1
    try clear p2
    obtain ⟨x6_1, x7_1, x14_1, rfl, HA, HK1, HO_6, HO_7, HB⟩ := hrel
    cases gk with
    | zero => exact absurd HA.out (by simp [diff_Patch.l0])
    | succ k1 =>
      have H := HA.out
      clear HA
      simp only [diff_Patch.l0] at H
      by_cases c3 : x14_1 < (l1.length : Int)
      · rw [if_pos c3] at H
        have c3b0 : decide (x14_1 < (l1.length : Int)) = true := decide_eq_true c3
        clear c3
        by_cases c4 : 0 ≤ x14_1
        · rw [if_pos c4] at H
          have c4b0 : decide (0 ≤ x14_1) = true := decide_eq_true c4
          clear c4
          by_cases c5 : x14_1 < (l1.length : Int)
          · rw [if_pos c5] at H
            have c5b0 : decide (x14_1 < (l1.length : Int)) = true := decide_eq_true c5
            clear c5
            have HC6 := Aside0.mk H
            clear H
            have p118 : 0 ≤ (x14_1 : Int) := of_decide_eq_true (by first | (with_reducible assumption) | assumption)
            have q118 : x14_1 < (l1.length : Int) := of_decide_eq_true (by first | (with_reducible assumption) | assumption)
            obtain ⟨ad118, e118, hx118_0, hx118_1, hx118_2, hx118_3, hx118_4, hx118_5, hx118_6⟩ := at_T38 HR1.out x14_1 p118 q118
            cases e118
            replace hx118_0 := (HB.out.cell (World.block_lt_of_cell? w _ hx118_0)).trans hx118_0
            replace hx118_1 := (HB.out.cell (World.block_lt_of_cell? w _ hx118_1)).trans hx118_1
            replace hx118_2 := (HB.out.cell (World.block_lt_of_cell? w _ hx118_2)).trans hx118_2
            replace hx118_3 := (HB.out.cell (World.block_lt_of_cell? w _ hx118_3)).trans hx118_3
            replace hx118_4 := (HB.out.cell (World.block_lt_of_cell? w _ hx118_4)).trans hx118_4
            replace hx118_5 := (HB.out.cell (World.block_lt_of_cell? w _ hx118_5)).trans hx118_5
            replace hx118_6 := (HB.out.cell (World.block_lt_of_cell? w _ hx118_6)).trans hx118_6
            replace p118 := eq_true p118
            replace q118 := eq_true q118
            go_upto_if 20 with (first | ((with_reducible refine gate_dst (N := 9) rfl ?_); (try (refine gate_guard (by rfl) ?_; dsimp only)); refine box_event ?hg (N := 9) ?hd (cs := #[.int .i64 0, .int .i64 0, .int .i64 0, .int .i64 0, .int .i64 0, .bool false, .string (⟨#[]⟩ : ByteArray)]) (t := 38) ?hr ?_; (case hd => rfl); (case hg => rfl); (case hr => first | (go_simp; done) | (go_simp; rfl)); intro gb119 hg w7 hbox hb; have n0_ := Aside0.mk (Kd.R_below (by (with_reducible repeat (first | apply Kd.R_alloc | apply Kd.R_drewN | apply Kd.R_drew)); exact HO_6.out) hb); have n1_ := Aside0.mk (Kd.V_below (Kd.V_elderB (by (with_reducible repeat (first | apply Kd.V_alloc | apply Kd.V_drewN | apply Kd.V_drew)); exact HO_7.out) gb119 (Nat.le_of_eq hg.symm)) hb); have n2_ := Aside0.mk (below_step (by repeat (first | (with_reducible first | exact HB.out | apply below_alloc | apply pw_below_drewN | apply below_drew1) | exact HB.out)) hb); have n3_ := Aside0.mk (hbox); have n4_ := Aside0.mk ((by rw [hg]; exact (below_size (by repeat (first | (with_reducible first | exact HB.out | apply below_alloc | apply pw_below_drewN | apply below_drew1) | exact HB.out))) : w.heap.size ≤ gb119)); have n5_ := Aside0.mk ((by rw [hg]; exact (below_size (by repeat (first | (with_reducible first | exact HB.out | apply below_alloc | apply pw_below_drewN | apply below_drew1) | exact HB.out))) : w.heap.size ≤ gb119)); clear HO_6; clear HO_7; clear HB; have HO_6 := n0_; have HO_7 := n1_; have HB := n2_; have BK119 := n3_; have GW119 := n4_; have GE119 := n5_; clear n0_ n1_ n2_ n3_ n4_ n5_; clear hb hbox hg; have hcz8_0 : w7.cell? ⟨gb119, 0, none⟩ = some (.int .i64 0) := (blk_cell BK119.out 0).trans rfl; have hcz8_1 : w7.cell? ⟨gb119, 1, none⟩ = some (.int .i64 0) := (blk_cell BK119.out 1).trans rfl; have hcz8_2 : w7.cell? ⟨gb119, 2, none⟩ = some (.int .i64 0) := (blk_cell BK119.out 2).trans rfl; have hcz8_3 : w7.cell? ⟨gb119, 3, none⟩ = some (.int .i64 0) := (blk_cell BK119.out 3).trans rfl; have hcz8_4 : w7.cell? ⟨gb119, 4, none⟩ = some (.int .i64 0) := (blk_cell BK119.out 4).trans rfl; have hcz8_5 : w7.cell? ⟨gb119, 5, none⟩ = some (.bool false) := (blk_cell BK119.out 5).trans rfl; have hcz8_6 : w7.cell? ⟨gb119, 6, none⟩ = some (.string (⟨#[]⟩ : ByteArray)) := (blk_cell BK119.out 6).trans rfl; have hfz8_0 := blk_frozen BK119.out 0; have hfz8_1 := blk_frozen BK119.out 1; have hfz8_2 := blk_frozen BK119.out 2; have hfz8_3 := blk_frozen BK119.out 3; have hfz8_4 := blk_frozen BK119.out 4; have hfz8_5 := blk_frozen BK119.out 5; have hfz8_6 := blk_frozen BK119.out 6))
            repeat (go_quiet (first | ((with_reducible refine gate_dst (N := 9) rfl ?_); (try (refine gate_guard (by rfl) ?_; dsimp only)); refine box_event ?hg (N := 9) ?hd (cs := #[.int .i64 0, .int .i64 0, .int .i64 0, .int .i64 0, .int .i64 0, .bool false, .string (⟨#[]⟩ : ByteArray)]) (t := 38) ?hr ?_; (case hd => rfl); (case hg => rfl); (case hr => first | (go_simp; done) | (go_simp; rfl)); intro gb119 hg w7 hbox hb; have n0_ := Aside0.mk (Kd.R_below (by (with_reducible repeat (first | apply Kd.R_alloc | apply Kd.R_drewN | apply Kd.R_drew)); exact HO_6.out) hb); have n1_ := Aside0.mk (Kd.V_below (Kd.V_elderB (by (with_reducible repeat (first | apply Kd.V_alloc | apply Kd.V_drewN | apply Kd.V_drew)); exact HO_7.out) gb119 (Nat.le_of_eq hg.symm)) hb); have n2_ := Aside0.mk (below_step (by repeat (first | (with_reducible first | exact HB.out | apply below_alloc | apply pw_below_drewN | apply below_drew1) | exact HB.out)) hb); have n3_ := Aside0.mk (hbox); have n4_ := Aside0.mk ((by rw [hg]; exact (below_size (by repeat (first | (with_reducible first | exact HB.out | apply below_alloc | apply pw_below_drewN | apply below_drew1) | exact HB.out))) : w.heap.size ≤ gb119)); have n5_ := Aside0.mk ((by rw [hg]; exact (below_size (by repeat (first | (with_reducible first | exact HB.out | apply below_alloc | apply pw_below_drewN | apply below_drew1) | exact HB.out))) : w.heap.size ≤ gb119)); clear HO_6; clear HO_7; clear HB; have HO_6 := n0_; have HO_7 := n1_; have HB := n2_; have BK119 := n3_; have GW119 := n4_; have GE119 := n5_; clear n0_ n1_ n2_ n3_ n4_ n5_; clear hb hbox hg; have hcz8_0 : w7.cell? ⟨gb119, 0, none⟩ = some (.int .i64 0) := (blk_cell BK119.out 0).trans rfl; have hcz8_1 : w7.cell? ⟨gb119, 1, none⟩ = some (.int .i64 0) := (blk_cell BK119.out 1).trans rfl; have hcz8_2 : w7.cell? ⟨gb119, 2, none⟩ = some (.int .i64 0) := (blk_cell BK119.out 2).trans rfl; have hcz8_3 : w7.cell? ⟨gb119, 3, none⟩ = some (.int .i64 0) := (blk_cell BK119.out 3).trans rfl; have hcz8_4 : w7.cell? ⟨gb119, 4, none⟩ = some (.int .i64 0) := (blk_cell BK119.out 4).trans rfl; have hcz8_5 : w7.cell? ⟨gb119, 5, none⟩ = some (.bool false) := (blk_cell BK119.out 5).trans rfl; have hcz8_6 : w7.cell? ⟨gb119, 6, none⟩ = some (.string (⟨#[]⟩ : ByteArray)) := (blk_cell BK119.out 6).trans rfl; have hfz8_0 := blk_frozen BK119.out 0; have hfz8_1 := blk_frozen BK119.out 1; have hfz8_2 := blk_frozen BK119.out 2; have hfz8_3 := blk_frozen BK119.out 3; have hfz8_4 := blk_frozen BK119.out 4; have hfz8_5 := blk_frozen BK119.out 5; have hfz8_6 := blk_frozen BK119.out 6)); go_upto_if 20 with (first | ((with_reducible refine gate_dst (N := 9) rfl ?_); (try (refine gate_guard (by rfl) ?_; dsimp only)); refine box_event ?hg (N := 9) ?hd (cs := #[.int .i64 0, .int .i64 0, .int .i64 0, .int .i64 0, .int .i64 0, .bool false, .string (⟨#[]⟩ : ByteArray)]) (t := 38) ?hr ?_; (case hd => rfl); (case hg => rfl); (case hr => first | (go_simp; done) | (go_simp; rfl)); intro gb119 hg w7 hbox hb; have n0_ := Aside0.mk (Kd.R_below (by (with_reducible repeat (first | apply Kd.R_alloc | apply Kd.R_drewN | apply Kd.R_drew)); exact HO_6.out) hb); have n1_ := Aside0.mk (Kd.V_below (Kd.V_elderB (by (with_reducible repeat (first | apply Kd.V_alloc | apply Kd.V_drewN | apply Kd.V_drew)); exact HO_7.out) gb119 (Nat.le_of_eq hg.symm)) hb); have n2_ := Aside0.mk (below_step (by repeat (first | (with_reducible first | exact HB.out | apply below_alloc | apply pw_below_drewN | apply below_drew1) | exact HB.out)) hb); have n3_ := Aside0.mk (hbox); have n4_ := Aside0.mk ((by rw [hg]; exact (below_size (by repeat (first | (with_reducible first | exact HB.out | apply below_alloc | apply pw_below_drewN | apply below_drew1) | exact HB.out))) : w.heap.size ≤ gb119)); have n5_ := Aside0.mk ((by rw [hg]; exact (below_size (by repeat (first | (with_reducible first | exact HB.out | apply below_alloc | apply pw_below_drewN | apply below_drew1) | exact HB.out))) : w.heap.size ≤ gb119)); clear HO_6; clear HO_7; clear HB; have HO_6 := n0_; have HO_7 := n1_; have HB := n2_; have BK119 := n3_; have GW119 := n4_; have GE119 := n5_; clear n0_ n1_ n2_ n3_ n4_ n5_; clear hb hbox hg; have hcz8_0 : w7.cell? ⟨gb119, 0, none⟩ = some (.int .i64 0) := (blk_cell BK119.out 0).trans rfl; have hcz8_1 : w7.cell? ⟨gb119, 1, none⟩ = some (.int .i64 0) := (blk_cell BK119.out 1).trans rfl; have hcz8_2 : w7.cell? ⟨gb119, 2, none⟩ = some (.int .i64 0) := (blk_cell BK119.out 2).trans rfl; have hcz8_3 : w7.cell? ⟨gb119, 3, none⟩ = some (.int .i64 0) := (blk_cell BK119.out 3).trans rfl; have hcz8_4 : w7.cell? ⟨gb119, 4, none⟩ = some (.int .i64 0) := (blk_cell BK119.out 4).trans rfl; have hcz8_5 : w7.cell? ⟨gb119, 5, none⟩ = some (.bool false) := (blk_cell BK119.out 5).trans rfl; have hcz8_6 : w7.cell? ⟨gb119, 6, none⟩ = some (.string (⟨#[]⟩ : ByteArray)) := (blk_cell BK119.out 6).trans rfl; have hfz8_0 := blk_frozen BK119.out 0; have hfz8_1 := blk_frozen BK119.out 1; have hfz8_2 := blk_frozen BK119.out 2; have hfz8_3 := blk_frozen BK119.out 3; have hfz8_4 := blk_frozen BK119.out 4; have hfz8_5 := blk_frozen BK119.out 5; have hfz8_6 := blk_frozen BK119.out 6)))
            (try simp only [Act.put, List.setIfInBounds_toArray, List.set_cons_zero, List.set_cons_succ])
            go_cut [20] (fun v20 wc => ∃ (kq : Nat) (x20_5 : Bool), v20 = .bool x20_5 ∧ Aside0 (diff_Patch.j1 kq x6_1 x7_1 0 l1 (l1.length : Int) x14_1 ((rd_T38 l1 x14_1).f0) x20_5 ((rd_T38 l1 x14_1).f0) ((rd_T38 l1 x14_1).f1) ((rd_T38 l1 x14_1).f2.f0.f0) ((rd_T38 l1 x14_1).f2.f0.f1) ((rd_T38 l1 x14_1).f2.f1) ((rd_T38 l1 x14_1).f2.f2) ((rd_T38 l1 x14_1).f2.f3) = some (r1, r2)) ∧ Aside0 (kq ≤ k1) ∧ Aside0 (Kd.R k36 36 wc w.heap.size (fun k_ => (w.heap.size ≤ k_)) u6 x6_1) ∧ Aside0 (Kd.V k36 36 wc w.heap.size (fun k_ => (P0_ k_ ∨ w.heap.size ≤ k_) ∧ some k_ ≠ (u6 : Value).ownBlock ∧ k_ ≠ gb119) u7 x7_1) ∧ Aside0 (wc.heap[gb119]? = some (.cells #[.int .i64 ((rd_T38 l1 x14_1).f0), .int .i64 ((rd_T38 l1 x14_1).f1), .int .i64 ((rd_T38 l1 x14_1).f2.f0.f0), .int .i64 ((rd_T38 l1 x14_1).f2.f0.f1), .int .i64 ((rd_T38 l1 x14_1).f2.f1), .bool ((rd_T38 l1 x14_1).f2.f2), .string ((rd_T38 l1 x14_1).f2.f3)] 38 (0, 0))) ∧ Aside0 (Below w.heap.size w wc))
            case first =>
              have H := HC6.out
              clear HC6
              by_cases c9 : ((rd_T38 l1 x14_1).f0) = 1
              · rw [if_pos c9] at H
                have c9b0 : (((rd_T38 l1 x14_1).f0) == 1) = true := beq_iff_eq.mpr c9
                have c9b1 : (((rd_T38 l1 x14_1).f0) != 1) = false := bne_eq_false_iff_eq.mpr c9
                clear c9
                (first | rw [c9b0] | (simp only [i64_w, i32_w]; rw [c9b0]) | skip)
                have H' := Aside0.mk H
                clear H
                go_wp2
                repeat (go_quiet (fail); try go_wp2)
                go_meet
                case rel => exact ⟨_, ((((rd_T38 l1 x14_1).f0) == 1)), (by first | rfl | (simp; done) | (simp [*]; done)), H', ⟨by have := HK1.out; first | omega | exact Nat.le_refl _⟩, ⟨by (with_reducible repeat (first | apply Kd.R_alloc | apply Kd.R_drewN | apply Kd.R_drew)); exact Kd.R_mono (Kd.R_far (p := ⟨gb119, 6, none⟩) (Kd.R_far (p := ⟨gb119, 5, none⟩) (Kd.R_far (p := ⟨gb119, 4, none⟩) (Kd.R_far (p := ⟨gb119, 3, none⟩) (Kd.R_far (p := ⟨gb119, 2, none⟩) (Kd.R_far (p := ⟨gb119, 1, none⟩) (Kd.R_far (p := ⟨gb119, 0, none⟩) (Kd.R_types HO_6.out BK119.out (by decide)) (fun _ hk => hk.2) (.int .i64 ((rd_T38 l1 x14_1).f0))) (fun _ hk => hk.2) (.int .i64 ((rd_T38 l1 x14_1).f1))) (fun _ hk => hk.2) (.int .i64 ((rd_T38 l1 x14_1).f2.f0.f0))) (fun _ hk => hk.2) (.int .i64 ((rd_T38 l1 x14_1).f2.f0.f1))) (fun _ hk => hk.2) (.int .i64 ((rd_T38 l1 x14_1).f2.f1))) (fun _ hk => hk.2) (.bool ((rd_T38 l1 x14_1).f2.f2))) (fun _ hk => hk.2) (.string ((rd_T38 l1 x14_1).f2.f3))) (fun _ hk => hk.1)⟩, ⟨by (with_reducible repeat (first | apply Kd.V_alloc | apply Kd.V_drewN | apply Kd.V_drew)); exact Kd.V_mono (Kd.V_far (p := ⟨gb119, 6, none⟩) (Kd.V_far (p := ⟨gb119, 5, none⟩) (Kd.V_far (p := ⟨gb119, 4, none⟩) (Kd.V_far (p := ⟨gb119, 3, none⟩) (Kd.V_far (p := ⟨gb119, 2, none⟩) (Kd.V_far (p := ⟨gb119, 1, none⟩) (Kd.V_far (p := ⟨gb119, 0, none⟩) (Kd.V_mono HO_7.out (fun k_ hk => (⟨hk, hk.2⟩ : _ ∧ k_ ≠ gb119))) (fun _ hk => hk.2) (.int .i64 ((rd_T38 l1 x14_1).f0))) (fun _ hk => hk.2) (.int .i64 ((rd_T38 l1 x14_1).f1))) (fun _ hk => hk.2) (.int .i64 ((rd_T38 l1 x14_1).f2.f0.f0))) (fun _ hk => hk.2) (.int .i64 ((rd_T38 l1 x14_1).f2.f0.f1))) (fun _ hk => hk.2) (.int .i64 ((rd_T38 l1 x14_1).f2.f1))) (fun _ hk => hk.2) (.bool ((rd_T38 l1 x14_1).f2.f2))) (fun _ hk => hk.2) (.string ((rd_T38 l1 x14_1).f2.f3))) (fun _ hk => ⟨hk.1.1.1, ⟨hk.1.1.2, hk.1.2⟩⟩)⟩, ⟨by (with_reducible repeat (first | refine blk_drewN ?_ _ | refine blk_drew ?_ | refine blk_alloc ?_ _)); refine blk_put (cs := #[.int .i64 ((rd_T38 l1 x14_1).f0), .int .i64 ((rd_T38 l1 x14_1).f1), .int .i64 ((rd_T38 l1 x14_1).f2.f0.f0), .int .i64 ((rd_T38 l1 x14_1).f2.f0.f1), .int .i64 ((rd_T38 l1 x14_1).f2.f1), .bool ((rd_T38 l1 x14_1).f2.f2), .string (⟨#[]⟩ : ByteArray)]) ?_ 6 _ rfl; (with_reducible repeat (first | refine blk_drewN ?_ _ | refine blk_drew ?_ | refine blk_alloc ?_ _)); refine blk_put (cs := #[.int .i64 ((rd_T38 l1 x14_1).f0), .int .i64 ((rd_T38 l1 x14_1).f1), .int .i64 ((rd_T38 l1 x14_1).f2.f0.f0), .int .i64 ((rd_T38 l1 x14_1).f2.f0.f1), .int .i64 ((rd_T38 l1 x14_1).f2.f1), .bool false, .string (⟨#[]⟩ : ByteArray)]) ?_ 5 _ rfl; (with_reducible repeat (first | refine blk_drewN ?_ _ | refine blk_drew ?_ | refine blk_alloc ?_ _)); refine blk_put (cs := #[.int .i64 ((rd_T38 l1 x14_1).f0), .int .i64 ((rd_T38 l1 x14_1).f1), .int .i64 ((rd_T38 l1 x14_1).f2.f0.f0), .int .i64 ((rd_T38 l1 x14_1).f2.f0.f1), .int .i64 0, .bool false, .string (⟨#[]⟩ : ByteArray)]) ?_ 4 _ rfl; (with_reducible repeat (first | refine blk_drewN ?_ _ | refine blk_drew ?_ | refine blk_alloc ?_ _)); refine blk_put (cs := #[.int .i64 ((rd_T38 l1 x14_1).f0), .int .i64 ((rd_T38 l1 x14_1).f1), .int .i64 ((rd_T38 l1 x14_1).f2.f0.f0), .int .i64 0, .int .i64 0, .bool false, .string (⟨#[]⟩ : ByteArray)]) ?_ 3 _ rfl; (with_reducible repeat (first | refine blk_drewN ?_ _ | refine blk_drew ?_ | refine blk_alloc ?_ _)); refine blk_put (cs := #[.int .i64 ((rd_T38 l1 x14_1).f0), .int .i64 ((rd_T38 l1 x14_1).f1), .int .i64 0, .int .i64 0, .int .i64 0, .bool false, .string (⟨#[]⟩ : ByteArray)]) ?_ 2 _ rfl; (with_reducible repeat (first | refine blk_drewN ?_ _ | refine blk_drew ?_ | refine blk_alloc ?_ _)); refine blk_put (cs := #[.int .i64 ((rd_T38 l1 x14_1).f0), .int .i64 0, .int .i64 0, .int .i64 0, .int .i64 0, .bool false, .string (⟨#[]⟩ : ByteArray)]) ?_ 1 _ rfl; (with_reducible repeat (first | refine blk_drewN ?_ _ | refine blk_drew ?_ | refine blk_alloc ?_ _)); refine blk_put (cs := #[.int .i64 0, .int .i64 0, .int .i64 0, .int .i64 0, .int .i64 0, .bool false, .string (⟨#[]⟩ : ByteArray)]) ?_ 0 _ rfl; (with_reducible repeat (first | refine blk_drewN ?_ _ | refine blk_drew ?_ | refine blk_alloc ?_ _)); exact BK119.out⟩, ⟨by repeat (first | (with_reducible first | exact HB.out | apply below_alloc | apply pw_below_drewN | apply below_drew1 | refine below_set ?_ GE119.out) | exact HB.out)⟩⟩
              · rw [if_neg c9] at H
                have c9b0 : (((rd_T38 l1 x14_1).f0) == 1) = false := beq_eq_false_iff_ne.mpr c9
                have c9b1 : (((rd_T38 l1 x14_1).f0) != 1) = true := bne_iff_ne.mpr c9
                (first | rw [c9b0] | (simp only [i64_w, i32_w]; rw [c9b0]) | skip)
                have H' := Aside0.mk H
                clear H
                go_wp2
                repeat (go_quiet (fail); try go_wp2)
                go_meet
                case rel => exact ⟨_, ((((rd_T38 l1 x14_1).f0) == 2)), (by first | rfl | (simp; done) | (simp [*]; done)), H', ⟨by have := HK1.out; first | omega | exact Nat.le_refl _⟩, ⟨by (with_reducible repeat (first | apply Kd.R_alloc | apply Kd.R_drewN | apply Kd.R_drew)); exact Kd.R_mono (Kd.R_far (p := ⟨gb119, 6, none⟩) (Kd.R_far (p := ⟨gb119, 5, none⟩) (Kd.R_far (p := ⟨gb119, 4, none⟩) (Kd.R_far (p := ⟨gb119, 3, none⟩) (Kd.R_far (p := ⟨gb119, 2, none⟩) (Kd.R_far (p := ⟨gb119, 1, none⟩) (Kd.R_far (p := ⟨gb119, 0, none⟩) (Kd.R_types HO_6.out BK119.out (by decide)) (fun _ hk => hk.2) (.int .i64 ((rd_T38 l1 x14_1).f0))) (fun _ hk => hk.2) (.int .i64 ((rd_T38 l1 x14_1).f1))) (fun _ hk => hk.2) (.int .i64 ((rd_T38 l1 x14_1).f2.f0.f0))) (fun _ hk => hk.2) (.int .i64 ((rd_T38 l1 x14_1).f2.f0.f1))) (fun _ hk => hk.2) (.int .i64 ((rd_T38 l1 x14_1).f2.f1))) (fun _ hk => hk.2) (.bool ((rd_T38 l1 x14_1).f2.f2))) (fun _ hk => hk.2) (.string ((rd_T38 l1 x14_1).f2.f3))) (fun _ hk => hk.1)⟩, ⟨by (with_reducible repeat (first | apply Kd.V_alloc | apply Kd.V_drewN | apply Kd.V_drew)); exact Kd.V_mono (Kd.V_far (p := ⟨gb119, 6, none⟩) (Kd.V_far (p := ⟨gb119, 5, none⟩) (Kd.V_far (p := ⟨gb119, 4, none⟩) (Kd.V_far (p := ⟨gb119, 3, none⟩) (Kd.V_far (p := ⟨gb119, 2, none⟩) (Kd.V_far (p := ⟨gb119, 1, none⟩) (Kd.V_far (p := ⟨gb119, 0, none⟩) (Kd.V_mono HO_7.out (fun k_ hk => (⟨hk, hk.2⟩ : _ ∧ k_ ≠ gb119))) (fun _ hk => hk.2) (.int .i64 ((rd_T38 l1 x14_1).f0))) (fun _ hk => hk.2) (.int .i64 ((rd_T38 l1 x14_1).f1))) (fun _ hk => hk.2) (.int .i64 ((rd_T38 l1 x14_1).f2.f0.f0))) (fun _ hk => hk.2) (.int .i64 ((rd_T38 l1 x14_1).f2.f0.f1))) (fun _ hk => hk.2) (.int .i64 ((rd_T38 l1 x14_1).f2.f1))) (fun _ hk => hk.2) (.bool ((rd_T38 l1 x14_1).f2.f2))) (fun _ hk => hk.2) (.string ((rd_T38 l1 x14_1).f2.f3))) (fun _ hk => ⟨hk.1.1.1, ⟨hk.1.1.2, hk.1.2⟩⟩)⟩, ⟨by (with_reducible repeat (first | refine blk_drewN ?_ _ | refine blk_drew ?_ | refine blk_alloc ?_ _)); refine blk_put (cs := #[.int .i64 ((rd_T38 l1 x14_1).f0), .int .i64 ((rd_T38 l1 x14_1).f1), .int .i64 ((rd_T38 l1 x14_1).f2.f0.f0), .int .i64 ((rd_T38 l1 x14_1).f2.f0.f1), .int .i64 ((rd_T38 l1 x14_1).f2.f1), .bool ((rd_T38 l1 x14_1).f2.f2), .string (⟨#[]⟩ : ByteArray)]) ?_ 6 _ rfl; (with_reducible repeat (first | refine blk_drewN ?_ _ | refine blk_drew ?_ | refine blk_alloc ?_ _)); refine blk_put (cs := #[.int .i64 ((rd_T38 l1 x14_1).f0), .int .i64 ((rd_T38 l1 x14_1).f1), .int .i64 ((rd_T38 l1 x14_1).f2.f0.f0), .int .i64 ((rd_T38 l1 x14_1).f2.f0.f1), .int .i64 ((rd_T38 l1 x14_1).f2.f1), .bool false, .string (⟨#[]⟩ : ByteArray)]) ?_ 5 _ rfl; (with_reducible repeat (first | refine blk_drewN ?_ _ | refine blk_drew ?_ | refine blk_alloc ?_ _)); refine blk_put (cs := #[.int .i64 ((rd_T38 l1 x14_1).f0), .int .i64 ((rd_T38 l1 x14_1).f1), .int .i64 ((rd_T38 l1 x14_1).f2.f0.f0), .int .i64 ((rd_T38 l1 x14_1).f2.f0.f1), .int .i64 0, .bool false, .string (⟨#[]⟩ : ByteArray)]) ?_ 4 _ rfl; (with_reducible repeat (first | refine blk_drewN ?_ _ | refine blk_drew ?_ | refine blk_alloc ?_ _)); refine blk_put (cs := #[.int .i64 ((rd_T38 l1 x14_1).f0), .int .i64 ((rd_T38 l1 x14_1).f1), .int .i64 ((rd_T38 l1 x14_1).f2.f0.f0), .int .i64 0, .int .i64 0, .bool false, .string (⟨#[]⟩ : ByteArray)]) ?_ 3 _ rfl; (with_reducible repeat (first | refine blk_drewN ?_ _ | refine blk_drew ?_ | refine blk_alloc ?_ _)); refine blk_put (cs := #[.int .i64 ((rd_T38 l1 x14_1).f0), .int .i64 ((rd_T38 l1 x14_1).f1), .int .i64 0, .int .i64 0, .int .i64 0, .bool false, .string (⟨#[]⟩ : ByteArray)]) ?_ 2 _ rfl; (with_reducible repeat (first | refine blk_drewN ?_ _ | refine blk_drew ?_ | refine blk_alloc ?_ _)); refine blk_put (cs := #[.int .i64 ((rd_T38 l1 x14_1).f0), .int .i64 0, .int .i64 0, .int .i64 0, .int .i64 0, .bool false, .string (⟨#[]⟩ : ByteArray)]) ?_ 1 _ rfl; (with_reducible repeat (first | refine blk_drewN ?_ _ | refine blk_drew ?_ | refine blk_alloc ?_ _)); refine blk_put (cs := #[.int .i64 0, .int .i64 0, .int .i64 0, .int .i64 0, .int .i64 0, .bool false, .string (⟨#[]⟩ : ByteArray)]) ?_ 0 _ rfl; (with_reducible repeat (first | refine blk_drewN ?_ _ | refine blk_drew ?_ | refine blk_alloc ?_ _)); exact BK119.out⟩, ⟨by repeat (first | (with_reducible first | exact HB.out | apply below_alloc | apply pw_below_drewN | apply below_drew1 | refine below_set ?_ GE119.out) | exact HB.out)⟩⟩
            case rest =>
              clear HC6
              try clear c1
              try clear p1
              try clear q1
              try clear hx1
              try clear p2
              try clear c3
              try clear c3b0
              try clear c4
              try clear c4b0
              try clear c5
              try clear c5b0
              try clear c9
              try clear c9b0
              try clear c9b1
              try clear hcz8_0
              try clear hcz8_1
              try clear hcz8_2
              try clear hcz8_3
              try clear hcz8_4
              try clear hcz8_5
              try clear hcz8_6
              try clear hfz8_0
              try clear hfz8_1
              try clear hfz8_2
              try clear hfz8_3
              try clear hfz8_4
              try clear hfz8_5
              try clear hfz8_6
              try clear hx118_0
              try clear hx118_1
              try clear hx118_2
              try clear hx118_3
              try clear hx118_4
              try clear hx118_5
              try clear hx118_6
              try clear p118
              try clear p2
              try clear q118
              obtain ⟨kq, x20_5, rfl, HA, HJ5, HO_6, HO_7, BK119, HB⟩ := hcut
              cases kq with
              | zero => exact absurd HA.out (by simp [diff_Patch.j1])
              | succ kj5 =>
                have H := HA.out
                clear HA
                simp only [diff_Patch.j1] at H
                by_cases c10 : x20_5 = true
                · subst c10
                  have H1 : (if ((rd_T38 l1 x14_1).f1) < 1 then (diff_Patch.j2 kj5 x6_1 x7_1 l1 (l1.length : Int) x14_1 true ((rd_T38 l1 x14_1).f0) ((rd_T38 l1 x14_1).f1) ((rd_T38 l1 x14_1).f2.f0.f0) ((rd_T38 l1 x14_1).f2.f0.f1) ((rd_T38 l1 x14_1).f2.f1) ((rd_T38 l1 x14_1).f2.f2) ((rd_T38 l1 x14_1).f2.f3)) else (diff_Patch.j2 kj5 x6_1 x7_1 l1 (l1.length : Int) x14_1 (decide (((rd_T38 l1 x14_1).f1) > (x7_1.length : Int))) ((rd_T38 l1 x14_1).f0) ((rd_T38 l1 x14_1).f1) ((rd_T38 l1 x14_1).f2.f0.f0) ((rd_T38 l1 x14_1).f2.f0.f1) ((rd_T38 l1 x14_1).f2.f1) ((rd_T38 l1 x14_1).f2.f2) ((rd_T38 l1 x14_1).f2.f3))) = some (r1, r2) := by rw [if_pos rfl] at H; exact H
                  clear H
                  have H := H1
                  clear H1
                  have HC11 := Aside0.mk H
                  clear H
                  go_upto_region 11 with (fail)
                  repeat (go_quiet (fail); go_upto_region 11 with (fail))
                  go_cut [32] (fun v32 wc => ∃ (kq : Nat) (x32_10 : Bool), v32 = .bool x32_10 ∧ Aside0 (diff_Patch.j2 kq x6_1 x7_1 l1 (l1.length : Int) x14_1 x32_10 ((rd_T38 l1 x14_1).f0) ((rd_T38 l1 x14_1).f1) ((rd_T38 l1 x14_1).f2.f0.f0) ((rd_T38 l1 x14_1).f2.f0.f1) ((rd_T38 l1 x14_1).f2.f1) ((rd_T38 l1 x14_1).f2.f2) ((rd_T38 l1 x14_1).f2.f3) = some (r1, r2)) ∧ Aside0 (kq ≤ kj5) ∧ Aside0 (Kd.R k36 36 wc w.heap.size (fun k_ => (w.heap.size ≤ k_)) u6 x6_1) ∧ Aside0 (Kd.V k36 36 wc w.heap.size (fun k_ => (P0_ k_ ∨ w.heap.size ≤ k_) ∧ some k_ ≠ (u6 : Value).ownBlock ∧ k_ ≠ gb119) u7 x7_1) ∧ Aside0 (wc.heap[gb119]? = some (.cells #[.int .i64 ((rd_T38 l1 x14_1).f0), .int .i64 ((rd_T38 l1 x14_1).f1), .int .i64 ((rd_T38 l1 x14_1).f2.f0.f0), .int .i64 ((rd_T38 l1 x14_1).f2.f0.f1), .int .i64 ((rd_T38 l1 x14_1).f2.f1), .bool ((rd_T38 l1 x14_1).f2.f2), .string ((rd_T38 l1 x14_1).f2.f3)] 38 (0, 0))) ∧ Aside0 (Below w.heap.size w wc))
                  case first =>
                    have H := HC11.out
                    clear HC11
                    by_cases c12 : ((rd_T38 l1 x14_1).f1) < 1
                    · rw [if_pos c12] at H
                      have c12b0 : decide (((rd_T38 l1 x14_1).f1) < 1) = true := decide_eq_true c12
                      clear c12
                      (first | rw [c12b0] | (simp only [i64_w, i32_w]; rw [c12b0]) | skip)
                      have H' := Aside0.mk H
                      clear H
                      have hcz13_0 : wc.cell? ⟨gb119, 0, none⟩ = some (.int .i64 ((rd_T38 l1 x14_1).f0)) := (blk_cell BK119.out 0).trans rfl
                      have hcz13_1 : wc.cell? ⟨gb119, 1, none⟩ = some (.int .i64 ((rd_T38 l1 x14_1).f1)) := (blk_cell BK119.out 1).trans rfl
                      have hcz13_2 : wc.cell? ⟨gb119, 2, none⟩ = some (.int .i64 ((rd_T38 l1 x14_1).f2.f0.f0)) := (blk_cell BK119.out 2).trans rfl
                      have hcz13_3 : wc.cell? ⟨gb119, 3, none⟩ = some (.int .i64 ((rd_T38 l1 x14_1).f2.f0.f1)) := (blk_cell BK119.out 3).trans rfl
                      have hcz13_4 : wc.cell? ⟨gb119, 4, none⟩ = some (.int .i64 ((rd_T38 l1 x14_1).f2.f1)) := (blk_cell BK119.out 4).trans rfl
                      have hcz13_5 : wc.cell? ⟨gb119, 5, none⟩ = some (.bool ((rd_T38 l1 x14_1).f2.f2)) := (blk_cell BK119.out 5).trans rfl
                      have hcz13_6 : wc.cell? ⟨gb119, 6, none⟩ = some (.string ((rd_T38 l1 x14_1).f2.f3)) := (blk_cell BK119.out 6).trans rfl
                      have hfz13_0 := blk_frozen BK119.out 0
                      have hfz13_1 := blk_frozen BK119.out 1
                      have hfz13_2 := blk_frozen BK119.out 2
                      have hfz13_3 := blk_frozen BK119.out 3
                      have hfz13_4 := blk_frozen BK119.out 4
                      have hfz13_5 := blk_frozen BK119.out 5
                      have hfz13_6 := blk_frozen BK119.out 6
                      go_wp2
                      repeat (go_quiet (fail); try go_wp2)
                      go_meet
                      case rel => exact ⟨_, (true), (by first | rfl | (simp; done) | (simp [*]; done)), H', ⟨by have := HK1.out; have := HJ5.out; first | omega | exact Nat.le_refl _⟩, ⟨by (with_reducible repeat (first | apply Kd.R_alloc | apply Kd.R_drewN | apply Kd.R_drew)); exact HO_6.out⟩, ⟨by (with_reducible repeat (first | apply Kd.V_alloc | apply Kd.V_drewN | apply Kd.V_drew)); exact HO_7.out⟩, ⟨by (with_reducible repeat (first | refine blk_drewN ?_ _ | refine blk_drew ?_ | refine blk_alloc ?_ _)); exact BK119.out⟩, ⟨by repeat (first | (with_reducible first | exact HB.out | apply below_alloc | apply pw_below_drewN | apply below_drew1 | refine below_set ?_ GE119.out) | exact HB.out)⟩⟩
                    · rw [if_neg c12] at H
                      have c12b0 : decide (((rd_T38 l1 x14_1).f1) < 1) = false := decide_eq_false c12
                      clear c12
                      (first | rw [c12b0] | (simp only [i64_w, i32_w]; rw [c12b0]) | skip)
                      have H' := Aside0.mk H
                      clear H
                      have hcz14_0 : wc.cell? ⟨gb119, 0, none⟩ = some (.int .i64 ((rd_T38 l1 x14_1).f0)) := (blk_cell BK119.out 0).trans rfl
                      have hcz14_1 : wc.cell? ⟨gb119, 1, none⟩ = some (.int .i64 ((rd_T38 l1 x14_1).f1)) := (blk_cell BK119.out 1).trans rfl
                      have hcz14_2 : wc.cell? ⟨gb119, 2, none⟩ = some (.int .i64 ((rd_T38 l1 x14_1).f2.f0.f0)) := (blk_cell BK119.out 2).trans rfl
                      have hcz14_3 : wc.cell? ⟨gb119, 3, none⟩ = some (.int .i64 ((rd_T38 l1 x14_1).f2.f0.f1)) := (blk_cell BK119.out 3).trans rfl
                      have hcz14_4 : wc.cell? ⟨gb119, 4, none⟩ = some (.int .i64 ((rd_T38 l1 x14_1).f2.f1)) := (blk_cell BK119.out 4).trans rfl
                      have hcz14_5 : wc.cell? ⟨gb119, 5, none⟩ = some (.bool ((rd_T38 l1 x14_1).f2.f2)) := (blk_cell BK119.out 5).trans rfl
                      have hcz14_6 : wc.cell? ⟨gb119, 6, none⟩ = some (.string ((rd_T38 l1 x14_1).f2.f3)) := (blk_cell BK119.out 6).trans rfl
                      have hfz14_0 := blk_frozen BK119.out 0
                      have hfz14_1 := blk_frozen BK119.out 1
                      have hfz14_2 := blk_frozen BK119.out 2
                      have hfz14_3 := blk_frozen BK119.out 3
                      have hfz14_4 := blk_frozen BK119.out 4
                      have hfz14_5 := blk_frozen BK119.out 5
                      have hfz14_6 := blk_frozen BK119.out 6
                      obtain ⟨Ao15, co15, eo15⟩ := Kd.V_slice HO_7.out
                      subst eo15
                      go_wp2
                      repeat (go_quiet (fail); try go_wp2)
                      go_meet
                      case rel => exact ⟨_, (decide (((rd_T38 l1 x14_1).f1) > (x7_1.length : Int))), (by first | rfl | (simp; done) | (simp [*]; done)), H', ⟨by have := HK1.out; have := HJ5.out; first | omega | exact Nat.le_refl _⟩, ⟨by (with_reducible repeat (first | apply Kd.R_alloc | apply Kd.R_drewN | apply Kd.R_drew)); exact HO_6.out⟩, ⟨by (with_reducible repeat (first | apply Kd.V_alloc | apply Kd.V_drewN | apply Kd.V_drew)); exact HO_7.out⟩, ⟨by (with_reducible repeat (first | refine blk_drewN ?_ _ | refine blk_drew ?_ | refine blk_alloc ?_ _)); exact BK119.out⟩, ⟨by repeat (first | (with_reducible first | exact HB.out | apply below_alloc | apply pw_below_drewN | apply below_drew1 | refine below_set ?_ GE119.out) | exact HB.out)⟩⟩
                  case rest =>
                    clear HC11
                    try clear c1
                    try clear p1
                    try clear q1
                    try clear hx1
                    try clear p2
                    try clear c3
                    try clear c3b0
                    try clear c4
                    try clear c4b0
                    try clear c5
                    try clear c5b0
                    try clear c9
                    try clear c9b0
                    try clear c9b1
                    try clear c10
                    try clear p11
                    try clear q11
                    try clear hx11
                    try clear c12
                    try clear c12b0
                    try clear c13
                    try clear hcz13_0
                    try clear hcz13_1
                    try clear hcz13_2
                    try clear hcz13_3
                    try clear hcz13_4
                    try clear hcz13_5
                    try clear hcz13_6
                    try clear hcz14_0
                    try clear hcz14_1
                    try clear hcz14_2
                    try clear hcz14_3
                    try clear hcz14_4
                    try clear hcz14_5
                    try clear hcz14_6
                    try clear hcz8_0
                    try clear hcz8_1
                    try clear hcz8_2
                    try clear hcz8_3
                    try clear hcz8_4
                    try clear hcz8_5
                    try clear hcz8_6
                    try clear hfz13_0
                    try clear hfz13_1
                    try clear hfz13_2
                    try clear hfz13_3
                    try clear hfz13_4
                    try clear hfz13_5
                    try clear hfz13_6
                    try clear hfz14_0
                    try clear hfz14_1
                    try clear hfz14_2
                    try clear hfz14_3
                    try clear hfz14_4
                    try clear hfz14_5
                    try clear hfz14_6
                    try clear hfz8_0
                    try clear hfz8_1
                    try clear hfz8_2
                    try clear hfz8_3
                    try clear hfz8_4
                    try clear hfz8_5
                    try clear hfz8_6
                    try clear hx118_0
                    try clear hx118_1
                    try clear hx118_2
                    try clear hx118_3
                    try clear hx118_4
                    try clear hx118_5
                    try clear hx118_6
                    try clear p1
                    try clear p118
                    try clear p2
                    try clear q1
                    try clear q118
                    obtain ⟨kq, x32_10, rfl, HA, HJ10, HO_6, HO_7, BK119, HB⟩ := hcut
                    cases kq with
                    | zero => exact absurd HA.out (by simp [diff_Patch.j2])
                    | succ kj10 =>
                      have H := HA.out
                      clear HA
                      simp only [diff_Patch.j2] at H
                      by_cases c16 : x32_10 = true
                      · subst c16
                        have H1 : (some (([] : List (S36)), 10)) = some (r1, r2) := by rw [if_pos rfl] at H; exact H
                        clear H
                        have H := H1
                        clear H1
                        simp only [Option.some.injEq, Prod.mk.injEq] at H
                        obtain ⟨rfl, rfl⟩ := H
                        go_wp2
                        repeat (go_quiet (fail); try go_wp2)
                        go_ret2
                        exact ⟨_, by first | rfl | (simp [errW_none, errW_some] <;> rfl) | (simp [*, errW_none, errW_some] <;> rfl), by first | exact Kd.R_nil _ _ _ _ _ | exact Kd.N_nil _ _ _ _ _ | exact Kd.V_nil _ _ _ _ _ | exact Kd.Q_nil _ _ _ _ _ | exact Kd.S_nil _ _ _ _ _, by repeat (first | (with_reducible first | exact HB.out | apply below_alloc | apply pw_below_drewN | apply below_drew1 | refine below_set ?_ GE119.out) | exact HB.out)⟩
                      · replace c16 := Bool.eq_false_iff.mpr c16
                        subst c16
                        have H1 : (if ((rd_T38 l1 x14_1).f0) = 1 then (if 0 ≤ ((rd_T38 l1 x14_1).f1) then (if ((rd_T38 l1 x14_1).f1) ≤ (x7_1.length : Int) then ((some (x7_1.take (((rd_T38 l1 x14_1).f1) : Int).toNat : List (S36))).bind fun y120 => (if x6_1.length + y120.length < 2932031007402 then (diff_Patch.l0 kj10 (x6_1 ++ y120) (x7_1.drop (((rd_T38 l1 x14_1).f1) : Int).toNat) l1 (l1.length : Int) (wrap64 (x14_1 + 1))) else (none))) else (none)) else (none)) else (if 0 ≤ ((rd_T38 l1 x14_1).f1) then (if ((rd_T38 l1 x14_1).f1) ≤ (x7_1.length : Int) then (diff_Patch.l0 kj10 x6_1 (x7_1.drop (((rd_T38 l1 x14_1).f1) : Int).toNat) l1 (l1.length : Int) (wrap64 (x14_1 + 1))) else (none)) else (none))) = some (r1, r2) := by rw [if_neg (show ¬ (false = true) by decide)] at H; exact H
                        clear H
                        have H := H1
                        clear H1
                        by_cases c17 : ((rd_T38 l1 x14_1).f0) = 1
                        · rw [if_pos c17] at H
                          have c17b0 : (((rd_T38 l1 x14_1).f0) == 1) = true := beq_iff_eq.mpr c17
                          have c17b1 : (((rd_T38 l1 x14_1).f0) != 1) = false := bne_eq_false_iff_eq.mpr c17
                          clear c17
                          by_cases c18 : 0 ≤ ((rd_T38 l1 x14_1).f1)
                          · rw [if_pos c18] at H
                            have c18b0 := eq_true c18
                            have c18b1 : decide (0 ≤ ((rd_T38 l1 x14_1).f1)) = true := decide_eq_true c18
                            clear c18
                            by_cases c19 : ((rd_T38 l1 x14_1).f1) ≤ (x7_1.length : Int)
                            · rw [if_pos c19] at H
                              have c19b0 := eq_true c19
                              have c19b1 : decide (((rd_T38 l1 x14_1).f1) ≤ (x7_1.length : Int)) = true := decide_eq_true c19
                              clear c19
                              obtain ⟨y120, hy120⟩ : ∃ y_ : List (S36), y_ = (x7_1.take (((rd_T38 l1 x14_1).f1) : Int).toNat) := ⟨_, rfl⟩
                              replace H : (if x6_1.length + y120.length < 2932031007402 then (diff_Patch.l0 kj10 (x6_1 ++ y120) (x7_1.drop (((rd_T38 l1 x14_1).f1) : Int).toNat) l1 (l1.length : Int) (wrap64 (x14_1 + 1))) else (none)) = some (r1, r2) := by first | (rw [hy120]; with_reducible exact H) | (have H2_ := (Option.bind_some _ _).symm.trans H; rw [hy120]; with_reducible exact H2_) | (have H2_ := (Option.bind_some _ _).symm.trans H; with_reducible exact H2_) | with_reducible exact H | (rw [hy120]; exact H) | exact H
                              have Ny120 := Aside0.mk hy120
                              clear hy120
                              by_cases c20 : x6_1.length + y120.length < 2932031007402
                              · rw [if_pos c20] at H
                                have LMc20 := Aside0.mk c20
                                clear c20
                                obtain ⟨y125, hy125⟩ : ∃ y_ : List (S36), y_ = (x6_1 ++ y120) := ⟨_, rfl⟩
                                replace H : (diff_Patch.l0 kj10 y125 (x7_1.drop (((rd_T38 l1 x14_1).f1) : Int).toNat) l1 (l1.length : Int) (wrap64 (x14_1 + 1))) = some (r1, r2) := by first | (rw [hy125]; with_reducible exact H) | (have H2_ := (Option.bind_some _ _).symm.trans H; rw [hy125]; with_reducible exact H2_) | (have H2_ := (Option.bind_some _ _).symm.trans H; with_reducible exact H2_) | with_reducible exact H | (rw [hy125]; exact H) | exact H
                                have Ny125 := Aside0.mk hy125
                                clear hy125
                                have c21b0 := eq_true (of_decide_eq_true (by first | (with_reducible assumption) | assumption) : 0 ≤ ((rd_T38 l1 x14_1).f1))
                                have c22b0 := eq_true (of_decide_eq_true (by first | (with_reducible assumption) | assumption) : ((rd_T38 l1 x14_1).f1) ≤ (x7_1.length : Int))
                                obtain ⟨y128, hy128⟩ : ∃ y_ : List (S36), y_ = (x7_1.drop (((rd_T38 l1 x14_1).f1) : Int).toNat) := ⟨_, rfl⟩
                                replace H : (diff_Patch.l0 kj10 y125 y128 l1 (l1.length : Int) (wrap64 (x14_1 + 1))) = some (r1, r2) := by first | (rw [hy128]; with_reducible exact H) | (have H2_ := (Option.bind_some _ _).symm.trans H; rw [hy128]; with_reducible exact H2_) | (have H2_ := (Option.bind_some _ _).symm.trans H; with_reducible exact H2_) | with_reducible exact H | (rw [hy128]; exact H) | exact H
                                have Ny128 := Aside0.mk hy128
                                clear hy128
                                have H' := Aside0.mk H
                                clear H
                                have hcz23_0 : wc.cell? ⟨gb119, 0, none⟩ = some (.int .i64 ((rd_T38 l1 x14_1).f0)) := (blk_cell BK119.out 0).trans rfl
                                have hcz23_1 : wc.cell? ⟨gb119, 1, none⟩ = some (.int .i64 ((rd_T38 l1 x14_1).f1)) := (blk_cell BK119.out 1).trans rfl
                                have hcz23_2 : wc.cell? ⟨gb119, 2, none⟩ = some (.int .i64 ((rd_T38 l1 x14_1).f2.f0.f0)) := (blk_cell BK119.out 2).trans rfl
                                have hcz23_3 : wc.cell? ⟨gb119, 3, none⟩ = some (.int .i64 ((rd_T38 l1 x14_1).f2.f0.f1)) := (blk_cell BK119.out 3).trans rfl
                                have hcz23_4 : wc.cell? ⟨gb119, 4, none⟩ = some (.int .i64 ((rd_T38 l1 x14_1).f2.f1)) := (blk_cell BK119.out 4).trans rfl
                                have hcz23_5 : wc.cell? ⟨gb119, 5, none⟩ = some (.bool ((rd_T38 l1 x14_1).f2.f2)) := (blk_cell BK119.out 5).trans rfl
                                have hcz23_6 : wc.cell? ⟨gb119, 6, none⟩ = some (.string ((rd_T38 l1 x14_1).f2.f3)) := (blk_cell BK119.out 6).trans rfl
                                have hfz23_0 := blk_frozen BK119.out 0
                                have hfz23_1 := blk_frozen BK119.out 1
                                have hfz23_2 := blk_frozen BK119.out 2
                                have hfz23_3 := blk_frozen BK119.out 3
                                have hfz23_4 := blk_frozen BK119.out 4
                                have hfz23_5 := blk_frozen BK119.out 5
                                have hfz23_6 := blk_frozen BK119.out 6
                                obtain ⟨Ao25, co25, eo25⟩ := Kd.V_slice HO_7.out
                                subst eo25
                                have q24 : (((rd_T38 l1 x14_1).f1) : Int) ≤ ((x7_1.length : Int) : Int) := of_decide_eq_true (by first | (with_reducible assumption) | assumption)
                                obtain ⟨i024, hi024, _, hsz24, _⟩ := info_parts info36
                                have hroom24 : x7_1.length ≤ co25 := (Kd.V_reads' HO_7.out).2.1
                                have hC24 : Kd.F k36 _ _ Ao25 x7_1.length x7_1 := (Kd.V_at (base := w.heap.size) HO_7.out).2.2
                                have hcut24 := cut_to (P := Try.prog) 22 36 .i64 Try.underlying22 hi024 Ao25 x7_1.length co25 ((rd_T38 l1 x14_1).f1) (of_decide_eq_true (by first | (with_reducible assumption) | assumption)) q24 hroom24
                                have hr24 := Kd.F_take (m := (((rd_T38 l1 x14_1).f1) : Int).toNat) hC24 (by omega)
                                have hy24 : y120.length = (((rd_T38 l1 x14_1).f1) : Int).toNat := (by rw [Ny120.out, List.length_take]; omega)
                                rw [← Ny120.out] at hr24
                                rw [← hy24] at hcut24
                                have HO124 := Aside0.mk (show Kd.V k36 36 _ w.heap.size _ (.slice Ao25 y120.length co25) y120 from Kd.V_mk (by omega) hr24)
                                have HC124 := Aside0.mk (show y120.length ≤ co25 from by omega)
                                clear hr24 hC24 hroom24 hi024 hsz24
                                have KY24 := Aside0.mk hy24
                                clear hy24
                                replace q24 := eq_true q24
                                go_wp2_with (first | ((with_reducible refine gate_builtin (b := .append) (xs := #[.tmp 38, .tmp 41]) rfl ?_); (try (refine gate_guard (by rfl) ?_; dsimp only)); at_builtin; refine Kd.R_append_rows k36 (w0 := w) w.heap.size rfl (.tmp 38) (.tmp 41) 22 36 (.agg #[(.int .i64 0), (.int .i64 0), (.int .i64 0), (.bool false), (.string ⟨#[]⟩)]) 48 rfl Try.underlying22 info36 rfl (by decide) (by omega) u6 x6_1 y120 _ _ _ (fun k_ => (w.heap.size ≤ k_)) (fun _ => False) rfl rfl ?aO ?aR (fun _ _ h => h) (fun _ h => h.elim) ?aF ?aB ?aS ?aL ?_; (case aR => repeat (first | exact (Kd.V_reads' HO124.out).2.2 | (with_reducible refine Kd.C_alloc ?_ _) | (with_reducible refine Kd.C_drewN ?_ _) | (with_reducible refine Kd.C_drew ?_))); (case aB => exact (by repeat (first | (with_reducible first | exact HB.out | apply below_alloc | apply pw_below_drewN | apply below_drew1 | refine below_set ?_ GE119.out) | exact HB.out))); (case aF => exact (fun k_ hk => (Nat.le_trans (below_size (by repeat (first | (with_reducible first | exact HB.out | apply below_alloc | apply pw_below_drewN | apply below_drew1 | refine below_set ?_ GE119.out) | exact HB.out))) hk))); (case aO => exact (by (with_reducible repeat (first | apply Kd.R_alloc | apply Kd.R_drewN | apply Kd.R_drew)); exact HO_6.out)); (case aS => exact (below_size (by repeat (first | (with_reducible first | exact HB.out | apply below_alloc | apply pw_below_drewN | apply below_drew1 | refine below_set ?_ GE119.out) | exact HB.out)))); (case aL => have := LMc20.out; omega); intro v126 w26 ho hb hg hat; rw [← Ny125.out] at ho; have n0_ := Aside0.mk (Kd.V_afterv (ok := (fun k_ => (P0_ k_ ∨ w.heap.size ≤ k_) ∧ k_ ≠ gb119)) (by (with_reducible repeat (first | apply Kd.V_alloc | apply Kd.V_drewN | apply Kd.V_drew)); exact Kd.V_mono HO_7.out (fun _ hk => ⟨⟨hk.1, hk.2.2⟩, hk.2.1⟩)) hg hat); have n1_ := Aside0.mk (blk_grown (g := gb119) (o := .cells #[.int .i64 ((rd_T38 l1 x14_1).f0), .int .i64 ((rd_T38 l1 x14_1).f1), .int .i64 ((rd_T38 l1 x14_1).f2.f0.f0), .int .i64 ((rd_T38 l1 x14_1).f2.f0.f1), .int .i64 ((rd_T38 l1 x14_1).f2.f1), .bool ((rd_T38 l1 x14_1).f2.f2), .string ((rd_T38 l1 x14_1).f2.f3)] 38 (0, 0)) (by (with_reducible repeat (first | refine blk_drewN ?_ _ | refine blk_drew ?_ | refine blk_alloc ?_ _)); exact BK119.out) hg (Kd.R_ne HO_6.out BK119.out (by decide))); have n2_ := Aside0.mk (Kd.V_afterv (ok := (fun k_ => (P0_ k_ ∨ w.heap.size ≤ k_) ∧ k_ ≠ gb119)) (by (with_reducible repeat (first | apply Kd.V_alloc | apply Kd.V_drewN | apply Kd.V_drew)); exact Kd.V_mono HO124.out (fun _ hk => ⟨⟨hk.1, hk.2.2⟩, hk.2.1⟩)) hg hat); have n3_ := Aside0.mk (hb); have n4_ := Aside0.mk (ho); clear HO_7; clear BK119; clear HO124; clear HB; clear HO_6; have HO_7 := n0_; have BK119 := n1_; have HO124 := n2_; have HB := n3_; have HO127 := n4_; clear n0_ n1_ n2_ n3_ n4_; clear ho hb hg hat; have q27 : (((rd_T38 l1 x14_1).f1) : Int) ≤ ((x7_1.length : Int) : Int) := of_decide_eq_true (by first | (with_reducible assumption) | assumption); obtain ⟨i027, hi027, _, hsz27, _⟩ := info_parts info36; have hroom27 : x7_1.length ≤ co25 := (Kd.V_reads' HO_7.out).2.1; have hC27 : Kd.F k36 _ _ Ao25 x7_1.length x7_1 := (Kd.V_at (base := w.heap.size) HO_7.out).2.2; have q027 : (0 : Int) ≤ (((rd_T38 l1 x14_1).f1) : Int) := of_decide_eq_true (by first | (with_reducible assumption) | assumption); have hcut27 := cut_from (P := Try.prog) 22 36 .i64 Try.underlying22 hi027 5 hsz27 Ao25 x7_1.length co25 ((rd_T38 l1 x14_1).f1) q027 q27; have hr27 := Kd.F_cut (m := (((rd_T38 l1 x14_1).f1) : Int).toNat) (c := co25) hC27 (by omega) hroom27; obtain ⟨A27, hA27⟩ : ∃ A1, A1 = (if co25 = (((rd_T38 l1 x14_1).f1) : Int).toNat then Ao25 else (Ao25 : Option Addr).map (·.add ((((rd_T38 l1 x14_1).f1) : Int).toNat * 5))) := ⟨_, rfl⟩; obtain ⟨c27, hc27⟩ : ∃ c1, c1 = co25 - (((rd_T38 l1 x14_1).f1) : Int).toNat := ⟨_, rfl⟩; have hy27 : y128.length = x7_1.length - (((rd_T38 l1 x14_1).f1) : Int).toNat := (by rw [Ny128.out, List.length_drop] <;> omega); rw [show (x7_1).drop (((rd_T38 l1 x14_1).f1) : Int).toNat = y128 from Ny128.out.symm] at hr27; replace hr27 : Kd.F k36 _ _ A27 y128.length y128 := (by rw [hA27]; exact hr27); rw [← hy27, ← hA27, ← hc27] at hcut27; have HO132 := Aside0.mk (show Kd.V k36 36 _ w.heap.size _ (.slice A27 y128.length c27) y128 from Kd.V_mk (by rw [hy27, hc27]; exact Nat.sub_le_sub_right hroom27 _) hr27); have HC132 := Aside0.mk (show y128.length ≤ c27 from by rw [hy27, hc27]; exact Nat.sub_le_sub_right hroom27 _); clear hr27 hC27 hroom27 hi027 hsz27 hc27; have KY27 := Aside0.mk hy27; have KA27 := Aside0.mk hA27; clear hy27 hA27; replace q27 := eq_true q27))
                                repeat (go_quiet (first | ((with_reducible refine gate_builtin (b := .append) (xs := #[.tmp 38, .tmp 41]) rfl ?_); (try (refine gate_guard (by rfl) ?_; dsimp only)); at_builtin; refine Kd.R_append_rows k36 (w0 := w) w.heap.size rfl (.tmp 38) (.tmp 41) 22 36 (.agg #[(.int .i64 0), (.int .i64 0), (.int .i64 0), (.bool false), (.string ⟨#[]⟩)]) 48 rfl Try.underlying22 info36 rfl (by decide) (by omega) u6 x6_1 y120 _ _ _ (fun k_ => (w.heap.size ≤ k_)) (fun _ => False) rfl rfl ?aO ?aR (fun _ _ h => h) (fun _ h => h.elim) ?aF ?aB ?aS ?aL ?_; (case aR => repeat (first | exact (Kd.V_reads' HO124.out).2.2 | (with_reducible refine Kd.C_alloc ?_ _) | (with_reducible refine Kd.C_drewN ?_ _) | (with_reducible refine Kd.C_drew ?_))); (case aB => exact (by repeat (first | (with_reducible first | exact HB.out | apply below_alloc | apply pw_below_drewN | apply below_drew1 | refine below_set ?_ GE119.out) | exact HB.out))); (case aF => exact (fun k_ hk => (Nat.le_trans (below_size (by repeat (first | (with_reducible first | exact HB.out | apply below_alloc | apply pw_below_drewN | apply below_drew1 | refine below_set ?_ GE119.out) | exact HB.out))) hk))); (case aO => exact (by (with_reducible repeat (first | apply Kd.R_alloc | apply Kd.R_drewN | apply Kd.R_drew)); exact HO_6.out)); (case aS => exact (below_size (by repeat (first | (with_reducible first | exact HB.out | apply below_alloc | apply pw_below_drewN | apply below_drew1 | refine below_set ?_ GE119.out) | exact HB.out)))); (case aL => have := LMc20.out; omega); intro v126 w26 ho hb hg hat; rw [← Ny125.out] at ho; have n0_ := Aside0.mk (Kd.V_afterv (ok := (fun k_ => (P0_ k_ ∨ w.heap.size ≤ k_) ∧ k_ ≠ gb119)) (by (with_reducible repeat (first | apply Kd.V_alloc | apply Kd.V_drewN | apply Kd.V_drew)); exact Kd.V_mono HO_7.out (fun _ hk => ⟨⟨hk.1, hk.2.2⟩, hk.2.1⟩)) hg hat); have n1_ := Aside0.mk (blk_grown (g := gb119) (o := .cells #[.int .i64 ((rd_T38 l1 x14_1).f0), .int .i64 ((rd_T38 l1 x14_1).f1), .int .i64 ((rd_T38 l1 x14_1).f2.f0.f0), .int .i64 ((rd_T38 l1 x14_1).f2.f0.f1), .int .i64 ((rd_T38 l1 x14_1).f2.f1), .bool ((rd_T38 l1 x14_1).f2.f2), .string ((rd_T38 l1 x14_1).f2.f3)] 38 (0, 0)) (by (with_reducible repeat (first | refine blk_drewN ?_ _ | refine blk_drew ?_ | refine blk_alloc ?_ _)); exact BK119.out) hg (Kd.R_ne HO_6.out BK119.out (by decide))); have n2_ := Aside0.mk (Kd.V_afterv (ok := (fun k_ => (P0_ k_ ∨ w.heap.size ≤ k_) ∧ k_ ≠ gb119)) (by (with_reducible repeat (first | apply Kd.V_alloc | apply Kd.V_drewN | apply Kd.V_drew)); exact Kd.V_mono HO124.out (fun _ hk => ⟨⟨hk.1, hk.2.2⟩, hk.2.1⟩)) hg hat); have n3_ := Aside0.mk (hb); have n4_ := Aside0.mk (ho); clear HO_7; clear BK119; clear HO124; clear HB; clear HO_6; have HO_7 := n0_; have BK119 := n1_; have HO124 := n2_; have HB := n3_; have HO127 := n4_; clear n0_ n1_ n2_ n3_ n4_; clear ho hb hg hat; have q27 : (((rd_T38 l1 x14_1).f1) : Int) ≤ ((x7_1.length : Int) : Int) := of_decide_eq_true (by first | (with_reducible assumption) | assumption); obtain ⟨i027, hi027, _, hsz27, _⟩ := info_parts info36; have hroom27 : x7_1.length ≤ co25 := (Kd.V_reads' HO_7.out).2.1; have hC27 : Kd.F k36 _ _ Ao25 x7_1.length x7_1 := (Kd.V_at (base := w.heap.size) HO_7.out).2.2; have q027 : (0 : Int) ≤ (((rd_T38 l1 x14_1).f1) : Int) := of_decide_eq_true (by first | (with_reducible assumption) | assumption); have hcut27 := cut_from (P := Try.prog) 22 36 .i64 Try.underlying22 hi027 5 hsz27 Ao25 x7_1.length co25 ((rd_T38 l1 x14_1).f1) q027 q27; have hr27 := Kd.F_cut (m := (((rd_T38 l1 x14_1).f1) : Int).toNat) (c := co25) hC27 (by omega) hroom27; obtain ⟨A27, hA27⟩ : ∃ A1, A1 = (if co25 = (((rd_T38 l1 x14_1).f1) : Int).toNat then Ao25 else (Ao25 : Option Addr).map (·.add ((((rd_T38 l1 x14_1).f1) : Int).toNat * 5))) := ⟨_, rfl⟩; obtain ⟨c27, hc27⟩ : ∃ c1, c1 = co25 - (((rd_T38 l1 x14_1).f1) : Int).toNat := ⟨_, rfl⟩; have hy27 : y128.length = x7_1.length - (((rd_T38 l1 x14_1).f1) : Int).toNat := (by rw [Ny128.out, List.length_drop] <;> omega); rw [show (x7_1).drop (((rd_T38 l1 x14_1).f1) : Int).toNat = y128 from Ny128.out.symm] at hr27; replace hr27 : Kd.F k36 _ _ A27 y128.length y128 := (by rw [hA27]; exact hr27); rw [← hy27, ← hA27, ← hc27] at hcut27; have HO132 := Aside0.mk (show Kd.V k36 36 _ w.heap.size _ (.slice A27 y128.length c27) y128 from Kd.V_mk (by rw [hy27, hc27]; exact Nat.sub_le_sub_right hroom27 _) hr27); have HC132 := Aside0.mk (show y128.length ≤ c27 from by rw [hy27, hc27]; exact Nat.sub_le_sub_right hroom27 _); clear hr27 hC27 hroom27 hi027 hsz27 hc27; have KY27 := Aside0.mk hy27; have KA27 := Aside0.mk hA27; clear hy27 hA27; replace q27 := eq_true q27)); try go_wp2_with (first | ((with_reducible refine gate_builtin (b := .append) (xs := #[.tmp 38, .tmp 41]) rfl ?_); (try (refine gate_guard (by rfl) ?_; dsimp only)); at_builtin; refine Kd.R_append_rows k36 (w0 := w) w.heap.size rfl (.tmp 38) (.tmp 41) 22 36 (.agg #[(.int .i64 0), (.int .i64 0), (.int .i64 0), (.bool false), (.string ⟨#[]⟩)]) 48 rfl Try.underlying22 info36 rfl (by decide) (by omega) u6 x6_1 y120 _ _ _ (fun k_ => (w.heap.size ≤ k_)) (fun _ => False) rfl rfl ?aO ?aR (fun _ _ h => h) (fun _ h => h.elim) ?aF ?aB ?aS ?aL ?_; (case aR => repeat (first | exact (Kd.V_reads' HO124.out).2.2 | (with_reducible refine Kd.C_alloc ?_ _) | (with_reducible refine Kd.C_drewN ?_ _) | (with_reducible refine Kd.C_drew ?_))); (case aB => exact (by repeat (first | (with_reducible first | exact HB.out | apply below_alloc | apply pw_below_drewN | apply below_drew1 | refine below_set ?_ GE119.out) | exact HB.out))); (case aF => exact (fun k_ hk => (Nat.le_trans (below_size (by repeat (first | (with_reducible first | exact HB.out | apply below_alloc | apply pw_below_drewN | apply below_drew1 | refine below_set ?_ GE119.out) | exact HB.out))) hk))); (case aO => exact (by (with_reducible repeat (first | apply Kd.R_alloc | apply Kd.R_drewN | apply Kd.R_drew)); exact HO_6.out)); (case aS => exact (below_size (by repeat (first | (with_reducible first | exact HB.out | apply below_alloc | apply pw_below_drewN | apply below_drew1 | refine below_set ?_ GE119.out) | exact HB.out)))); (case aL => have := LMc20.out; omega); intro v126 w26 ho hb hg hat; rw [← Ny125.out] at ho; have n0_ := Aside0.mk (Kd.V_afterv (ok := (fun k_ => (P0_ k_ ∨ w.heap.size ≤ k_) ∧ k_ ≠ gb119)) (by (with_reducible repeat (first | apply Kd.V_alloc | apply Kd.V_drewN | apply Kd.V_drew)); exact Kd.V_mono HO_7.out (fun _ hk => ⟨⟨hk.1, hk.2.2⟩, hk.2.1⟩)) hg hat); have n1_ := Aside0.mk (blk_grown (g := gb119) (o := .cells #[.int .i64 ((rd_T38 l1 x14_1).f0), .int .i64 ((rd_T38 l1 x14_1).f1), .int .i64 ((rd_T38 l1 x14_1).f2.f0.f0), .int .i64 ((rd_T38 l1 x14_1).f2.f0.f1), .int .i64 ((rd_T38 l1 x14_1).f2.f1), .bool ((rd_T38 l1 x14_1).f2.f2), .string ((rd_T38 l1 x14_1).f2.f3)] 38 (0, 0)) (by (with_reducible repeat (first | refine blk_drewN ?_ _ | refine blk_drew ?_ | refine blk_alloc ?_ _)); exact BK119.out) hg (Kd.R_ne HO_6.out BK119.out (by decide))); have n2_ := Aside0.mk (Kd.V_afterv (ok := (fun k_ => (P0_ k_ ∨ w.heap.size ≤ k_) ∧ k_ ≠ gb119)) (by (with_reducible repeat (first | apply Kd.V_alloc | apply Kd.V_drewN | apply Kd.V_drew)); exact Kd.V_mono HO124.out (fun _ hk => ⟨⟨hk.1, hk.2.2⟩, hk.2.1⟩)) hg hat); have n3_ := Aside0.mk (hb); have n4_ := Aside0.mk (ho); clear HO_7; clear BK119; clear HO124; clear HB; clear HO_6; have HO_7 := n0_; have BK119 := n1_; have HO124 := n2_; have HB := n3_; have HO127 := n4_; clear n0_ n1_ n2_ n3_ n4_; clear ho hb hg hat; have q27 : (((rd_T38 l1 x14_1).f1) : Int) ≤ ((x7_1.length : Int) : Int) := of_decide_eq_true (by first | (with_reducible assumption) | assumption); obtain ⟨i027, hi027, _, hsz27, _⟩ := info_parts info36; have hroom27 : x7_1.length ≤ co25 := (Kd.V_reads' HO_7.out).2.1; have hC27 : Kd.F k36 _ _ Ao25 x7_1.length x7_1 := (Kd.V_at (base := w.heap.size) HO_7.out).2.2; have q027 : (0 : Int) ≤ (((rd_T38 l1 x14_1).f1) : Int) := of_decide_eq_true (by first | (with_reducible assumption) | assumption); have hcut27 := cut_from (P := Try.prog) 22 36 .i64 Try.underlying22 hi027 5 hsz27 Ao25 x7_1.length co25 ((rd_T38 l1 x14_1).f1) q027 q27; have hr27 := Kd.F_cut (m := (((rd_T38 l1 x14_1).f1) : Int).toNat) (c := co25) hC27 (by omega) hroom27; obtain ⟨A27, hA27⟩ : ∃ A1, A1 = (if co25 = (((rd_T38 l1 x14_1).f1) : Int).toNat then Ao25 else (Ao25 : Option Addr).map (·.add ((((rd_T38 l1 x14_1).f1) : Int).toNat * 5))) := ⟨_, rfl⟩; obtain ⟨c27, hc27⟩ : ∃ c1, c1 = co25 - (((rd_T38 l1 x14_1).f1) : Int).toNat := ⟨_, rfl⟩; have hy27 : y128.length = x7_1.length - (((rd_T38 l1 x14_1).f1) : Int).toNat := (by rw [Ny128.out, List.length_drop] <;> omega); rw [show (x7_1).drop (((rd_T38 l1 x14_1).f1) : Int).toNat = y128 from Ny128.out.symm] at hr27; replace hr27 : Kd.F k36 _ _ A27 y128.length y128 := (by rw [hA27]; exact hr27); rw [← hy27, ← hA27, ← hc27] at hcut27; have HO132 := Aside0.mk (show Kd.V k36 36 _ w.heap.size _ (.slice A27 y128.length c27) y128 from Kd.V_mk (by rw [hy27, hc27]; exact Nat.sub_le_sub_right hroom27 _) hr27); have HC132 := Aside0.mk (show y128.length ≤ c27 from by rw [hy27, hc27]; exact Nat.sub_le_sub_right hroom27 _); clear hr27 hC27 hroom27 hi027 hsz27 hc27; have KY27 := Aside0.mk hy27; have KA27 := Aside0.mk hA27; clear hy27 hA27; replace q27 := eq_true q27)))
                                go_roundg kj10
                                case measure => have := HK1.out; have := HJ5.out; have := HJ10.out; omega
                                case rel => exact ⟨(y125), (y128), (wrap64 (x14_1 + 1)), (by first | rfl | (simp; done) | (simp [*]; done)), H', ⟨by have := HK1.out; have := HJ5.out; have := HJ10.out; omega⟩, ⟨by (with_reducible repeat (first | apply Kd.R_alloc | apply Kd.R_drewN | apply Kd.R_drew)); exact HO127.out⟩, ⟨by (with_reducible repeat (first | apply Kd.V_alloc | apply Kd.V_drewN | apply Kd.V_drew)); exact Kd.V_mono HO132.out (fun _ hk => ⟨hk.1.1, hk.2⟩)⟩, ⟨by repeat (first | (with_reducible first | exact HB.out | apply below_alloc | apply pw_below_drewN | apply below_drew1 | refine below_set ?_ GE119.out) | exact HB.out)⟩⟩
                              · rw [if_neg c20] at H
                                exact absurd H (by simp)
                            · rw [if_neg c19] at H
                              exact absurd H (by simp)
                          · rw [if_neg c18] at H
                            exact absurd H (by simp)
                        · rw [if_neg c17] at H
                          have c17b0 : (((rd_T38 l1 x14_1).f0) == 1) = false := beq_eq_false_iff_ne.mpr c17
                          have c17b1 : (((rd_T38 l1 x14_1).f0) != 1) = true := bne_iff_ne.mpr c17
                          by_cases c28 : 0 ≤ ((rd_T38 l1 x14_1).f1)
                          · rw [if_pos c28] at H
                            have c28b0 := eq_true c28
                            have c28b1 : decide (0 ≤ ((rd_T38 l1 x14_1).f1)) = true := decide_eq_true c28
                            clear c28
                            by_cases c29 : ((rd_T38 l1 x14_1).f1) ≤ (x7_1.length : Int)
                            · rw [if_pos c29] at H
                              have c29b0 := eq_true c29
                              have c29b1 : decide (((rd_T38 l1 x14_1).f1) ≤ (x7_1.length : Int)) = true := decide_eq_true c29
                              clear c29
                              obtain ⟨y133, hy133⟩ : ∃ y_ : List (S36), y_ = (x7_1.drop (((rd_T38 l1 x14_1).f1) : Int).toNat) := ⟨_, rfl⟩
                              replace H : (diff_Patch.l0 kj10 x6_1 y133 l1 (l1.length : Int) (wrap64 (x14_1 + 1))) = some (r1, r2) := by first | (rw [hy133]; with_reducible exact H) | (have H2_ := (Option.bind_some _ _).symm.trans H; rw [hy133]; with_reducible exact H2_) | (have H2_ := (Option.bind_some _ _).symm.trans H; with_reducible exact H2_) | with_reducible exact H | (rw [hy133]; exact H) | exact H
                              have Ny133 := Aside0.mk hy133
                              clear hy133
                              have H' := Aside0.mk H
                              clear H
                              have hcz30_0 : wc.cell? ⟨gb119, 0, none⟩ = some (.int .i64 ((rd_T38 l1 x14_1).f0)) := (blk_cell BK119.out 0).trans rfl
                              have hcz30_1 : wc.cell? ⟨gb119, 1, none⟩ = some (.int .i64 ((rd_T38 l1 x14_1).f1)) := (blk_cell BK119.out 1).trans rfl
                              have hcz30_2 : wc.cell? ⟨gb119, 2, none⟩ = some (.int .i64 ((rd_T38 l1 x14_1).f2.f0.f0)) := (blk_cell BK119.out 2).trans rfl
                              have hcz30_3 : wc.cell? ⟨gb119, 3, none⟩ = some (.int .i64 ((rd_T38 l1 x14_1).f2.f0.f1)) := (blk_cell BK119.out 3).trans rfl
                              have hcz30_4 : wc.cell? ⟨gb119, 4, none⟩ = some (.int .i64 ((rd_T38 l1 x14_1).f2.f1)) := (blk_cell BK119.out 4).trans rfl
                              have hcz30_5 : wc.cell? ⟨gb119, 5, none⟩ = some (.bool ((rd_T38 l1 x14_1).f2.f2)) := (blk_cell BK119.out 5).trans rfl
                              have hcz30_6 : wc.cell? ⟨gb119, 6, none⟩ = some (.string ((rd_T38 l1 x14_1).f2.f3)) := (blk_cell BK119.out 6).trans rfl
                              have hfz30_0 := blk_frozen BK119.out 0
                              have hfz30_1 := blk_frozen BK119.out 1
                              have hfz30_2 := blk_frozen BK119.out 2
                              have hfz30_3 := blk_frozen BK119.out 3
                              have hfz30_4 := blk_frozen BK119.out 4
                              have hfz30_5 := blk_frozen BK119.out 5
                              have hfz30_6 := blk_frozen BK119.out 6
                              obtain ⟨Ao32, co32, eo32⟩ := Kd.V_slice HO_7.out
                              subst eo32
                              have q31 : (((rd_T38 l1 x14_1).f1) : Int) ≤ ((x7_1.length : Int) : Int) := of_decide_eq_true (by first | (with_reducible assumption) | assumption)
                              obtain ⟨i031, hi031, _, hsz31, _⟩ := info_parts info36
                              have hroom31 : x7_1.length ≤ co32 := (Kd.V_reads' HO_7.out).2.1
                              have hC31 : Kd.F k36 _ _ Ao32 x7_1.length x7_1 := (Kd.V_at (base := w.heap.size) HO_7.out).2.2
                              have q031 : (0 : Int) ≤ (((rd_T38 l1 x14_1).f1) : Int) := of_decide_eq_true (by first | (with_reducible assumption) | assumption)
                              have hcut31 := cut_from (P := Try.prog) 22 36 .i64 Try.underlying22 hi031 5 hsz31 Ao32 x7_1.length co32 ((rd_T38 l1 x14_1).f1) q031 q31
                              have hr31 := Kd.F_cut (m := (((rd_T38 l1 x14_1).f1) : Int).toNat) (c := co32) hC31 (by omega) hroom31
                              obtain ⟨A31, hA31⟩ : ∃ A1, A1 = (if co32 = (((rd_T38 l1 x14_1).f1) : Int).toNat then Ao32 else (Ao32 : Option Addr).map (·.add ((((rd_T38 l1 x14_1).f1) : Int).toNat * 5))) := ⟨_, rfl⟩
                              obtain ⟨c31, hc31⟩ : ∃ c1, c1 = co32 - (((rd_T38 l1 x14_1).f1) : Int).toNat := ⟨_, rfl⟩
                              have hy31 : y133.length = x7_1.length - (((rd_T38 l1 x14_1).f1) : Int).toNat := (by rw [Ny133.out, List.length_drop] <;> omega)
                              rw [show (x7_1).drop (((rd_T38 l1 x14_1).f1) : Int).toNat = y133 from Ny133.out.symm] at hr31
                              replace hr31 : Kd.F k36 _ _ A31 y133.length y133 := (by rw [hA31]; exact hr31)
                              rw [← hy31, ← hA31, ← hc31] at hcut31
                              have HO137 := Aside0.mk (show Kd.V k36 36 _ w.heap.size _ (.slice A31 y133.length c31) y133 from Kd.V_mk (by rw [hy31, hc31]; exact Nat.sub_le_sub_right hroom31 _) hr31)
                              have HC137 := Aside0.mk (show y133.length ≤ c31 from by rw [hy31, hc31]; exact Nat.sub_le_sub_right hroom31 _)
                              clear hr31 hC31 hroom31 hi031 hsz31 hc31
                              have KY31 := Aside0.mk hy31
                              have KA31 := Aside0.mk hA31
                              clear hy31 hA31
                              replace q31 := eq_true q31
                              go_wp2
                              repeat (go_quiet (fail); try go_wp2)
                              go_roundg kj10
                              case measure => have := HK1.out; have := HJ5.out; have := HJ10.out; omega
                              case rel => exact ⟨(x6_1), (y133), (wrap64 (x14_1 + 1)), (by first | rfl | (simp; done) | (simp [*]; done)), H', ⟨by have := HK1.out; have := HJ5.out; have := HJ10.out; omega⟩, ⟨by (with_reducible repeat (first | apply Kd.R_alloc | apply Kd.R_drewN | apply Kd.R_drew)); exact HO_6.out⟩, ⟨by (with_reducible repeat (first | apply Kd.V_alloc | apply Kd.V_drewN | apply Kd.V_drew)); exact Kd.V_mono HO137.out (fun _ hk => ⟨hk.1, hk.2.1⟩)⟩, ⟨by repeat (first | (with_reducible first | exact HB.out | apply below_alloc | apply pw_below_drewN | apply below_drew1 | refine below_set ?_ GE119.out) | exact HB.out)⟩⟩
                            · rw [if_neg c29] at H
                              exact absurd H (by simp)
                          · rw [if_neg c28] at H
                            exact absurd H (by simp)
                · replace c10 := Bool.eq_false_iff.mpr c10
                  subst c10
                  have H1 : (if ((rd_T38 l1 x14_1).f0) = 4 then (if (x7_1.length : Int) = 0 then (some (([] : List (S36)), 10)) else (if 0 < (x7_1.length : Int) then (if (!(((rd_T36 x7_1 0).f0.f0) == ((rd_T38 l1 x14_1).f2.f0.f0)) || (!(((rd_T36 x7_1 0).f0.f1) == ((rd_T38 l1 x14_1).f2.f0.f1)))) = true then (some (([] : List (S36)), 10)) else (if x6_1.length < 2932031007402 then (if 1 ≤ (x7_1.length : Int) then (diff_Patch.l0 kj5 (x6_1 ++ [(⟨(⟨((rd_T38 l1 x14_1).f2.f0.f0), ((rd_T38 l1 x14_1).f2.f0.f1)⟩ : S34), ((rd_T38 l1 x14_1).f2.f1), ((rd_T38 l1 x14_1).f2.f2), ((rd_T38 l1 x14_1).f2.f3)⟩ : S36)]) (x7_1.drop 1) l1 (l1.length : Int) (wrap64 (x14_1 + 1))) else (none)) else (none))) else (none))) else (if ((rd_T38 l1 x14_1).f0) = 3 then (if x6_1.length < 2932031007402 then (if 0 ≤ 0 then (if 0 ≤ (x7_1.length : Int) then (diff_Patch.l0 kj5 (x6_1 ++ [(⟨(⟨((rd_T38 l1 x14_1).f2.f0.f0), ((rd_T38 l1 x14_1).f2.f0.f1)⟩ : S34), ((rd_T38 l1 x14_1).f2.f1), ((rd_T38 l1 x14_1).f2.f2), ((rd_T38 l1 x14_1).f2.f3)⟩ : S36)]) (x7_1.drop (0 : Int).toNat) l1 (l1.length : Int) (wrap64 (x14_1 + 1))) else (none)) else (none)) else (none)) else (some (([] : List (S36)), 10)))) = some (r1, r2) := by rw [if_neg (show ¬ (false = true) by decide)] at H; exact H
                  clear H
                  have H := H1
                  clear H1
                  by_cases c33 : ((rd_T38 l1 x14_1).f0) = 4
                  · rw [if_pos c33] at H
                    have c33b0 : (((rd_T38 l1 x14_1).f0) == 4) = true := beq_iff_eq.mpr c33
                    have c33b1 : (((rd_T38 l1 x14_1).f0) != 4) = false := bne_eq_false_iff_eq.mpr c33
                    clear c33
                    by_cases c34 : (x7_1.length : Int) = 0
                    · rw [if_pos c34] at H
                      have c34b0 : ((x7_1.length : Int) == 0) = true := beq_iff_eq.mpr c34
                      have c34b1 : ((x7_1.length : Int) != 0) = false := bne_eq_false_iff_eq.mpr c34
                      clear c34
                      simp only [Option.some.injEq, Prod.mk.injEq] at H
                      obtain ⟨rfl, rfl⟩ := H
                      obtain ⟨Ao35, co35, eo35⟩ := Kd.V_slice HO_7.out
                      subst eo35
                      go_wp2
                      repeat (go_quiet (fail); try go_wp2)
                      go_ret2
                      exact ⟨_, by first | rfl | (simp [errW_none, errW_some] <;> rfl) | (simp [*, errW_none, errW_some] <;> rfl), by first | exact Kd.R_nil _ _ _ _ _ | exact Kd.N_nil _ _ _ _ _ | exact Kd.V_nil _ _ _ _ _ | exact Kd.Q_nil _ _ _ _ _ | exact Kd.S_nil _ _ _ _ _, by repeat (first | (with_reducible first | exact HB.out | apply below_alloc | apply pw_below_drewN | apply below_drew1 | refine below_set ?_ GE119.out) | exact HB.out)⟩
                    · rw [if_neg c34] at H
                      have c34b0 : ((x7_1.length : Int) == 0) = false := beq_eq_false_iff_ne.mpr c34
                      have c34b1 : ((x7_1.length : Int) != 0) = true := bne_iff_ne.mpr c34
                      have c34b2 : ¬ (x7_1 = []) := fun h_ => c34 (by rw [h_]; rfl)
                      by_cases c36 : 0 < (x7_1.length : Int)
                      · rw [if_pos c36] at H
                        have c36b0 : decide (0 < (x7_1.length : Int)) = true := decide_eq_true c36
                        have c36b1 : decide (0 < x7_1.length) = true := decide_eq_true (by omega)
                        clear c36
                        by_cases c37 : (!(((rd_T36 x7_1 0).f0.f0) == ((rd_T38 l1 x14_1).f2.f0.f0)) || (!(((rd_T36 x7_1 0).f0.f1) == ((rd_T38 l1 x14_1).f2.f0.f1)))) = true
                        · rw [if_pos c37] at H
                          have c37b0 : (!(((rd_T36 x7_1 0).f0.f0) == ((rd_T38 l1 x14_1).f2.f0.f0)) || (!(((rd_T36 x7_1 0).f0.f1) == ((rd_T38 l1 x14_1).f2.f0.f1)))) = true := c37
                          clear c37
                          simp only [Option.some.injEq, Prod.mk.injEq] at H
                          obtain ⟨rfl, rfl⟩ := H
                          obtain ⟨Ao38, co38, eo38⟩ := Kd.V_slice HO_7.out
                          subst eo38
                          have p138 : 0 ≤ (0 : Int) := (by omega)
                          have q138 : 0 < (x7_1.length : Int) := of_decide_eq_true (by first | (with_reducible assumption) | assumption)
                          obtain ⟨ad138, e138, hx138_0, hx138_1, hx138_2, hx138_3, hx138_4⟩ := at_T36 (Kd.V_reads' HO_7.out).2.2 0 p138 q138
                          cases e138
                          have qi138 : (0 < x7_1.length) = True := eq_true (by omega)
                          (try rw [show ((0 : Int)).toNat = 0 from rfl] at hx138_0)
                          (try rw [show 0 * 5 = 0 from rfl] at hx138_0)
                          (try rw [Addr.add_zero'] at hx138_0)
                          (try rw [show ((0 : Int)).toNat = 0 from rfl] at hx138_1)
                          (try rw [show 0 * 5 = 0 from rfl] at hx138_1)
                          (try rw [Addr.add_zero'] at hx138_1)
                          (try rw [show ((0 : Int)).toNat = 0 from rfl] at hx138_2)
                          (try rw [show 0 * 5 = 0 from rfl] at hx138_2)
                          (try rw [Addr.add_zero'] at hx138_2)
                          (try rw [show ((0 : Int)).toNat = 0 from rfl] at hx138_3)
                          (try rw [show 0 * 5 = 0 from rfl] at hx138_3)
                          (try rw [Addr.add_zero'] at hx138_3)
                          (try rw [show ((0 : Int)).toNat = 0 from rfl] at hx138_4)
                          (try rw [show 0 * 5 = 0 from rfl] at hx138_4)
                          (try rw [Addr.add_zero'] at hx138_4)
                          replace p138 := eq_true p138
                          replace q138 := eq_true q138
                          have hcz39_0 : wc.cell? ⟨gb119, 0, none⟩ = some (.int .i64 ((rd_T38 l1 x14_1).f0)) := (blk_cell BK119.out 0).trans rfl
                          have hcz39_1 : wc.cell? ⟨gb119, 1, none⟩ = some (.int .i64 ((rd_T38 l1 x14_1).f1)) := (blk_cell BK119.out 1).trans rfl
                          have hcz39_2 : wc.cell? ⟨gb119, 2, none⟩ = some (.int .i64 ((rd_T38 l1 x14_1).f2.f0.f0)) := (blk_cell BK119.out 2).trans rfl
                          have hcz39_3 : wc.cell? ⟨gb119, 3, none⟩ = some (.int .i64 ((rd_T38 l1 x14_1).f2.f0.f1)) := (blk_cell BK119.out 3).trans rfl
                          have hcz39_4 : wc.cell? ⟨gb119, 4, none⟩ = some (.int .i64 ((rd_T38 l1 x14_1).f2.f1)) := (blk_cell BK119.out 4).trans rfl
                          have hcz39_5 : wc.cell? ⟨gb119, 5, none⟩ = some (.bool ((rd_T38 l1 x14_1).f2.f2)) := (blk_cell BK119.out 5).trans rfl
                          have hcz39_6 : wc.cell? ⟨gb119, 6, none⟩ = some (.string ((rd_T38 l1 x14_1).f2.f3)) := (blk_cell BK119.out 6).trans rfl
                          have hfz39_0 := blk_frozen BK119.out 0
                          have hfz39_1 := blk_frozen BK119.out 1
                          have hfz39_2 := blk_frozen BK119.out 2
                          have hfz39_3 := blk_frozen BK119.out 3
                          have hfz39_4 := blk_frozen BK119.out 4
                          have hfz39_5 := blk_frozen BK119.out 5
                          have hfz39_6 := blk_frozen BK119.out 6
                          go_wp2
                          repeat (go_quiet (fail); try go_wp2)
                          go_ret2
                          exact ⟨_, by first | rfl | (simp [errW_none, errW_some] <;> rfl) | (simp [*, errW_none, errW_some] <;> rfl), by first | exact Kd.R_nil _ _ _ _ _ | exact Kd.N_nil _ _ _ _ _ | exact Kd.V_nil _ _ _ _ _ | exact Kd.Q_nil _ _ _ _ _ | exact Kd.S_nil _ _ _ _ _, by repeat (first | (with_reducible first | exact HB.out | apply below_alloc | apply pw_below_drewN | apply below_drew1 | refine below_set ?_ GE119.out) | exact HB.out)⟩
                        · rw [if_neg c37] at H
                          have c37b0 : (!(((rd_T36 x7_1 0).f0.f0) == ((rd_T38 l1 x14_1).f2.f0.f0)) || (!(((rd_T36 x7_1 0).f0.f1) == ((rd_T38 l1 x14_1).f2.f0.f1)))) = false := by simpa using c37
                          clear c37
                          by_cases c40 : x6_1.length < 2932031007402
                          · rw [if_pos c40] at H
                            have LMc40 := Aside0.mk c40
                            clear c40
                            obtain ⟨y139, hy139⟩ : ∃ y_ : List (S36), y_ = (x6_1 ++ [(⟨(⟨((rd_T38 l1 x14_1).f2.f0.f0), ((rd_T38 l1 x14_1).f2.f0.f1)⟩ : S34), ((rd_T38 l1 x14_1).f2.f1), ((rd_T38 l1 x14_1).f2.f2), ((rd_T38 l1 x14_1).f2.f3)⟩ : S36)]) := ⟨_, rfl⟩
                            replace H : (if 1 ≤ (x7_1.length : Int) then (diff_Patch.l0 kj5 y139 (x7_1.drop 1) l1 (l1.length : Int) (wrap64 (x14_1 + 1))) else (none)) = some (r1, r2) := by first | (rw [hy139]; with_reducible exact H) | (have H2_ := (Option.bind_some _ _).symm.trans H; rw [hy139]; with_reducible exact H2_) | (have H2_ := (Option.bind_some _ _).symm.trans H; with_reducible exact H2_) | with_reducible exact H | (rw [hy139]; exact H) | exact H
                            have Ny139 := Aside0.mk hy139
                            clear hy139
                            by_cases c41 : 1 ≤ (x7_1.length : Int)
                            · rw [if_pos c41] at H
                              have c41b0 := eq_true c41
                              have c41b1 : decide (1 ≤ (x7_1.length : Int)) = true := decide_eq_true c41
                              clear c41
                              obtain ⟨y142, hy142⟩ : ∃ y_ : List (S36), y_ = (x7_1.drop 1) := ⟨_, rfl⟩
                              replace H : (diff_Patch.l0 kj5 y139 y142 l1 (l1.length : Int) (wrap64 (x14_1 + 1))) = some (r1, r2) := by first | (rw [hy142]; with_reducible exact H) | (have H2_ := (Option.bind_some _ _).symm.trans H; rw [hy142]; with_reducible exact H2_) | (have H2_ := (Option.bind_some _ _).symm.trans H; with_reducible exact H2_) | with_reducible exact H | (rw [hy142]; exact H) | exact H
                              have Ny142 := Aside0.mk hy142
                              clear hy142
                              have H' := Aside0.mk H
                              clear H
                              obtain ⟨Ao42, co42, eo42⟩ := Kd.V_slice HO_7.out
                              subst eo42
                              have p138 : 0 ≤ (0 : Int) := (by omega)
                              have q138 : 0 < (x7_1.length : Int) := of_decide_eq_true (by first | (with_reducible assumption) | assumption)
                              obtain ⟨ad138, e138, hx138_0, hx138_1, hx138_2, hx138_3, hx138_4⟩ := at_T36 (Kd.V_reads' HO_7.out).2.2 0 p138 q138
                              cases e138
                              have qi138 : (0 < x7_1.length) = True := eq_true (by omega)
                              (try rw [show ((0 : Int)).toNat = 0 from rfl] at hx138_0)
                              (try rw [show 0 * 5 = 0 from rfl] at hx138_0)
                              (try rw [Addr.add_zero'] at hx138_0)
                              (try rw [show ((0 : Int)).toNat = 0 from rfl] at hx138_1)
                              (try rw [show 0 * 5 = 0 from rfl] at hx138_1)
                              (try rw [Addr.add_zero'] at hx138_1)
                              (try rw [show ((0 : Int)).toNat = 0 from rfl] at hx138_2)
                              (try rw [show 0 * 5 = 0 from rfl] at hx138_2)
                              (try rw [Addr.add_zero'] at hx138_2)
                              (try rw [show ((0 : Int)).toNat = 0 from rfl] at hx138_3)
                              (try rw [show 0 * 5 = 0 from rfl] at hx138_3)
                              (try rw [Addr.add_zero'] at hx138_3)
                              (try rw [show ((0 : Int)).toNat = 0 from rfl] at hx138_4)
                              (try rw [show 0 * 5 = 0 from rfl] at hx138_4)
                              (try rw [Addr.add_zero'] at hx138_4)
                              replace p138 := eq_true p138
                              replace q138 := eq_true q138
                              have hcz43_0 : wc.cell? ⟨gb119, 0, none⟩ = some (.int .i64 ((rd_T38 l1 x14_1).f0)) := (blk_cell BK119.out 0).trans rfl
                              have hcz43_1 : wc.cell? ⟨gb119, 1, none⟩ = some (.int .i64 ((rd_T38 l1 x14_1).f1)) := (blk_cell BK119.out 1).trans rfl
                              have hcz43_2 : wc.cell? ⟨gb119, 2, none⟩ = some (.int .i64 ((rd_T38 l1 x14_1).f2.f0.f0)) := (blk_cell BK119.out 2).trans rfl
                              have hcz43_3 : wc.cell? ⟨gb119, 3, none⟩ = some (.int .i64 ((rd_T38 l1 x14_1).f2.f0.f1)) := (blk_cell BK119.out 3).trans rfl
                              have hcz43_4 : wc.cell? ⟨gb119, 4, none⟩ = some (.int .i64 ((rd_T38 l1 x14_1).f2.f1)) := (blk_cell BK119.out 4).trans rfl
                              have hcz43_5 : wc.cell? ⟨gb119, 5, none⟩ = some (.bool ((rd_T38 l1 x14_1).f2.f2)) := (blk_cell BK119.out 5).trans rfl
                              have hcz43_6 : wc.cell? ⟨gb119, 6, none⟩ = some (.string ((rd_T38 l1 x14_1).f2.f3)) := (blk_cell BK119.out 6).trans rfl
                              have hfz43_0 := blk_frozen BK119.out 0
                              have hfz43_1 := blk_frozen BK119.out 1
                              have hfz43_2 := blk_frozen BK119.out 2
                              have hfz43_3 := blk_frozen BK119.out 3
                              have hfz43_4 := blk_frozen BK119.out 4
                              have hfz43_5 := blk_frozen BK119.out 5
                              have hfz43_6 := blk_frozen BK119.out 6
                              go_wp2_with (first | ((with_reducible refine gate_builtin (b := .append) (xs := #[.tmp 58, .tmp 61]) rfl ?_); (try (refine gate_guard (by rfl) ?_; dsimp only)); at_builtin; refine Kd.R_append k36 (w0 := w) w.heap.size rfl (.tmp 58) (.tmp 61) 22 36 (.agg #[(.int .i64 0), (.int .i64 0), (.int .i64 0), (.bool false), (.string ⟨#[]⟩)]) 48 rfl Try.underlying22 info36 rfl (by decide) (by omega) u6 x6_1 (⟨(⟨((rd_T38 l1 x14_1).f2.f0.f0), ((rd_T38 l1 x14_1).f2.f0.f1)⟩ : S34), ((rd_T38 l1 x14_1).f2.f1), ((rd_T38 l1 x14_1).f2.f2), ((rd_T38 l1 x14_1).f2.f3)⟩ : S36) [.int .i64 ((rd_T38 l1 x14_1).f2.f0.f0), .int .i64 ((rd_T38 l1 x14_1).f2.f0.f1), .int .i64 ((rd_T38 l1 x14_1).f2.f1), .bool ((rd_T38 l1 x14_1).f2.f2), .string ((rd_T38 l1 x14_1).f2.f3)] (fun k_ => (w.heap.size ≤ k_)) (fun _ => False) rfl rfl ?aP (fun _ hk => hk.elim) ?aF ?aO ?aB ?aS ?aL ?_; (case aP => exact k36_mkM _ _ _ (⟨(⟨((rd_T38 l1 x14_1).f2.f0.f0), ((rd_T38 l1 x14_1).f2.f0.f1)⟩ : S34), ((rd_T38 l1 x14_1).f2.f1), ((rd_T38 l1 x14_1).f2.f2), ((rd_T38 l1 x14_1).f2.f3)⟩ : S36)); (case aB => exact (by repeat (first | (with_reducible first | exact HB.out | apply below_alloc | apply pw_below_drewN | apply below_drew1 | refine below_set ?_ GE119.out) | exact HB.out))); (case aF => exact (fun k_ hk => (Nat.le_trans (below_size (by repeat (first | (with_reducible first | exact HB.out | apply below_alloc | apply pw_below_drewN | apply below_drew1 | refine below_set ?_ GE119.out) | exact HB.out))) hk))); (case aO => exact (by (with_reducible repeat (first | apply Kd.R_alloc | apply Kd.R_drewN | apply Kd.R_drew)); exact HO_6.out)); (case aS => exact (below_size (by repeat (first | (with_reducible first | exact HB.out | apply below_alloc | apply pw_below_drewN | apply below_drew1 | refine below_set ?_ GE119.out) | exact HB.out)))); (case aL => have := LMc40.out; omega); intro v140 w44 ho hb hg hat; rw [← Ny139.out] at ho; have n0_ := Aside0.mk (Kd.V_afterv (ok := (fun k_ => (P0_ k_ ∨ w.heap.size ≤ k_) ∧ k_ ≠ gb119)) (by (with_reducible repeat (first | apply Kd.V_alloc | apply Kd.V_drewN | apply Kd.V_drew)); exact Kd.V_mono HO_7.out (fun _ hk => ⟨⟨hk.1, hk.2.2⟩, hk.2.1⟩)) hg hat); have n1_ := Aside0.mk (blk_grown (g := gb119) (o := .cells #[.int .i64 ((rd_T38 l1 x14_1).f0), .int .i64 ((rd_T38 l1 x14_1).f1), .int .i64 ((rd_T38 l1 x14_1).f2.f0.f0), .int .i64 ((rd_T38 l1 x14_1).f2.f0.f1), .int .i64 ((rd_T38 l1 x14_1).f2.f1), .bool ((rd_T38 l1 x14_1).f2.f2), .string ((rd_T38 l1 x14_1).f2.f3)] 38 (0, 0)) (by (with_reducible repeat (first | refine blk_drewN ?_ _ | refine blk_drew ?_ | refine blk_alloc ?_ _)); exact BK119.out) hg (Kd.R_ne HO_6.out BK119.out (by decide))); have n2_ := Aside0.mk (hb); have n3_ := Aside0.mk (ho); clear HO_7; clear BK119; clear HB; clear HO_6; have HO_7 := n0_; have BK119 := n1_; have HB := n2_; have HO141 := n3_; clear n0_ n1_ n2_ n3_; clear ho hb hg hat; have q45 : (1 : Int) ≤ ((x7_1.length : Int) : Int) := of_decide_eq_true (by first | (with_reducible assumption) | assumption); obtain ⟨i045, hi045, _, hsz45, _⟩ := info_parts info36; have hroom45 : x7_1.length ≤ co42 := (Kd.V_reads' HO_7.out).2.1; have hC45 : Kd.F k36 _ _ (some ad138) x7_1.length x7_1 := (Kd.V_at (base := w.heap.size) HO_7.out).2.2; have hcut45 := cut_from (P := Try.prog) 22 36 .i64 Try.underlying22 hi045 5 hsz45 (some ad138) x7_1.length co42 1 (by omega) q45; have hr45 := Kd.F_cut (m := (1 : Int).toNat) (c := co42) hC45 (by omega) hroom45; obtain ⟨A45, hA45⟩ : ∃ A1, A1 = (if co42 = (1 : Int).toNat then (some ad138) else ((some ad138) : Option Addr).map (·.add ((1 : Int).toNat * 5))) := ⟨_, rfl⟩; obtain ⟨c45, hc45⟩ : ∃ c1, c1 = co42 - (1 : Int).toNat := ⟨_, rfl⟩; have hy45 : y142.length = x7_1.length - (1 : Int).toNat := (by rw [Ny142.out, List.length_drop] <;> omega); rw [show (x7_1).drop (1 : Int).toNat = y142 from Ny142.out.symm] at hr45; replace hr45 : Kd.F k36 _ _ A45 y142.length y142 := (by rw [hA45]; exact hr45); rw [← hy45, ← hA45, ← hc45] at hcut45; have HO146 := Aside0.mk (show Kd.V k36 36 _ w.heap.size _ (.slice A45 y142.length c45) y142 from Kd.V_mk (by rw [hy45, hc45]; exact Nat.sub_le_sub_right hroom45 _) hr45); have HC146 := Aside0.mk (show y142.length ≤ c45 from by rw [hy45, hc45]; exact Nat.sub_le_sub_right hroom45 _); clear hr45 hC45 hroom45 hi045 hsz45 hc45; have KY45 := Aside0.mk hy45; have KA45 := Aside0.mk hA45; clear hy45 hA45; replace q45 := eq_true q45))
                              repeat (go_quiet (first | ((with_reducible refine gate_builtin (b := .append) (xs := #[.tmp 58, .tmp 61]) rfl ?_); (try (refine gate_guard (by rfl) ?_; dsimp only)); at_builtin; refine Kd.R_append k36 (w0 := w) w.heap.size rfl (.tmp 58) (.tmp 61) 22 36 (.agg #[(.int .i64 0), (.int .i64 0), (.int .i64 0), (.bool false), (.string ⟨#[]⟩)]) 48 rfl Try.underlying22 info36 rfl (by decide) (by omega) u6 x6_1 (⟨(⟨((rd_T38 l1 x14_1).f2.f0.f0), ((rd_T38 l1 x14_1).f2.f0.f1)⟩ : S34), ((rd_T38 l1 x14_1).f2.f1), ((rd_T38 l1 x14_1).f2.f2), ((rd_T38 l1 x14_1).f2.f3)⟩ : S36) [.int .i64 ((rd_T38 l1 x14_1).f2.f0.f0), .int .i64 ((rd_T38 l1 x14_1).f2.f0.f1), .int .i64 ((rd_T38 l1 x14_1).f2.f1), .bool ((rd_T38 l1 x14_1).f2.f2), .string ((rd_T38 l1 x14_1).f2.f3)] (fun k_ => (w.heap.size ≤ k_)) (fun _ => False) rfl rfl ?aP (fun _ hk => hk.elim) ?aF ?aO ?aB ?aS ?aL ?_; (case aP => exact k36_mkM _ _ _ (⟨(⟨((rd_T38 l1 x14_1).f2.f0.f0), ((rd_T38 l1 x14_1).f2.f0.f1)⟩ : S34), ((rd_T38 l1 x14_1).f2.f1), ((rd_T38 l1 x14_1).f2.f2), ((rd_T38 l1 x14_1).f2.f3)⟩ : S36)); (case aB => exact (by repeat (first | (with_reducible first | exact HB.out | apply below_alloc | apply pw_below_drewN | apply below_drew1 | refine below_set ?_ GE119.out) | exact HB.out))); (case aF => exact (fun k_ hk => (Nat.le_trans (below_size (by repeat (first | (with_reducible first | exact HB.out | apply below_alloc | apply pw_below_drewN | apply below_drew1 | refine below_set ?_ GE119.out) | exact HB.out))) hk))); (case aO => exact (by (with_reducible repeat (first | apply Kd.R_alloc | apply Kd.R_drewN | apply Kd.R_drew)); exact HO_6.out)); (case aS => exact (below_size (by repeat (first | (with_reducible first | exact HB.out | apply below_alloc | apply pw_below_drewN | apply below_drew1 | refine below_set ?_ GE119.out) | exact HB.out)))); (case aL => have := LMc40.out; omega); intro v140 w44 ho hb hg hat; rw [← Ny139.out] at ho; have n0_ := Aside0.mk (Kd.V_afterv (ok := (fun k_ => (P0_ k_ ∨ w.heap.size ≤ k_) ∧ k_ ≠ gb119)) (by (with_reducible repeat (first | apply Kd.V_alloc | apply Kd.V_drewN | apply Kd.V_drew)); exact Kd.V_mono HO_7.out (fun _ hk => ⟨⟨hk.1, hk.2.2⟩, hk.2.1⟩)) hg hat); have n1_ := Aside0.mk (blk_grown (g := gb119) (o := .cells #[.int .i64 ((rd_T38 l1 x14_1).f0), .int .i64 ((rd_T38 l1 x14_1).f1), .int .i64 ((rd_T38 l1 x14_1).f2.f0.f0), .int .i64 ((rd_T38 l1 x14_1).f2.f0.f1), .int .i64 ((rd_T38 l1 x14_1).f2.f1), .bool ((rd_T38 l1 x14_1).f2.f2), .string ((rd_T38 l1 x14_1).f2.f3)] 38 (0, 0)) (by (with_reducible repeat (first | refine blk_drewN ?_ _ | refine blk_drew ?_ | refine blk_alloc ?_ _)); exact BK119.out) hg (Kd.R_ne HO_6.out BK119.out (by decide))); have n2_ := Aside0.mk (hb); have n3_ := Aside0.mk (ho); clear HO_7; clear BK119; clear HB; clear HO_6; have HO_7 := n0_; have BK119 := n1_; have HB := n2_; have HO141 := n3_; clear n0_ n1_ n2_ n3_; clear ho hb hg hat; have q45 : (1 : Int) ≤ ((x7_1.length : Int) : Int) := of_decide_eq_true (by first | (with_reducible assumption) | assumption); obtain ⟨i045, hi045, _, hsz45, _⟩ := info_parts info36; have hroom45 : x7_1.length ≤ co42 := (Kd.V_reads' HO_7.out).2.1; have hC45 : Kd.F k36 _ _ (some ad138) x7_1.length x7_1 := (Kd.V_at (base := w.heap.size) HO_7.out).2.2; have hcut45 := cut_from (P := Try.prog) 22 36 .i64 Try.underlying22 hi045 5 hsz45 (some ad138) x7_1.length co42 1 (by omega) q45; have hr45 := Kd.F_cut (m := (1 : Int).toNat) (c := co42) hC45 (by omega) hroom45; obtain ⟨A45, hA45⟩ : ∃ A1, A1 = (if co42 = (1 : Int).toNat then (some ad138) else ((some ad138) : Option Addr).map (·.add ((1 : Int).toNat * 5))) := ⟨_, rfl⟩; obtain ⟨c45, hc45⟩ : ∃ c1, c1 = co42 - (1 : Int).toNat := ⟨_, rfl⟩; have hy45 : y142.length = x7_1.length - (1 : Int).toNat := (by rw [Ny142.out, List.length_drop] <;> omega); rw [show (x7_1).drop (1 : Int).toNat = y142 from Ny142.out.symm] at hr45; replace hr45 : Kd.F k36 _ _ A45 y142.length y142 := (by rw [hA45]; exact hr45); rw [← hy45, ← hA45, ← hc45] at hcut45; have HO146 := Aside0.mk (show Kd.V k36 36 _ w.heap.size _ (.slice A45 y142.length c45) y142 from Kd.V_mk (by rw [hy45, hc45]; exact Nat.sub_le_sub_right hroom45 _) hr45); have HC146 := Aside0.mk (show y142.length ≤ c45 from by rw [hy45, hc45]; exact Nat.sub_le_sub_right hroom45 _); clear hr45 hC45 hroom45 hi045 hsz45 hc45; have KY45 := Aside0.mk hy45; have KA45 := Aside0.mk hA45; clear hy45 hA45; replace q45 := eq_true q45)); try go_wp2_with (first | ((with_reducible refine gate_builtin (b := .append) (xs := #[.tmp 58, .tmp 61]) rfl ?_); (try (refine gate_guard (by rfl) ?_; dsimp only)); at_builtin; refine Kd.R_append k36 (w0 := w) w.heap.size rfl (.tmp 58) (.tmp 61) 22 36 (.agg #[(.int .i64 0), (.int .i64 0), (.int .i64 0), (.bool false), (.string ⟨#[]⟩)]) 48 rfl Try.underlying22 info36 rfl (by decide) (by omega) u6 x6_1 (⟨(⟨((rd_T38 l1 x14_1).f2.f0.f0), ((rd_T38 l1 x14_1).f2.f0.f1)⟩ : S34), ((rd_T38 l1 x14_1).f2.f1), ((rd_T38 l1 x14_1).f2.f2), ((rd_T38 l1 x14_1).f2.f3)⟩ : S36) [.int .i64 ((rd_T38 l1 x14_1).f2.f0.f0), .int .i64 ((rd_T38 l1 x14_1).f2.f0.f1), .int .i64 ((rd_T38 l1 x14_1).f2.f1), .bool ((rd_T38 l1 x14_1).f2.f2), .string ((rd_T38 l1 x14_1).f2.f3)] (fun k_ => (w.heap.size ≤ k_)) (fun _ => False) rfl rfl ?aP (fun _ hk => hk.elim) ?aF ?aO ?aB ?aS ?aL ?_; (case aP => exact k36_mkM _ _ _ (⟨(⟨((rd_T38 l1 x14_1).f2.f0.f0), ((rd_T38 l1 x14_1).f2.f0.f1)⟩ : S34), ((rd_T38 l1 x14_1).f2.f1), ((rd_T38 l1 x14_1).f2.f2), ((rd_T38 l1 x14_1).f2.f3)⟩ : S36)); (case aB => exact (by repeat (first | (with_reducible first | exact HB.out | apply below_alloc | apply pw_below_drewN | apply below_drew1 | refine below_set ?_ GE119.out) | exact HB.out))); (case aF => exact (fun k_ hk => (Nat.le_trans (below_size (by repeat (first | (with_reducible first | exact HB.out | apply below_alloc | apply pw_below_drewN | apply below_drew1 | refine below_set ?_ GE119.out) | exact HB.out))) hk))); (case aO => exact (by (with_reducible repeat (first | apply Kd.R_alloc | apply Kd.R_drewN | apply Kd.R_drew)); exact HO_6.out)); (case aS => exact (below_size (by repeat (first | (with_reducible first | exact HB.out | apply below_alloc | apply pw_below_drewN | apply below_drew1 | refine below_set ?_ GE119.out) | exact HB.out)))); (case aL => have := LMc40.out; omega); intro v140 w44 ho hb hg hat; rw [← Ny139.out] at ho; have n0_ := Aside0.mk (Kd.V_afterv (ok := (fun k_ => (P0_ k_ ∨ w.heap.size ≤ k_) ∧ k_ ≠ gb119)) (by (with_reducible repeat (first | apply Kd.V_alloc | apply Kd.V_drewN | apply Kd.V_drew)); exact Kd.V_mono HO_7.out (fun _ hk => ⟨⟨hk.1, hk.2.2⟩, hk.2.1⟩)) hg hat); have n1_ := Aside0.mk (blk_grown (g := gb119) (o := .cells #[.int .i64 ((rd_T38 l1 x14_1).f0), .int .i64 ((rd_T38 l1 x14_1).f1), .int .i64 ((rd_T38 l1 x14_1).f2.f0.f0), .int .i64 ((rd_T38 l1 x14_1).f2.f0.f1), .int .i64 ((rd_T38 l1 x14_1).f2.f1), .bool ((rd_T38 l1 x14_1).f2.f2), .string ((rd_T38 l1 x14_1).f2.f3)] 38 (0, 0)) (by (with_reducible repeat (first | refine blk_drewN ?_ _ | refine blk_drew ?_ | refine blk_alloc ?_ _)); exact BK119.out) hg (Kd.R_ne HO_6.out BK119.out (by decide))); have n2_ := Aside0.mk (hb); have n3_ := Aside0.mk (ho); clear HO_7; clear BK119; clear HB; clear HO_6; have HO_7 := n0_; have BK119 := n1_; have HB := n2_; have HO141 := n3_; clear n0_ n1_ n2_ n3_; clear ho hb hg hat; have q45 : (1 : Int) ≤ ((x7_1.length : Int) : Int) := of_decide_eq_true (by first | (with_reducible assumption) | assumption); obtain ⟨i045, hi045, _, hsz45, _⟩ := info_parts info36; have hroom45 : x7_1.length ≤ co42 := (Kd.V_reads' HO_7.out).2.1; have hC45 : Kd.F k36 _ _ (some ad138) x7_1.length x7_1 := (Kd.V_at (base := w.heap.size) HO_7.out).2.2; have hcut45 := cut_from (P := Try.prog) 22 36 .i64 Try.underlying22 hi045 5 hsz45 (some ad138) x7_1.length co42 1 (by omega) q45; have hr45 := Kd.F_cut (m := (1 : Int).toNat) (c := co42) hC45 (by omega) hroom45; obtain ⟨A45, hA45⟩ : ∃ A1, A1 = (if co42 = (1 : Int).toNat then (some ad138) else ((some ad138) : Option Addr).map (·.add ((1 : Int).toNat * 5))) := ⟨_, rfl⟩; obtain ⟨c45, hc45⟩ : ∃ c1, c1 = co42 - (1 : Int).toNat := ⟨_, rfl⟩; have hy45 : y142.length = x7_1.length - (1 : Int).toNat := (by rw [Ny142.out, List.length_drop] <;> omega); rw [show (x7_1).drop (1 : Int).toNat = y142 from Ny142.out.symm] at hr45; replace hr45 : Kd.F k36 _ _ A45 y142.length y142 := (by rw [hA45]; exact hr45); rw [← hy45, ← hA45, ← hc45] at hcut45; have HO146 := Aside0.mk (show Kd.V k36 36 _ w.heap.size _ (.slice A45 y142.length c45) y142 from Kd.V_mk (by rw [hy45, hc45]; exact Nat.sub_le_sub_right hroom45 _) hr45); have HC146 := Aside0.mk (show y142.length ≤ c45 from by rw [hy45, hc45]; exact Nat.sub_le_sub_right hroom45 _); clear hr45 hC45 hroom45 hi045 hsz45 hc45; have KY45 := Aside0.mk hy45; have KA45 := Aside0.mk hA45; clear hy45 hA45; replace q45 := eq_true q45)))
                              go_roundg kj5
                              case measure => have := HK1.out; have := HJ5.out; omega
                              case rel => exact ⟨(y139), (y142), (wrap64 (x14_1 + 1)), (by first | rfl | (simp; done) | (simp [*]; done)), H', ⟨by have := HK1.out; have := HJ5.out; omega⟩, ⟨by (with_reducible repeat (first | apply Kd.R_alloc | apply Kd.R_drewN | apply Kd.R_drew)); exact HO141.out⟩, ⟨by (with_reducible repeat (first | apply Kd.V_alloc | apply Kd.V_drewN | apply Kd.V_drew)); exact Kd.V_mono HO146.out (fun _ hk => ⟨hk.1.1, hk.2⟩)⟩, ⟨by repeat (first | (with_reducible first | exact HB.out | apply below_alloc | apply pw_below_drewN | apply below_drew1 | refine below_set ?_ GE119.out) | exact HB.out)⟩⟩
                            · rw [if_neg c41] at H
                              exact absurd H (by simp)
                          · rw [if_neg c40] at H
                            exact absurd H (by simp)
                      · rw [if_neg c36] at H
                        exact absurd H (by simp)
                  · rw [if_neg c33] at H
                    have c33b0 : (((rd_T38 l1 x14_1).f0) == 4) = false := beq_eq_false_iff_ne.mpr c33
                    have c33b1 : (((rd_T38 l1 x14_1).f0) != 4) = true := bne_iff_ne.mpr c33
                    by_cases c46 : ((rd_T38 l1 x14_1).f0) = 3
                    · rw [if_pos c46] at H
                      have c46b0 : (((rd_T38 l1 x14_1).f0) == 3) = true := beq_iff_eq.mpr c46
                      have c46b1 : (((rd_T38 l1 x14_1).f0) != 3) = false := bne_eq_false_iff_eq.mpr c46
                      clear c46
                      by_cases c47 : x6_1.length < 2932031007402
                      · rw [if_pos c47] at H
                        have LMc47 := Aside0.mk c47
                        clear c47
                        obtain ⟨y147, hy147⟩ : ∃ y_ : List (S36), y_ = (x6_1 ++ [(⟨(⟨((rd_T38 l1 x14_1).f2.f0.f0), ((rd_T38 l1 x14_1).f2.f0.f1)⟩ : S34), ((rd_T38 l1 x14_1).f2.f1), ((rd_T38 l1 x14_1).f2.f2), ((rd_T38 l1 x14_1).f2.f3)⟩ : S36)]) := ⟨_, rfl⟩
                        replace H : (if 0 ≤ 0 then (if 0 ≤ (x7_1.length : Int) then (diff_Patch.l0 kj5 y147 (x7_1.drop (0 : Int).toNat) l1 (l1.length : Int) (wrap64 (x14_1 + 1))) else (none)) else (none)) = some (r1, r2) := by first | (rw [hy147]; with_reducible exact H) | (have H2_ := (Option.bind_some _ _).symm.trans H; rw [hy147]; with_reducible exact H2_) | (have H2_ := (Option.bind_some _ _).symm.trans H; with_reducible exact H2_) | with_reducible exact H | (rw [hy147]; exact H) | exact H
                        have Ny147 := Aside0.mk hy147
                        clear hy147
                        by_cases c48 : 0 ≤ 0
                        · rw [if_pos c48] at H
                          have c48b0 := eq_true c48
                          have c48b1 : decide (0 ≤ 0) = true := decide_eq_true c48
                          clear c48
                          by_cases c49 : 0 ≤ (x7_1.length : Int)
                          · rw [if_pos c49] at H
                            have c49b0 := eq_true c49
                            have c49b1 : decide (0 ≤ (x7_1.length : Int)) = true := decide_eq_true c49
                            clear c49
                            obtain ⟨y150, hy150⟩ : ∃ y_ : List (S36), y_ = (x7_1.drop (0 : Int).toNat) := ⟨_, rfl⟩
                            replace H : (diff_Patch.l0 kj5 y147 y150 l1 (l1.length : Int) (wrap64 (x14_1 + 1))) = some (r1, r2) := by first | (rw [hy150]; with_reducible exact H) | (have H2_ := (Option.bind_some _ _).symm.trans H; rw [hy150]; with_reducible exact H2_) | (have H2_ := (Option.bind_some _ _).symm.trans H; with_reducible exact H2_) | with_reducible exact H | (rw [hy150]; exact H) | exact H
                            have Ny150 := Aside0.mk hy150
                            clear hy150
                            have H' := Aside0.mk H
                            clear H
                            have hcz50_0 : wc.cell? ⟨gb119, 0, none⟩ = some (.int .i64 ((rd_T38 l1 x14_1).f0)) := (blk_cell BK119.out 0).trans rfl
                            have hcz50_1 : wc.cell? ⟨gb119, 1, none⟩ = some (.int .i64 ((rd_T38 l1 x14_1).f1)) := (blk_cell BK119.out 1).trans rfl
                            have hcz50_2 : wc.cell? ⟨gb119, 2, none⟩ = some (.int .i64 ((rd_T38 l1 x14_1).f2.f0.f0)) := (blk_cell BK119.out 2).trans rfl
                            have hcz50_3 : wc.cell? ⟨gb119, 3, none⟩ = some (.int .i64 ((rd_T38 l1 x14_1).f2.f0.f1)) := (blk_cell BK119.out 3).trans rfl
                            have hcz50_4 : wc.cell? ⟨gb119, 4, none⟩ = some (.int .i64 ((rd_T38 l1 x14_1).f2.f1)) := (blk_cell BK119.out 4).trans rfl
                            have hcz50_5 : wc.cell? ⟨gb119, 5, none⟩ = some (.bool ((rd_T38 l1 x14_1).f2.f2)) := (blk_cell BK119.out 5).trans rfl
                            have hcz50_6 : wc.cell? ⟨gb119, 6, none⟩ = some (.string ((rd_T38 l1 x14_1).f2.f3)) := (blk_cell BK119.out 6).trans rfl
                            have hfz50_0 := blk_frozen BK119.out 0
                            have hfz50_1 := blk_frozen BK119.out 1
                            have hfz50_2 := blk_frozen BK119.out 2
                            have hfz50_3 := blk_frozen BK119.out 3
                            have hfz50_4 := blk_frozen BK119.out 4
                            have hfz50_5 := blk_frozen BK119.out 5
                            have hfz50_6 := blk_frozen BK119.out 6
                            go_wp2_with (first | ((with_reducible refine gate_builtin (b := .append) (xs := #[.tmp 65, .tmp 68]) rfl ?_); (try (refine gate_guard (by rfl) ?_; dsimp only)); at_builtin; refine Kd.R_append k36 (w0 := w) w.heap.size rfl (.tmp 65) (.tmp 68) 22 36 (.agg #[(.int .i64 0), (.int .i64 0), (.int .i64 0), (.bool false), (.string ⟨#[]⟩)]) 48 rfl Try.underlying22 info36 rfl (by decide) (by omega) u6 x6_1 (⟨(⟨((rd_T38 l1 x14_1).f2.f0.f0), ((rd_T38 l1 x14_1).f2.f0.f1)⟩ : S34), ((rd_T38 l1 x14_1).f2.f1), ((rd_T38 l1 x14_1).f2.f2), ((rd_T38 l1 x14_1).f2.f3)⟩ : S36) [.int .i64 ((rd_T38 l1 x14_1).f2.f0.f0), .int .i64 ((rd_T38 l1 x14_1).f2.f0.f1), .int .i64 ((rd_T38 l1 x14_1).f2.f1), .bool ((rd_T38 l1 x14_1).f2.f2), .string ((rd_T38 l1 x14_1).f2.f3)] (fun k_ => (w.heap.size ≤ k_)) (fun _ => False) rfl rfl ?aP (fun _ hk => hk.elim) ?aF ?aO ?aB ?aS ?aL ?_; (case aP => exact k36_mkM _ _ _ (⟨(⟨((rd_T38 l1 x14_1).f2.f0.f0), ((rd_T38 l1 x14_1).f2.f0.f1)⟩ : S34), ((rd_T38 l1 x14_1).f2.f1), ((rd_T38 l1 x14_1).f2.f2), ((rd_T38 l1 x14_1).f2.f3)⟩ : S36)); (case aB => exact (by repeat (first | (with_reducible first | exact HB.out | apply below_alloc | apply pw_below_drewN | apply below_drew1 | refine below_set ?_ GE119.out) | exact HB.out))); (case aF => exact (fun k_ hk => (Nat.le_trans (below_size (by repeat (first | (with_reducible first | exact HB.out | apply below_alloc | apply pw_below_drewN | apply below_drew1 | refine below_set ?_ GE119.out) | exact HB.out))) hk))); (case aO => exact (by (with_reducible repeat (first | apply Kd.R_alloc | apply Kd.R_drewN | apply Kd.R_drew)); exact HO_6.out)); (case aS => exact (below_size (by repeat (first | (with_reducible first | exact HB.out | apply below_alloc | apply pw_below_drewN | apply below_drew1 | refine below_set ?_ GE119.out) | exact HB.out)))); (case aL => have := LMc47.out; omega); intro v148 w51 ho hb hg hat; rw [← Ny147.out] at ho; have n0_ := Aside0.mk (Kd.V_afterv (ok := (fun k_ => (P0_ k_ ∨ w.heap.size ≤ k_) ∧ k_ ≠ gb119)) (by (with_reducible repeat (first | apply Kd.V_alloc | apply Kd.V_drewN | apply Kd.V_drew)); exact Kd.V_mono HO_7.out (fun _ hk => ⟨⟨hk.1, hk.2.2⟩, hk.2.1⟩)) hg hat); have n1_ := Aside0.mk (blk_grown (g := gb119) (o := .cells #[.int .i64 ((rd_T38 l1 x14_1).f0), .int .i64 ((rd_T38 l1 x14_1).f1), .int .i64 ((rd_T38 l1 x14_1).f2.f0.f0), .int .i64 ((rd_T38 l1 x14_1).f2.f0.f1), .int .i64 ((rd_T38 l1 x14_1).f2.f1), .bool ((rd_T38 l1 x14_1).f2.f2), .string ((rd_T38 l1 x14_1).f2.f3)] 38 (0, 0)) (by (with_reducible repeat (first | refine blk_drewN ?_ _ | refine blk_drew ?_ | refine blk_alloc ?_ _)); exact BK119.out) hg (Kd.R_ne HO_6.out BK119.out (by decide))); have n2_ := Aside0.mk (hb); have n3_ := Aside0.mk (ho); clear HO_7; clear BK119; clear HB; clear HO_6; have HO_7 := n0_; have BK119 := n1_; have HB := n2_; have HO149 := n3_; clear n0_ n1_ n2_ n3_; clear ho hb hg hat; obtain ⟨Ao53, co53, eo53⟩ := Kd.V_slice HO_7.out; subst eo53; have q52 : (0 : Int) ≤ ((x7_1.length : Int) : Int) := of_decide_eq_true (by first | (with_reducible assumption) | assumption); obtain ⟨i052, hi052, _, hsz52, _⟩ := info_parts info36; have hroom52 : x7_1.length ≤ co53 := (Kd.V_reads' HO_7.out).2.1; have hC52 : Kd.F k36 _ _ Ao53 x7_1.length x7_1 := (Kd.V_at (base := w.heap.size) HO_7.out).2.2; have hcut52 := cut_from (P := Try.prog) 22 36 .i64 Try.underlying22 hi052 5 hsz52 Ao53 x7_1.length co53 0 (by omega) q52; have hr52 := Kd.F_cut (m := (0 : Int).toNat) (c := co53) hC52 (by omega) hroom52; obtain ⟨A52, hA52⟩ : ∃ A1, A1 = (if co53 = (0 : Int).toNat then Ao53 else (Ao53 : Option Addr).map (·.add ((0 : Int).toNat * 5))) := ⟨_, rfl⟩; obtain ⟨c52, hc52⟩ : ∃ c1, c1 = co53 - (0 : Int).toNat := ⟨_, rfl⟩; have hy52 : y150.length = x7_1.length - (0 : Int).toNat := (by rw [Ny150.out, List.length_drop] <;> omega); rw [show (x7_1).drop (0 : Int).toNat = y150 from Ny150.out.symm] at hr52; replace hr52 : Kd.F k36 _ _ A52 y150.length y150 := (by rw [hA52]; exact hr52); rw [← hy52, ← hA52, ← hc52] at hcut52; have HO154 := Aside0.mk (show Kd.V k36 36 _ w.heap.size _ (.slice A52 y150.length c52) y150 from Kd.V_mk (by rw [hy52, hc52]; exact Nat.sub_le_sub_right hroom52 _) hr52); have HC154 := Aside0.mk (show y150.length ≤ c52 from by rw [hy52, hc52]; exact Nat.sub_le_sub_right hroom52 _); clear hr52 hC52 hroom52 hi052 hsz52 hc52; have KY52 := Aside0.mk hy52; have KA52 := Aside0.mk hA52; clear hy52 hA52; replace q52 := eq_true q52))
                            repeat (go_quiet (first | ((with_reducible refine gate_builtin (b := .append) (xs := #[.tmp 65, .tmp 68]) rfl ?_); (try (refine gate_guard (by rfl) ?_; dsimp only)); at_builtin; refine Kd.R_append k36 (w0 := w) w.heap.size rfl (.tmp 65) (.tmp 68) 22 36 (.agg #[(.int .i64 0), (.int .i64 0), (.int .i64 0), (.bool false), (.string ⟨#[]⟩)]) 48 rfl Try.underlying22 info36 rfl (by decide) (by omega) u6 x6_1 (⟨(⟨((rd_T38 l1 x14_1).f2.f0.f0), ((rd_T38 l1 x14_1).f2.f0.f1)⟩ : S34), ((rd_T38 l1 x14_1).f2.f1), ((rd_T38 l1 x14_1).f2.f2), ((rd_T38 l1 x14_1).f2.f3)⟩ : S36) [.int .i64 ((rd_T38 l1 x14_1).f2.f0.f0), .int .i64 ((rd_T38 l1 x14_1).f2.f0.f1), .int .i64 ((rd_T38 l1 x14_1).f2.f1), .bool ((rd_T38 l1 x14_1).f2.f2), .string ((rd_T38 l1 x14_1).f2.f3)] (fun k_ => (w.heap.size ≤ k_)) (fun _ => False) rfl rfl ?aP (fun _ hk => hk.elim) ?aF ?aO ?aB ?aS ?aL ?_; (case aP => exact k36_mkM _ _ _ (⟨(⟨((rd_T38 l1 x14_1).f2.f0.f0), ((rd_T38 l1 x14_1).f2.f0.f1)⟩ : S34), ((rd_T38 l1 x14_1).f2.f1), ((rd_T38 l1 x14_1).f2.f2), ((rd_T38 l1 x14_1).f2.f3)⟩ : S36)); (case aB => exact (by repeat (first | (with_reducible first | exact HB.out | apply below_alloc | apply pw_below_drewN | apply below_drew1 | refine below_set ?_ GE119.out) | exact HB.out))); (case aF => exact (fun k_ hk => (Nat.le_trans (below_size (by repeat (first | (with_reducible first | exact HB.out | apply below_alloc | apply pw_below_drewN | apply below_drew1 | refine below_set ?_ GE119.out) | exact HB.out))) hk))); (case aO => exact (by (with_reducible repeat (first | apply Kd.R_alloc | apply Kd.R_drewN | apply Kd.R_drew)); exact HO_6.out)); (case aS => exact (below_size (by repeat (first | (with_reducible first | exact HB.out | apply below_alloc | apply pw_below_drewN | apply below_drew1 | refine below_set ?_ GE119.out) | exact HB.out)))); (case aL => have := LMc47.out; omega); intro v148 w51 ho hb hg hat; rw [← Ny147.out] at ho; have n0_ := Aside0.mk (Kd.V_afterv (ok := (fun k_ => (P0_ k_ ∨ w.heap.size ≤ k_) ∧ k_ ≠ gb119)) (by (with_reducible repeat (first | apply Kd.V_alloc | apply Kd.V_drewN | apply Kd.V_drew)); exact Kd.V_mono HO_7.out (fun _ hk => ⟨⟨hk.1, hk.2.2⟩, hk.2.1⟩)) hg hat); have n1_ := Aside0.mk (blk_grown (g := gb119) (o := .cells #[.int .i64 ((rd_T38 l1 x14_1).f0), .int .i64 ((rd_T38 l1 x14_1).f1), .int .i64 ((rd_T38 l1 x14_1).f2.f0.f0), .int .i64 ((rd_T38 l1 x14_1).f2.f0.f1), .int .i64 ((rd_T38 l1 x14_1).f2.f1), .bool ((rd_T38 l1 x14_1).f2.f2), .string ((rd_T38 l1 x14_1).f2.f3)] 38 (0, 0)) (by (with_reducible repeat (first | refine blk_drewN ?_ _ | refine blk_drew ?_ | refine blk_alloc ?_ _)); exact BK119.out) hg (Kd.R_ne HO_6.out BK119.out (by decide))); have n2_ := Aside0.mk (hb); have n3_ := Aside0.mk (ho); clear HO_7; clear BK119; clear HB; clear HO_6; have HO_7 := n0_; have BK119 := n1_; have HB := n2_; have HO149 := n3_; clear n0_ n1_ n2_ n3_; clear ho hb hg hat; obtain ⟨Ao53, co53, eo53⟩ := Kd.V_slice HO_7.out; subst eo53; have q52 : (0 : Int) ≤ ((x7_1.length : Int) : Int) := of_decide_eq_true (by first | (with_reducible assumption) | assumption); obtain ⟨i052, hi052, _, hsz52, _⟩ := info_parts info36; have hroom52 : x7_1.length ≤ co53 := (Kd.V_reads' HO_7.out).2.1; have hC52 : Kd.F k36 _ _ Ao53 x7_1.length x7_1 := (Kd.V_at (base := w.heap.size) HO_7.out).2.2; have hcut52 := cut_from (P := Try.prog) 22 36 .i64 Try.underlying22 hi052 5 hsz52 Ao53 x7_1.length co53 0 (by omega) q52; have hr52 := Kd.F_cut (m := (0 : Int).toNat) (c := co53) hC52 (by omega) hroom52; obtain ⟨A52, hA52⟩ : ∃ A1, A1 = (if co53 = (0 : Int).toNat then Ao53 else (Ao53 : Option Addr).map (·.add ((0 : Int).toNat * 5))) := ⟨_, rfl⟩; obtain ⟨c52, hc52⟩ : ∃ c1, c1 = co53 - (0 : Int).toNat := ⟨_, rfl⟩; have hy52 : y150.length = x7_1.length - (0 : Int).toNat := (by rw [Ny150.out, List.length_drop] <;> omega); rw [show (x7_1).drop (0 : Int).toNat = y150 from Ny150.out.symm] at hr52; replace hr52 : Kd.F k36 _ _ A52 y150.length y150 := (by rw [hA52]; exact hr52); rw [← hy52, ← hA52, ← hc52] at hcut52; have HO154 := Aside0.mk (show Kd.V k36 36 _ w.heap.size _ (.slice A52 y150.length c52) y150 from Kd.V_mk (by rw [hy52, hc52]; exact Nat.sub_le_sub_right hroom52 _) hr52); have HC154 := Aside0.mk (show y150.length ≤ c52 from by rw [hy52, hc52]; exact Nat.sub_le_sub_right hroom52 _); clear hr52 hC52 hroom52 hi052 hsz52 hc52; have KY52 := Aside0.mk hy52; have KA52 := Aside0.mk hA52; clear hy52 hA52; replace q52 := eq_true q52)); try go_wp2_with (first | ((with_reducible refine gate_builtin (b := .append) (xs := #[.tmp 65, .tmp 68]) rfl ?_); (try (refine gate_guard (by rfl) ?_; dsimp only)); at_builtin; refine Kd.R_append k36 (w0 := w) w.heap.size rfl (.tmp 65) (.tmp 68) 22 36 (.agg #[(.int .i64 0), (.int .i64 0), (.int .i64 0), (.bool false), (.string ⟨#[]⟩)]) 48 rfl Try.underlying22 info36 rfl (by decide) (by omega) u6 x6_1 (⟨(⟨((rd_T38 l1 x14_1).f2.f0.f0), ((rd_T38 l1 x14_1).f2.f0.f1)⟩ : S34), ((rd_T38 l1 x14_1).f2.f1), ((rd_T38 l1 x14_1).f2.f2), ((rd_T38 l1 x14_1).f2.f3)⟩ : S36) [.int .i64 ((rd_T38 l1 x14_1).f2.f0.f0), .int .i64 ((rd_T38 l1 x14_1).f2.f0.f1), .int .i64 ((rd_T38 l1 x14_1).f2.f1), .bool ((rd_T38 l1 x14_1).f2.f2), .string ((rd_T38 l1 x14_1).f2.f3)] (fun k_ => (w.heap.size ≤ k_)) (fun _ => False) rfl rfl ?aP (fun _ hk => hk.elim) ?aF ?aO ?aB ?aS ?aL ?_; (case aP => exact k36_mkM _ _ _ (⟨(⟨((rd_T38 l1 x14_1).f2.f0.f0), ((rd_T38 l1 x14_1).f2.f0.f1)⟩ : S34), ((rd_T38 l1 x14_1).f2.f1), ((rd_T38 l1 x14_1).f2.f2), ((rd_T38 l1 x14_1).f2.f3)⟩ : S36)); (case aB => exact (by repeat (first | (with_reducible first | exact HB.out | apply below_alloc | apply pw_below_drewN | apply below_drew1 | refine below_set ?_ GE119.out) | exact HB.out))); (case aF => exact (fun k_ hk => (Nat.le_trans (below_size (by repeat (first | (with_reducible first | exact HB.out | apply below_alloc | apply pw_below_drewN | apply below_drew1 | refine below_set ?_ GE119.out) | exact HB.out))) hk))); (case aO => exact (by (with_reducible repeat (first | apply Kd.R_alloc | apply Kd.R_drewN | apply Kd.R_drew)); exact HO_6.out)); (case aS => exact (below_size (by repeat (first | (with_reducible first | exact HB.out | apply below_alloc | apply pw_below_drewN | apply below_drew1 | refine below_set ?_ GE119.out) | exact HB.out)))); (case aL => have := LMc47.out; omega); intro v148 w51 ho hb hg hat; rw [← Ny147.out] at ho; have n0_ := Aside0.mk (Kd.V_afterv (ok := (fun k_ => (P0_ k_ ∨ w.heap.size ≤ k_) ∧ k_ ≠ gb119)) (by (with_reducible repeat (first | apply Kd.V_alloc | apply Kd.V_drewN | apply Kd.V_drew)); exact Kd.V_mono HO_7.out (fun _ hk => ⟨⟨hk.1, hk.2.2⟩, hk.2.1⟩)) hg hat); have n1_ := Aside0.mk (blk_grown (g := gb119) (o := .cells #[.int .i64 ((rd_T38 l1 x14_1).f0), .int .i64 ((rd_T38 l1 x14_1).f1), .int .i64 ((rd_T38 l1 x14_1).f2.f0.f0), .int .i64 ((rd_T38 l1 x14_1).f2.f0.f1), .int .i64 ((rd_T38 l1 x14_1).f2.f1), .bool ((rd_T38 l1 x14_1).f2.f2), .string ((rd_T38 l1 x14_1).f2.f3)] 38 (0, 0)) (by (with_reducible repeat (first | refine blk_drewN ?_ _ | refine blk_drew ?_ | refine blk_alloc ?_ _)); exact BK119.out) hg (Kd.R_ne HO_6.out BK119.out (by decide))); have n2_ := Aside0.mk (hb); have n3_ := Aside0.mk (ho); clear HO_7; clear BK119; clear HB; clear HO_6; have HO_7 := n0_; have BK119 := n1_; have HB := n2_; have HO149 := n3_; clear n0_ n1_ n2_ n3_; clear ho hb hg hat; obtain ⟨Ao53, co53, eo53⟩ := Kd.V_slice HO_7.out; subst eo53; have q52 : (0 : Int) ≤ ((x7_1.length : Int) : Int) := of_decide_eq_true (by first | (with_reducible assumption) | assumption); obtain ⟨i052, hi052, _, hsz52, _⟩ := info_parts info36; have hroom52 : x7_1.length ≤ co53 := (Kd.V_reads' HO_7.out).2.1; have hC52 : Kd.F k36 _ _ Ao53 x7_1.length x7_1 := (Kd.V_at (base := w.heap.size) HO_7.out).2.2; have hcut52 := cut_from (P := Try.prog) 22 36 .i64 Try.underlying22 hi052 5 hsz52 Ao53 x7_1.length co53 0 (by omega) q52; have hr52 := Kd.F_cut (m := (0 : Int).toNat) (c := co53) hC52 (by omega) hroom52; obtain ⟨A52, hA52⟩ : ∃ A1, A1 = (if co53 = (0 : Int).toNat then Ao53 else (Ao53 : Option Addr).map (·.add ((0 : Int).toNat * 5))) := ⟨_, rfl⟩; obtain ⟨c52, hc52⟩ : ∃ c1, c1 = co53 - (0 : Int).toNat := ⟨_, rfl⟩; have hy52 : y150.length = x7_1.length - (0 : Int).toNat := (by rw [Ny150.out, List.length_drop] <;> omega); rw [show (x7_1).drop (0 : Int).toNat = y150 from Ny150.out.symm] at hr52; replace hr52 : Kd.F k36 _ _ A52 y150.length y150 := (by rw [hA52]; exact hr52); rw [← hy52, ← hA52, ← hc52] at hcut52; have HO154 := Aside0.mk (show Kd.V k36 36 _ w.heap.size _ (.slice A52 y150.length c52) y150 from Kd.V_mk (by rw [hy52, hc52]; exact Nat.sub_le_sub_right hroom52 _) hr52); have HC154 := Aside0.mk (show y150.length ≤ c52 from by rw [hy52, hc52]; exact Nat.sub_le_sub_right hroom52 _); clear hr52 hC52 hroom52 hi052 hsz52 hc52; have KY52 := Aside0.mk hy52; have KA52 := Aside0.mk hA52; clear hy52 hA52; replace q52 := eq_true q52)))
                            go_roundg kj5
                            case measure => have := HK1.out; have := HJ5.out; omega
                            case rel => exact ⟨(y147), (y150), (wrap64 (x14_1 + 1)), (by first | rfl | (simp; done) | (simp [*]; done)), H', ⟨by have := HK1.out; have := HJ5.out; omega⟩, ⟨by (with_reducible repeat (first | apply Kd.R_alloc | apply Kd.R_drewN | apply Kd.R_drew)); exact HO149.out⟩, ⟨by (with_reducible repeat (first | apply Kd.V_alloc | apply Kd.V_drewN | apply Kd.V_drew)); exact Kd.V_mono HO154.out (fun _ hk => ⟨hk.1.1, hk.2⟩)⟩, ⟨by repeat (first | (with_reducible first | exact HB.out | apply below_alloc | apply pw_below_drewN | apply below_drew1 | refine below_set ?_ GE119.out) | exact HB.out)⟩⟩
                          · rw [if_neg c49] at H
                            exact absurd H (by simp)
                        · rw [if_neg c48] at H
                          exact absurd H (by simp)
                      · rw [if_neg c47] at H
                        exact absurd H (by simp)
                    · rw [if_neg c46] at H
                      have c46b0 : (((rd_T38 l1 x14_1).f0) == 3) = false := beq_eq_false_iff_ne.mpr c46
                      have c46b1 : (((rd_T38 l1 x14_1).f0) != 3) = true := bne_iff_ne.mpr c46
                      simp only [Option.some.injEq, Prod.mk.injEq] at H
                      obtain ⟨rfl, rfl⟩ := H
                      go_wp2
                      repeat (go_quiet (fail); try go_wp2)
                      go_ret2
                      exact ⟨_, by first | rfl | (simp [errW_none, errW_some] <;> rfl) | (simp [*, errW_none, errW_some] <;> rfl), by first | exact Kd.R_nil _ _ _ _ _ | exact Kd.N_nil _ _ _ _ _ | exact Kd.V_nil _ _ _ _ _ | exact Kd.Q_nil _ _ _ _ _ | exact Kd.S_nil _ _ _ _ _, by repeat (first | (with_reducible first | exact HB.out | apply below_alloc | apply pw_below_drewN | apply below_drew1 | refine below_set ?_ GE119.out) | exact HB.out)⟩
          · rw [if_neg c5] at H
            exact absurd H (by simp)
        · rw [if_neg c4] at H
          exact absurd H (by simp)
      · rw [if_neg c3] at H
        have c3b0 : decide (x14_1 < (l1.length : Int)) = false := decide_eq_false c3
        clear c3
        by_cases c54 : (x7_1.length : Int) > 0
        · rw [if_pos c54] at H
          have c54b0 : decide (0 < (x7_1.length : Int)) = true := decide_eq_true c54
          have c54b1 : decide (0 < x7_1.length) = true := decide_eq_true (by omega)
          clear c54
          simp only [Option.some.injEq, Prod.mk.injEq] at H
          obtain ⟨rfl, rfl⟩ := H
          obtain ⟨Ao55, co55, eo55⟩ := Kd.V_slice HO_7.out
          subst eo55
          go_wp2
          repeat (go_quiet (fail); try go_wp2)
          go_ret2
          exact ⟨_, by first | rfl | (simp [errW_none, errW_some] <;> rfl) | (simp [*, errW_none, errW_some] <;> rfl), by first | exact Kd.R_nil _ _ _ _ _ | exact Kd.N_nil _ _ _ _ _ | exact Kd.V_nil _ _ _ _ _ | exact Kd.Q_nil _ _ _ _ _ | exact Kd.S_nil _ _ _ _ _, by repeat (first | (with_reducible first | exact HB.out | apply below_alloc | apply pw_below_drewN | apply below_drew1) | exact HB.out)⟩
        · rw [if_neg c54] at H
          have c54b0 : decide (0 < (x7_1.length : Int)) = false := decide_eq_false c54
          have c54b1 : decide (0 < x7_1.length) = false := decide_eq_false (by omega)
          clear c54
          simp only [Option.some.injEq, Prod.mk.injEq] at H
          obtain ⟨rfl, rfl⟩ := H
          obtain ⟨Ao56, co56, eo56⟩ := Kd.V_slice HO_7.out
          subst eo56
          go_wp2
          repeat (go_quiet (fail); try go_wp2)
          go_ret2
          exact ⟨_, by first | rfl | (simp [errW_none, errW_some] <;> rfl) | (simp [*, errW_none, errW_some] <;> rfl), by (with_reducible repeat (first | apply Kd.R_alloc | apply Kd.R_drewN | apply Kd.R_drew)); exact HO_6.out, by repeat (first | (with_reducible first | exact HB.out | apply below_alloc | apply pw_below_drewN | apply below_drew1) | exact HB.out)⟩

end Go.Proofs.Ytbaihnpanoibdaa.Q
