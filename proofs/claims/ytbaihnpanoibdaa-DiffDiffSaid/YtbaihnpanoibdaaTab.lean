/- The table of layer 28: reading and writing a cell; slices.Backward, at every outline. -/
import Derived.Test.YtbaihnpanoibdaaLift
import Derived.Test.YtbaihnpanoibdaaMath
import Derived.Test.YtbaihnpanoibdaaMem
namespace Go.Proofs.Ytbaihnpanoibdaa.Q
open Go.RowKit Go.Shelf Go.Proofs.YtbaihnpanoibdaaW.PrintWords Go.Proofs.YtbaihnpanoibdaaW.PrintLast Go.Proofs.YtbaihnpanoibdaaW.PrintMore Go.Proofs.Ytbaihnpanoibdaa.Mem Go.Proofs.Ytbaihnpanoibdaa.Lift
set_option linter.unusedVariables false
set_option linter.unusedSimpArgs false
attribute [local go_sem] Oper.semAt_some

set_option maxHeartbeats 1000000 in
theorem at_ok (w : World) (g cap n q i k wd : Nat) (v : Int) (hq : (i : Int) * (wd : Int) = (q : Int)) (hqn : q + k < n) (hn : n ≤ 1000000) (hc : w.cell? ⟨g, q + k, none⟩ = some (.int .i64 v)) :
    Calls Try.prog 31 #[.agg #[.slice (some ⟨g, 0, none⟩) n cap, .int .i64 wd], .int .i64 i, .int .i64 k] w fun e w' => e = .returned (.int .i64 v) ∧ w' = w.alloc (.cells #[.slice (some ⟨g, 0, none⟩) n cap, .int .i64 wd] 53) := by
  have hlt : g < w.heap.size := World.block_lt_of_cell? _ _ hc
  have hc' := fun o => ((below_alloc (Below.refl w.heap.size w) o).cell (p := ⟨g, q + k, none⟩) hlt).trans hc
  clear hc
  go_enter Try.func31, Try.ntmps31
  go_wp2
  go_ret
  exact ⟨rfl, rfl⟩
set_option maxHeartbeats 1000000 in
theorem set_ok (w : World) (g cap n q i k wd : Nat) (v x : Int) (hq : (i : Int) * (wd : Int) = (q : Int)) (hqn : q + k < n) (hn : n ≤ 1000000) (hc : w.cell? ⟨g, q + k, none⟩ = some (.int .i64 x)) (hf : w.frozen? ⟨g, q + k, none⟩ = false) :
    Calls Try.prog 32 #[.agg #[.slice (some ⟨g, 0, none⟩) n cap, .int .i64 wd], .int .i64 i, .int .i64 k, .int .i64 v] w fun e w' => e = .returned (.tuple #[]) ∧ w' = (w.setCell ⟨g, q + k, none⟩ (.int .i64 v)).alloc (.cells #[.slice (some ⟨g, 0, none⟩) n cap, .int .i64 wd] 53) := by
  have hlt : g < w.heap.size := World.block_lt_of_cell? _ _ hc
  have hc' := fun o => ((below_alloc (Below.refl w.heap.size w) o).cell (p := ⟨g, q + k, none⟩) hlt).trans hc
  have hf' := fun o => ((below_alloc (Below.refl w.heap.size w) o).frozen (p := ⟨g, q + k, none⟩) hlt).trans hf
  clear hc hf
  go_enter Try.func32, Try.ntmps32
  go_wp2
  go_end0
  exact ⟨rfl, rfl⟩
set_option maxHeartbeats 1000000 in
theorem back_in (F : Fence) (n : Nat) (h30 : F.fn 30) (hro : F.round = none) (A : Option Addr) (len cap : Nat) (w : World) :
    CallsIn F n Try.prog 30 #[.slice A len cap] w fun e w' => e = .returned (.func (.func 36) #[] #[.pointer (some ⟨w.heap.size, 0, none⟩)]) ∧ w' = w.alloc (.cells #[.slice A len cap] 22) := by
  refine callsIn_of_wp Try.func30 rfl h30 ?_ hro
  simp only [Try.ntmps30, List.size_toArray, List.length_cons, List.length_nil, Nat.reduceAdd, Nat.reduceSub, Array.replicate_succ, Array.replicate_zero, List.push_toArray, List.append_toArray, List.nil_append, List.cons_append]
  gi_wp2
  go_ret
  exact ⟨rfl, rfl⟩
/-- What has come: the last index, the one ahead of it, and so on. -/
def Came {len : Nat} (pre : List (Fin len)) : Prop := ∀ j (h : j < pre.length), (pre[j]).1 + j + 1 = len
theorem Came.nil {len : Nat} : Came ([] : List (Fin len)) := fun _ h => by cases h
theorem Came.snoc {len : Nat} {pre : List (Fin len)} {x : Fin len} : Came (pre ++ [x]) ↔ Came pre ∧ x.1 + pre.length + 1 = len := by
  constructor
  · intro h
    refine ⟨fun j hj => ?_, ?_⟩
    · have := h j (by simp; omega)
      rwa [List.getElem_append_left hj] at this
    · have := h pre.length (by simp)
      simpa using this
  · rintro ⟨h1, h2⟩ j hj
    simp at hj
    by_cases hlt : j < pre.length
    · rw [List.getElem_append_left hlt]; exact h1 j hlt
    · obtain rfl : j = pre.length := by omega
      simpa using h2
/-- The blocks that a loop over the table may turn: the table's own, and new ones. -/
def TF (g N : Nat) : Nat → Prop := fun k => k = g ∨ N ≤ k
/-- A block's value. -/
abbrev bv (x : S36) : Value := .agg #[.int .i64 x.f0.f0, .int .i64 x.f0.f1, .int .i64 x.f1, .bool x.f2, .string x.f3]
/-- What yield is handed. -/
def encB (zs : List S36) (x : Fin zs.length) : Array Value := #[.int .i64 (x.1 : Int), bv (rd_T36 zs (x.1 : Int))]
set_option maxRecDepth 100000 in
set_option maxHeartbeats 2000000 in
theorem back1_in (F : Fence) (n : Nat) (h36 : F.fn 36) (hro : F.round = none) (hn : 1 ≤ n) (l Bs N g : Nat) (A : Option Addr) (c : Nat) (zs : List S36) (hl : zs.length ≤ 300) (w0 : World) (hC : k36.C w0 A zs.length zs) (J Jx : List (Fin zs.length) → World → Prop)
    (hY : ∀ pre x W, J pre W → pre.length < zs.length → YieldAt F (n - 1) Try.prog l (encB zs x) W fun e W' =>
      (e = .returned (.bool true) ∧ J (pre ++ [x]) W' ∧ Keep (TF g N) W W') ∨ (e = .returned (.bool false) ∧ Jx (pre ++ [x]) W'))
    (W : World) (hW : Below w0.heap.size w0 W) (hg : w0.heap.size ≤ g) (hN : w0.heap.size ≤ N) (hB1 : Bs < N) (hB2 : Bs ≠ g) (hBc : W.cell? ⟨Bs, 0, none⟩ = some (.slice A zs.length c)) (h0 : J [] W) :
    CallsIn F n Try.prog 36 #[.func (.yield l) #[] #[], .pointer (some ⟨Bs, 0, none⟩)] W fun e W' => (∃ v, e = .returned v) ∧
      ((∃ ys, (Came ys ∧ ys.length = zs.length) ∧ J ys W') ∨ (∃ pre, True ∧ Jx pre W')) := by
  have HC := Lib.hid hC; have HW := Lib.hid hW
  clear hC hW
  refine callsIn_of_wp Try.func36 rfl h36 ?_ hro
  simp only [Try.ntmps36, List.size_toArray, List.length_cons, List.length_nil, Nat.reduceAdd, Nat.reduceSub, Array.replicate_succ, Array.replicate_zero, List.push_toArray, List.append_toArray, List.nil_append, List.cons_append]
  gi_wp2
  gi_loopw [3] (fun i wr => ∃ (m : Nat) (pre : List (Fin zs.length)), pre.length + m = zs.length ∧ i = .int .i64 ((m : Int) - 1) ∧ Came pre ∧ J pre wr ∧ Keep (TF g N) W wr)
    (fun i _ => ((intOf i) + 1).toNat)
  case atStart => exact ⟨zs.length, [], by simp, rfl, Came.nil, h0, Keep.refl _ _⟩
  case round =>
    obtain ⟨m, pre, hm, rfl, hcm, hJs, hk⟩ := hrel
    have HK := Lib.hid hk; have HM := Lib.hid hcm
    have hbs : wr.cell? ⟨Bs, 0, none⟩ = some (.slice A zs.length c) := by
      have := hk.block Bs (World.block_lt_of_cell? _ _ hBc) (fun h => h.elim hB2 (fun h => by omega))
      rw [← hBc]
      simp [World.cell?, this]
    have bel : Below w0.heap.size w0 wr := HW.out.trans (hk.below (fun i hi h => h.elim (fun h => by omega) (fun h => by omega)) HW.out.size)
    clear hk hcm
    cases m with
    | zero =>
      have e0 : (((0 : Nat) : Int) - 1) = -1 := rfl
      rw [e0]
      gi_wp2
      go_end0
      exact ⟨⟨_, rfl⟩, .inl ⟨pre, ⟨HM.out, by omega⟩, hJs⟩⟩
    | succ m =>
      have e0 : (((m + 1 : Nat) : Int) - 1) = (m : Int) := by omega
      rw [e0]
      obtain ⟨ad, eA, c0, c1, c2, c3, c4⟩ := at_T36 (Kd.C_below HC.out bel) (m : Int) (by omega) (by omega)
      rw [Int.toNat_natCast] at c0 c1 c2 c3 c4
      subst eA
      obtain ⟨fn, tmps, assign, body, hy, hR⟩ := hY pre ⟨m, by omega⟩ wr hJs (by omega)
      dsimp only [encB, bv] at hy
      clear bel
      have hml : m < zs.length := by omega
      gi_wp2
      refine hR.mono ?_
      rintro e W3 (⟨rfl, hJ3, hk3⟩ | ⟨rfl, hJx3⟩)
      · have HK3 := Lib.hid hk3
        clear hk3
        gi_wp2
        go_roundw
        case rel => exact ⟨m, pre ++ [⟨m, hml⟩], by simp; omega, rfl, Came.snoc.2 ⟨HM.out, by show m + pre.length + 1 = _; omega⟩, hJ3, HK.out.trans HK3.out (fun _ _ h => h)⟩
        case measure => simp [intOf]
      · gi_wp2
        refine bodyPost_ret (results_none rfl _ _ _) rfl ?_
        exact ⟨⟨_, rfl⟩, .inr ⟨_, trivial, hJx3⟩⟩
theorem back_stops (F : Fence) (n : Nat) (h36 : F.fn 36) (hro : F.round = none) (hn : 1 ≤ n) (Bs N g : Nat) (A : Option Addr) (c : Nat) (zs : List S36) (hl : zs.length ≤ 300) (w0 w : World) (hC : k36.C w0 A zs.length zs) (hW : Below w0.heap.size w0 w) (hg : w0.heap.size ≤ g) (hN : w0.heap.size ≤ N) (hB1 : Bs < N) (hB2 : Bs ≠ g)
    (hBc : w.cell? ⟨Bs, 0, none⟩ = some (.slice A zs.length c)) :
    SeqStopsK F n Try.prog 36 #[.pointer (some ⟨Bs, 0, none⟩)] (encB zs) (Keep (TF g N)) (fun ys => Came ys ∧ ys.length = zs.length) (fun _ => True) zs.length w := fun l J Jx W hbW _ _ hY h0 =>
  back1_in F n h36 hro hn l Bs N g A c zs hl w0 hC J Jx hY W (hW.trans (hbW.mono hW.size)) hg hN hB1 hB2 ((hbW.cell (p := ⟨Bs, 0, none⟩) (World.block_lt_of_cell? _ _ hBc)).trans hBc) h0
end Go.Proofs.Ytbaihnpanoibdaa.Q
