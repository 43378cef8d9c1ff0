/- The contracts of package vec and of its reference, more: Count, Have, Clone, Join, Missing, Covers, Of. -/
import Derived.Test.YtbnblddgnhdneaaVec
import Derived.Deep.WholeRow
namespace Go.Proofs.Ytbnblddgnhdneaa.Vec
open Go.RowKit Go.Proofs.YtbnblddgnhdneaaW.PrintWords Go.Proofs.YtbnblddgnhdneaaW.PrintLast Go.Proofs.YtbnblddgnhdneaaW.PrintMore Go.Proofs.Ytbnblddgnhdneaa.Mem
attribute [local go_sem] max2_int min2_int max_two min_two
set_option linter.unusedVariables false
set_option linter.unusedSimpArgs false

theorem info51 : (Try.prog.info? 51).map (·.size) = some 16 := by kernel_rfl
theorem index_arr {xs : List Int} (h : Sixteen xs) (k : Nat) (hk : k < 16) (w : World) : (Instr.index 51 (.agg (nums .i64 xs).toArray) (.int .i64 k)).run Try.prog w = .ok (.int .i64 (xs.getD k 0)) w := by
  have hl : k < xs.length := by rw [h.len]; exact hk
  have hk' : (k : Int) < 16 := by omega
  have h3 : (sizeOf 3).run Try.prog w = .ok 1 w := by kernel_rfl
  simp [Instr.index, run_underlying Try.underlying51, asIntOf, hk', go_sem, h3, nums, hl]
  omega
theorem info59 : (Try.prog.info? 59).map (·.size) = some 16 := by kernel_rfl
theorem info3 : (Try.prog.info? 3).map (fun i => (i.zero, i.size, i.bytes)) = some (some (.int .i64 0), 1, 8) := by kernel_rfl
theorem C_cells {w : World} {g : Nat} (xs : List Int) (hl : xs.length ≤ 140737488351232) (hc : ∀ j x, xs[j]? = some x → w.cell? ⟨g, j, none⟩ = some (.int .i64 x)) : (Kd.int .i64).C w (some ⟨g, 0, none⟩) xs.length xs := by
  refine ⟨rfl, by omega, fun _ => ⟨⟨g, 0, none⟩, rfl, fun j p hp => ⟨[.int .i64 p], rfl, rfl, fun i u hu => ?_⟩⟩⟩
  have hsz : (Kd.int .i64).sz = 1 := rfl
  rw [hsz]
  match i, hu with
  | 0, hu =>
    have e : u = .int .i64 p := by simpa using hu.symm
    subst e
    have hadd : (⟨g, 0, none⟩ : Addr).add (j * 1 + 0) = ⟨g, j, none⟩ := by
      unfold Addr.add
      split <;> simp_all
    rw [hadd]
    exact hc j p hp
  | i + 1, hu => simp at hu
theorem C_vec {w : World} {t b : Nat} {xs : List Int} (hv : VecAt w t b xs) : (Kd.int .i64).C w (some ⟨b, 0, none⟩) 16 xs := by
  have := C_cells (w := w) (g := b) xs (by rw [hv.six.len]; omega) (fun j x hx => by
    rw [blk_cell hv.blk j]
    simp [nums, hx])
  rwa [hv.six.len] at this
theorem getD_sum : ∀ (xs : List Int) (k : Nat), k < xs.length → (xs.take (k + 1)).sum = (xs.take k).sum + xs.getD k 0 := by
  intro xs k h
  rw [List.take_succ_eq_append_getElem h, List.sum_append, List.getD_eq_getElem?_getD, List.getElem?_eq_getElem h]
  simp
/-- How many ops there are. -/
def sumV (xs : List Int) (k : Nat) : Int := (xs.take k).sum
theorem sumV_succ {xs : List Int} (h : Sixteen xs) (k : Nat) (hk : k < 16) : sumV xs (k + 1) = sumV xs k + xs.getD k 0 := getD_sum xs k (by rw [h.len]; exact hk)
theorem sumV_bd {xs : List Int} (h : Sixteen xs) : ∀ (k : Nat), 0 ≤ sumV xs k ∧ sumV xs k ≤ 1048576 * k
  | 0 => by simp [sumV]
  | k + 1 => by
    have ih := sumV_bd h k
    by_cases hk : k < 16
    · have := sumV_succ h k hk
      have := h.rng k
      omega
    · have e : xs.take (k + 1) = xs.take k := by rw [List.take_of_length_le (by rw [h.len]; omega), List.take_of_length_le (by rw [h.len]; omega)]
      unfold sumV at ih ⊢
      rw [e]
      omega
set_option maxHeartbeats 400000 in
theorem count_ok {w : World} {b : Nat} {xs : List Int} (hv : VecAt w 59 b xs) :
    Calls Try.prog 25 #[.pointer (some ⟨b, 0, none⟩)] w fun e w' => e = .returned (.int .i64 xs.sum) ∧ w' = w := by
  have HV := Lib.hid hv
  clear hv
  go_enter Try.func25, Try.ntmps25
  go_wp2_with ((with_reducible refine gate_dst (N := 9) rfl ?_); go_loud (refine wpList_load_row rfl 51 (.tmp 8) rfl b rfl 59 _ (0, 0) _ HV.out.blk Try.underlying51 rfl (by rw [info51, List.size_toArray, nums_length, HV.out.six.len]) ?_))
  go_loop [3, 10] (fun s i => ∃ k : Nat, k ≤ 16 ∧ i = .int .i64 k ∧ s = .int .i64 (sumV xs k)) (fun _ i => 16 - (intOf i).toNat)
  case atStart => exact ⟨0, by omega, rfl, rfl⟩
  case round =>
    obtain ⟨k, hk, rfl, rfl⟩ := hrel
    by_cases hlt : k < 16
    · have hidx := index_arr HV.out.six k hlt w
      have hs := sumV_bd HV.out.six k
      have hr := HV.out.six.rng k
      have HS := Lib.hid (sumV_succ HV.out.six k hlt)
      obtain ⟨x, hx⟩ : ∃ x, x = xs.getD k 0 := ⟨_, rfl⟩
      rw [← hx] at hidx hr HS
      clear hx
      go_wp2
      go_round
      case rel => exact ⟨k + 1, by omega, by go_num, by rw [HS.out]⟩
      case measure => simp [intOf]; omega
    · have e : xs.take k = xs := List.take_of_length_le (by rw [HV.out.six.len]; omega)
      have e' : sumV xs k = xs.sum := by unfold sumV; rw [e]
      rw [e']
      clear e e'
      go_wp2
      go_ret
      exact ⟨rfl, rfl⟩
set_option maxHeartbeats 400000 in
theorem have_ok {w : World} {b : Nat} {xs : List Int} (hv : VecAt w 59 b xs) :
    Calls Try.prog 20 #[.pointer (some ⟨b, 0, none⟩)] w fun e w' => ∃ v, e = .returned v ∧ (Kd.int .i64).R 3 w' w.heap.size (fun _ => True) v xs ∧ Below w.heap.size w w' := by
  have HV := Lib.hid hv
  clear hv
  go_enter Try.func20, Try.ntmps20
  go_wp2_with (at_builtin; go_loud (refine Kd.R_append_row (Value.int .i64) 0 (w0 := w) w.heap.size rfl (.const (.slice none 0 0)) (.tmp 6) 22 3 _ 8 rfl Try.underlying22 info3 rfl (by decide) (.slice none 0 0) [] xs (some ⟨b, 0, none⟩) 16 16 (fun _ => True) rfl rfl (fun k hk => trivial) (Kd.R_nil _ _ _ _ _) (C_vec HV.out) (Below.refl _ _) (Nat.le_refl _) (by simp) ?_); intro v1 w1 hr1 hb1 hg1 hat1; have HR1 := Lib.hid hr1; have HB1 := Lib.hid hb1; clear hr1 hb1 hg1 hat1)
  go_ret
  exact ⟨v1, rfl, HR1.out, HB1.out⟩
set_option maxHeartbeats 400000 in
theorem clone_ok {w : World} {b : Nat} {xs : List Int} (hv : VecAt w 59 b xs) :
    Calls Try.prog 28 #[.pointer (some ⟨b, 0, none⟩)] w fun e w' => ∃ b', e = .returned (.pointer (some ⟨b', 0, none⟩)) ∧ VecAt w' 59 b' xs ∧ w.heap.size ≤ b' ∧ Below w.heap.size w w' := by
  have HV := Lib.hid hv
  clear hv
  go_enter Try.func28, Try.ntmps28
  have hz : (nums .i64 xs).toArray.size = 16 := by rw [List.size_toArray, nums_length, HV.out.six.len]
  have h1 : (nums .i64 xs).toArray.all (·.oneCell') = true := by simp [nums, Value.oneCell']
  have HZ := Lib.hid hz; have H1 := Lib.hid h1
  clear hz h1
  go_wp2_with (first
    | ((with_reducible refine gate_dst (N := 6) rfl ?_); go_loud (refine wpList_load_row rfl 59 (.tmp 5) rfl b rfl 59 _ (0, 0) _ HV.out.blk Try.underlying59 rfl (by rw [info59, HZ.out]) ?_))
    | ((with_reducible refine gate_store (p := 3) rfl ?_); go_loud (refine wpList_store_row rfl 59 (.tmp 3) (.tmp 6) rfl w.heap.size _ rfl rfl 59 _ (heap_alloc_new w _) (by rw [info59, HZ.out]) (by rw [HZ.out]; rfl) H1.out ?_); rw [World.setRow_alloc_new]))
  go_ret
  exact ⟨w.heap.size, rfl, ⟨heap_alloc_new w _, HV.out.six⟩, Nat.le_refl _, below_alloc (Below.refl _ _) _⟩

/-! ### Join -/
def joinV (xs ys : List Int) : List Int := List.zipWith max xs ys
def joinK (xs ys : List Int) (k : Nat) : List Int := (joinV xs ys).take k ++ xs.drop k
theorem joinK_get (xs ys : List Int) (k : Nat) (hx : xs.length = 16) (hy : ys.length = 16) (hk : k < 16) : (joinK xs ys k).getD k 0 = xs.getD k 0 := by
  unfold joinK joinV
  simp only [List.getD_eq_getElem?_getD]
  rw [List.getElem?_append_right (by simp; omega), List.getElem?_drop]
  congr 2
  simp; omega
theorem joinK_set (xs ys : List Int) (k : Nat) (hx : xs.length = 16) (hy : ys.length = 16) (hk : k < 16) : (joinK xs ys k).set k (max (xs.getD k 0) (ys.getD k 0)) = joinK xs ys (k + 1) := by
  have hl : ((List.zipWith max xs ys).take k).length = k := by simp; omega
  unfold joinK joinV
  rw [List.set_append_right _ _ (by rw [hl]; exact Nat.le_refl _), hl, Nat.sub_self, List.drop_eq_getElem_cons (by omega), List.set_cons_zero, List.take_succ_eq_append_getElem (by simp; omega), List.append_assoc]
  congr 1
  simp [List.getD_eq_getElem?_getD, hx, hy, hk]
theorem join_six {xs ys : List Int} (hx : Sixteen xs) (hy : Sixteen ys) : ∀ k, k ≤ 16 → Sixteen (joinK xs ys k)
  | 0, _ => by unfold joinK; simpa using hx
  | k + 1, h => by
    rw [← joinK_set xs ys k hx.len hy.len (by omega)]
    have a := hx.rng k
    have b := hy.rng k
    exact (join_six hx hy k (by omega)).set k _ (by omega) (by omega)
theorem joinK_end (xs ys : List Int) (hx : xs.length = 16) (hy : ys.length = 16) : joinK xs ys 16 = joinV xs ys := by
  unfold joinK joinV
  rw [List.take_of_length_le (by simp; omega), List.drop_eq_nil_of_le (by omega), List.append_nil]
set_option maxHeartbeats 1000000 in
theorem join_ok {w : World} {b b2 : Nat} {xs ys : List Int} (hv : VecAt w 59 b xs) (hy : VecAt w 59 b2 ys) :
    Calls Try.prog 29 #[.pointer (some ⟨b, 0, none⟩), .pointer (some ⟨b2, 0, none⟩)] w fun e w' => e = .returned (.tuple #[]) ∧ VecAt w' 59 b (joinV xs ys) ∧ Keep (fun k => k = b) w w' := by
  have HV := Lib.hid hv; have HY := Lib.hid hy
  clear hv hy
  go_enter Try.func29, Try.ntmps29
  go_wp2_with ((with_reducible refine gate_dst (N := 9) rfl ?_); go_loud (refine wpList_load_row rfl 51 (.tmp 8) rfl b2 rfl 59 _ (0, 0) _ HY.out.blk Try.underlying51 rfl (by rw [info51, List.size_toArray, nums_length, HY.out.six.len]) ?_))
  go_loopw [10] (fun i wr => ∃ k : Nat, k ≤ 16 ∧ i = .int .i64 k ∧ VecAt wr 59 b (joinK xs ys k) ∧ Keep (fun k => k = b) w wr) (fun i _ => 16 - (intOf i).toNat)
  case atStart => exact ⟨0, by omega, rfl, by unfold joinK; simpa using HV.out, Keep.refl _ _⟩
  case round =>
    obtain ⟨k, hk, rfl, hvk, hkp⟩ := hrel
    by_cases hlt : k < 16
    · have hidx := fun W => index_arr HY.out.six k hlt W
      have hc := hvk.cell k hlt
      rw [joinK_get xs ys k HV.out.six.len HY.out.six.len hlt] at hc
      have hf := hvk.frozen k
      have hlt' : (k : Int) < 16 := by omega
      have HS := Lib.hid (joinK_set xs ys k HV.out.six.len HY.out.six.len hlt)
      have HVK := Lib.hid hvk; have HKP := Lib.hid hkp
      have hx := HV.out.six.rng k
      have hy := HY.out.six.rng k
      obtain ⟨x, ex⟩ : ∃ x, x = xs.getD k 0 := ⟨_, rfl⟩
      obtain ⟨y, ey⟩ : ∃ y, y = ys.getD k 0 := ⟨_, rfl⟩
      rw [← ex] at hc HS hx
      rw [← ey] at hidx HS hy
      clear hvk hkp ex ey
      go_wp2
      go_region
      all_goals go_wp2
      have em : (if x < y then y else x) = max x y := by omega
      rw [em]
      refine ⟨⟨k + 1, by omega, by go_num, ?_, ?_⟩, by simp [intOf]; omega⟩
      · rw [← HS.out]
        have := VecAt.set HVK.out k (max x y) (by omega) (by omega)
        exact ⟨this.blk, this.six⟩
      · have := HKP.out.trans (Keep.setCell (F := fun k => k = b) wr (p := ⟨b, k, none⟩) rfl (.int .i64 (max x y))) (fun _ _ h => h)
        exact this.trans (Keep.drewN (fun k => k = b) _ 1) (fun _ _ h => h)
    · obtain rfl : k = 16 := by omega
      rw [joinK_end xs ys HV.out.six.len HY.out.six.len] at hvk
      have HVK := Lib.hid hvk; have HKP := Lib.hid hkp
      clear hvk hkp
      go_wp2
      go_end0
      exact ⟨rfl, HVK.out, HKP.out⟩

/-! ### Missing -/
/-- A cut of an op: its name, from where, up to where. -/
structure Cut where
  r : Int
  n : Int
  f : Int
  t : Int
deriving DecidableEq
def kcut : Kd Cut := Kd.iso (Kd.pair (Kd.int .i64) (Kd.pair (Kd.int .i64) (Kd.pair (Kd.int .i64) (Kd.int .i64)))) (fun x : Cut => (x.r, x.n, x.f, x.t))
def Cut.cells (p : Cut) : List Value := [.int .i64 p.r, .int .i64 p.n, .int .i64 p.f, .int .i64 p.t]
theorem kcut_M (W : World) (base : Nat) (ok : Nat → Prop) (p : Cut) : kcut.M W base ok p p.cells :=
  ⟨[.int .i64 p.r], [.int .i64 p.n, .int .i64 p.f, .int .i64 p.t], rfl, rfl, ⟨[.int .i64 p.n], [.int .i64 p.f, .int .i64 p.t], rfl, rfl, ⟨[.int .i64 p.f], [.int .i64 p.t], rfl, rfl, rfl⟩⟩⟩
theorem kcut_K {W : World} {p : Cut} {cs : List Value} (h : kcut.K W p cs) : cs = p.cells := by
  obtain ⟨_, _, rfl, rfl, ⟨_, _, rfl, rfl, ⟨_, _, rfl, rfl, rfl⟩⟩⟩ := h
  rfl
theorem info33 : (Try.prog.info? 33).map (fun i => (i.zero, i.size, i.bytes)) = some (some (.agg #[.int .i64 0, .int .i64 0, .int .i64 0, .int .i64 0]), 4, 32) := by kernel_rfl
def missAt (xs ys : List Int) (i : Nat) : Option Cut := if xs.getD i 0 < ys.getD i 0 then some ⟨i, xs.getD i 0 + 1, xs.getD i 0 + 1, ys.getD i 0 + 1⟩ else none
def missV (xs ys : List Int) (k : Nat) : List Cut := (List.range k).filterMap (missAt xs ys)
theorem missV_yes {xs ys : List Int} {k : Nat} (h : xs.getD k 0 < ys.getD k 0) : missV xs ys (k + 1) = missV xs ys k ++ [⟨k, xs.getD k 0 + 1, xs.getD k 0 + 1, ys.getD k 0 + 1⟩] := by
  unfold missV
  rw [List.range_succ, List.filterMap_append]
  congr 1
  simp only [List.filterMap_cons, missAt]
  rw [if_pos h]
  rfl
theorem missV_no {xs ys : List Int} {k : Nat} (h : ¬ xs.getD k 0 < ys.getD k 0) : missV xs ys (k + 1) = missV xs ys k := by
  unfold missV
  rw [List.range_succ, List.filterMap_append]
  simp only [List.filterMap_cons, missAt]
  rw [if_neg h]
  simp
theorem missV_len (xs ys : List Int) (k : Nat) : (missV xs ys k).length ≤ k := by
  unfold missV
  have := List.length_filterMap_le (missAt xs ys) (List.range k)
  simpa using this
set_option maxHeartbeats 1000000 in
theorem missing_ok {w : World} {b b2 : Nat} {xs ys : List Int} (hv : VecAt w 59 b xs) (hy : VecAt w 59 b2 ys) :
    Calls Try.prog 10 #[.pointer (some ⟨b, 0, none⟩), .pointer (some ⟨b2, 0, none⟩)] w fun e w' => ∃ v, e = .returned v ∧ kcut.R 33 w' w.heap.size (fun _ => True) v (missV xs ys 16) ∧ Below w.heap.size w w' := by
  have HV := Lib.hid hv; have HY := Lib.hid hy
  clear hv hy
  go_enter Try.func10, Try.ntmps10
  go_wp2_with ((with_reducible refine gate_dst (N := 12) rfl ?_); go_loud (refine wpList_load_row rfl 51 (.tmp 11) rfl b2 rfl 59 _ (0, 0) _ HY.out.blk Try.underlying51 rfl (by rw [info51, List.size_toArray, nums_length, HY.out.six.len]) ?_))
  go_loopw [5, 13] (fun out i wr => ∃ k : Nat, k ≤ 16 ∧ i = .int .i64 k ∧ kcut.R 33 wr w.heap.size (fun _ => True) out (missV xs ys k) ∧ Below w.heap.size w wr) (fun _ i _ => 16 - (intOf i).toNat)
  case atStart => exact ⟨0, by omega, rfl, Kd.R_nil _ _ _ _ _, Below.refl _ _⟩
  case round =>
    obtain ⟨k, hk, rfl, hr, hb⟩ := hrel
    by_cases hlt : k < 16
    · have hidx := fun W => index_arr HY.out.six k hlt W
      have hc := (HV.out.below hb HV.out.lt).cell k hlt
      have hlt' : (k : Int) < 16 := by omega
      have hx := HV.out.six.rng k
      have hy := HY.out.six.rng k
      have HR := Lib.hid hr; have HB := Lib.hid hb
      have HL := Lib.hid (missV_len xs ys k)
      by_cases hm : xs.getD k 0 < ys.getD k 0
      · have HM := Lib.hid (missV_yes hm)
        obtain ⟨x, ex⟩ : ∃ x, x = xs.getD k 0 := ⟨_, rfl⟩
        obtain ⟨y, ey⟩ : ∃ y, y = ys.getD k 0 := ⟨_, rfl⟩
        rw [← ex] at hc HM hx hm
        rw [← ey] at hidx HM hy hm
        have g : decide (x + 1 ≤ y) = true := decide_eq_true (by omega)
        clear hr hb ex ey
        go_wp2_with (at_builtin; go_loud (refine Kd.R_append kcut (w0 := w) w.heap.size rfl (.tmp 27) (.tmp 35) 27 33 _ 32 rfl Try.underlying27 info33 rfl (by decide) (by decide) u5 (missV xs ys k) ⟨k, x + 1, x + 1, y + 1⟩ (Cut.cells ⟨k, x + 1, x + 1, y + 1⟩) (fun _ => True) (fun _ => False) rfl rfl (kcut_M _ _ _ _) (fun _ h => h.elim) (fun _ _ => trivial) HR.out HB.out HB.out.size (by have := HL.out; omega) ?_); intro v1 w1 hr1 hb1 hg1 hat1; have HR1 := Lib.hid hr1; have HB1 := Lib.hid hb1; clear hr1 hb1 hg1 hat1 hc)
        go_roundw
        case rel => exact ⟨k + 1, by omega, by go_num, by rw [HM.out]; exact HR1.out, HB1.out⟩
        case measure => simp [intOf]; omega
      · have HM := Lib.hid (missV_no hm)
        obtain ⟨x, ex⟩ : ∃ x, x = xs.getD k 0 := ⟨_, rfl⟩
        obtain ⟨y, ey⟩ : ∃ y, y = ys.getD k 0 := ⟨_, rfl⟩
        rw [← ex] at hc hx hm
        rw [← ey] at hidx hy hm
        have g : decide (x + 1 ≤ y) = false := decide_eq_false (by omega)
        clear hr hb ex ey
        go_wp2
        go_roundw
        case rel => exact ⟨k + 1, by omega, by go_num, by rw [HM.out]; exact HR.out, HB.out⟩
        case measure => simp [intOf]; omega
    · obtain rfl : k = 16 := by omega
      have HR := Lib.hid hr; have HB := Lib.hid hb
      clear hr hb
      go_wp2
      go_ret
      exact ⟨_, rfl, HR.out, HB.out⟩
/-- Nothing is missing. -/
def coversB (xs ys : List Int) : Bool := ((missV xs ys 16).length : Int) == 0
set_option maxHeartbeats 400000 in
theorem covers_ok {w : World} {b b2 : Nat} {xs ys : List Int} (hv : VecAt w 59 b xs) (hy : VecAt w 59 b2 ys) :
    Calls Try.prog 11 #[.pointer (some ⟨b, 0, none⟩), .pointer (some ⟨b2, 0, none⟩)] w fun e w' => e = .returned (.bool (coversB xs ys)) ∧ Below w.heap.size w w' := by
  have HV := Lib.hid hv; have HY := Lib.hid hy
  clear hv hy
  unfold coversB
  obtain ⟨l, el⟩ : ∃ l, l = missV xs ys 16 := ⟨_, rfl⟩
  have EL := Lib.hid el
  rw [← el]
  clear el
  go_enter Try.func11, Try.ntmps11
  go_wp2_with (go_at_call 10; refine (missing_ok HV.out HY.out).mono ?_; rw [← EL.out]; rintro e w1 ⟨v, rfl, hr, hb⟩; obtain ⟨A, c, ev⟩ := Kd.R_slice hr; subst ev; have HB := Lib.hid hb; clear hr hb)
  go_ret
  exact ⟨rfl, HB.out⟩
end Go.Proofs.Ytbnblddgnhdneaa.Vec
