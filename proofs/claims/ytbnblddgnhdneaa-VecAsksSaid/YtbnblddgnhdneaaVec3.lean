/- The contracts of package vec and of its reference, more: Of; the reference's methods. -/
import Derived.Test.YtbnblddgnhdneaaVec2
namespace Go.Proofs.Ytbnblddgnhdneaa.Vec
open Go.RowKit Go.Proofs.YtbnblddgnhdneaaW.PrintWords Go.Proofs.YtbnblddgnhdneaaW.PrintLast Go.Proofs.YtbnblddgnhdneaaW.PrintMore Go.Proofs.Ytbnblddgnhdneaa.Mem
attribute [local go_sem] max2_int min2_int max_two min_two
set_option linter.unusedVariables false
set_option linter.unusedSimpArgs false

theorem infosz3 : (Try.prog.info? 3).map (·.size) = some 1 := by kernel_rfl
def Small (ys : List Int) : Prop := ∀ i, 0 ≤ ys.getD i 0 ∧ ys.getD i 0 ≤ 1048576
theorem over_six {xs ys : List Int} (hx : Sixteen xs) (hy : Small ys) (hl : ys.length ≤ 16) : Sixteen (ys ++ xs.drop ys.length) := by
  refine ⟨by rw [List.length_append, List.length_drop, hx.len]; omega, fun i => ?_⟩
  have h1 := hy i
  have h2 := hx.rng i
  simp only [List.getD_eq_getElem?_getD] at h1 h2 ⊢
  by_cases c : i < ys.length
  · rw [List.getElem?_append_left c]; exact h1
  · rw [List.getElem?_append_right (by omega), List.getElem?_drop, show ys.length + (i - ys.length) = i from by omega]; exact h2
theorem run_copy_vec {W : World} {t b : Nat} {xs ys : List Int} (ty : TypeId) (hv : VecAt W t b xs) {A : Option Addr} {c : Nat} (hC : (Kd.int .i64).C W A ys.length ys) (hl : ys.length ≤ 16) (hy : Small ys) :
    ∃ w1, (Builtin.copy_ #[22, 22] ty #[.slice (some ⟨b, 0, none⟩) 16 16, .slice A ys.length c]).run Try.prog W = .ok (goInt ys.length) w1 ∧ VecAt w1 t b (ys ++ xs.drop ys.length) ∧ Keep (fun k => k = b) W w1 := by
  rcases Nat.eq_zero_or_pos ys.length with h0 | hp
  · have e : ys = [] := List.eq_nil_of_length_eq_zero h0
    subst e
    have hr := run_copy_none (P := Try.prog) W 22 22 ty 3 (some ⟨b, 0, none⟩) A 16 16 0 c Try.underlying22 infosz3 (by simp)
    exact ⟨W, hr, by simpa using hv, Keep.refl _ _⟩
  · obtain ⟨ad, rfl, hc⟩ := hC.2.2 hp
    have hsrc : ∀ j v, (nums .i64 ys)[j]? = some v → W.cell? (ad.add j) = some v := by
      intro j v hj
      have hjl : j < ys.length := by
        rcases Nat.lt_or_ge j ys.length with h | h
        · exact h
        · rw [List.getElem?_eq_none (by rw [nums_length]; exact h)] at hj; cases hj
      obtain ⟨cs, h1, h2, h3⟩ := hc j ys[j] (List.getElem?_eq_getElem hjl)
      have e : cs = [.int .i64 ys[j]] := h2
      subst e
      have := h3 0 _ rfl
      have hsz : (Kd.int .i64).sz = 1 := rfl
      rw [hsz, Nat.mul_one, Nat.add_zero] at this
      rw [this]
      simpa [nums, List.getElem?_eq_getElem hjl] using hj
    have hr := run_copy_cells (P := Try.prog) W 22 22 ty 3 b 0 16 16 ad ys.length c (nums .i64 ys) Try.underlying22 infosz3 (by rw [nums_length]; exact (Nat.min_eq_left hl).symm) hsrc
      (fun j hj => by rw [nums_length] at hj; rw [Nat.zero_add, hv.cell j (by omega)]; rfl) (fun j _ => hv.frozen _) (fun v h => by simp only [nums, List.mem_map] at h; obtain ⟨q, _, rfl⟩ := h; rfl)
    obtain ⟨cur', h3, h4, h5⟩ := setCells_row (nums .i64 ys) 0 W _ hv.blk (by rw [nums_length, List.size_toArray, nums_length, hv.six.len]; omega)
    obtain ⟨s1, s2, s3, s4⟩ := setCells_same b (nums .i64 ys) 0 W
    refine ⟨_, by rw [nums_length] at hr; exact hr, ⟨?_, over_six hv.six hy hl⟩, ⟨s1, s2, s3, by rw [s4]; exact Nat.le_refl _, fun k _ hk => setCells_far _ _ k hk⟩⟩
    rw [h3]
    congr 2
    apply Array.ext'
    rw [h5]
    simp [nums, List.map_drop]

/-- What Of makes of numbers. -/
def ofOk (ys : List Int) : Bool := decide (ys.length ≤ 16 ∧ ∀ x ∈ ys, 0 ≤ x ∧ x ≤ 1048576)
def ofV (ys : List Int) : List Int := ys ++ zeros16.drop ys.length
theorem ofOk_small {ys : List Int} (h : ofOk ys = true) : ys.length ≤ 16 ∧ Small ys := by
  have h' := of_decide_eq_true h
  refine ⟨h'.1, fun i => ?_⟩
  rw [List.getD_eq_getElem?_getD]
  cases e : ys[i]? with
  | none => simp
  | some x => exact h'.2 x (List.mem_iff_getElem?.2 ⟨i, e⟩)
theorem C_at {w : World} {A : Option Addr} {n : Nat} {xs : List Int} (h : (Kd.int .i64).C w A n xs) (k : Nat) (hk : k < n) : ∃ ad, A = some ad ∧ w.cell? (ad.add k) = some (.int .i64 (xs.getD k 0)) := by
  obtain ⟨ad, c, e, _, hK, hc⟩ := Kd.C_get h (0 : Int) k (by omega) (by omega)
  have e2 : c = [.int .i64 (xs.getD k 0)] := hK
  subst e2
  have := hc 0 _ rfl
  have hsz : (Kd.int .i64).sz = 1 := rfl
  rw [hsz] at this
  exact ⟨ad, e, by simpa using this⟩
set_option maxHeartbeats 1000000 in
theorem of_ok {w : World} {A : Option Addr} {c : Nat} {ys : List Int} (hC : (Kd.int .i64).C w A ys.length ys) (h : ofOk ys = true) :
    Calls Try.prog 9 #[.slice A ys.length c] w fun e w' => ∃ b, e = .returned (.tuple #[.pointer (some ⟨b, 0, none⟩), .bool true]) ∧ VecAt w' 59 b (ofV ys) ∧ w.heap.size ≤ b ∧ Below w.heap.size w w' := by
  have HC := Lib.hid hC; have H := Lib.hid (ofOk_small h); have HX := Lib.hid (of_decide_eq_true h)
  have hl : ys.length ≤ 16 := (ofOk_small h).1
  have g0 : decide ((16 : Int) < ys.length) = false := decide_eq_false (by omega)
  clear hC h
  go_enter Try.func9, Try.ntmps9
  go_wp2_with fail
  refine (new_ok w).mono ?_
  rintro e w1 ⟨b, rfl, hv, hb, hbl⟩
  have HV := Lib.hid hv; have HB := Lib.hid hb; have HBL := Lib.hid hbl
  clear hv hb hbl
  go_wp2
  go_loop [13] (fun i => ∃ k : Nat, k ≤ ys.length ∧ i = .int .i64 k) (fun i => ys.length - (intOf i).toNat)
  case atStart => exact ⟨0, by omega, rfl⟩
  case round =>
    obtain ⟨k, hk, rfl⟩ := hrel
    by_cases hlt : k < ys.length
    · obtain ⟨ad, rfl, hc⟩ := C_at (Kd.C_below HC.out HBL.out) k hlt
      have hr := H.out.2 k
      obtain ⟨x, ex⟩ : ∃ x, x = ys.getD k 0 := ⟨_, rfl⟩
      rw [← ex] at hc hr
      have g1 : decide (x < 0) = false := decide_eq_false (by omega)
      have g2 : decide (1048576 < x) = false := decide_eq_false (by omega)
      clear ex
      go_wp2
      go_round
      case rel => exact ⟨k + 1, by omega, by go_num⟩
      case measure => simp [intOf]; omega
    · obtain ⟨w2, hr0, hv2, hk2⟩ := run_copy_vec (c := c) 3 HV.out (Kd.C_below HC.out HBL.out) H.out.1 H.out.2
      have hr : (Builtin.copy_ #[22, 22] 3 #[.slice (some ⟨b, 0, none⟩) 16 16, .slice A ys.length c]).run Try.prog w1 = .ok (goInt ys.length) w2 := hr0
      have HV2 := Lib.hid hv2; have HK2 := Lib.hid hk2
      clear hr0 hv2 hk2
      go_wp2
      go_ret2
      exact ⟨b, rfl, HV2.out, HB.out, HBL.out.trans (HK2.out.below (fun i hi h => by have := HB.out; omega) HBL.out.size)⟩
end Go.Proofs.Ytbnblddgnhdneaa.Vec
