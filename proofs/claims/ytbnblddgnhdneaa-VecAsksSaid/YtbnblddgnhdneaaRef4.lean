/- The contracts of the reference's Of, and of both. -/
import Derived.Test.YtbnblddgnhdneaaRef3
namespace Go.Proofs.Ytbnblddgnhdneaa.Vec
open Go.RowKit Go.Proofs.YtbnblddgnhdneaaW.PrintWords Go.Proofs.YtbnblddgnhdneaaW.PrintLast Go.Proofs.YtbnblddgnhdneaaW.PrintMore Go.Proofs.Ytbnblddgnhdneaa.Mem
attribute [local go_sem] max2_int min2_int max_two min_two
set_option linter.unusedVariables false
set_option linter.unusedSimpArgs false

/-- The first k numbers are in. -/
def ofK (ys : List Int) (k : Nat) : List Int := ys.take k ++ zeros16.drop k
theorem ofK_set {ys : List Int} {k : Nat} (h : ys.length ≤ 16) (hk : k < ys.length) : (ofK ys k).set k (ys.getD k 0) = ofK ys (k + 1) := by
  have hl : (ys.take k).length = k := by rw [List.length_take]; omega
  have hz : zeros16.length = 16 := rfl
  unfold ofK
  rw [List.set_append_right _ _ (by rw [hl]; exact Nat.le_refl _), hl, Nat.sub_self, List.drop_eq_getElem_cons (by omega), List.set_cons_zero, List.take_succ_eq_append_getElem hk, List.append_assoc, List.getD_eq_getElem?_getD, List.getElem?_eq_getElem hk]
  rfl
theorem ofK_zero (ys : List Int) : ofK ys 0 = zeros16 := by unfold ofK; simp
theorem ofK_end (ys : List Int) : ofK ys ys.length = ofV ys := by unfold ofK ofV; rw [List.take_length]
set_option maxHeartbeats 1000000 in
theorem refOf_big {w : World} {A : Option Addr} {c : Nat} {n : Nat} (h : 16 < n) :
    Calls Try.prog 32 #[.slice A n c] w fun e w' => e = .returned (.tuple #[.pointer none, .bool false]) ∧ Below w.heap.size w w' := by
  have g0 : decide ((16 : Int) < n) = true := decide_eq_true (by omega)
  go_enter Try.func32, Try.ntmps32
  go_wp2
  go_ret2
  exact ⟨rfl, below_alloc (Below.refl _ _) _⟩
set_option maxHeartbeats 1000000 in
set_option maxRecDepth 100000 in
theorem refOf_small {w : World} {A : Option Addr} {c : Nat} {ys : List Int} (hC : (Kd.int .i64).C w A ys.length ys) (hl : ys.length ≤ 16) :
    Calls Try.prog 32 #[.slice A ys.length c] w fun e w' => Below w.heap.size w w' ∧ ((ofOk ys = true ∧ ∃ b, e = .returned (.tuple #[.pointer (some ⟨b, 0, none⟩), .bool true]) ∧ VecAt w' 53 b (ofV ys) ∧ w.heap.size ≤ b) ∨ (ofOk ys = false ∧ e = .returned (.tuple #[.pointer none, .bool false]))) := by
  have HC := Lib.hid hC
  clear hC
  have g0 : decide ((16 : Int) < ys.length) = false := decide_eq_false (by omega)
  go_enter Try.func32, Try.ntmps32
  go_wp2_with fail
  go_loopw [5] (fun i wr => ∃ k : Nat, k ≤ ys.length ∧ i = .int .i64 k ∧ VecAt wr 53 w.heap.size (ofK ys k) ∧ (∀ j : Nat, j < k → 0 ≤ ys.getD j 0 ∧ ys.getD j 0 ≤ 1048576) ∧ Below w.heap.size w wr) (fun i _ => ys.length - (intOf i).toNat)
  case atStart =>
    refine ⟨0, by omega, rfl, ⟨?_, by rw [ofK_zero]; exact six_zeros⟩, fun j hj => by omega, below_alloc (Below.refl _ _) _⟩
    rw [ofK_zero]
    exact heap_alloc_new w _
  case round =>
    obtain ⟨k, hk, rfl, hv, hall, hb⟩ := hrel
    have HV := Lib.hid hv; have HALL := Lib.hid hall; have HB := Lib.hid hb
    clear hv hall hb
    by_cases hlt : k < ys.length
    · obtain ⟨ad, rfl, hc⟩ := C_at (Kd.C_below HC.out HB.out) k hlt
      have no : ¬ (0 ≤ ys.getD k 0 ∧ ys.getD k 0 ≤ 1048576) → ofOk ys = false := fun h => by
        cases e : ofOk ys with
        | false => rfl
        | true => exact absurd ((ofOk_small e).2 k) h
      by_cases b0 : ys.getD k 0 < 0
      · have NO := Lib.hid (no (by omega))
        obtain ⟨x, ex⟩ : ∃ x, x = ys.getD k 0 := ⟨_, rfl⟩
        rw [← ex] at hc b0
        have g1 : decide (x < 0) = true := decide_eq_true b0
        clear ex b0 no
        go_wp2
        go_ret2
        exact ⟨HB.out, .inr ⟨NO.out, rfl⟩⟩
      · by_cases b1 : 1048576 < ys.getD k 0
        · have NO := Lib.hid (no (by omega))
          obtain ⟨x, ex⟩ : ∃ x, x = ys.getD k 0 := ⟨_, rfl⟩
          rw [← ex] at hc b0 b1
          have g1 : decide (x < 0) = false := decide_eq_false b0
          have g2 : decide (1048576 < x) = true := decide_eq_true b1
          clear ex b0 b1 no
          go_wp2
          go_ret2
          exact ⟨HB.out, .inr ⟨NO.out, rfl⟩⟩
        · have BB := Lib.hid (And.intro b0 b1)
          have hlt16 : (k : Int) < 16 := by omega
          have hcv := HV.out.cell k (by omega)
          have hf := HV.out.frozen k
          have HS := Lib.hid (ofK_set hl hlt)
          obtain ⟨z, ez⟩ : ∃ z, z = (ofK ys k).getD k 0 := ⟨_, rfl⟩
          rw [← ez] at hcv
          obtain ⟨x, ex⟩ : ∃ x, x = ys.getD k 0 := ⟨_, rfl⟩
          rw [← ex] at hc b0 b1 BB HS
          have g1 : decide (x < 0) = false := decide_eq_false b0
          have g2 : decide (1048576 < x) = false := decide_eq_false b1
          have EX := Lib.hid ex
          clear ex ez b0 b1 no
          go_wp2
          go_region
          all_goals go_wp2
          have bb := BB.out
          refine ⟨⟨k + 1, by omega, by go_num, ?_, ?_, ?_⟩, by simp [intOf]; omega⟩
          · rw [← HS.out]
            have := VecAt.set HV.out k x (by omega) (by omega)
            exact ⟨this.blk, this.six⟩
          · intro j hj
            by_cases c : j < k
            · exact HALL.out j c
            · obtain rfl : j = k := by omega
              rw [← EX.out]; omega
          · have := (Keep.setCell (F := fun k => k = w.heap.size) wr (p := ⟨w.heap.size, k, none⟩) rfl (.int .i64 x)).trans (Keep.drewN (fun k => k = w.heap.size) _ 1) (fun _ _ h => h)
            exact HB.out.trans (this.below (fun i hi h => by omega) HB.out.size)
    · obtain rfl : k = ys.length := by omega
      have OK := Lib.hid (ofOk_all hl (fun i hi => HALL.out i hi))
      have HV' : Hid (VecAt wr 53 w.heap.size (ofV ys)) := Lib.hid (ofK_end ys ▸ HV.out)
      clear HV
      go_wp2
      go_ret2
      exact ⟨HB.out, .inl ⟨OK.out, _, rfl, HV'.out, Nat.le_refl _⟩⟩
theorem ofOk_big {ys : List Int} (h : ¬ ys.length ≤ 16) : ofOk ys = false := decide_eq_false (fun x => h x.1)
theorem refOf_any {w : World} {A : Option Addr} {c : Nat} {ys : List Int} (hC : (Kd.int .i64).C w A ys.length ys) :
    Calls Try.prog 32 #[.slice A ys.length c] w fun e w' => ∃ p, e = .returned (.tuple #[.pointer p, .bool (ofOk ys)]) ∧ Below w.heap.size w w' ∧ (ofOk ys = true → ∃ b, p = some ⟨b, 0, none⟩ ∧ VecAt w' 53 b (ofV ys) ∧ w.heap.size ≤ b) ∧ (ofOk ys = false → p = none) := by
  by_cases hl : ys.length ≤ 16
  · refine (refOf_small hC hl).mono ?_
    rintro e w' ⟨hb, ⟨h1, b, rfl, h2, h3⟩ | ⟨h1, rfl⟩⟩
    · exact ⟨_, by rw [h1], hb, fun _ => ⟨b, rfl, h2, h3⟩, fun h => (by rw [h1] at h; cases h)⟩
    · exact ⟨_, by rw [h1], hb, fun h => (by rw [h1] at h; cases h), fun _ => rfl⟩
  · refine (refOf_big (by omega)).mono ?_
    rintro e w' ⟨rfl, hb⟩
    rw [ofOk_big hl]
    exact ⟨_, rfl, hb, fun h => (by cases h), fun _ => rfl⟩
set_option maxHeartbeats 1000000 in
theorem both_any {w : World} {A : Option Addr} {c : Nat} {ys : List Int} (hC : (Kd.int .i64).C w A ys.length ys) :
    Calls Try.prog 17 #[.slice A ys.length c] w fun e w' => ∃ p q, e = .returned (.tuple #[.pointer p, .pointer q, .bool true, .bool (ofOk ys)]) ∧ Below w.heap.size w w' ∧
      (ofOk ys = true → ∃ b b', p = some ⟨b, 0, none⟩ ∧ q = some ⟨b', 0, none⟩ ∧ VecAt w' 59 b (ofV ys) ∧ VecAt w' 53 b' (ofV ys) ∧ w.heap.size ≤ b ∧ b < b') := by
  have HC := Lib.hid hC
  clear hC
  go_enter Try.func17, Try.ntmps17
  go_wp2_with fail
  refine (of_any HC.out).mono ?_
  rintro e w1 ⟨p, rfl, b1, y1, n1⟩
  have B1 := Lib.hid b1; have Y1 := Lib.hid y1; have N1 := Lib.hid n1; clear b1 y1 n1
  go_wp2_with fail
  refine (refOf_any (Kd.C_below HC.out B1.out)).mono ?_
  rintro e w2 ⟨q, rfl, b2, y2, n2⟩
  have B2' := Lib.hid b2; have B2 := Lib.hid (B1.out.trans (b2.mono B1.out.size)); have Y2 := Lib.hid y2; have N2 := Lib.hid n2; clear b2 y2 n2
  cases h : ofOk ys with
  | true =>
    obtain ⟨b, rfl, h1, h2⟩ := Y1.out h
    obtain ⟨b', rfl, h3, h4⟩ := Y2.out h
    have FIN := Lib.hid (And.intro (h1.below B2'.out h1.lt) (And.intro h3 (And.intro h2 (Nat.lt_of_lt_of_le h1.lt h4))))
    have HH := Lib.hid h
    clear h1 h2 h3 h4 Y1 Y2 N1 N2 h
    go_wp2_with fail
    refine bodyPost_ret (results_list (rs := [.tmp 2, .tmp 3, .tmp 4, .tmp 5]) rfl (by simp) (.tmp (.tmp (.tmp (.tmp .nil))))) rfl ?_
    exact ⟨some ⟨b, 0, none⟩, some ⟨b', 0, none⟩, by rw [HH.out]; rfl, B2.out, fun _ => ⟨b, b', rfl, rfl, FIN.out.1, FIN.out.2.1, FIN.out.2.2.1, FIN.out.2.2.2⟩⟩
  | false =>
    obtain rfl := N1.out h
    have HH := Lib.hid h
    clear Y1 Y2 N1 N2 h
    go_wp2_with fail
    refine bodyPost_ret (results_list (rs := [.tmp 2, .tmp 3, .tmp 4, .tmp 5]) rfl (by simp) (.tmp (.tmp (.tmp (.tmp .nil))))) rfl ?_
    exact ⟨none, q, by rw [HH.out]; rfl, B2.out, fun h => (by rw [HH.out] at h; cases h)⟩
end Go.Proofs.Ytbnblddgnhdneaa.Vec
