/- Does an outline tell a name twice? The walk of twice itself. -/
import Derived.Test.YtbaihnpanoibdaaTwice
import Derived.Carry
namespace Go.Proofs.Ytbaihnpanoibdaa.Q
open Go.RowKit Go.Proofs.YtbaihnpanoibdaaW.PrintWords Go.Proofs.YtbaihnpanoibdaaW.PrintLast Go.Proofs.YtbaihnpanoibdaaW.PrintMore Go.Proofs.Ytbaihnpanoibdaa.Mem
set_option linter.unusedVariables false
set_option linter.unusedSimpArgs false

/-- Is a name told that was seen, or told again? -/
def dupB : List (Int × Int) → List S36 → Bool
  | _, [] => false
  | seen, y :: ys => if idOf y ∈ seen then true else dupB (seen ++ [idOf y]) ys
def dup (a : List S36) : Bool := dupB [] a
set_option maxRecDepth 100000 in
set_option maxHeartbeats 2000000 in
theorem index29_ok (wb w : World) (B : Option Addr) (d : Nat) (ys : List S36) (hB : k36.C wb B ys.length ys) (hb : Below wb.heap.size wb w) (hy : ys.length ≤ 300) (p3 mb : Nat) (hmb : wb.heap.size ≤ mb) (h3 : w.heap[p3]? = some (.cells #[.map (some mb)] 66 (0, 0))) (hm : w.heap[mb]? = some (.map (arr (ents 0 [])) 0)) (hne : p3 ≠ mb) :
    Calls Try.prog 33 #[.slice B ys.length d, .func (.func 29) #[] #[.pointer (some ⟨p3, 0, none⟩)]] w fun e w' => ∃ r : Int, e = .returned (.int .i64 r) ∧ -1 ≤ r ∧ decide (0 ≤ r) = dup ys ∧ Keep (fun k => k = mb) w w' := by
  have HB := Lib.hid hB; have HW := Lib.hid hb; have H3 := Lib.hid h3; have HM := Lib.hid hm
  clear hB hb h3 hm
  go_enter Try.func33, Try.ntmps33
  go_wp2
  go_loopw [8] (fun i wr => ∃ m : Nat, m ≤ ys.length ∧ i = .int .i64 m ∧ wr.heap[mb]? = some (.map (arr (ents 0 ((ys.take m).map idOf))) m) ∧ dup ys = dupB ((ys.take m).map idOf) (ys.drop m) ∧ Keep (fun k => k = mb) w wr) (fun i _ => ys.length - (intOf i).toNat)
  case atStart => exact ⟨0, by omega, rfl, HM.out, rfl, Keep.refl _ _⟩
  case round =>
    obtain ⟨m, hm, rfl, hmm, hdd, hk⟩ := hrel
    have HMM := Lib.hid hmm; have HDD := Lib.hid hdd; have HK := Lib.hid hk
    clear hmm hdd hk
    by_cases hlt : m < ys.length
    · have bel : Below wb.heap.size wb wr := HW.out.trans (HK.out.below (fun i hi h => by omega) HW.out.size)
      obtain ⟨ad, eA, c0, c1, c2, c3, c4⟩ := at_T36 (Kd.C_below HB.out bel) (m : Int) (by omega) (by omega)
      rw [Int.toNat_natCast] at c0 c1 c2 c3 c4
      subst eA
      clear bel
      have hl : ((ys.take m).map idOf).length = m := by rw [List.length_map, List.length_take]; omega
      have hsn : (ys.take (m + 1)).map idOf = (ys.take m).map idOf ++ [idOf (rd_T36 ys (m : Int))] := by
        rw [rd_get hlt, List.take_succ_eq_append_getElem hlt, List.map_append]; rfl
      have hdr := drop_rd hlt
      have HL := Lib.hid hl; have HSN := Lib.hid hsn; have HDR := Lib.hid hdr
      clear hl hsn hdr
      go_wp2_with fail
      refine (twice1_ok wr (rd_T36 ys (m : Int)) p3 mb ((ys.take m).map idOf) ((HK.out.block p3 (lt_of_blk H3.out) hne).trans H3.out) (by rw [HL.out]; exact HMM.out) hne).mono ?_
      rintro e w1 ⟨rfl, k1, f1⟩
      have K1 := Lib.hid (HK.out.trans k1 (fun _ _ h => h)); have F1 := Lib.hid f1
      clear k1 f1 c0 c1 c2 c3 c4
      by_cases he : idOf (rd_T36 ys (m : Int)) ∈ (ys.take m).map idOf
      · rw [decide_eq_true he]
        have HE := Lib.hid he
        clear he
        have hd1 : dup ys = true := by rw [HDD.out, HDR.out, dupB, if_pos HE.out]
        have HD1 := Lib.hid hd1
        clear hd1
        go_wp2_with fail
        go_ret
        exact ⟨m, rfl, by omega, by rw [HD1.out]; exact decide_eq_true (by omega), K1.out⟩
      · rw [decide_eq_false he]
        have HE := Lib.hid he
        clear he
        go_wp2_with fail
        refine ⟨⟨m + 1, by omega, by go_num, ?_, ?_, K1.out⟩, by simp [intOf]; omega⟩
        · rw [HSN.out]
          have := F1.out HE.out
          rw [HL.out] at this
          exact this
        · rw [HSN.out, HDD.out, HDR.out, dupB, if_neg HE.out]
    · obtain rfl : m = ys.length := by omega
      have hd1 : dup ys = false := by rw [HDD.out, List.drop_length]; rfl
      have HD1 := Lib.hid hd1
      clear hd1
      go_wp2_with fail
      go_ret
      exact ⟨-1, rfl, by omega, by rw [HD1.out]; rfl, HK.out⟩
set_option maxHeartbeats 1000000 in
theorem contains_ok (wb w : World) (B : Option Addr) (d : Nat) (ys : List S36) (hB : k36.C wb B ys.length ys) (hb : Below wb.heap.size wb w) (hy : ys.length ≤ 300) (p3 mb : Nat) (hmb : wb.heap.size ≤ mb) (h3 : w.heap[p3]? = some (.cells #[.map (some mb)] 66 (0, 0))) (hm : w.heap[mb]? = some (.map (arr (ents 0 [])) 0)) (hne : p3 ≠ mb) :
    Calls Try.prog 28 #[.slice B ys.length d, .func (.func 29) #[] #[.pointer (some ⟨p3, 0, none⟩)]] w fun e w' => e = .returned (.bool (dup ys)) ∧ Keep (fun k => k = mb) w w' := by
  have HX := Lib.hid (index29_ok wb w B d ys hB hb hy p3 mb hmb h3 hm hne)
  clear hB hb h3 hm
  go_enter Try.func28, Try.ntmps28
  go_wp2_with fail
  refine HX.out.mono ?_
  rintro e w1 ⟨r, rfl, hr, hd, k1⟩
  have K1 := Lib.hid k1; have HD := Lib.hid hd
  clear k1 hd
  go_wp2_with fail
  all_goals
    go_ret
    exact ⟨by rw [← HD.out]; rfl, K1.out⟩
set_option maxHeartbeats 1000000 in
theorem twice_ok (w : World) (B : Option Addr) (d : Nat) (ys : List S36) (hB : k36.C w B ys.length ys) (hy : ys.length ≤ 300) :
    Calls Try.prog 20 #[.slice B ys.length d] w fun e w' => e = .returned (.bool (dup ys)) ∧ Below w.heap.size w w' := by
  have hmm := @run_makeMap Try.prog
  obtain ⟨w0, ew⟩ : ∃ w0, w0 = (w.alloc (.map #[] 0)).alloc (.cells #[.map (some w.heap.size)] 66) := ⟨_, rfl⟩
  have b0 : Below w.heap.size w w0 := by rw [ew]; exact below_alloc (below_alloc (Below.refl _ _) _) _
  have hm0 : w0.heap[w.heap.size]? = some (.map (arr (ents 0 [])) 0) := by rw [ew]; exact (Below.heap_alloc _ _ _ (by simp)).trans (World.alloc_heap_new w _)
  have h30 : w0.heap[w.heap.size + 1]? = some (.cells #[.map (some w.heap.size)] 66 (0, 0)) := by
    rw [ew]
    have := World.alloc_heap_new (w.alloc (.map #[] 0)) (.cells #[.map (some w.heap.size)] 66)
    rwa [World.size_alloc] at this
  have HX := Lib.hid (contains_ok w w0 B d ys hB b0 hy (w.heap.size + 1) w.heap.size (Nat.le_refl _) h30 hm0 (by omega))
  have B0 := Lib.hid b0; have EW := Lib.hid ew
  clear hB b0 hm0 h30 ew
  go_enter Try.func20, Try.ntmps20
  go_wp2_with fail
  rw [← EW.out]
  refine HX.out.mono ?_
  rintro e w1 ⟨rfl, k1⟩
  have K1 := Lib.hid k1
  clear k1
  go_wp2_with fail
  go_ret
  exact ⟨rfl, B0.out.trans (K1.out.below (fun i hi h => by omega) B0.out.size)⟩
end Go.Proofs.Ytbaihnpanoibdaa.Q
