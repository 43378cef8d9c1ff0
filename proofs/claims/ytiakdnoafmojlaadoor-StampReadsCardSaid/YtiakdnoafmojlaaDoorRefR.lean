/- The reference's names read. -/
import Derived.Test.YtiakdnoafmojlaaDoorRefS
import Derived.Test.YtiakdnoafmojlaaDoorClocksW
namespace Go.Proofs.YtiakdnoafmojlaaDoor.Q
open Go.RowKit Go.Proofs.YtiakdnoafmojlaaDoorW.PrintWords Go.Proofs.YtiakdnoafmojlaaDoorW.PrintLast Go.Proofs.YtiakdnoafmojlaaDoorW.PrintMore Go.Proofs.YtiakdnoafmojlaaDoor.Mem
open Go.Lib (decDigits)
set_option linter.unusedVariables false
set_option linter.unusedSimpArgs false
/-- One byte more of a name. -/
def stp (st : Bool × Nat × Nat) (b : Nat) : Bool × Nat × Nat :=
  if b = 46 then (true, st.2.1, st.2.2) else if 48 ≤ b ∧ b ≤ 57 then (if st.1 = true then (true, st.2.1, st.2.2 * 10 + (b - 48)) else (false, st.2.1 * 10 + (b - 48), st.2.2)) else st
/-- The bytes of a name. -/
def pst (l : List UInt8) : Bool × Nat × Nat := l.foldl (fun st b => stp st b.toNat) (false, 0, 0)
theorem pst_succ (l : List UInt8) (i : Nat) (h : i < l.length) : pst (l.take (i + 1)) = stp (pst (l.take i)) (l[i]).toNat := by
  unfold pst
  rw [List.take_succ_eq_append_getElem h, List.foldl_append]
  rfl
/-- The name that a text may mean. -/
def pR (l : List UInt8) : Int × Int := (((pst (l.take 12)).2.1 : Int), ((pst (l.take 12)).2.2 : Int))
theorem fold_no : ∀ (l : List UInt8) (acc v n : Nat), Lib.decFrom acc l = some v → l.foldl (fun st b => stp st b.toNat) (false, acc, n) = (false, v, n)
  | [], acc, v, n, h => by
    simp only [Lib.decFrom, Option.some.injEq] at h
    rw [h]; rfl
  | b :: l, acc, v, n, h => by
    rw [Lib.decFrom] at h
    cases hd : Lib.digitVal b with
    | none => rw [hd] at h; cases h
    | some d =>
      rw [hd] at h
      have := Lib.digitVal_eq hd
      have e : stp (false, acc, n) b.toNat = (false, acc * 10 + d, n) := by
        unfold stp
        rw [if_neg (by omega), if_pos (by omega), if_neg (by simp)]
        simp only
        rw [show b.toNat - 48 = d by omega]
      rw [List.foldl_cons, e]
      exact fold_no l _ v n h
theorem fold_yes : ∀ (l : List UInt8) (acc v r : Nat), Lib.decFrom acc l = some v → l.foldl (fun st b => stp st b.toNat) (true, r, acc) = (true, r, v)
  | [], acc, v, r, h => by
    simp only [Lib.decFrom, Option.some.injEq] at h
    rw [h]; rfl
  | b :: l, acc, v, r, h => by
    rw [Lib.decFrom] at h
    cases hd : Lib.digitVal b with
    | none => rw [hd] at h; cases h
    | some d =>
      rw [hd] at h
      have := Lib.digitVal_eq hd
      have e : stp (true, r, acc) b.toNat = (true, r, acc * 10 + d) := by
        unfold stp
        rw [if_neg (by omega), if_pos (by omega), if_pos rfl]
        simp only
        rw [show b.toNat - 48 = d by omega]
      rw [List.foldl_cons, e]
      exact fold_yes l _ v r h
theorem pR_shw (R N : Int) (h : rop R N = true) : pR (shwL R N) = (R, N) := by
  obtain ⟨h1, h2, h3, h4⟩ := rop_iff.1 h
  have l1 := dec_len 1 R.toNat (by omega)
  have l2 := dec_len 6 N.toNat (by omega)
  unfold pR
  rw [shw_rop h, List.take_of_length_le (by simp only [List.length_append, List.length_singleton]; omega)]
  have e : pst (decDigits R.toNat ++ ([46] ++ decDigits N.toNat)) = (true, R.toNat, N.toNat) := by
    unfold pst
    rw [List.foldl_append, fold_no _ 0 _ 0 (dec_parse _ _ (Nat.le_refl _)), List.foldl_append]
    rw [show List.foldl (fun st (b : UInt8) => stp st b.toNat) (false, R.toNat, 0) [46] = (true, R.toNat, 0) from rfl]
    exact fold_yes _ 0 _ _ (dec_parse _ _ (Nat.le_refl _))
  rw [e]
  simp only [Int.toNat_of_nonneg h1, Int.toNat_of_nonneg (show 0 ≤ N by omega)]
attribute [local go_sem high] eqA24
/-- The two blocks of the loop: the result, the name. -/
def TwoAt (w : World) (k : Nat) (r n : Int) : Prop := w.heap[k]? = some (.cells #[.int .i64 0, .int .i64 0] 24 (0, 0)) ∧ w.heap[k + 1]? = some (.cells #[.int .i64 r, .int .i64 n] 24 (0, 0))
set_option maxHeartbeats 2000000 in
theorem rread_ok (w : World) (hG : Gl w) (s : ByteArray) (hs : s.size ≤ 1000) :
    Calls Tryd.prog 11 #[.string s] w fun e w' => e = .returned (.tuple #[.agg #[.int .i64 (rdWith pR s.data.toList).1.1, .int .i64 (rdWith pR s.data.toList).1.2], .bool (rdWith pR s.data.toList).2]) ∧ Below w.heap.size w w' := by
  have el : s.toList = s.data.toList := ByteArray.toList_eq s
  have EL := Lib.hid el
  clear el
  obtain ⟨w0, e0⟩ : ∃ w0, w0 = (w.alloc (.cells #[.int .i64 0, .int .i64 0] 24)).alloc (.cells #[.int .i64 0, .int .i64 0] 24) := ⟨_, rfl⟩
  have b0 : Below w.heap.size w w0 := by rw [e0]; exact below_alloc (below_alloc (Below.refl _ _) _) _
  have hT : TwoAt w0 w.heap.size 0 0 := by
    have n0 := heap_alloc_new w (.cells #[.int .i64 0, .int .i64 0] 24)
    have n1 := heap_alloc_new (w.alloc (.cells #[.int .i64 0, .int .i64 0] 24)) (.cells #[.int .i64 0, .int .i64 0] 24)
    exact ⟨by rw [e0]; exact (heap_alloc_old _ _ (lt_of_blk n0)).trans n0, by rw [e0]; simpa using n1⟩
  have E0 := Lib.hid e0; have B0 := Lib.hid b0; have T0 := Lib.hid hT; have G0 := Lib.hid hG
  have c0 : w.heap.size < w0.heap.size := lt_of_blk hT.1
  clear e0 b0 hT hG
  cases h1 : (s.toList == [114, 111, 111, 116]) with
  | true =>
    have e : rdWith pR s.data.toList = ((0, 0), true) := by unfold rdWith; rw [← EL.out, if_pos (by simpa using h1)]
    have E := Lib.hid e
    clear e
    have c3 := T0.out.1
    have q0 := blk_cell c3 0; have q1 := blk_cell c3 1; have f0 := blk_frozen c3 0; have f1 := blk_frozen c3 1
    simp at q0 q1
    clear c3
    obtain ⟨w1, e1⟩ : ∃ w1, w1 = w.alloc (.cells #[.int .i64 0, .int .i64 0] 24) := ⟨_, rfl⟩
    have b1 : Below w.heap.size w w1 := by rw [e1]; exact below_alloc (Below.refl _ _) _
    have hc1 : w1.heap[w.heap.size]? = some (.cells #[.int .i64 0, .int .i64 0] 24 (0, 0)) := by rw [e1]; exact heap_alloc_new w _
    have GW := (G0.out.on b1)
    have r0 := GW.root0; have r1 := GW.root1; have t0 := GW.trash0; have t1 := GW.trash1
    have q0 := blk_cell hc1 0; have q1 := blk_cell hc1 1; have f0 := blk_frozen hc1 0; have f1 := blk_frozen hc1 1
    simp at q0 q1
    have E1 := Lib.hid e1; have B1 := Lib.hid b1; have HC1 := Lib.hid hc1
    clear e1 b1 hc1 GW
    go_enter Tryd.func11, Tryd.ntmps11
    go_upto_region 1 with (fail)
    rw [← E1.out]
    go_wp2_with fail
    refine bodyPost_ret (results_list (rs := [.cell 2 24, .tmp 3]) rfl (by simp) (.cell w.heap.size 24 #[.int .i64 0, .int .i64 0] (0, 0) _ rfl (pair_set HC1.out _ _) Tryd.underlying24 rfl size24 (.tmp .nil))) rfl ?_
    refine ⟨by rw [E.out]; rfl, B1.out.setCell (p := ⟨w.heap.size, 0, none⟩) (Nat.le_refl _) _ |>.setCell (p := ⟨w.heap.size, 1, none⟩) (Nat.le_refl _) _⟩
  | false =>
    have n1 : ¬ s.data.toList = [114, 111, 111, 116] := by rw [← EL.out]; simpa using h1
    have N1 := Lib.hid n1
    clear n1
    cases h2 : (s.toList == [116, 114, 97, 115, 104]) with
    | true =>
      have e : rdWith pR s.data.toList = ((1, 0), true) := by unfold rdWith; rw [if_neg N1.out, if_pos (by rw [← EL.out]; simpa using h2)]
      have E := Lib.hid e
      clear e
      have c3 := T0.out.1
      have q0 := blk_cell c3 0; have q1 := blk_cell c3 1; have f0 := blk_frozen c3 0; have f1 := blk_frozen c3 1
      simp at q0 q1
      clear c3
      obtain ⟨w1, e1⟩ : ∃ w1, w1 = w.alloc (.cells #[.int .i64 0, .int .i64 0] 24) := ⟨_, rfl⟩
      have b1 : Below w.heap.size w w1 := by rw [e1]; exact below_alloc (Below.refl _ _) _
      have hc1 : w1.heap[w.heap.size]? = some (.cells #[.int .i64 0, .int .i64 0] 24 (0, 0)) := by rw [e1]; exact heap_alloc_new w _
      have GW := (G0.out.on b1)
      have r0 := GW.root0; have r1 := GW.root1; have t0 := GW.trash0; have t1 := GW.trash1
      have q0 := blk_cell hc1 0; have q1 := blk_cell hc1 1; have f0 := blk_frozen hc1 0; have f1 := blk_frozen hc1 1
      simp at q0 q1
      have E1 := Lib.hid e1; have B1 := Lib.hid b1; have HC1 := Lib.hid hc1
      clear e1 b1 hc1 GW
      go_enter Tryd.func11, Tryd.ntmps11
      go_upto_region 1 with (fail)
      rw [← E1.out]
      go_wp2_with fail
      refine bodyPost_ret (results_list (rs := [.cell 2 24, .tmp 3]) rfl (by simp) (.cell w.heap.size 24 #[.int .i64 1, .int .i64 0] (0, 0) _ rfl (pair_set HC1.out _ _) Tryd.underlying24 rfl size24 (.tmp .nil))) rfl ?_
      refine ⟨by rw [E.out]; rfl, B1.out.setCell (p := ⟨w.heap.size, 0, none⟩) (Nat.le_refl _) _ |>.setCell (p := ⟨w.heap.size, 1, none⟩) (Nat.le_refl _) _⟩
    | false =>
      have n2 : ¬ s.data.toList = [116, 114, 97, 115, 104] := by rw [← EL.out]; simpa using h2
      have N2 := Lib.hid n2
      clear n2 c0
      go_enter Tryd.func11, Tryd.ntmps11
      go_upto_region 8 with (fail)
      rw [← E0.out]
      go_loopw [5, 6] (fun v5 v6 wr => ∃ (i : Nat) (pt : Bool) (r n : Nat), i ≤ s.size ∧ i ≤ 12 ∧ v5 = .bool pt ∧ v6 = .int .i64 i ∧ pst (s.data.toList.take i) = (pt, r, n) ∧ r < 10 ^ i ∧ n < 10 ^ i ∧ TwoAt wr w.heap.size r n ∧ Below w.heap.size w wr) (fun _ v6 _ => 12 - (intOf v6).toNat)
      case atStart => exact ⟨0, false, 0, 0, by omega, by omega, rfl, rfl, rfl, by decide, by decide, T0.out, B0.out⟩
      case round =>
        obtain ⟨i, pt, r, n, hi, hi2, rfl, rfl, hp, hr, hn, ht, hbm⟩ := hrel
        have TT := Lib.hid ht; have BM := Lib.hid hbm
        clear ht hbm
        by_cases hc : i < s.size ∧ i < 12
        · obtain ⟨hc1, hc2⟩ := hc
          have gi0 : (0 : Int) ≤ (i : Int) := by omega
          have gi1 : (i : Int) < (s.size : Int) := by omega
          have gi2 : (i : Int) < 12 := by omega
          have hle : i < s.data.toList.length := by rw [Array.length_toList]; exact hc1
          have hps := pst_succ s.data.toList i hle
          obtain ⟨d, hd⟩ : ∃ d, (s[i]'hc1).toNat = d := ⟨_, rfl⟩
          have hd256 : d < 256 := by rw [← hd]; exact UInt8.toNat_lt _
          rw [hp, show (s.data.toList[i]'hle).toNat = d from hd] at hps
          have hpow : 10 ^ (i + 1) = 10 ^ i * 10 := Nat.pow_succ ..
          have hle12 : 10 ^ i ≤ 10 ^ 12 := Nat.pow_le_pow_right (by omega) (by omega)
          have hrb : r < 1000000000000 := by omega
          have hnb : n < 1000000000000 := by omega
          have HPS := Lib.hid hps; have HR := Lib.hid hr; have HN := Lib.hid hn; have HW := Lib.hid hpow
          have q0 := blk_cell TT.out.2 0; have q1 := blk_cell TT.out.2 1; have f0 := blk_frozen TT.out.2 0; have f1 := blk_frozen TT.out.2 1
          simp at q0 q1
          clear hps hr hn hpow hle12 hp hle
          by_cases hd46 : d = 46
          · have g46 : ((d : Int) == 46) = true := by simp; omega
            have e : pst (s.data.toList.take (i + 1)) = (true, r, n) := by rw [HPS.out]; unfold stp; rw [if_pos hd46]
            have E := Lib.hid e
            clear e hd46
            go_wp2_with fail
            exact ⟨⟨i + 1, true, r, n, by omega, by omega, by go_num, by go_num, E.out, by have := HR.out; have := HW.out; omega, by have := HN.out; have := HW.out; omega, TT.out, BM.out⟩, by simp [intOf]; omega⟩
          · have g46 : ((d : Int) == 46) = false := by rw [beq_eq_false_iff_ne]; omega
            by_cases hdig : 48 ≤ d ∧ d ≤ 57
            · have d1 : (48 : Int) ≤ (d : Int) := by omega
              have d2 : (d : Int) ≤ 57 := by omega
              have m2 : IntKind.u8.wrap ((d : Int) - 48) = (d : Int) - 48 := by rw [IntKind.wrap_u8]; omega
              have m3 : IntKind.i64.wrap ((d : Int) - 48) = (d : Int) - 48 := by rw [IntKind.wrap_i64]; omega
              cases pt with
              | true =>
                have m1 : IntKind.i64.wrap ((n : Int) * 10) = (n : Int) * 10 := by rw [IntKind.wrap_i64]; omega
                have m4 : IntKind.i64.wrap ((n : Int) * 10 + ((d : Int) - 48)) = (n : Int) * 10 + ((d : Int) - 48) := by rw [IntKind.wrap_i64]; omega
                have e : pst (s.data.toList.take (i + 1)) = (true, r, n * 10 + (d - 48)) := by rw [HPS.out]; unfold stp; rw [if_neg hd46, if_pos hdig, if_pos rfl]
                have ev : (n : Int) * 10 + ((d : Int) - 48) = ((n * 10 + (d - 48) : Nat) : Int) := by omega
                have E := Lib.hid e; have EV := Lib.hid ev; have DG := Lib.hid hdig
                clear e hd46 hdig ev
                go_upto_region 13 with (fail)
                go_region
                all_goals
                  go_wp2_with fail
                  refine ⟨⟨i + 1, true, r, n * 10 + (d - 48), by omega, by omega, by go_num, by go_num, E.out, by have := HR.out; have := HW.out; omega, by have := HN.out; have := HW.out; have := DG.out; omega, ?_, ?_⟩, by simp [intOf]; omega⟩
                  · exact ⟨blk_far (show wr.drew.heap[w.heap.size]? = _ from TT.out.1) (by simp) _, by have z := blk_set (show wr.drew.heap[w.heap.size + 1]? = _ from TT.out.2) 1 (.int .i64 ((n : Int) * 10 + ((d : Int) - 48))); simp at z; rw [← EV.out]; exact z⟩
                  · exact (below_drew1 BM.out).setCell (p := ⟨w.heap.size + 1, 1, none⟩) (by simp) _
              | false =>
                have m1 : IntKind.i64.wrap ((r : Int) * 10) = (r : Int) * 10 := by rw [IntKind.wrap_i64]; omega
                have m4 : IntKind.i64.wrap ((r : Int) * 10 + ((d : Int) - 48)) = (r : Int) * 10 + ((d : Int) - 48) := by rw [IntKind.wrap_i64]; omega
                have e : pst (s.data.toList.take (i + 1)) = (false, r * 10 + (d - 48), n) := by rw [HPS.out]; unfold stp; rw [if_neg hd46, if_pos hdig, if_neg (by simp)]
                have ev : (r : Int) * 10 + ((d : Int) - 48) = ((r * 10 + (d - 48) : Nat) : Int) := by omega
                have E := Lib.hid e; have EV := Lib.hid ev; have DG := Lib.hid hdig
                clear e hd46 hdig ev
                go_upto_region 15 with (fail)
                go_region
                all_goals
                  go_wp2_with fail
                  refine ⟨⟨i + 1, false, r * 10 + (d - 48), n, by omega, by omega, by go_num, by go_num, E.out, by have := HR.out; have := HW.out; have := DG.out; omega, by have := HN.out; have := HW.out; omega, ?_, ?_⟩, by simp [intOf]; omega⟩
                  · exact ⟨blk_far (show wr.drew.heap[w.heap.size]? = _ from TT.out.1) (by simp) _, by have z := blk_set (show wr.drew.heap[w.heap.size + 1]? = _ from TT.out.2) 0 (.int .i64 ((r : Int) * 10 + ((d : Int) - 48))); simp at z; rw [← EV.out]; exact z⟩
                  · exact (below_drew1 BM.out).setCell (p := ⟨w.heap.size + 1, 0, none⟩) (by simp) _
            · have nd : ¬ ((48 : Int) ≤ (d : Int) ∧ (d : Int) ≤ 57) := by omega
              have e : pst (s.data.toList.take (i + 1)) = (pt, r, n) := by rw [HPS.out]; unfold stp; rw [if_neg hd46, if_neg hdig]
              have E := Lib.hid e
              clear e hd46 hdig
              by_cases d1 : (48 : Int) ≤ (d : Int)
              · have d2 : ¬ (d : Int) ≤ 57 := by omega
                clear nd
                go_wp2_with fail
                exact ⟨⟨i + 1, pt, r, n, by omega, by omega, by go_num, by go_num, E.out, by have := HR.out; have := HW.out; omega, by have := HN.out; have := HW.out; omega, TT.out, BM.out⟩, by simp [intOf]; omega⟩
              · clear nd
                go_wp2_with fail
                exact ⟨⟨i + 1, pt, r, n, by omega, by omega, by go_num, by go_num, E.out, by have := HR.out; have := HW.out; omega, by have := HN.out; have := HW.out; omega, TT.out, BM.out⟩, by simp [intOf]; omega⟩
        · have epst : pst (s.data.toList.take 12) = (pt, r, n) := by
            rw [← hp]
            by_cases h12 : i = 12
            · rw [h12]
            · have : i = s.size := by omega
              have hl : s.data.toList.length = i := by rw [Array.length_toList, this]; rfl
              rw [List.take_of_length_le (by omega), List.take_of_length_le (by omega)]
          have EP := Lib.hid epst
          clear epst hp hr hn
          have e3 : rdWith pR s.data.toList = if rop (r : Int) (n : Int) = true ∧ shwL (r : Int) (n : Int) = s.data.toList then (((r : Int), (n : Int)), true) else ((0, 0), false) := by
            unfold rdWith
            rw [if_neg N1.out, if_neg N2.out]
            have : pR s.data.toList = ((r : Int), (n : Int)) := by unfold pR; rw [EP.out]
            rw [this]
          obtain ⟨R, hR⟩ : ∃ R : Int, (r : Int) = R := ⟨_, rfl⟩
          obtain ⟨N, hN⟩ : ∃ N : Int, (n : Int) = N := ⟨_, rfl⟩
          have TT' := TT.out
          rw [hR, hN] at e3 TT'
          have TT := Lib.hid TT'
          have E3 := Lib.hid e3
          have GG := Lib.hid (G0.out.on BM.out)
          have D2 := Lib.hid (Below.refl wr.heap.size wr)
          have p0 := blk_cell TT.out.2 0; have p1 := blk_cell TT.out.2 1
          simp at p0 p1
          clear hR hN e3 TT'
          by_cases hc1 : (i : Int) < (s.size : Int)
          · have hc2 : ¬ (i : Int) < 12 := by omega
            clear hc
            go_upto_region 16 with (fail)
            cases h3 : rop R N with
            | false =>
              have e : rdWith pR s.data.toList = ((0, 0), false) := by rw [E3.out, if_neg (by rw [h3]; simp)]
              have E := Lib.hid e; have H3 := Lib.hid h3
              clear e h3
              go_upto_region 17 with ((go_at_call 25; refine (rrop_ok _ R N).mono ?_; rintro e w3 ⟨rfl, bl⟩; rw [H3.out]; have D3 := Lib.hid (D2.out.trans (bl.mono D2.out.size)); replace p0 := cell_on p0 bl; replace p1 := cell_on p1 bl; clear bl))
              have c3 := (D3.out.block _ (lt_of_blk TT.out.1)).trans TT.out.1
              have q0 := blk_cell c3 0; have q1 := blk_cell c3 1; have f0 := blk_frozen c3 0; have f1 := blk_frozen c3 1
              simp at q0 q1
              clear c3
              go_wp2_with fail
              refine bodyPost_ret (results_list (rs := [.cell 2 24, .tmp 3]) rfl (by simp) (.cell w.heap.size 24 #[.int .i64 0, .int .i64 0] (0, 0) _ rfl (pair_set ((D3.out.block _ (lt_of_blk TT.out.1)).trans TT.out.1) _ _) Tryd.underlying24 rfl size24 (.tmp .nil))) rfl ?_
              refine ⟨by rw [E.out]; rfl, (BM.out.trans (D3.out.mono BM.out.size)).setCell (p := ⟨w.heap.size, 0, none⟩) (Nat.le_refl _) _ |>.setCell (p := ⟨w.heap.size, 1, none⟩) (Nat.le_refl _) _⟩
            | true =>
              have H3 := Lib.hid h3
              clear h3
              obtain ⟨sh, esh⟩ : ∃ sh : ByteArray, sh = ⟨(shwL R N).toArray⟩ := ⟨_, rfl⟩
              have lsh : sh.toList = shwL R N := by rw [esh, ByteArray.toList_eq]
              have ESH := Lib.hid esh; have LSH := Lib.hid lsh
              clear esh lsh
              cases h4 : (sh.toList == s.toList) with
              | true =>
                have e : rdWith pR s.data.toList = ((R, N), true) := by rw [E3.out, if_pos ⟨H3.out, by rw [← LSH.out, ← EL.out]; simpa using h4⟩]
                have E := Lib.hid e
                have g4 : (sh.toList != s.toList) = false := by rw [bne, h4]; rfl
                clear e
                go_upto_region 18 with (first | (go_at_call 25; refine (rrop_ok _ R N).mono ?_; rintro e w3 ⟨rfl, bl⟩; rw [H3.out]; have D3 := Lib.hid (D2.out.trans (bl.mono D2.out.size)); replace p0 := cell_on p0 bl; replace p1 := cell_on p1 bl; clear bl) | (go_at_call 32; refine (rshow_ok _ (GG.out.on D3.out) R N).mono ?_; rintro e w4 ⟨rfl, bl⟩; rw [← ESH.out]; have D4 := Lib.hid (D3.out.trans (bl.mono D3.out.size)); replace p0 := cell_on p0 bl; replace p1 := cell_on p1 bl; clear bl))
                have c3 := (D4.out.block _ (lt_of_blk TT.out.1)).trans TT.out.1
                have q0 := blk_cell c3 0; have q1 := blk_cell c3 1; have f0 := blk_frozen c3 0; have f1 := blk_frozen c3 1
                simp at q0 q1
                clear c3
                go_wp2_with fail
                refine bodyPost_ret (results_list (rs := [.cell 2 24, .tmp 3]) rfl (by simp) (.cell w.heap.size 24 #[.int .i64 R, .int .i64 N] (0, 0) _ rfl (pair_set ((D4.out.block _ (lt_of_blk TT.out.1)).trans TT.out.1) _ _) Tryd.underlying24 rfl size24 (.tmp .nil))) rfl ?_
                refine ⟨by rw [E.out]; rfl, (BM.out.trans (D4.out.mono BM.out.size)).setCell (p := ⟨w.heap.size, 0, none⟩) (Nat.le_refl _) _ |>.setCell (p := ⟨w.heap.size, 1, none⟩) (Nat.le_refl _) _⟩
              | false =>
                have e : rdWith pR s.data.toList = ((0, 0), false) := by rw [E3.out, if_neg (fun h => by rw [← LSH.out, ← EL.out] at h; rw [beq_eq_false_iff_ne] at h4; exact h4 h.2)]
                have E := Lib.hid e
                have g4 : (sh.toList != s.toList) = true := by rw [bne, h4]; rfl
                clear e
                go_upto_region 17 with (first | (go_at_call 25; refine (rrop_ok _ R N).mono ?_; rintro e w3 ⟨rfl, bl⟩; rw [H3.out]; have D3 := Lib.hid (D2.out.trans (bl.mono D2.out.size)); replace p0 := cell_on p0 bl; replace p1 := cell_on p1 bl; clear bl) | (go_at_call 32; refine (rshow_ok _ (GG.out.on D3.out) R N).mono ?_; rintro e w4 ⟨rfl, bl⟩; rw [← ESH.out]; have D4 := Lib.hid (D3.out.trans (bl.mono D3.out.size)); replace p0 := cell_on p0 bl; replace p1 := cell_on p1 bl; clear bl))
                have c3 := (D4.out.block _ (lt_of_blk TT.out.1)).trans TT.out.1
                have q0 := blk_cell c3 0; have q1 := blk_cell c3 1; have f0 := blk_frozen c3 0; have f1 := blk_frozen c3 1
                simp at q0 q1
                clear c3
                go_wp2_with fail
                refine bodyPost_ret (results_list (rs := [.cell 2 24, .tmp 3]) rfl (by simp) (.cell w.heap.size 24 #[.int .i64 0, .int .i64 0] (0, 0) _ rfl (pair_set ((D4.out.block _ (lt_of_blk TT.out.1)).trans TT.out.1) _ _) Tryd.underlying24 rfl size24 (.tmp .nil))) rfl ?_
                refine ⟨by rw [E.out]; rfl, (BM.out.trans (D4.out.mono BM.out.size)).setCell (p := ⟨w.heap.size, 0, none⟩) (Nat.le_refl _) _ |>.setCell (p := ⟨w.heap.size, 1, none⟩) (Nat.le_refl _) _⟩
          · clear hc
            go_upto_region 16 with (fail)
            cases h3 : rop R N with
            | false =>
              have e : rdWith pR s.data.toList = ((0, 0), false) := by rw [E3.out, if_neg (by rw [h3]; simp)]
              have E := Lib.hid e; have H3 := Lib.hid h3
              clear e h3
              go_upto_region 17 with ((go_at_call 25; refine (rrop_ok _ R N).mono ?_; rintro e w3 ⟨rfl, bl⟩; rw [H3.out]; have D3 := Lib.hid (D2.out.trans (bl.mono D2.out.size)); replace p0 := cell_on p0 bl; replace p1 := cell_on p1 bl; clear bl))
              have c3 := (D3.out.block _ (lt_of_blk TT.out.1)).trans TT.out.1
              have q0 := blk_cell c3 0; have q1 := blk_cell c3 1; have f0 := blk_frozen c3 0; have f1 := blk_frozen c3 1
              simp at q0 q1
              clear c3
              go_wp2_with fail
              refine bodyPost_ret (results_list (rs := [.cell 2 24, .tmp 3]) rfl (by simp) (.cell w.heap.size 24 #[.int .i64 0, .int .i64 0] (0, 0) _ rfl (pair_set ((D3.out.block _ (lt_of_blk TT.out.1)).trans TT.out.1) _ _) Tryd.underlying24 rfl size24 (.tmp .nil))) rfl ?_
              refine ⟨by rw [E.out]; rfl, (BM.out.trans (D3.out.mono BM.out.size)).setCell (p := ⟨w.heap.size, 0, none⟩) (Nat.le_refl _) _ |>.setCell (p := ⟨w.heap.size, 1, none⟩) (Nat.le_refl _) _⟩
            | true =>
              have H3 := Lib.hid h3
              clear h3
              obtain ⟨sh, esh⟩ : ∃ sh : ByteArray, sh = ⟨(shwL R N).toArray⟩ := ⟨_, rfl⟩
              have lsh : sh.toList = shwL R N := by rw [esh, ByteArray.toList_eq]
              have ESH := Lib.hid esh; have LSH := Lib.hid lsh
              clear esh lsh
              cases h4 : (sh.toList == s.toList) with
              | true =>
                have e : rdWith pR s.data.toList = ((R, N), true) := by rw [E3.out, if_pos ⟨H3.out, by rw [← LSH.out, ← EL.out]; simpa using h4⟩]
                have E := Lib.hid e
                have g4 : (sh.toList != s.toList) = false := by rw [bne, h4]; rfl
                clear e
                go_upto_region 18 with (first | (go_at_call 25; refine (rrop_ok _ R N).mono ?_; rintro e w3 ⟨rfl, bl⟩; rw [H3.out]; have D3 := Lib.hid (D2.out.trans (bl.mono D2.out.size)); replace p0 := cell_on p0 bl; replace p1 := cell_on p1 bl; clear bl) | (go_at_call 32; refine (rshow_ok _ (GG.out.on D3.out) R N).mono ?_; rintro e w4 ⟨rfl, bl⟩; rw [← ESH.out]; have D4 := Lib.hid (D3.out.trans (bl.mono D3.out.size)); replace p0 := cell_on p0 bl; replace p1 := cell_on p1 bl; clear bl))
                have c3 := (D4.out.block _ (lt_of_blk TT.out.1)).trans TT.out.1
                have q0 := blk_cell c3 0; have q1 := blk_cell c3 1; have f0 := blk_frozen c3 0; have f1 := blk_frozen c3 1
                simp at q0 q1
                clear c3
                go_wp2_with fail
                refine bodyPost_ret (results_list (rs := [.cell 2 24, .tmp 3]) rfl (by simp) (.cell w.heap.size 24 #[.int .i64 R, .int .i64 N] (0, 0) _ rfl (pair_set ((D4.out.block _ (lt_of_blk TT.out.1)).trans TT.out.1) _ _) Tryd.underlying24 rfl size24 (.tmp .nil))) rfl ?_
                refine ⟨by rw [E.out]; rfl, (BM.out.trans (D4.out.mono BM.out.size)).setCell (p := ⟨w.heap.size, 0, none⟩) (Nat.le_refl _) _ |>.setCell (p := ⟨w.heap.size, 1, none⟩) (Nat.le_refl _) _⟩
              | false =>
                have e : rdWith pR s.data.toList = ((0, 0), false) := by rw [E3.out, if_neg (fun h => by rw [← LSH.out, ← EL.out] at h; rw [beq_eq_false_iff_ne] at h4; exact h4 h.2)]
                have E := Lib.hid e
                have g4 : (sh.toList != s.toList) = true := by rw [bne, h4]; rfl
                clear e
                go_upto_region 17 with (first | (go_at_call 25; refine (rrop_ok _ R N).mono ?_; rintro e w3 ⟨rfl, bl⟩; rw [H3.out]; have D3 := Lib.hid (D2.out.trans (bl.mono D2.out.size)); replace p0 := cell_on p0 bl; replace p1 := cell_on p1 bl; clear bl) | (go_at_call 32; refine (rshow_ok _ (GG.out.on D3.out) R N).mono ?_; rintro e w4 ⟨rfl, bl⟩; rw [← ESH.out]; have D4 := Lib.hid (D3.out.trans (bl.mono D3.out.size)); replace p0 := cell_on p0 bl; replace p1 := cell_on p1 bl; clear bl))
                have c3 := (D4.out.block _ (lt_of_blk TT.out.1)).trans TT.out.1
                have q0 := blk_cell c3 0; have q1 := blk_cell c3 1; have f0 := blk_frozen c3 0; have f1 := blk_frozen c3 1
                simp at q0 q1
                clear c3
                go_wp2_with fail
                refine bodyPost_ret (results_list (rs := [.cell 2 24, .tmp 3]) rfl (by simp) (.cell w.heap.size 24 #[.int .i64 0, .int .i64 0] (0, 0) _ rfl (pair_set ((D4.out.block _ (lt_of_blk TT.out.1)).trans TT.out.1) _ _) Tryd.underlying24 rfl size24 (.tmp .nil))) rfl ?_
                refine ⟨by rw [E.out]; rfl, (BM.out.trans (D4.out.mono BM.out.size)).setCell (p := ⟨w.heap.size, 0, none⟩) (Nat.le_refl _) _ |>.setCell (p := ⟨w.heap.size, 1, none⟩) (Nat.le_refl _) _⟩
end Go.Proofs.YtiakdnoafmojlaaDoor.Q
