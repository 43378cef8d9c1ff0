/- A text read as a name: the program's walks. -/
import Derived.Test.YtiakdnoafmojlaaDoorNamesW
namespace Go.Proofs.YtiakdnoafmojlaaDoor.Q
open Go.RowKit Go.Proofs.YtiakdnoafmojlaaDoorW.PrintWords Go.Proofs.YtiakdnoafmojlaaDoorW.PrintLast Go.Proofs.YtiakdnoafmojlaaDoorW.PrintMore Go.Proofs.YtiakdnoafmojlaaDoor.Mem
open Go.Lib (decDigits atoiAll)
set_option linter.unusedVariables false
set_option linter.unusedSimpArgs false

/-- How a text ends that is read as a number. -/
def AtoiIs (l : List UInt8) (e : Ending) : Prop := (∃ v, atoiAll l = .ok v ∧ e = .returned (.tuple #[.int .i64 v, .nilIface])) ∨ ((∀ v, atoiAll l ≠ .ok v) ∧ ∃ x N, e = .returned (.tuple #[.int .i64 x, .iface 91 (.pointer (some ⟨N, 0, none⟩))]))
theorem atoi_ok (w : World) (hG : Gl w) (s : ByteArray) (hs : s.size ≤ 1000000) :
    Calls Tryd.prog 43 #[.string s] w fun e w' => AtoiIs s.data.toList e ∧ Below w.heap.size w w' := by
  rcases h : atoiAll s.data.toList with v | _ | _
  · refine (Tryd.strconv_Atoi_ok s (by omega) v h w).mono ?_
    rintro e w' ⟨rfl, rfl | ⟨t, rfl⟩⟩
    · exact ⟨.inl ⟨v, h, rfl⟩, Below.refl _ _⟩
    · exact ⟨.inl ⟨v, h, rfl⟩, bytes_below (Below.refl _ _) (Nat.le_refl _) 5 t⟩
  · obtain ⟨tp, p, hv⟩ := hG.syn
    refine (Tryd.strconv_Atoi_syntax_var s (by omega) (fun v hx => by rw [h] at hx; (cases hx)) (fun hx => by rw [h] at hx; (cases hx)) tp p w hv).mono ?_
    rintro e w' ⟨N, rfl, _, _, b⟩
    exact ⟨.inr ⟨fun v hv => by rw [h] at hv; (cases hv), 0, N, rfl⟩, b⟩
  · obtain ⟨tp, p, hv⟩ := hG.rng
    refine (Tryd.strconv_Atoi_range_var s (by omega) h tp p w hv).mono ?_
    rintro e w' ⟨N, rfl, _, _, b⟩
    exact ⟨.inr ⟨fun v hv => by rw [h] at hv; (cases hv), _, N, rfl⟩, b⟩
theorem cut_le (l sep : List UInt8) : (Lib.cut l sep).1.length ≤ l.length ∧ (Lib.cut l sep).2.1.length ≤ l.length := by
  unfold Lib.cut
  split
  · simp only [List.length_take, List.length_drop]; omega
  · simp
/-- What the result's block holds behind a store. -/
theorem pair_set {w : World} {b : Nat} {x y : Value} (h : w.heap[b]? = some (.cells #[x, y] 24 (0, 0))) (u v : Value) : ((w.setCell ⟨b, 0, none⟩ u).setCell ⟨b, 1, none⟩ v).heap[b]? = some (.cells #[u, v] 24 (0, 0)) := by
  have h1 := blk_set h 0 u
  simp at h1
  have h2 := blk_set h1 1 v
  simpa using h2
theorem opL_eq {l : List UInt8} {r n : Int} (h1 : atoiAll (Lib.cut l [46]).1 = .ok r) (h2 : atoiAll (Lib.cut l [46]).2.1 = .ok n) : opL l = (r, n) := by unfold opL; rw [h1]; simp only [h2]
theorem opL_bad1 {l : List UInt8} (h1 : ∀ v, atoiAll (Lib.cut l [46]).1 ≠ .ok v) : opL l = (0, 0) := by
  unfold opL
  split
  · rename_i r h; exact absurd h (h1 r)
  · rfl
theorem opL_bad2 {l : List UInt8} (h2 : ∀ v, atoiAll (Lib.cut l [46]).2.1 ≠ .ok v) : opL l = (0, 0) := by
  unfold opL
  split
  · split
    · rename_i n h; exact absurd h (h2 n)
    · rfl
  · rfl
set_option maxHeartbeats 1000000 in
theorem op_ok (w : World) (hG : Gl w) (s : ByteArray) (hs : s.size ≤ 1000000) :
    Calls Tryd.prog 33 #[.string s] w fun e w' => e = .returned (.agg #[.int .i64 (opL s.data.toList).1, .int .i64 (opL s.data.toList).2]) ∧ Below w.heap.size w w' := by
  obtain ⟨w0, e0⟩ : ∃ w0, w0 = w.alloc (.cells #[.int .i64 0, .int .i64 0] 24) := ⟨_, rfl⟩
  have b0 : Below w.heap.size w w0 := by rw [e0]; exact below_alloc (Below.refl _ _) _
  have hc0 : w0.heap[w.heap.size]? = some (.cells #[.int .i64 0, .int .i64 0] 24 (0, 0)) := by rw [e0]; exact heap_alloc_new w _
  have g0 := hG.on b0
  obtain ⟨m, hm⟩ := g0.maxl
  have hsl : s.data.toList.length ≤ 1000000 := by rw [Array.length_toList]; exact hs
  obtain ⟨sA, esA⟩ : ∃ sA : ByteArray, sA = ⟨(Lib.cut s.data.toList [46]).1.toArray⟩ := ⟨_, rfl⟩
  obtain ⟨sB, esB⟩ : ∃ sB : ByteArray, sB = ⟨(Lib.cut s.data.toList [46]).2.1.toArray⟩ := ⟨_, rfl⟩
  have lA : sA.data.toList = (Lib.cut s.data.toList [46]).1 := by rw [esA]
  have lB : sB.data.toList = (Lib.cut s.data.toList [46]).2.1 := by rw [esB]
  have zA : sA.size ≤ 1000000 := by
    have h1 : sA.size = sA.data.toList.length := by rw [Array.length_toList]; rfl
    have := (cut_le s.data.toList [46]).1
    rw [h1, lA]; omega
  have zB : sB.size ≤ 1000000 := by
    have h1 : sB.size = sB.data.toList.length := by rw [Array.length_toList]; rfl
    have := (cut_le s.data.toList [46]).2
    rw [h1, lB]; omega
  have CT : Hid (Calls Tryd.prog 42 #[.string s, .string ⟨#[46]⟩] w0 fun e w' => (∃ b, e = .returned (.tuple #[.string sA, .string sB, .bool b])) ∧ ∃ n, w' = w0.drewN n) := Lib.hid (by
    refine (Tryd.strings_Cut s ⟨#[46]⟩ m w0 (by omega) hm).mono ?_
    rintro e w' ⟨rfl, n, rfl⟩
    exact ⟨⟨_, by rw [esA, esB]⟩, n, rfl⟩)
  have E0 := Lib.hid e0; have B0 := Lib.hid b0; have G0 := Lib.hid g0; have HC0 := Lib.hid hc0; have LA := Lib.hid lA; have LB := Lib.hid lB; have ZA := Lib.hid zA; have ZB := Lib.hid zB
  clear hG hs e0 hc0 g0 b0 hm hsl esA esB lA lB zA zB
  go_enter Tryd.func33, Tryd.ntmps33
  go_upto_region 1 with (fail)
  rw [← E0.out]
  go_upto_region 2 with (go_at_call 42; refine CT.out.mono ?_; rintro e w1 ⟨⟨bb, rfl⟩, nd, rfl⟩)
  have D1 := Lib.hid (pw_below_drewN (Below.refl w0.heap.size w0) nd)
  go_upto_region 3 with (go_at_call 43; refine (atoi_ok _ (G0.out.on D1.out) sA ZA.out).mono ?_; rintro e w1 ⟨ha, bl⟩; have D2 := Lib.hid (D1.out.trans (bl.mono D1.out.size)); have AT := Lib.hid ha; clear bl ha; rcases AT.out with ⟨r, hr, rfl⟩ | ⟨hr, x, N, rfl⟩)
  · have HR := Lib.hid hr
    clear hr
    go_upto_region 6 with (go_at_call 43; refine (atoi_ok _ (G0.out.on D2.out) sB ZB.out).mono ?_; rintro e w2 ⟨ha, bl⟩; have D3 := Lib.hid (D2.out.trans (bl.mono D2.out.size)); have AU := Lib.hid ha; clear bl ha; rcases AU.out with ⟨n, hn, rfl⟩ | ⟨hn, x, N, rfl⟩)
    · have HN := Lib.hid hn
      clear hn
      have c2 := (D3.out.block _ (lt_of_blk HC0.out)).trans HC0.out
      have q0 := blk_cell c2 0; have q1 := blk_cell c2 1; have f0 := blk_frozen c2 0; have f1 := blk_frozen c2 1
      simp at q0 q1
      clear c2
      go_wp2_with fail
      refine bodyPost_ret (results_single (r := .cell 2 24) rfl (.cell w.heap.size 24 #[.int .i64 r, .int .i64 n] (0, 0) _ rfl (pair_set ((D3.out.block _ (lt_of_blk HC0.out)).trans HC0.out) _ _) Tryd.underlying24 rfl size24 .nil)) rfl ?_
      refine ⟨by rw [opL_eq (by rw [← LA.out]; exact HR.out) (by rw [← LB.out]; exact HN.out)], (B0.out.trans (D3.out.mono B0.out.size)).setCell (p := ⟨w.heap.size, 0, none⟩) (Nat.le_refl _) _ |>.setCell (p := ⟨w.heap.size, 1, none⟩) (Nat.le_refl _) _⟩
    · have HN := Lib.hid hn
      clear hn
      have c2 := (D3.out.block _ (lt_of_blk HC0.out)).trans HC0.out
      have q0 := blk_cell c2 0; have q1 := blk_cell c2 1; have f0 := blk_frozen c2 0; have f1 := blk_frozen c2 1
      simp at q0 q1
      clear c2
      go_wp2_with fail
      refine bodyPost_ret (results_single (r := .cell 2 24) rfl (.cell w.heap.size 24 #[.int .i64 0, .int .i64 0] (0, 0) _ rfl (pair_set ((D3.out.block _ (lt_of_blk HC0.out)).trans HC0.out) _ _) Tryd.underlying24 rfl size24 .nil)) rfl ?_
      refine ⟨by rw [opL_bad2 (by rw [← LB.out]; exact HN.out)], (B0.out.trans (D3.out.mono B0.out.size)).setCell (p := ⟨w.heap.size, 0, none⟩) (Nat.le_refl _) _ |>.setCell (p := ⟨w.heap.size, 1, none⟩) (Nat.le_refl _) _⟩
  · have HR := Lib.hid hr
    clear hr
    have c2 := (D2.out.block _ (lt_of_blk HC0.out)).trans HC0.out
    have q0 := blk_cell c2 0; have q1 := blk_cell c2 1; have f0 := blk_frozen c2 0; have f1 := blk_frozen c2 1
    simp at q0 q1
    clear c2
    go_wp2_with fail
    refine bodyPost_ret (results_single (r := .cell 2 24) rfl (.cell w.heap.size 24 #[.int .i64 0, .int .i64 0] (0, 0) _ rfl (pair_set ((D2.out.block _ (lt_of_blk HC0.out)).trans HC0.out) _ _) Tryd.underlying24 rfl size24 .nil)) rfl ?_
    refine ⟨by rw [opL_bad1 (by rw [← LA.out]; exact HR.out)], (B0.out.trans (D2.out.mono B0.out.size)).setCell (p := ⟨w.heap.size, 0, none⟩) (Nat.le_refl _) _ |>.setCell (p := ⟨w.heap.size, 1, none⟩) (Nat.le_refl _) _⟩
set_option maxHeartbeats 1000000 in
theorem read_ok (w : World) (hG : Gl w) (s : ByteArray) (hs : s.size ≤ 1000000) :
    Calls Tryd.prog 10 #[.string s] w fun e w' => e = .returned (.tuple #[.agg #[.int .i64 (rdWith opL s.data.toList).1.1, .int .i64 (rdWith opL s.data.toList).1.2], .bool (rdWith opL s.data.toList).2]) ∧ Below w.heap.size w w' := by
  obtain ⟨w0, e0⟩ : ∃ w0, w0 = w.alloc (.cells #[.int .i64 0, .int .i64 0] 24) := ⟨_, rfl⟩
  have b0 : Below w.heap.size w w0 := by rw [e0]; exact below_alloc (Below.refl _ _) _
  have hc0 : w0.heap[w.heap.size]? = some (.cells #[.int .i64 0, .int .i64 0] 24 (0, 0)) := by rw [e0]; exact heap_alloc_new w _
  have g0 := hG.on b0
  have E0 := Lib.hid e0; have B0 := Lib.hid b0; have G0 := Lib.hid g0; have HC0 := Lib.hid hc0; have HS := Lib.hid hs
  clear hG hs e0 hc0 g0 b0
  have D0 := Lib.hid (Below.refl w0.heap.size w0)
  have c2 := HC0.out
  have q0 := blk_cell c2 0; have q1 := blk_cell c2 1; have f0 := blk_frozen c2 0; have f1 := blk_frozen c2 1
  simp at q0 q1
  have r0 := G0.out.root0; have r1 := G0.out.root1; have t0 := G0.out.trash0; have t1 := G0.out.trash1
  clear c2
  have el : s.toList = s.data.toList := ByteArray.toList_eq s
  have EL := Lib.hid el
  clear el
  cases h1 : (s.toList == [114, 111, 111, 116]) with
  | true =>
    have e : rdWith opL s.data.toList = ((0, 0), true) := by unfold rdWith; rw [← EL.out, if_pos (by simpa using h1)]
    have E := Lib.hid e
    clear e
    go_enter Tryd.func10, Tryd.ntmps10
    go_upto_region 1 with (fail)
    rw [← E0.out]
    go_wp2_with fail
    refine bodyPost_ret (results_list (rs := [.cell 2 24, .tmp 3]) rfl (by simp) (.cell w.heap.size 24 #[.int .i64 0, .int .i64 0] (0, 0) _ rfl (pair_set ((D0.out.block _ (lt_of_blk HC0.out)).trans HC0.out) _ _) Tryd.underlying24 rfl size24 (.tmp .nil))) rfl ?_
    refine ⟨by rw [E.out]; rfl, (B0.out.trans (D0.out.mono B0.out.size)).setCell (p := ⟨w.heap.size, 0, none⟩) (Nat.le_refl _) _ |>.setCell (p := ⟨w.heap.size, 1, none⟩) (Nat.le_refl _) _⟩
  | false =>
    have n1 : ¬ s.data.toList = [114, 111, 111, 116] := by rw [← EL.out]; simpa using h1
    have N1 := Lib.hid n1
    clear n1
    cases h2 : (s.toList == [116, 114, 97, 115, 104]) with
    | true =>
      have e : rdWith opL s.data.toList = ((1, 0), true) := by unfold rdWith; rw [if_neg N1.out, if_pos (by rw [← EL.out]; simpa using h2)]
      have E := Lib.hid e
      clear e
      go_enter Tryd.func10, Tryd.ntmps10
      go_upto_region 1 with (fail)
      rw [← E0.out]
      go_wp2_with fail
      refine bodyPost_ret (results_list (rs := [.cell 2 24, .tmp 3]) rfl (by simp) (.cell w.heap.size 24 #[.int .i64 1, .int .i64 0] (0, 0) _ rfl (pair_set ((D0.out.block _ (lt_of_blk HC0.out)).trans HC0.out) _ _) Tryd.underlying24 rfl size24 (.tmp .nil))) rfl ?_
      refine ⟨by rw [E.out]; rfl, (B0.out.trans (D0.out.mono B0.out.size)).setCell (p := ⟨w.heap.size, 0, none⟩) (Nat.le_refl _) _ |>.setCell (p := ⟨w.heap.size, 1, none⟩) (Nat.le_refl _) _⟩
    | false =>
      have n2 : ¬ s.data.toList = [116, 114, 97, 115, 104] := by rw [← EL.out]; simpa using h2
      have N2 := Lib.hid n2
      clear n2
      have e3 : rdWith opL s.data.toList = if rop (opL s.data.toList).1 (opL s.data.toList).2 = true ∧ shwL (opL s.data.toList).1 (opL s.data.toList).2 = s.data.toList then (opL s.data.toList, true) else ((0, 0), false) := by
        unfold rdWith; rw [if_neg N1.out, if_neg N2.out]
      have OP := Lib.hid (op_ok w0 G0.out s HS.out)
      obtain ⟨p, hp⟩ : ∃ p, opL s.data.toList = p := ⟨_, rfl⟩
      obtain ⟨r, n⟩ := p
      have op1 := OP.out
      rw [hp] at e3 op1
      have OP1 := Lib.hid op1
      have E3 := Lib.hid e3
      clear e3 hp op1 OP
      go_enter Tryd.func10, Tryd.ntmps10
      go_upto_region 1 with (fail)
      rw [← E0.out]
      go_upto_region 7 with (go_at_call 33; refine OP1.out.mono ?_; rintro e w1 ⟨rfl, bl⟩; have D1 := Lib.hid bl; clear bl)
      obtain ⟨w2, e2⟩ : ∃ w2, w2 = w1.alloc (.cells #[.int .i64 r, .int .i64 n] 24) := ⟨_, rfl⟩
      have b2 : Below w1.heap.size w1 w2 := by rw [e2]; exact below_alloc (Below.refl _ _) _
      have hc2 : w2.heap[w1.heap.size]? = some (.cells #[.int .i64 r, .int .i64 n] 24 (0, 0)) := by rw [e2]; exact heap_alloc_new w1 _
      have D2 := Lib.hid (D1.out.trans (b2.mono D1.out.size))
      have p0 := blk_cell hc2 0; have p1 := blk_cell hc2 1
      simp at p0 p1
      rw [← e2]
      have HC2 := Lib.hid hc2
      clear e2 b2 hc2 q0 q1 f0 f1 r0 r1 t0 t1
      cases h3 : rop r n with
      | false =>
        have e : rdWith opL s.data.toList = ((0, 0), false) := by rw [E3.out, if_neg (by rw [h3]; simp)]
        have E := Lib.hid e; have H3 := Lib.hid h3
        clear e h3
        go_upto_region 8 with (go_at_call 21; refine (rop_ok _ r n).mono ?_; rintro e w3 ⟨rfl, bl⟩; rw [H3.out]; have D3 := Lib.hid (D2.out.trans (bl.mono D2.out.size)); clear bl)
        have c3 := (D3.out.block _ (lt_of_blk HC0.out)).trans HC0.out
        have q0 := blk_cell c3 0; have q1 := blk_cell c3 1; have f0 := blk_frozen c3 0; have f1 := blk_frozen c3 1
        simp at q0 q1
        clear c3
        go_wp2_with fail
        refine bodyPost_ret (results_list (rs := [.cell 2 24, .tmp 3]) rfl (by simp) (.cell w.heap.size 24 #[.int .i64 0, .int .i64 0] (0, 0) _ rfl (pair_set ((D3.out.block _ (lt_of_blk HC0.out)).trans HC0.out) _ _) Tryd.underlying24 rfl size24 (.tmp .nil))) rfl ?_
        refine ⟨by rw [E.out]; rfl, (B0.out.trans (D3.out.mono B0.out.size)).setCell (p := ⟨w.heap.size, 0, none⟩) (Nat.le_refl _) _ |>.setCell (p := ⟨w.heap.size, 1, none⟩) (Nat.le_refl _) _⟩
      | true =>
        have H3 := Lib.hid h3
        clear h3
        obtain ⟨sh, esh⟩ : ∃ sh : ByteArray, sh = ⟨(shwL r n).toArray⟩ := ⟨_, rfl⟩
        have lsh : sh.toList = shwL r n := by rw [esh, ByteArray.toList_eq]
        have ESH := Lib.hid esh; have LSH := Lib.hid lsh
        clear esh lsh
        cases h4 : (sh.toList == s.toList) with
        | true =>
          have e : rdWith opL s.data.toList = ((r, n), true) := by rw [E3.out, if_pos ⟨H3.out, by rw [← LSH.out, ← EL.out]; simpa using h4⟩]
          have E := Lib.hid e
          have g4 : (sh.toList != s.toList) = false := by rw [bne, h4]; rfl
          clear e
          go_upto_region 9 with (first | (go_at_call 21; refine (rop_ok _ r n).mono ?_; rintro e w3 ⟨rfl, bl⟩; rw [H3.out]; have D3 := Lib.hid (D2.out.trans (bl.mono D2.out.size)); replace p0 := cell_on p0 bl; replace p1 := cell_on p1 bl; clear bl) | (go_at_call 12; refine (show_ok _ (G0.out.on D3.out) r n).mono ?_; rintro e w4 ⟨rfl, bl⟩; rw [← ESH.out]; have D4 := Lib.hid (D3.out.trans (bl.mono D3.out.size)); replace p0 := cell_on p0 bl; replace p1 := cell_on p1 bl; clear bl))
          have c3 := (D4.out.block _ (lt_of_blk HC0.out)).trans HC0.out
          have q0 := blk_cell c3 0; have q1 := blk_cell c3 1; have f0 := blk_frozen c3 0; have f1 := blk_frozen c3 1
          simp at q0 q1
          clear c3
          go_wp2_with fail
          refine bodyPost_ret (results_list (rs := [.cell 2 24, .tmp 3]) rfl (by simp) (.cell w.heap.size 24 #[.int .i64 r, .int .i64 n] (0, 0) _ rfl (pair_set ((D4.out.block _ (lt_of_blk HC0.out)).trans HC0.out) _ _) Tryd.underlying24 rfl size24 (.tmp .nil))) rfl ?_
          refine ⟨by rw [E.out]; rfl, (B0.out.trans (D4.out.mono B0.out.size)).setCell (p := ⟨w.heap.size, 0, none⟩) (Nat.le_refl _) _ |>.setCell (p := ⟨w.heap.size, 1, none⟩) (Nat.le_refl _) _⟩
        | false =>
          have e : rdWith opL s.data.toList = ((0, 0), false) := by rw [E3.out, if_neg (fun h => by rw [← LSH.out, ← EL.out] at h; rw [beq_eq_false_iff_ne] at h4; exact h4 h.2)]
          have E := Lib.hid e
          have g4 : (sh.toList != s.toList) = true := by rw [bne, h4]; rfl
          clear e
          go_upto_region 8 with (first | (go_at_call 21; refine (rop_ok _ r n).mono ?_; rintro e w3 ⟨rfl, bl⟩; rw [H3.out]; have D3 := Lib.hid (D2.out.trans (bl.mono D2.out.size)); replace p0 := cell_on p0 bl; replace p1 := cell_on p1 bl; clear bl) | (go_at_call 12; refine (show_ok _ (G0.out.on D3.out) r n).mono ?_; rintro e w4 ⟨rfl, bl⟩; rw [← ESH.out]; have D4 := Lib.hid (D3.out.trans (bl.mono D3.out.size)); replace p0 := cell_on p0 bl; replace p1 := cell_on p1 bl; clear bl))
          have c3 := (D4.out.block _ (lt_of_blk HC0.out)).trans HC0.out
          have q0 := blk_cell c3 0; have q1 := blk_cell c3 1; have f0 := blk_frozen c3 0; have f1 := blk_frozen c3 1
          simp at q0 q1
          clear c3
          go_wp2_with fail
          refine bodyPost_ret (results_list (rs := [.cell 2 24, .tmp 3]) rfl (by simp) (.cell w.heap.size 24 #[.int .i64 0, .int .i64 0] (0, 0) _ rfl (pair_set ((D4.out.block _ (lt_of_blk HC0.out)).trans HC0.out) _ _) Tryd.underlying24 rfl size24 (.tmp .nil))) rfl ?_
          refine ⟨by rw [E.out]; rfl, (B0.out.trans (D4.out.mono B0.out.size)).setCell (p := ⟨w.heap.size, 0, none⟩) (Nat.le_refl _) _ |>.setCell (p := ⟨w.heap.size, 1, none⟩) (Nat.le_refl _) _⟩
end Go.Proofs.YtiakdnoafmojlaaDoor.Q
