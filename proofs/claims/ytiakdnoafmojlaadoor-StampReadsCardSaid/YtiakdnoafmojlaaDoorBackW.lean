/- StampBack: the walk. -/
import Derived.Test.YtiakdnoafmojlaaDoorOrderW
namespace Go.Proofs.YtiakdnoafmojlaaDoor.Q
open Go.RowKit Go.Proofs.YtiakdnoafmojlaaDoorW.PrintWords Go.Proofs.YtiakdnoafmojlaaDoorW.PrintLast Go.Proofs.YtiakdnoafmojlaaDoorW.PrintMore Go.Proofs.YtiakdnoafmojlaaDoor.Mem
set_option linter.unusedVariables false
set_option linter.unusedSimpArgs false
attribute [local go_sem high] eqA24
theorem take_at {P : Program} {ops : Array Oper} {Q : Exit → Act → World → Prop} {md : Region.Mode} {S : World → Prop} {i : Nat} {oi : Oper} {v : Value} {d : Option Tmp} {fuel : Nat} {listed : Array Bool} {a : Act} {w : World} (hi : ops[i]? = some oi) (hd : oi.dst = d)
    (hs : Region.noSelect ops = true) (hf : Region.free md ops listed i = true) (hr : (Region.ready md ops listed).contains i = true)
    (hQ : ∀ c a w, Q (.panic c) (a.put d v) w → Q (.panic c) a w) (hy : YieldsIf P ops S oi v a) (hS : S w)
    (h : wpAnyH P md ops Q S fuel (listed.setIfInBounds i true) (a.put d v) w) : wpAnyH P md ops Q S (fuel + 1) listed a w := by
  subst hd
  exact wpAnyH_take hi hs hf hr hQ hy hS h
theorem shw_len (R N : Int) : (shwL R N).length ≤ 20 := by
  unfold shwL
  split
  · decide
  · split
    · decide
    · split
      · rename_i h
        obtain ⟨h1, h2, h3, h4⟩ := rop_iff.1 h
        have x1 := dec_len 6 R.toNat (by omega)
        have x2 := dec_len 6 N.toNat (by omega)
        simp only [List.length_append, List.length_singleton]
        omega
      · decide
set_option maxRecDepth 100000 in
set_option maxHeartbeats 4000000 in
theorem back_walk (W : World) (hG : Gl W) (cs0 : Array Value) (a : Int × Int) (hK0 : kPr.K W a cs0.toList) (_ : True) (cs1 : Array Value) (b : Int × Int) (hK1 : kPr.K W b cs1.toList) (_ : True) :
    Calls Tryd.prog 4 #[.agg cs0, .agg cs1] W fun e w' => e = .returned (.bool true) ∧ Below W.heap.size W w' := by
  obtain rfl := kPr_open hK0
  obtain rfl := kPr_open hK1
  have G0 := Lib.hid hG
  clear hG hK0 hK1
  obtain ⟨a0, a1⟩ := a; obtain ⟨b0, b1⟩ := b
  obtain ⟨w0, e0⟩ : ∃ w0, w0 = (W.alloc (.cells #[.int .i64 a0, .int .i64 a1] 24)).alloc (.cells #[.int .i64 b0, .int .i64 b1] 24) := ⟨_, rfl⟩
  have hb : Below W.heap.size W w0 := by rw [e0]; exact below_alloc (below_alloc (Below.refl _ _) _) _
  have GG := Lib.hid (G0.out.on hb)
  have HB := Lib.hid hb
  clear hb
  have E0 := Lib.hid e0
  clear e0
  obtain ⟨sA, esA⟩ : ∃ s : ByteArray, s = ⟨(shwL a0 a1).toArray⟩ := ⟨_, rfl⟩
  obtain ⟨sB, esB⟩ : ∃ s : ByteArray, s = ⟨(shwL b0 b1).toArray⟩ := ⟨_, rfl⟩
  have lA : sA.data.toList = shwL a0 a1 := by rw [esA]
  have lB : sB.data.toList = shwL b0 b1 := by rw [esB]
  have zA : sA.size ≤ 1000000 := by
    have h1 : sA.size = sA.data.toList.length := by rw [Array.length_toList]; rfl
    have := shw_len a0 a1
    rw [h1, lA]; omega
  have CA : Hid (∀ w, Gl w → Calls Tryd.prog 12 #[.agg #[.int .i64 a0, .int .i64 a1]] w fun e w' => e = .returned (.string sA) ∧ Below w.heap.size w w') := Lib.hid (fun w h => by rw [esA]; exact show_ok w h a0 a1)
  have CB : Hid (∀ w, Gl w → Calls Tryd.prog 12 #[.agg #[.int .i64 b0, .int .i64 b1]] w fun e w' => e = .returned (.string sB) ∧ Below w.heap.size w w') := Lib.hid (fun w h => by rw [esB]; exact show_ok w h b0 b1)
  have SC : Hid (∀ z, Below w0.heap.size w0 z → Below w0.heap.size w0 z ∧ z.cell? ⟨W.heap.size, 0, none⟩ = some (.int .i64 a0) ∧ z.cell? ⟨W.heap.size, 1, none⟩ = some (.int .i64 a1) ∧ z.cell? ⟨W.heap.size + 1, 0, none⟩ = some (.int .i64 b0) ∧ z.cell? ⟨W.heap.size + 1, 1, none⟩ = some (.int .i64 b1)) := by
    refine Lib.hid (fun z hz => ⟨hz, ?_⟩)
    have n0 := heap_alloc_new W (.cells #[.int .i64 a0, .int .i64 a1] 24)
    have n1 := heap_alloc_new (W.alloc (.cells #[.int .i64 a0, .int .i64 a1] 24)) (.cells #[.int .i64 b0, .int .i64 b1] 24)
    have h0 : w0.heap[W.heap.size]? = some (.cells #[.int .i64 a0, .int .i64 a1] 24 (0, 0)) := by rw [E0.out]; exact (heap_alloc_old _ _ (lt_of_blk n0)).trans n0
    have h1 : w0.heap[W.heap.size + 1]? = some (.cells #[.int .i64 b0, .int .i64 b1] 24 (0, 0)) := by rw [E0.out]; simpa using n1
    exact ⟨cell_on (p := ⟨W.heap.size, 0, none⟩) (by have := blk_cell h0 0; simpa using this) hz, cell_on (p := ⟨W.heap.size, 1, none⟩) (by have := blk_cell h0 1; simpa using this) hz, cell_on (p := ⟨W.heap.size + 1, 0, none⟩) (by have := blk_cell h1 0; simpa using this) hz, cell_on (p := ⟨W.heap.size + 1, 1, none⟩) (by have := blk_cell h1 1; simpa using this) hz⟩
  cases ha : rbl a0 a1 with
  | false =>
    have CR : Hid (∀ w, Gl w → Calls Tryd.prog 10 #[.string sA] w fun e w' => e = .returned (.tuple #[.agg #[.int .i64 0, .int .i64 0], .bool false]) ∧ Below w.heap.size w w') := Lib.hid (fun w h => by
      have z := read_ok w h sA zA
      rw [lA, rd_none ha] at z
      exact z)
    have CK : Hid (∀ w, Gl w → Calls Tryd.prog 13 #[.agg #[.int .i64 a0, .int .i64 a1]] w fun e w' => e = .returned (.bool false) ∧ Below w.heap.size w w') := Lib.hid (fun w h => by have z := rbl_ok w h a0 a1; rw [ha] at z; exact z)
    clear esA esB lA lB zA ha
    go_enter Tryd.func4, Tryd.ntmps4
    go_upto_region 1 with (fail)
    rw [← E0.out]
    go_upto_region 3 with (go_at_call 9; refine (alive_ok _ GG.out).mono ?_; rintro e w1 ⟨rfl, bl⟩; have BB := Lib.hid bl; clear bl)
    obtain ⟨_, q0, q1, q2, q3⟩ := SC.out _ BB.out
    go_upto_region 4 with (first | (go_at_call 12; with_reducible refine (CA.out _ (GG.out.on BB.out)).mono ?_; rintro e w2 ⟨rfl, bl⟩; have BB := Lib.hid (BB.out.trans (bl.mono BB.out.size)); clear bl; obtain ⟨_, q0, q1, q2, q3⟩ := SC.out _ BB.out) | (go_at_call 10; with_reducible refine (CR.out _ (GG.out.on BB.out)).mono ?_; rintro e w3 ⟨rfl, bl⟩; have BB := Lib.hid (BB.out.trans (bl.mono BB.out.size)); clear bl; obtain ⟨_, q0, q1, q2, q3⟩ := SC.out _ BB.out))
    obtain ⟨w4, e4⟩ : ∃ w4, w4 = w3.alloc (.cells #[.int .i64 0, .int .i64 0] 24) := ⟨_, rfl⟩
    have b4 : Below w3.heap.size w3 w4 := by rw [e4]; exact below_alloc (Below.refl _ _) _
    have h4 : w4.heap[w3.heap.size]? = some (.cells #[.int .i64 0, .int .i64 0] 24 (0, 0)) := by rw [e4]; exact heap_alloc_new w3 _
    have BB := Lib.hid (BB.out.trans (b4.mono BB.out.size))
    have p0 := blk_cell h4 0; have p1 := blk_cell h4 1
    simp at p0 p1
    rw [← e4]
    clear e4 b4 h4 q0 q1 q2 q3
    obtain ⟨_, q0, q1, q2, q3⟩ := SC.out _ BB.out
    go_upto_region 6 with (go_at_call 13; with_reducible refine (CK.out _ (GG.out.on BB.out)).mono ?_; rintro e w5 ⟨rfl, bl⟩; replace p0 := cell_on p0 bl; replace p1 := cell_on p1 bl; have BB := Lib.hid (BB.out.trans (bl.mono BB.out.size)); clear bl; obtain ⟨_, q0, q1, q2, q3⟩ := SC.out _ BB.out)
    have BB := Lib.hid (below_drew1 BB.out)
    refine wp_region_held_drew (S := fun z => True) (by kernel_rfl) trivial (fun hHeld => ?_)
    refine take_at (i := 0) (d := some 27) (v := ?_) rfl rfl (by kernel_rfl) (by kernel_rfl) (by kernel_rfl) (fun _ _ _ h => h) (Or.inl ⟨by rfl, ?_⟩) (by assumption) ?_
    rotate_left
    · intro w hSw
      try dsimp only at hSw
      go_simp
      try with_reducible rfl
    try simp only [Act.put, List.setIfInBounds_toArray, List.set_cons_zero, List.set_cons_succ]
    refine take_at (i := 1) (d := some 28) (v := ?_) rfl rfl (by kernel_rfl) (by kernel_rfl) (by kernel_rfl) (fun _ _ _ h => h) (Or.inl ⟨by rfl, ?_⟩) (by assumption) ?_
    rotate_left
    · intro w hSw
      try dsimp only at hSw
      go_simp
      try with_reducible rfl
    try simp only [Act.put, List.setIfInBounds_toArray, List.set_cons_zero, List.set_cons_succ]
    refine take_at (i := 2) (d := some 29) (v := ?_) rfl rfl (by kernel_rfl) (by kernel_rfl) (by kernel_rfl) (fun _ _ _ h => h) (Or.inl ⟨by rfl, ?_⟩) (by assumption) ?_
    rotate_left
    · intro w hSw
      try dsimp only at hSw
      go_simp
      try with_reducible rfl
    try simp only [Act.put, List.setIfInBounds_toArray, List.set_cons_zero, List.set_cons_succ]
    refine take_at (i := 3) (d := some 30) (v := undef) rfl rfl (by kernel_rfl) (by kernel_rfl) (by kernel_rfl) (fun _ _ _ h => h) (Or.inr ⟨by rfl, rfl⟩) (by assumption) ?_
    try simp only [Act.put, List.setIfInBounds_toArray, List.set_cons_zero, List.set_cons_succ]
    refine take_at (i := 4) (d := some 31) (v := undef) rfl rfl (by kernel_rfl) (by kernel_rfl) (by kernel_rfl) (fun _ _ _ h => h) (Or.inr ⟨by rfl, rfl⟩) (by assumption) ?_
    try simp only [Act.put, List.setIfInBounds_toArray, List.set_cons_zero, List.set_cons_succ]
    refine take_at (i := 5) (d := some 32) (v := undef) rfl rfl (by kernel_rfl) (by kernel_rfl) (by kernel_rfl) (fun _ _ _ h => h) (Or.inr ⟨by rfl, rfl⟩) (by assumption) ?_
    try simp only [Act.put, List.setIfInBounds_toArray, List.set_cons_zero, List.set_cons_succ]
    refine take_at (i := 6) (d := some 33) (v := ?_) rfl rfl (by kernel_rfl) (by kernel_rfl) (by kernel_rfl) (fun _ _ _ h => h) (Or.inl ⟨by rfl, ?_⟩) (by assumption) ?_
    rotate_left
    · intro w hSw
      try dsimp only at hSw
      go_simp
      try with_reducible rfl
    try simp only [Act.put, List.setIfInBounds_toArray, List.set_cons_zero, List.set_cons_succ]
    refine take_at (i := 7) (d := some 34) (v := ?_) rfl rfl (by kernel_rfl) (by kernel_rfl) (by kernel_rfl) (fun _ _ _ h => h) (Or.inl ⟨by rfl, ?_⟩) (by assumption) ?_
    rotate_left
    · intro w hSw
      try dsimp only at hSw
      go_simp
      try with_reducible rfl
    try simp only [Act.put, List.setIfInBounds_toArray, List.set_cons_zero, List.set_cons_succ]
    refine take_at (i := 8) (d := some 35) (v := undef) rfl rfl (by kernel_rfl) (by kernel_rfl) (by kernel_rfl) (fun _ _ _ h => h) (Or.inr ⟨by rfl, rfl⟩) (by assumption) ?_
    try simp only [Act.put, List.setIfInBounds_toArray, List.set_cons_zero, List.set_cons_succ]
    refine take_at (i := 9) (d := some 36) (v := undef) rfl rfl (by kernel_rfl) (by kernel_rfl) (by kernel_rfl) (fun _ _ _ h => h) (Or.inr ⟨by rfl, rfl⟩) (by assumption) ?_
    try simp only [Act.put, List.setIfInBounds_toArray, List.set_cons_zero, List.set_cons_succ]
    refine take_at (i := 10) (d := some 37) (v := undef) rfl rfl (by kernel_rfl) (by kernel_rfl) (by kernel_rfl) (fun _ _ _ h => h) (Or.inr ⟨by rfl, rfl⟩) (by assumption) ?_
    try simp only [Act.put, List.setIfInBounds_toArray, List.set_cons_zero, List.set_cons_succ]
    refine take_at (i := 11) (d := some 38) (v := undef) rfl rfl (by kernel_rfl) (by kernel_rfl) (by kernel_rfl) (fun _ _ _ h => h) (Or.inr ⟨by rfl, rfl⟩) (by assumption) ?_
    try simp only [Act.put, List.setIfInBounds_toArray, List.set_cons_zero, List.set_cons_succ]
    refine take_at (i := 12) (d := some 39) (v := undef) rfl rfl (by kernel_rfl) (by kernel_rfl) (by kernel_rfl) (fun _ _ _ h => h) (Or.inr ⟨by rfl, rfl⟩) (by assumption) ?_
    try simp only [Act.put, List.setIfInBounds_toArray, List.set_cons_zero, List.set_cons_succ]
    refine take_at (i := 13) (d := some 40) (v := undef) rfl rfl (by kernel_rfl) (by kernel_rfl) (by kernel_rfl) (fun _ _ _ h => h) (Or.inr ⟨by rfl, rfl⟩) (by assumption) ?_
    try simp only [Act.put, List.setIfInBounds_toArray, List.set_cons_zero, List.set_cons_succ]
    refine take_at (i := 14) (d := some 41) (v := undef) rfl rfl (by kernel_rfl) (by kernel_rfl) (by kernel_rfl) (fun _ _ _ h => h) (Or.inr ⟨by rfl, rfl⟩) (by assumption) ?_
    try simp only [Act.put, List.setIfInBounds_toArray, List.set_cons_zero, List.set_cons_succ]
    refine take_at (i := 15) (d := some 42) (v := undef) rfl rfl (by kernel_rfl) (by kernel_rfl) (by kernel_rfl) (fun _ _ _ h => h) (Or.inr ⟨by rfl, rfl⟩) (by assumption) ?_
    try simp only [Act.put, List.setIfInBounds_toArray, List.set_cons_zero, List.set_cons_succ]
    refine take_at (i := 16) (d := some 43) (v := undef) rfl rfl (by kernel_rfl) (by kernel_rfl) (by kernel_rfl) (fun _ _ _ h => h) (Or.inr ⟨by rfl, rfl⟩) (by assumption) ?_
    try simp only [Act.put, List.setIfInBounds_toArray, List.set_cons_zero, List.set_cons_succ]
    refine take_at (i := 17) (d := some 44) (v := ?_) rfl rfl (by kernel_rfl) (by kernel_rfl) (by kernel_rfl) (fun _ _ _ h => h) (Or.inl ⟨by rfl, ?_⟩) (by assumption) ?_
    rotate_left
    · intro w hSw
      try dsimp only at hSw
      go_simp
      try with_reducible rfl
    try simp only [Act.put, List.setIfInBounds_toArray, List.set_cons_zero, List.set_cons_succ]
    refine take_at (i := 18) (d := some 4) (v := ?_) rfl rfl (by kernel_rfl) (by kernel_rfl) (by kernel_rfl) (fun _ _ _ h => h) (Or.inl ⟨by rfl, ?_⟩) (by assumption) ?_
    rotate_left
    · intro w hSw
      try dsimp only at hSw
      go_simp
      try with_reducible rfl
    try simp only [Act.put, List.setIfInBounds_toArray, List.set_cons_zero, List.set_cons_succ]
    refine wpAnyH_done (by kernel_rfl) ?_ _
    go_wp2_with fail
    go_ret
    exact ⟨rfl, HB.out.trans (BB.out.mono HB.out.size)⟩
  | true =>
    have CR : Hid (∀ w, Gl w → Calls Tryd.prog 10 #[.string sA] w fun e w' => e = .returned (.tuple #[.agg #[.int .i64 a0, .int .i64 a1], .bool true]) ∧ Below w.heap.size w w') := Lib.hid (fun w h => by
      have z := read_ok w h sA zA
      rw [lA, rd_shw op_shw ha] at z
      exact z)
    have CK : Hid (∀ w, Gl w → Calls Tryd.prog 13 #[.agg #[.int .i64 a0, .int .i64 a1]] w fun e w' => e = .returned (.bool true) ∧ Below w.heap.size w w') := Lib.hid (fun w h => by have z := rbl_ok w h a0 a1; rw [ha] at z; exact z)
    cases hb : rbl b0 b1 with
    | false =>
      have CL : Hid (∀ w, Gl w → Calls Tryd.prog 13 #[.agg #[.int .i64 b0, .int .i64 b1]] w fun e w' => e = .returned (.bool false) ∧ Below w.heap.size w w') := Lib.hid (fun w h => by have z := rbl_ok w h b0 b1; rw [hb] at z; exact z)
      clear esA esB lA lB zA ha hb
      go_enter Tryd.func4, Tryd.ntmps4
      go_upto_region 1 with (fail)
      rw [← E0.out]
      go_upto_region 3 with (go_at_call 9; refine (alive_ok _ GG.out).mono ?_; rintro e w1 ⟨rfl, bl⟩; have BB := Lib.hid bl; clear bl)
      obtain ⟨_, q0, q1, q2, q3⟩ := SC.out _ BB.out
      go_upto_region 4 with (first | (go_at_call 12; with_reducible refine (CA.out _ (GG.out.on BB.out)).mono ?_; rintro e w2 ⟨rfl, bl⟩; have BB := Lib.hid (BB.out.trans (bl.mono BB.out.size)); clear bl; obtain ⟨_, q0, q1, q2, q3⟩ := SC.out _ BB.out) | (go_at_call 10; with_reducible refine (CR.out _ (GG.out.on BB.out)).mono ?_; rintro e w3 ⟨rfl, bl⟩; have BB := Lib.hid (BB.out.trans (bl.mono BB.out.size)); clear bl; obtain ⟨_, q0, q1, q2, q3⟩ := SC.out _ BB.out))
      obtain ⟨w4, e4⟩ : ∃ w4, w4 = w3.alloc (.cells #[.int .i64 a0, .int .i64 a1] 24) := ⟨_, rfl⟩
      have b4 : Below w3.heap.size w3 w4 := by rw [e4]; exact below_alloc (Below.refl _ _) _
      have h4 : w4.heap[w3.heap.size]? = some (.cells #[.int .i64 a0, .int .i64 a1] 24 (0, 0)) := by rw [e4]; exact heap_alloc_new w3 _
      have BB := Lib.hid (BB.out.trans (b4.mono BB.out.size))
      have p0 := blk_cell h4 0; have p1 := blk_cell h4 1
      simp at p0 p1
      rw [← e4]
      clear e4 b4 h4 q0 q1 q2 q3
      obtain ⟨_, q0, q1, q2, q3⟩ := SC.out _ BB.out
      go_upto_region 6 with (go_at_call 13; with_reducible refine (CK.out _ (GG.out.on BB.out)).mono ?_; rintro e w5 ⟨rfl, bl⟩; replace p0 := cell_on p0 bl; replace p1 := cell_on p1 bl; have BB := Lib.hid (BB.out.trans (bl.mono BB.out.size)); clear bl; obtain ⟨_, q0, q1, q2, q3⟩ := SC.out _ BB.out)
      have BB := Lib.hid (below_drew1 BB.out)
      refine wp_region_held_drew (S := fun z => Below w0.heap.size w0 z ∧ z.cell? ⟨W.heap.size, 0, none⟩ = some (.int .i64 a0) ∧ z.cell? ⟨W.heap.size, 1, none⟩ = some (.int .i64 a1) ∧ z.cell? ⟨W.heap.size + 1, 0, none⟩ = some (.int .i64 b0) ∧ z.cell? ⟨W.heap.size + 1, 1, none⟩ = some (.int .i64 b1)) (by kernel_rfl) (SC.out _ BB.out) (fun hHeld => ?_)
      refine take_at (i := 0) (d := some 27) (v := ?_) rfl rfl (by kernel_rfl) (by kernel_rfl) (by kernel_rfl) (fun _ _ _ h => h) (Or.inl ⟨by rfl, ?_⟩) (by assumption) ?_
      rotate_left
      · intro w hSw
        try dsimp only at hSw
        go_simp
        try with_reducible rfl
      try simp only [Act.put, List.setIfInBounds_toArray, List.set_cons_zero, List.set_cons_succ]
      refine take_at (i := 1) (d := some 28) (v := ?_) rfl rfl (by kernel_rfl) (by kernel_rfl) (by kernel_rfl) (fun _ _ _ h => h) (Or.inl ⟨by rfl, ?_⟩) (by assumption) ?_
      rotate_left
      · intro w hSw
        try dsimp only at hSw
        go_simp
        try with_reducible rfl
      try simp only [Act.put, List.setIfInBounds_toArray, List.set_cons_zero, List.set_cons_succ]
      refine take_at (i := 2) (d := some 29) (v := ?_) rfl rfl (by kernel_rfl) (by kernel_rfl) (by kernel_rfl) (fun _ _ _ h => h) (Or.inl ⟨by rfl, ?_⟩) (by assumption) ?_
      rotate_left
      · intro w hSw
        try dsimp only at hSw
        go_simp
        try with_reducible rfl
      try simp only [Act.put, List.setIfInBounds_toArray, List.set_cons_zero, List.set_cons_succ]
      refine take_at (i := 3) (d := some 30) (v := ?_) rfl rfl (by kernel_rfl) (by kernel_rfl) (by kernel_rfl) (fun _ _ _ h => h) (Or.inl ⟨by rfl, ?_⟩) (by assumption) ?_
      rotate_left
      · intro w hSw
        try dsimp only at hSw
        go_simp
        try with_reducible rfl
      try simp only [Act.put, List.setIfInBounds_toArray, List.set_cons_zero, List.set_cons_succ]
      refine wpAnyH_ready (rs := [4]) (by kernel_rfl) (by simp) ?_
      refine AllReadyH.cons rfl (fun K hK => ?_) AllReadyH.nil
      go_simp
      go_at_call 13; with_reducible refine (CL.out _ (GG.out.on BB.out)).mono ?_; rintro e w6 ⟨rfl, bl⟩; have BB := Lib.hid (BB.out.trans (bl.mono BB.out.size)); clear bl
      refine hK.out _ _ (SC.out _ BB.out) (fun hHeld => ?_)
      clear hK K
      try simp only [Act.put, List.setIfInBounds_toArray, List.set_cons_zero, List.set_cons_succ]
      refine take_at (i := 5) (d := some 32) (v := ?_) rfl rfl (by kernel_rfl) (by kernel_rfl) (by kernel_rfl) (fun _ _ _ h => h) (Or.inl ⟨by rfl, ?_⟩) (by assumption) ?_
      rotate_left
      · intro w hSw
        try dsimp only at hSw
        go_simp
        try with_reducible rfl
      try simp only [Act.put, List.setIfInBounds_toArray, List.set_cons_zero, List.set_cons_succ]
      refine take_at (i := 6) (d := some 33) (v := ?_) rfl rfl (by kernel_rfl) (by kernel_rfl) (by kernel_rfl) (fun _ _ _ h => h) (Or.inl ⟨by rfl, ?_⟩) (by assumption) ?_
      rotate_left
      · intro w hSw
        try dsimp only at hSw
        go_simp
        try with_reducible rfl
      try simp only [Act.put, List.setIfInBounds_toArray, List.set_cons_zero, List.set_cons_succ]
      refine take_at (i := 7) (d := some 34) (v := ?_) rfl rfl (by kernel_rfl) (by kernel_rfl) (by kernel_rfl) (fun _ _ _ h => h) (Or.inl ⟨by rfl, ?_⟩) (by assumption) ?_
      rotate_left
      · intro w hSw
        try dsimp only at hSw
        go_simp
        try with_reducible rfl
      try simp only [Act.put, List.setIfInBounds_toArray, List.set_cons_zero, List.set_cons_succ]
      refine take_at (i := 8) (d := some 35) (v := undef) rfl rfl (by kernel_rfl) (by kernel_rfl) (by kernel_rfl) (fun _ _ _ h => h) (Or.inr ⟨by rfl, rfl⟩) (by assumption) ?_
      try simp only [Act.put, List.setIfInBounds_toArray, List.set_cons_zero, List.set_cons_succ]
      refine take_at (i := 9) (d := some 36) (v := undef) rfl rfl (by kernel_rfl) (by kernel_rfl) (by kernel_rfl) (fun _ _ _ h => h) (Or.inr ⟨by rfl, rfl⟩) (by assumption) ?_
      try simp only [Act.put, List.setIfInBounds_toArray, List.set_cons_zero, List.set_cons_succ]
      refine take_at (i := 10) (d := some 37) (v := undef) rfl rfl (by kernel_rfl) (by kernel_rfl) (by kernel_rfl) (fun _ _ _ h => h) (Or.inr ⟨by rfl, rfl⟩) (by assumption) ?_
      try simp only [Act.put, List.setIfInBounds_toArray, List.set_cons_zero, List.set_cons_succ]
      refine take_at (i := 11) (d := some 38) (v := undef) rfl rfl (by kernel_rfl) (by kernel_rfl) (by kernel_rfl) (fun _ _ _ h => h) (Or.inr ⟨by rfl, rfl⟩) (by assumption) ?_
      try simp only [Act.put, List.setIfInBounds_toArray, List.set_cons_zero, List.set_cons_succ]
      refine take_at (i := 12) (d := some 39) (v := undef) rfl rfl (by kernel_rfl) (by kernel_rfl) (by kernel_rfl) (fun _ _ _ h => h) (Or.inr ⟨by rfl, rfl⟩) (by assumption) ?_
      try simp only [Act.put, List.setIfInBounds_toArray, List.set_cons_zero, List.set_cons_succ]
      refine take_at (i := 13) (d := some 40) (v := undef) rfl rfl (by kernel_rfl) (by kernel_rfl) (by kernel_rfl) (fun _ _ _ h => h) (Or.inr ⟨by rfl, rfl⟩) (by assumption) ?_
      try simp only [Act.put, List.setIfInBounds_toArray, List.set_cons_zero, List.set_cons_succ]
      refine take_at (i := 14) (d := some 41) (v := undef) rfl rfl (by kernel_rfl) (by kernel_rfl) (by kernel_rfl) (fun _ _ _ h => h) (Or.inr ⟨by rfl, rfl⟩) (by assumption) ?_
      try simp only [Act.put, List.setIfInBounds_toArray, List.set_cons_zero, List.set_cons_succ]
      refine take_at (i := 15) (d := some 42) (v := undef) rfl rfl (by kernel_rfl) (by kernel_rfl) (by kernel_rfl) (fun _ _ _ h => h) (Or.inr ⟨by rfl, rfl⟩) (by assumption) ?_
      try simp only [Act.put, List.setIfInBounds_toArray, List.set_cons_zero, List.set_cons_succ]
      refine take_at (i := 16) (d := some 43) (v := undef) rfl rfl (by kernel_rfl) (by kernel_rfl) (by kernel_rfl) (fun _ _ _ h => h) (Or.inr ⟨by rfl, rfl⟩) (by assumption) ?_
      try simp only [Act.put, List.setIfInBounds_toArray, List.set_cons_zero, List.set_cons_succ]
      refine take_at (i := 17) (d := some 44) (v := ?_) rfl rfl (by kernel_rfl) (by kernel_rfl) (by kernel_rfl) (fun _ _ _ h => h) (Or.inl ⟨by rfl, ?_⟩) (by assumption) ?_
      rotate_left
      · intro w hSw
        try dsimp only at hSw
        go_simp
        try with_reducible rfl
      try simp only [Act.put, List.setIfInBounds_toArray, List.set_cons_zero, List.set_cons_succ]
      refine take_at (i := 18) (d := some 4) (v := ?_) rfl rfl (by kernel_rfl) (by kernel_rfl) (by kernel_rfl) (fun _ _ _ h => h) (Or.inl ⟨by rfl, ?_⟩) (by assumption) ?_
      rotate_left
      · intro w hSw
        try dsimp only at hSw
        go_simp
        try with_reducible rfl
      try simp only [Act.put, List.setIfInBounds_toArray, List.set_cons_zero, List.set_cons_succ]
      refine wpAnyH_done (by kernel_rfl) ?_ _
      go_wp2_with fail
      go_ret
      exact ⟨rfl, HB.out.trans (BB.out.mono HB.out.size)⟩
    | true =>
      have CL : Hid (∀ w, Gl w → Calls Tryd.prog 13 #[.agg #[.int .i64 b0, .int .i64 b1]] w fun e w' => e = .returned (.bool true) ∧ Below w.heap.size w w') := Lib.hid (fun w h => by have z := rbl_ok w h b0 b1; rw [hb] at z; exact z)
      have f1 : ((sA.toList == sB.toList) == (a0 == b0 && (a1 == b1))) = true := by
        rw [ByteArray.toList_eq, ByteArray.toList_eq, lA, lB, beq_iff_eq, Bool.eq_iff_iff]
        simp only [beq_iff_eq, Bool.and_eq_true]
        exact ⟨fun e => shw_inj ha hb e, fun e => by rw [e.1, e.2]⟩
      clear esA esB lA lB zA ha hb
      go_enter Tryd.func4, Tryd.ntmps4
      go_upto_region 1 with (fail)
      rw [← E0.out]
      go_upto_region 3 with (go_at_call 9; refine (alive_ok _ GG.out).mono ?_; rintro e w1 ⟨rfl, bl⟩; have BB := Lib.hid bl; clear bl)
      obtain ⟨_, q0, q1, q2, q3⟩ := SC.out _ BB.out
      go_upto_region 4 with (first | (go_at_call 12; with_reducible refine (CA.out _ (GG.out.on BB.out)).mono ?_; rintro e w2 ⟨rfl, bl⟩; have BB := Lib.hid (BB.out.trans (bl.mono BB.out.size)); clear bl; obtain ⟨_, q0, q1, q2, q3⟩ := SC.out _ BB.out) | (go_at_call 10; with_reducible refine (CR.out _ (GG.out.on BB.out)).mono ?_; rintro e w3 ⟨rfl, bl⟩; have BB := Lib.hid (BB.out.trans (bl.mono BB.out.size)); clear bl; obtain ⟨_, q0, q1, q2, q3⟩ := SC.out _ BB.out))
      obtain ⟨w4, e4⟩ : ∃ w4, w4 = w3.alloc (.cells #[.int .i64 a0, .int .i64 a1] 24) := ⟨_, rfl⟩
      have b4 : Below w3.heap.size w3 w4 := by rw [e4]; exact below_alloc (Below.refl _ _) _
      have h4 : w4.heap[w3.heap.size]? = some (.cells #[.int .i64 a0, .int .i64 a1] 24 (0, 0)) := by rw [e4]; exact heap_alloc_new w3 _
      have BB := Lib.hid (BB.out.trans (b4.mono BB.out.size))
      have p0 := blk_cell h4 0; have p1 := blk_cell h4 1
      simp at p0 p1
      rw [← e4]
      clear e4 b4 h4 q0 q1 q2 q3
      obtain ⟨_, q0, q1, q2, q3⟩ := SC.out _ BB.out
      go_upto_region 6 with (go_at_call 13; with_reducible refine (CK.out _ (GG.out.on BB.out)).mono ?_; rintro e w5 ⟨rfl, bl⟩; replace p0 := cell_on p0 bl; replace p1 := cell_on p1 bl; have BB := Lib.hid (BB.out.trans (bl.mono BB.out.size)); clear bl; obtain ⟨_, q0, q1, q2, q3⟩ := SC.out _ BB.out)
      have BB := Lib.hid (below_drew1 BB.out)
      go_region_held3 (fun z => Below w0.heap.size w0 z ∧ z.cell? ⟨W.heap.size, 0, none⟩ = some (.int .i64 a0) ∧ z.cell? ⟨W.heap.size, 1, none⟩ = some (.int .i64 a1) ∧ z.cell? ⟨W.heap.size + 1, 0, none⟩ = some (.int .i64 b0) ∧ z.cell? ⟨W.heap.size + 1, 1, none⟩ = some (.int .i64 b1))
        (exact SC.out _ BB.out)
        (first | (go_at_call 13; with_reducible refine (CL.out _ (GG.out.on BB.out)).mono ?_; rintro e w6 ⟨rfl, bl⟩; have BB := Lib.hid (BB.out.trans (bl.mono BB.out.size)); clear bl) | (go_at_call 12; with_reducible refine (CA.out _ (GG.out.on BB.out)).mono ?_; rintro e w7 ⟨rfl, bl⟩; have BB := Lib.hid (BB.out.trans (bl.mono BB.out.size)); clear bl) | (go_at_call 12; with_reducible refine (CB.out _ (GG.out.on BB.out)).mono ?_; rintro e w8 ⟨rfl, bl⟩; have BB := Lib.hid (BB.out.trans (bl.mono BB.out.size)); clear bl) | fail)
      go_wp2_with fail
      go_ret
      exact ⟨rfl, HB.out.trans (BB.out.mono HB.out.size)⟩
end Go.Proofs.YtiakdnoafmojlaaDoor.Q
