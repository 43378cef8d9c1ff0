/- StampAsks: the walk. -/
import Derived.Test.YtiakdnoafmojlaaDoorRefS
namespace Go.Proofs.YtiakdnoafmojlaaDoor.Q
open Go.RowKit Go.Proofs.YtiakdnoafmojlaaDoorW.PrintWords Go.Proofs.YtiakdnoafmojlaaDoorW.PrintLast Go.Proofs.YtiakdnoafmojlaaDoorW.PrintMore Go.Proofs.YtiakdnoafmojlaaDoor.Mem
set_option linter.unusedVariables false
set_option linter.unusedSimpArgs false
/-- A character's name: an op's name and a place. -/
def kCh : Kd ((Int × Int) × Int) := Kd.pair kPr (Kd.int .i64)
theorem kCh_open {w : World} {x : (Int × Int) × Int} {cs : Array Value} (h : kCh.K w x cs.toList) : cs = #[.int .i64 x.1.1, .int .i64 x.1.2, .int .i64 x.2] := by
  obtain ⟨_, _, e, ⟨_, _, rfl, rfl, rfl⟩, rfl⟩ := h
  have := congrArg List.toArray e
  simpa using this
theorem opens53 : Opens.Opens Tryd.prog 53 kCh (fun _ => True) := Opens.Opens.imp (Opens.opens_struct Tryd.underlying53 (Opens.FO.cons (off' := 2) opens24p rfl rfl (Opens.FO.one (Opens.opens_int Tryd.underlying3 (by kernel_rfl)) rfl)) (by kernel_rfl)) (fun _ _ => trivial)
theorem five_blocks (W : World) (o0 o1 o2 o3 o4 : Obj) (w0 : World) (e0 : w0 = ((((W.alloc o0).alloc o1).alloc o2).alloc o3).alloc o4) :
    w0.heap[W.heap.size]? = some o0 ∧ w0.heap[W.heap.size + 1]? = some o1 ∧ w0.heap[W.heap.size + 1 + 1]? = some o2 ∧ w0.heap[W.heap.size + 1 + 1 + 1]? = some o3 ∧ w0.heap[W.heap.size + 1 + 1 + 1 + 1]? = some o4 := by
  have st : ∀ (w : World) (o : Obj) (k : Nat) (v : Obj), w.heap[k]? = some v → (w.alloc o).heap[k]? = some v := fun w o k v h => (heap_alloc_old w o (lt_of_blk h)).trans h
  have sz : ∀ (w : World) (o : Obj), (w.alloc o).heap.size = w.heap.size + 1 := fun w o => by show (w.heap.push o).size = _; simp
  have n0 := heap_alloc_new W o0
  have n1 := heap_alloc_new (W.alloc o0) o1
  have n2 := heap_alloc_new ((W.alloc o0).alloc o1) o2
  have n3 := heap_alloc_new (((W.alloc o0).alloc o1).alloc o2) o3
  have n4 := heap_alloc_new ((((W.alloc o0).alloc o1).alloc o2).alloc o3) o4
  simp only [sz] at n1 n2 n3 n4
  subst e0
  exact ⟨st _ _ _ _ (st _ _ _ _ (st _ _ _ _ (st _ _ _ _ n0))), st _ _ _ _ (st _ _ _ _ (st _ _ _ _ n1)), st _ _ _ _ (st _ _ _ _ n2), st _ _ _ _ n3, n4⟩
/-- Is it a stamp? -/
def rst (T R : Int) : Bool := decide (1 ≤ T ∧ T ≤ 1099511627776 ∧ 0 ≤ R ∧ R < 16)
theorem rst_one (T R : Int) : stamp_RightStamp.f T R = some (rst T R) := by
  unfold stamp_RightStamp.f rst
  by_cases h1 : 1 ≤ T
  · by_cases h2 : T ≤ 1099511627776
    · by_cases h3 : 0 ≤ R
      · rw [if_pos h1, if_pos h2, if_pos h3]; simp [h1, h2, h3]
      · rw [if_pos h1, if_pos h2, if_neg h3]; simp [h3]
    · rw [if_pos h1, if_neg h2]; simp [h2]
  · rw [if_neg h1]; simp [h1]
theorem rst_two (T R : Int) : offshootref03_RightStamp.f T R = some (rst T R) := by
  rw [← rst_one]
  unfold stamp_RightStamp.f offshootref03_RightStamp.f
  have : decide (R ≤ 15) = decide (R < 16) := by
    rw [Bool.eq_iff_iff]; simp only [decide_eq_true_eq]; omega
  rw [this]
/-- Is it a character's name? -/
def rch (R N I : Int) : Bool := if ((R == 0 && (N == 0)) && (I == 0)) = true then true else rop R N && (decide (0 ≤ I) && decide (I < 64))
theorem rch_one (R N I : Int) : stamp_RightChar.f R N I = some (rch R N I) := by
  unfold stamp_RightChar.f rch
  rw [rop_f, Option.bind_some]
  split
  · rfl
  · cases rop R N with
    | false => rfl
    | true =>
      by_cases h : 0 ≤ I
      · rw [if_pos rfl, if_pos h]; simp [h]
      · rw [if_pos rfl, if_neg h]; simp [h]
theorem rch_two (R N I : Int) : offshootref03_RightChar.f R N I = some (rch R N I) := by
  rw [← rch_one]
  unfold stamp_RightChar.f offshootref03_RightChar.f
  have : decide (I ≤ 63) = decide (I < 64) := by
    rw [Bool.eq_iff_iff]; simp only [decide_eq_true_eq]; omega
  rw [this, rop_f, rrop_f]
theorem order_f (R N R' N' : Int) : offshootref00_Order.f R N R' N' = some (ord (R, N) (R', N')) := by
  unfold offshootref00_Order.f ord cm
  by_cases h1 : R = R'
  · subst h1
    by_cases h2 : N = N'
    · subst h2; simp
    · by_cases h3 : N < N'
      · simp [h2, h3]
      · have : N' < N := by omega
        simp [h2, h3, this]
  · by_cases h2 : R < R'
    · simp [h1, h2]
    · have : R' < R := by omega
      simp [h1, h2, this]
theorem ostamps_f (R N R' N' : Int) : offshootref03_OrderStamps.f R N R' N' = some (ord (R, N) (R', N')) := by
  have hc : ∀ x y, offshootref03_cmp.f x y = some (cm x y) := fun x y => by
    unfold offshootref03_cmp.f cm
    by_cases h1 : x < y
    · rw [if_pos h1, if_pos h1]
    · rw [if_neg h1, if_neg h1]
      by_cases h2 : y < x
      · rw [if_pos h2, if_pos h2]
      · rw [if_neg h2, if_neg h2]
  unfold offshootref03_OrderStamps.f ord
  rw [hc, hc, Option.bind_some, Option.bind_some]
  by_cases h1 : R = R'
  · subst h1
    simp [cm]
  · by_cases h2 : R < R'
    · simp [cm, h1, h2]
    · have : R' < R := by omega
      simp [cm, h1, h2, this]
attribute [local go_sem high] eqA24
set_option maxRecDepth 100000 in
set_option maxHeartbeats 8000000 in
theorem asks_walk (W : World) (hG : Gl W) (cs0 : Array Value) (a : Int × Int) (hK0 : kPr.K W a cs0.toList) (_ : True) (cs1 : Array Value) (b : Int × Int) (hK1 : kPr.K W b cs1.toList) (_ : True) (cs2 : Array Value) (x : Int × Int) (hK2 : kPr.K W x cs2.toList) (_ : True)
    (cs3 : Array Value) (y : Int × Int) (hK3 : kPr.K W y cs3.toList) (_ : True) (cs4 : Array Value) (c : (Int × Int) × Int) (hK4 : kCh.K W c cs4.toList) (_ : True) :
    Calls Tryd.prog 8 #[.agg cs0, .agg cs1, .agg cs2, .agg cs3, .agg cs4] W fun e w' => e = .returned (.bool true) ∧ Below W.heap.size W w' := by
  obtain rfl := kPr_open hK0
  obtain rfl := kPr_open hK1
  obtain rfl := kPr_open hK2
  obtain rfl := kPr_open hK3
  obtain rfl := kCh_open hK4
  have G0 := Lib.hid hG
  clear hG hK0 hK1 hK2 hK3 hK4
  obtain ⟨a0, a1⟩ := a; obtain ⟨b0, b1⟩ := b; obtain ⟨x0, x1⟩ := x; obtain ⟨y0, y1⟩ := y; obtain ⟨⟨c0, c1⟩, c2⟩ := c
  go_enter Tryd.func8, Tryd.ntmps8
  go_upto_region 1 with (fail)
  obtain ⟨w0, e0⟩ : ∃ w0, w0 = (((((W.alloc (.cells #[.int .i64 a0, .int .i64 a1] 24)).alloc (.cells #[.int .i64 b0, .int .i64 b1] 24)).alloc (.cells #[.int .i64 x0, .int .i64 x1] 48)).alloc (.cells #[.int .i64 y0, .int .i64 y1] 48)).alloc (.cells #[.int .i64 c0, .int .i64 c1, .int .i64 c2] 53)) := ⟨_, rfl⟩
  rw [← e0]
  have hb : Below W.heap.size W w0 := by rw [e0]; exact below_alloc (below_alloc (below_alloc (below_alloc (below_alloc (Below.refl _ _) _) _) _) _) _
  have GG := Lib.hid (G0.out.on hb)
  have HB := Lib.hid hb
  clear hb
  have five := five_blocks W _ _ _ _ _ w0 e0
  clear e0
  obtain ⟨k4, ek4⟩ : ∃ k, W.heap.size + 1 + 1 + 1 + 1 = k := ⟨_, rfl⟩
  rw [ek4] at five ⊢
  obtain ⟨k3, ek3⟩ : ∃ k, W.heap.size + 1 + 1 + 1 = k := ⟨_, rfl⟩
  rw [ek3] at five ⊢
  obtain ⟨k2, ek2⟩ : ∃ k, W.heap.size + 1 + 1 = k := ⟨_, rfl⟩
  rw [ek2] at five ⊢
  obtain ⟨k1, ek1⟩ : ∃ k, W.heap.size + 1 = k := ⟨_, rfl⟩
  rw [ek1] at five ⊢
  obtain ⟨k0, ek0⟩ : ∃ k, W.heap.size = k := ⟨_, rfl⟩
  rw [ek0] at five ⊢
  clear ek0 ek1 ek2 ek3 ek4
  have SC : Hid (∀ z, Below w0.heap.size w0 z → Below w0.heap.size w0 z ∧ z.cell? ⟨k0, 0, none⟩ = some (.int .i64 a0) ∧ z.cell? ⟨k0, 1, none⟩ = some (.int .i64 a1) ∧ z.cell? ⟨k1, 0, none⟩ = some (.int .i64 b0) ∧ z.cell? ⟨k1, 1, none⟩ = some (.int .i64 b1) ∧ z.cell? ⟨k2, 0, none⟩ = some (.int .i64 x0) ∧ z.cell? ⟨k2, 1, none⟩ = some (.int .i64 x1) ∧ z.cell? ⟨k3, 0, none⟩ = some (.int .i64 y0) ∧ z.cell? ⟨k3, 1, none⟩ = some (.int .i64 y1) ∧ z.cell? ⟨k4, 0, none⟩ = some (.int .i64 c0) ∧ z.cell? ⟨k4, 1, none⟩ = some (.int .i64 c1) ∧ z.cell? ⟨k4, 2, none⟩ = some (.int .i64 c2)) := by
    refine Lib.hid (fun z hz => ⟨hz, ?_⟩)
    obtain ⟨h0, h1, h2, h3, h4⟩ := five
    exact ⟨cell_on (p := ⟨k0, 0, none⟩) (by have := blk_cell h0 0; simpa using this) hz, cell_on (p := ⟨k0, 1, none⟩) (by have := blk_cell h0 1; simpa using this) hz, cell_on (p := ⟨k1, 0, none⟩) (by have := blk_cell h1 0; simpa using this) hz, cell_on (p := ⟨k1, 1, none⟩) (by have := blk_cell h1 1; simpa using this) hz, cell_on (p := ⟨k2, 0, none⟩) (by have := blk_cell h2 0; simpa using this) hz, cell_on (p := ⟨k2, 1, none⟩) (by have := blk_cell h2 1; simpa using this) hz, cell_on (p := ⟨k3, 0, none⟩) (by have := blk_cell h3 0; simpa using this) hz, cell_on (p := ⟨k3, 1, none⟩) (by have := blk_cell h3 1; simpa using this) hz, cell_on (p := ⟨k4, 0, none⟩) (by have := blk_cell h4 0; simpa using this) hz, cell_on (p := ⟨k4, 1, none⟩) (by have := blk_cell h4 1; simpa using this) hz, cell_on (p := ⟨k4, 2, none⟩) (by have := blk_cell h4 2; simpa using this) hz⟩
  clear five
  go_upto_region 3 with (go_at_call 9; refine (alive_ok _ GG.out).mono ?_; rintro e w1 ⟨rfl, bl⟩; have D1 := Lib.hid bl; clear bl)
  have BB := Lib.hid (below_drew1 D1.out)
  obtain ⟨sA, esA⟩ : ∃ s : ByteArray, s = ⟨(shwL a0 a1).toArray⟩ := ⟨_, rfl⟩
  obtain ⟨v1, e1⟩ : ∃ v, rop a0 a1 = v := ⟨_, rfl⟩
  obtain ⟨v2, e2⟩ : ∃ v, rbl a0 a1 = v := ⟨_, rfl⟩
  obtain ⟨v3, e3⟩ : ∃ v, rst x0 x1 = v := ⟨_, rfl⟩
  obtain ⟨v4, e4⟩ : ∃ v, rch c0 c1 c2 = v := ⟨_, rfl⟩
  obtain ⟨p, ep⟩ : ∃ v, ord (a0, a1) (b0, b1) = v := ⟨_, rfl⟩
  obtain ⟨s, es⟩ : ∃ v, ord (x0, x1) (y0, y1) = v := ⟨_, rfl⟩
  have C21 : Hid (∀ w, Calls Tryd.prog 21 #[.agg #[.int .i64 a0, .int .i64 a1]] w fun e w' => e = .returned (.bool v1) ∧ Below w.heap.size w w') := Lib.hid (fun w => by rw [← e1]; exact rop_ok w a0 a1)
  have C25 : Hid (∀ w, Calls Tryd.prog 25 #[.agg #[.int .i64 a0, .int .i64 a1]] w fun e w' => e = .returned (.bool v1) ∧ Below w.heap.size w w') := Lib.hid (fun w => by rw [← e1]; exact rrop_ok w a0 a1)
  have C13 : Hid (∀ w, Gl w → Calls Tryd.prog 13 #[.agg #[.int .i64 a0, .int .i64 a1]] w fun e w' => e = .returned (.bool v2) ∧ Below w.heap.size w w') := Lib.hid (fun w h => by rw [← e2]; exact rbl_ok w h a0 a1)
  have C26 : Hid (∀ w, Calls Tryd.prog 26 #[.agg #[.int .i64 a0, .int .i64 a1]] w fun e w' => e = .returned (.bool v2) ∧ Below w.heap.size w w') := Lib.hid (fun w => by rw [← e2]; exact rrbl_ok w a0 a1)
  have C22 : Hid (∀ w, Calls Tryd.prog 22 #[.agg #[.int .i64 x0, .int .i64 x1]] w fun e w' => e = .returned (.bool v3) ∧ Below w.heap.size w w') := Lib.hid (fun w => by rw [← e3]; exact stamp_RightStamp.calls x0 x1 _ w (rst_one x0 x1))
  have C27 : Hid (∀ w, Calls Tryd.prog 27 #[.agg #[.int .i64 x0, .int .i64 x1]] w fun e w' => e = .returned (.bool v3) ∧ Below w.heap.size w w') := Lib.hid (fun w => by rw [← e3]; exact offshootref03_RightStamp.calls x0 x1 _ w (rst_two x0 x1))
  have C28 : Hid (∀ w, Calls Tryd.prog 28 #[.agg #[.int .i64 c0, .int .i64 c1, .int .i64 c2]] w fun e w' => e = .returned (.bool v4) ∧ Below w.heap.size w w') := Lib.hid (fun w => by rw [← e4]; exact stamp_RightChar.calls c0 c1 c2 _ w (rch_one c0 c1 c2))
  have C29 : Hid (∀ w, Calls Tryd.prog 29 #[.agg #[.int .i64 c0, .int .i64 c1, .int .i64 c2]] w fun e w' => e = .returned (.bool v4) ∧ Below w.heap.size w w') := Lib.hid (fun w => by rw [← e4]; exact offshootref03_RightChar.calls c0 c1 c2 _ w (rch_two c0 c1 c2))
  have C23 : Hid (∀ w, Calls Tryd.prog 23 #[.agg #[.int .i64 a0, .int .i64 a1], .agg #[.int .i64 b0, .int .i64 b1]] w fun e w' => e = .returned (.int .i64 p) ∧ Below w.heap.size w w') := Lib.hid (fun w => by rw [← ep]; exact ids_ok w (a0, a1) (b0, b1))
  have C30 : Hid (∀ w, Calls Tryd.prog 30 #[.agg #[.int .i64 a0, .int .i64 a1], .agg #[.int .i64 b0, .int .i64 b1]] w fun e w' => e = .returned (.int .i64 p) ∧ Below w.heap.size w w') := Lib.hid (fun w => by rw [← ep]; exact offshootref00_Order.calls a0 a1 b0 b1 _ w (order_f a0 a1 b0 b1))
  have C24 : Hid (∀ w, Calls Tryd.prog 24 #[.agg #[.int .i64 x0, .int .i64 x1], .agg #[.int .i64 y0, .int .i64 y1]] w fun e w' => e = .returned (.int .i64 s) ∧ Below w.heap.size w w') := Lib.hid (fun w => by rw [← es]; exact stamps_ok w (x0, x1) (y0, y1))
  have C31 : Hid (∀ w, Calls Tryd.prog 31 #[.agg #[.int .i64 x0, .int .i64 x1], .agg #[.int .i64 y0, .int .i64 y1]] w fun e w' => e = .returned (.int .i64 s) ∧ Below w.heap.size w w') := Lib.hid (fun w => by rw [← es]; exact offshootref03_OrderStamps.calls x0 x1 y0 y1 _ w (ostamps_f x0 x1 y0 y1))
  have C12 : Hid (∀ w, Gl w → Calls Tryd.prog 12 #[.agg #[.int .i64 a0, .int .i64 a1]] w fun e w' => e = .returned (.string sA) ∧ Below w.heap.size w w') := Lib.hid (fun w h => by rw [esA]; exact show_ok w h a0 a1)
  have C32 : Hid (∀ w, Gl w → Calls Tryd.prog 32 #[.agg #[.int .i64 a0, .int .i64 a1]] w fun e w' => e = .returned (.string sA) ∧ Below w.heap.size w w') := Lib.hid (fun w h => by rw [esA]; exact rshow_ok w h a0 a1)
  clear esA e1 e2 e3 e4 ep es
  go_region_held3 (fun z => Below w0.heap.size w0 z ∧ z.cell? ⟨k0, 0, none⟩ = some (.int .i64 a0) ∧ z.cell? ⟨k0, 1, none⟩ = some (.int .i64 a1) ∧ z.cell? ⟨k1, 0, none⟩ = some (.int .i64 b0) ∧ z.cell? ⟨k1, 1, none⟩ = some (.int .i64 b1) ∧ z.cell? ⟨k2, 0, none⟩ = some (.int .i64 x0) ∧ z.cell? ⟨k2, 1, none⟩ = some (.int .i64 x1) ∧ z.cell? ⟨k3, 0, none⟩ = some (.int .i64 y0) ∧ z.cell? ⟨k3, 1, none⟩ = some (.int .i64 y1) ∧ z.cell? ⟨k4, 0, none⟩ = some (.int .i64 c0) ∧ z.cell? ⟨k4, 1, none⟩ = some (.int .i64 c1) ∧ z.cell? ⟨k4, 2, none⟩ = some (.int .i64 c2)) (exact SC.out _ BB.out) (first | (go_at_call 21; with_reducible refine (C21.out _).mono ?_; rintro e w2 ⟨rfl, bl⟩; have BB := Lib.hid (BB.out.trans (bl.mono BB.out.size)); clear bl) | (go_at_call 25; with_reducible refine (C25.out _).mono ?_; rintro e w2 ⟨rfl, bl⟩; have BB := Lib.hid (BB.out.trans (bl.mono BB.out.size)); clear bl) | (go_at_call 13; with_reducible refine (C13.out _ (GG.out.on BB.out)).mono ?_; rintro e w2 ⟨rfl, bl⟩; have BB := Lib.hid (BB.out.trans (bl.mono BB.out.size)); clear bl) | (go_at_call 26; with_reducible refine (C26.out _).mono ?_; rintro e w2 ⟨rfl, bl⟩; have BB := Lib.hid (BB.out.trans (bl.mono BB.out.size)); clear bl) | (go_at_call 22; with_reducible refine (C22.out _).mono ?_; rintro e w2 ⟨rfl, bl⟩; have BB := Lib.hid (BB.out.trans (bl.mono BB.out.size)); clear bl) | (go_at_call 27; with_reducible refine (C27.out _).mono ?_; rintro e w2 ⟨rfl, bl⟩; have BB := Lib.hid (BB.out.trans (bl.mono BB.out.size)); clear bl) | (go_at_call 28; with_reducible refine (C28.out _).mono ?_; rintro e w2 ⟨rfl, bl⟩; have BB := Lib.hid (BB.out.trans (bl.mono BB.out.size)); clear bl) | (go_at_call 29; with_reducible refine (C29.out _).mono ?_; rintro e w2 ⟨rfl, bl⟩; have BB := Lib.hid (BB.out.trans (bl.mono BB.out.size)); clear bl) | (go_at_call 23; with_reducible refine (C23.out _).mono ?_; rintro e w2 ⟨rfl, bl⟩; have BB := Lib.hid (BB.out.trans (bl.mono BB.out.size)); clear bl) | (go_at_call 30; with_reducible refine (C30.out _).mono ?_; rintro e w2 ⟨rfl, bl⟩; have BB := Lib.hid (BB.out.trans (bl.mono BB.out.size)); clear bl) | (go_at_call 24; with_reducible refine (C24.out _).mono ?_; rintro e w2 ⟨rfl, bl⟩; have BB := Lib.hid (BB.out.trans (bl.mono BB.out.size)); clear bl) | (go_at_call 31; with_reducible refine (C31.out _).mono ?_; rintro e w2 ⟨rfl, bl⟩; have BB := Lib.hid (BB.out.trans (bl.mono BB.out.size)); clear bl) | (go_at_call 12; with_reducible refine (C12.out _ (GG.out.on BB.out)).mono ?_; rintro e w2 ⟨rfl, bl⟩; have BB := Lib.hid (BB.out.trans (bl.mono BB.out.size)); clear bl) | (go_at_call 32; with_reducible refine (C32.out _ (GG.out.on BB.out)).mono ?_; rintro e w2 ⟨rfl, bl⟩; have BB := Lib.hid (BB.out.trans (bl.mono BB.out.size)); clear bl) | fail)
  go_wp2_with fail
  go_ret
  exact ⟨rfl, HB.out.trans (BB.out.mono HB.out.size)⟩
end Go.Proofs.YtiakdnoafmojlaaDoor.Q
