/- StampOrder: the walk. -/
import Derived.Test.YtiakdnoafmojlaaDoorOrd
import Derived.Test.YtiakdnoafmojlaaDoorAliveW
import Derived.Test.YtiakdnoafmojlaaDoorOpens
namespace Go.Proofs.YtiakdnoafmojlaaDoor.Q
open Go.RowKit Go.Proofs.YtiakdnoafmojlaaDoorW.PrintWords Go.Proofs.YtiakdnoafmojlaaDoorW.PrintLast Go.Proofs.YtiakdnoafmojlaaDoorW.PrintMore Go.Proofs.YtiakdnoafmojlaaDoor.Mem
set_option linter.unusedVariables false
set_option linter.unusedSimpArgs false
/-- A pair of numbers: a name, a stamp. -/
def kPr : Kd (Int × Int) := Kd.pair (Kd.int .i64) (Kd.int .i64)
theorem kPr_open {w : World} {x : Int × Int} {cs : Array Value} (h : kPr.K w x cs.toList) : cs = #[.int .i64 x.1, .int .i64 x.2] := by
  obtain ⟨_, _, e, rfl, rfl⟩ := h
  have := congrArg List.toArray e
  simpa using this
theorem opensP (t : Nat) (fs : Array Field) : True := trivial
theorem opens24p : Opens.Opens Tryd.prog 24 kPr (fun _ => True) := Opens.Opens.imp (Opens.opens_struct Tryd.underlying24 (Opens.FO.cons (off' := 1) (Opens.opens_int Tryd.underlying3 (by kernel_rfl)) rfl rfl (Opens.FO.one (Opens.opens_int Tryd.underlying3 (by kernel_rfl)) rfl)) (by kernel_rfl)) (fun _ _ => trivial)
theorem opens48p : Opens.Opens Tryd.prog 48 kPr (fun _ => True) := Opens.Opens.imp (Opens.opens_struct Tryd.underlying48 (Opens.FO.cons (off' := 1) (Opens.opens_int Tryd.underlying3 (by kernel_rfl)) rfl rfl (Opens.FO.one (Opens.opens_int Tryd.underlying3 (by kernel_rfl)) rfl)) (by kernel_rfl)) (fun _ _ => trivial)
theorem ids_ok (w : World) (a b : Int × Int) : Calls Tryd.prog 23 #[.agg #[.int .i64 a.1, .int .i64 a.2], .agg #[.int .i64 b.1, .int .i64 b.2]] w fun e w' => e = .returned (.int .i64 (ord a b)) ∧ Below w.heap.size w w' := stamp_OrderIds.calls 5 a.1 a.2 b.1 b.2 (ord a b) w (ids_f a b)
theorem stamps_ok (w : World) (a b : Int × Int) : Calls Tryd.prog 24 #[.agg #[.int .i64 a.1, .int .i64 a.2], .agg #[.int .i64 b.1, .int .i64 b.2]] w fun e w' => e = .returned (.int .i64 (ord a b)) ∧ Below w.heap.size w w' := stamp_OrderStamps.calls 5 a.1 a.2 b.1 b.2 (ord a b) w (stamps_f a b)
theorem six_blocks (W : World) (o0 o1 o2 o3 o4 o5 : Obj) (w0 : World) (e0 : w0 = (((((W.alloc o0).alloc o1).alloc o2).alloc o3).alloc o4).alloc o5) :
    w0.heap[W.heap.size]? = some o0 ∧ w0.heap[W.heap.size + 1]? = some o1 ∧ w0.heap[W.heap.size + 1 + 1]? = some o2 ∧ w0.heap[W.heap.size + 1 + 1 + 1]? = some o3 ∧ w0.heap[W.heap.size + 1 + 1 + 1 + 1]? = some o4 ∧ w0.heap[W.heap.size + 1 + 1 + 1 + 1 + 1]? = some o5 := by
  have st : ∀ (w : World) (o : Obj) (k : Nat) (v : Obj), w.heap[k]? = some v → (w.alloc o).heap[k]? = some v := fun w o k v h => (heap_alloc_old w o (lt_of_blk h)).trans h
  have sz : ∀ (w : World) (o : Obj), (w.alloc o).heap.size = w.heap.size + 1 := fun w o => by show (w.heap.push o).size = _; simp
  have n0 := heap_alloc_new W o0
  have n1 := heap_alloc_new (W.alloc o0) o1
  have n2 := heap_alloc_new ((W.alloc o0).alloc o1) o2
  have n3 := heap_alloc_new (((W.alloc o0).alloc o1).alloc o2) o3
  have n4 := heap_alloc_new ((((W.alloc o0).alloc o1).alloc o2).alloc o3) o4
  have n5 := heap_alloc_new (((((W.alloc o0).alloc o1).alloc o2).alloc o3).alloc o4) o5
  simp only [sz] at n1 n2 n3 n4 n5
  subst e0
  exact ⟨st _ _ _ _ (st _ _ _ _ (st _ _ _ _ (st _ _ _ _ (st _ _ _ _ n0)))), st _ _ _ _ (st _ _ _ _ (st _ _ _ _ (st _ _ _ _ n1))), st _ _ _ _ (st _ _ _ _ (st _ _ _ _ n2)), st _ _ _ _ (st _ _ _ _ n3), st _ _ _ _ n4, n5⟩
theorem ord_wrap (a b : Int × Int) : IntKind.i64.wrap (-ord b a) = ord a b := by
  rw [ord_neg a b]
  rcases ord_range b a with h | h | h <;> rw [h] <;> rfl
theorem ord_level (a b : Int × Int) : ((ord a b == 0) == (a.1 == b.1 && (a.2 == b.2))) = true := by
  have e : (ord a b == 0) = (a.1 == b.1 && (a.2 == b.2)) := by
    rw [Bool.eq_iff_iff]
    simpa using ord_zero a b
  rw [e]
  simp
theorem eqA48 (d : Nat) (w : World) (x0 y0 : Int) (x1 y1 : Int) :
    (Op.equalIn (d + 2) 48 (.agg #[.int .i64 x0, .int .i64 x1]) (.agg #[.int .i64 y0, .int .i64 y1])).run Tryd.prog w = .ok (x0 == y0 && (x1 == y1)) w := by
  refine eqA_of Tryd.underlying48 (by kernel_rfl) ?_
  refine eqf_cons (by rfl) (by go_simp; rfl) (by go_simp; rfl) (by go_simp) ?_
  exact eqf_last (by rfl) (by go_simp; rfl) (by go_simp; rfl) (by go_simp)
attribute [local go_sem high] eqA24 eqA48
set_option maxRecDepth 100000 in
set_option maxHeartbeats 4000000 in
theorem order_walk (W : World) (hG : Gl W) (cs0 : Array Value) (a : Int × Int) (hK0 : kPr.K W a cs0.toList) (_ : True) (cs1 : Array Value) (b : Int × Int) (hK1 : kPr.K W b cs1.toList) (_ : True) (cs2 : Array Value) (c : Int × Int) (hK2 : kPr.K W c cs2.toList) (_ : True)
    (cs3 : Array Value) (x : Int × Int) (hK3 : kPr.K W x cs3.toList) (_ : True) (cs4 : Array Value) (y : Int × Int) (hK4 : kPr.K W y cs4.toList) (_ : True) (cs5 : Array Value) (z : Int × Int) (hK5 : kPr.K W z cs5.toList) (_ : True) :
    Calls Tryd.prog 7 #[.agg cs0, .agg cs1, .agg cs2, .agg cs3, .agg cs4, .agg cs5] W fun e w' => e = .returned (.bool true) ∧ Below W.heap.size W w' := by
  obtain rfl := kPr_open hK0
  obtain rfl := kPr_open hK1
  obtain rfl := kPr_open hK2
  obtain rfl := kPr_open hK3
  obtain rfl := kPr_open hK4
  obtain rfl := kPr_open hK5
  have G0 := Lib.hid hG
  clear hG hK0 hK1 hK2 hK3 hK4 hK5
  obtain ⟨a0, a1⟩ := a; obtain ⟨b0, b1⟩ := b; obtain ⟨c0, c1⟩ := c; obtain ⟨x0, x1⟩ := x; obtain ⟨y0, y1⟩ := y; obtain ⟨z0, z1⟩ := z
  go_enter Tryd.func7, Tryd.ntmps7
  go_upto_region 1 with (fail)
  obtain ⟨w0, e0⟩ : ∃ w0, w0 = (((((W.alloc (.cells #[.int .i64 a0, .int .i64 a1] 24)).alloc (.cells #[.int .i64 b0, .int .i64 b1] 24)).alloc (.cells #[.int .i64 c0, .int .i64 c1] 24)).alloc (.cells #[.int .i64 x0, .int .i64 x1] 48)).alloc (.cells #[.int .i64 y0, .int .i64 y1] 48)).alloc (.cells #[.int .i64 z0, .int .i64 z1] 48) := ⟨_, rfl⟩
  rw [← e0]
  have hb : Below W.heap.size W w0 := by rw [e0]; exact below_alloc (below_alloc (below_alloc (below_alloc (below_alloc (below_alloc (Below.refl _ _) _) _) _) _) _) _
  have GG := Lib.hid (G0.out.on hb)
  have HB := Lib.hid hb
  clear hb
  have six := six_blocks W _ _ _ _ _ _ w0 e0
  clear e0
  obtain ⟨k5, ek5⟩ : ∃ k, W.heap.size + 1 + 1 + 1 + 1 + 1 = k := ⟨_, rfl⟩
  rw [ek5] at six ⊢
  obtain ⟨k4, ek4⟩ : ∃ k, W.heap.size + 1 + 1 + 1 + 1 = k := ⟨_, rfl⟩
  rw [ek4] at six ⊢
  obtain ⟨k3, ek3⟩ : ∃ k, W.heap.size + 1 + 1 + 1 = k := ⟨_, rfl⟩
  rw [ek3] at six ⊢
  obtain ⟨k2, ek2⟩ : ∃ k, W.heap.size + 1 + 1 = k := ⟨_, rfl⟩
  rw [ek2] at six ⊢
  obtain ⟨k1, ek1⟩ : ∃ k, W.heap.size + 1 = k := ⟨_, rfl⟩
  rw [ek1] at six ⊢
  obtain ⟨k0, ek0⟩ : ∃ k, W.heap.size = k := ⟨_, rfl⟩
  rw [ek0] at six ⊢
  clear ek1 ek2 ek3 ek4 ek5 ek0
  have SC : Hid (∀ z, Below w0.heap.size w0 z → Below w0.heap.size w0 z ∧ z.cell? ⟨k0, 0, none⟩ = some (.int .i64 a0) ∧ z.cell? ⟨k0, 1, none⟩ = some (.int .i64 a1) ∧ z.cell? ⟨k1, 0, none⟩ = some (.int .i64 b0) ∧ z.cell? ⟨k1, 1, none⟩ = some (.int .i64 b1) ∧ z.cell? ⟨k3, 0, none⟩ = some (.int .i64 x0) ∧ z.cell? ⟨k3, 1, none⟩ = some (.int .i64 x1) ∧ z.cell? ⟨k4, 0, none⟩ = some (.int .i64 y0) ∧ z.cell? ⟨k4, 1, none⟩ = some (.int .i64 y1)) := by
    refine Lib.hid (fun z hz => ⟨hz, ?_⟩)
    obtain ⟨h0, h1, h2, h3, h4, h5⟩ := six
    exact ⟨cell_on (p := ⟨k0, 0, none⟩) (by have := blk_cell h0 0; simpa using this) hz, cell_on (p := ⟨k0, 1, none⟩) (by have := blk_cell h0 1; simpa using this) hz, cell_on (p := ⟨k1, 0, none⟩) (by have := blk_cell h1 0; simpa using this) hz, cell_on (p := ⟨k1, 1, none⟩) (by have := blk_cell h1 1; simpa using this) hz, cell_on (p := ⟨k3, 0, none⟩) (by have := blk_cell h3 0; simpa using this) hz, cell_on (p := ⟨k3, 1, none⟩) (by have := blk_cell h3 1; simpa using this) hz, cell_on (p := ⟨k4, 0, none⟩) (by have := blk_cell h4 0; simpa using this) hz, cell_on (p := ⟨k4, 1, none⟩) (by have := blk_cell h4 1; simpa using this) hz⟩
  have SI : Hid (∀ z, Below w0.heap.size w0 z → Below w0.heap.size w0 z ∧ z.cell? ⟨k0, 0, none⟩ = some (.int .i64 a0) ∧ z.cell? ⟨k0, 1, none⟩ = some (.int .i64 a1) ∧ z.cell? ⟨k1, 0, none⟩ = some (.int .i64 b0) ∧ z.cell? ⟨k1, 1, none⟩ = some (.int .i64 b1) ∧ z.cell? ⟨k2, 0, none⟩ = some (.int .i64 c0) ∧ z.cell? ⟨k2, 1, none⟩ = some (.int .i64 c1)) := by
    refine Lib.hid (fun z hz => ⟨hz, ?_⟩)
    obtain ⟨h0, h1, h2, h3, h4, h5⟩ := six
    exact ⟨cell_on (p := ⟨k0, 0, none⟩) (by have := blk_cell h0 0; simpa using this) hz, cell_on (p := ⟨k0, 1, none⟩) (by have := blk_cell h0 1; simpa using this) hz, cell_on (p := ⟨k1, 0, none⟩) (by have := blk_cell h1 0; simpa using this) hz, cell_on (p := ⟨k1, 1, none⟩) (by have := blk_cell h1 1; simpa using this) hz, cell_on (p := ⟨k2, 0, none⟩) (by have := blk_cell h2 0; simpa using this) hz, cell_on (p := ⟨k2, 1, none⟩) (by have := blk_cell h2 1; simpa using this) hz⟩
  have ST : Hid (∀ z, Below w0.heap.size w0 z → Below w0.heap.size w0 z ∧ z.cell? ⟨k3, 0, none⟩ = some (.int .i64 x0) ∧ z.cell? ⟨k3, 1, none⟩ = some (.int .i64 x1) ∧ z.cell? ⟨k4, 0, none⟩ = some (.int .i64 y0) ∧ z.cell? ⟨k4, 1, none⟩ = some (.int .i64 y1) ∧ z.cell? ⟨k5, 0, none⟩ = some (.int .i64 z0) ∧ z.cell? ⟨k5, 1, none⟩ = some (.int .i64 z1)) := by
    refine Lib.hid (fun z hz => ⟨hz, ?_⟩)
    obtain ⟨h0, h1, h2, h3, h4, h5⟩ := six
    exact ⟨cell_on (p := ⟨k3, 0, none⟩) (by have := blk_cell h3 0; simpa using this) hz, cell_on (p := ⟨k3, 1, none⟩) (by have := blk_cell h3 1; simpa using this) hz, cell_on (p := ⟨k4, 0, none⟩) (by have := blk_cell h4 0; simpa using this) hz, cell_on (p := ⟨k4, 1, none⟩) (by have := blk_cell h4 1; simpa using this) hz, cell_on (p := ⟨k5, 0, none⟩) (by have := blk_cell h5 0; simpa using this) hz, cell_on (p := ⟨k5, 1, none⟩) (by have := blk_cell h5 1; simpa using this) hz⟩
  clear six
  go_upto_region 3 with (go_at_call 9; refine (alive_ok _ GG.out).mono ?_; rintro e w1 ⟨rfl, bl⟩; have D1 := Lib.hid bl; clear bl)
  have DD := Lib.hid (below_drew1 D1.out)
  obtain ⟨p, hp⟩ : ∃ p, ord (a0, a1) (b0, b1) = p := ⟨_, rfl⟩
  obtain ⟨q, hq⟩ : ∃ q, ord (b0, b1) (a0, a1) = q := ⟨_, rfl⟩
  obtain ⟨s, hs⟩ : ∃ s, ord (x0, x1) (y0, y1) = s := ⟨_, rfl⟩
  obtain ⟨t, ht⟩ : ∃ t, ord (y0, y1) (x0, x1) = t := ⟨_, rfl⟩
  go_cut [52] (fun v52 wc => v52 = .bool false ∧ Below w0.heap.size w0 wc)
  case first =>
    have CP : Hid (∀ w, Calls Tryd.prog 23 #[.agg #[.int .i64 a0, .int .i64 a1], .agg #[.int .i64 b0, .int .i64 b1]] w fun e w' => e = .returned (.int .i64 p) ∧ Below w.heap.size w w') := Lib.hid (fun w => by rw [← hp]; exact ids_ok w _ _)
    have CQ : Hid (∀ w, Calls Tryd.prog 23 #[.agg #[.int .i64 b0, .int .i64 b1], .agg #[.int .i64 a0, .int .i64 a1]] w fun e w' => e = .returned (.int .i64 q) ∧ Below w.heap.size w w') := Lib.hid (fun w => by rw [← hq]; exact ids_ok w _ _)
    have CS : Hid (∀ w, Calls Tryd.prog 24 #[.agg #[.int .i64 x0, .int .i64 x1], .agg #[.int .i64 y0, .int .i64 y1]] w fun e w' => e = .returned (.int .i64 s) ∧ Below w.heap.size w w') := Lib.hid (fun w => by rw [← hs]; exact stamps_ok w _ _)
    have CT : Hid (∀ w, Calls Tryd.prog 24 #[.agg #[.int .i64 y0, .int .i64 y1], .agg #[.int .i64 x0, .int .i64 x1]] w fun e w' => e = .returned (.int .i64 t) ∧ Below w.heap.size w w') := Lib.hid (fun w => by rw [← ht]; exact stamps_ok w _ _)
    have f1 : IntKind.i64.wrap (-q) = p := by rw [← hp, ← hq]; exact ord_wrap _ _
    have f2 : ((p == 0) == (a0 == b0 && (a1 == b1))) = true := by rw [← hp]; exact ord_level _ _
    have f3 : IntKind.i64.wrap (-t) = s := by rw [← hs, ← ht]; exact ord_wrap _ _
    have f4 : ((s == 0) == (x0 == y0 && (x1 == y1))) = true := by rw [← hs]; exact ord_level _ _
    have f5 : (p != p) = false := by simp
    have f6 : (s != s) = false := by simp
    clear hp hq hs ht
    go_region_held3 (fun z => Below w0.heap.size w0 z ∧ z.cell? ⟨k0, 0, none⟩ = some (.int .i64 a0) ∧ z.cell? ⟨k0, 1, none⟩ = some (.int .i64 a1) ∧ z.cell? ⟨k1, 0, none⟩ = some (.int .i64 b0) ∧ z.cell? ⟨k1, 1, none⟩ = some (.int .i64 b1) ∧ z.cell? ⟨k3, 0, none⟩ = some (.int .i64 x0) ∧ z.cell? ⟨k3, 1, none⟩ = some (.int .i64 x1) ∧ z.cell? ⟨k4, 0, none⟩ = some (.int .i64 y0) ∧ z.cell? ⟨k4, 1, none⟩ = some (.int .i64 y1))
      (first | exact SC.out _ BB.out | exact SC.out _ DD.out)
      (first | (go_at_call 23; first | (with_reducible refine (CP.out _).mono ?_; rintro e w2 ⟨rfl, bl⟩; first | (have BB := Lib.hid (BB.out.trans (bl.mono BB.out.size)); clear bl) | (have BB := Lib.hid (DD.out.trans (bl.mono DD.out.size)); clear bl)) | (with_reducible refine (CQ.out _).mono ?_; rintro e w2 ⟨rfl, bl⟩; first | (have BB := Lib.hid (BB.out.trans (bl.mono BB.out.size)); clear bl) | (have BB := Lib.hid (DD.out.trans (bl.mono DD.out.size)); clear bl))) | (go_at_call 24; first | (with_reducible refine (CS.out _).mono ?_; rintro e w2 ⟨rfl, bl⟩; first | (have BB := Lib.hid (BB.out.trans (bl.mono BB.out.size)); clear bl) | (have BB := Lib.hid (DD.out.trans (bl.mono DD.out.size)); clear bl)) | (with_reducible refine (CT.out _).mono ?_; rintro e w2 ⟨rfl, bl⟩; first | (have BB := Lib.hid (BB.out.trans (bl.mono BB.out.size)); clear bl) | (have BB := Lib.hid (DD.out.trans (bl.mono DD.out.size)); clear bl))) | fail)
    go_wp2_with fail
    go_meet
    case rel => exact ⟨rfl, BB.out⟩
  case rest =>
    obtain ⟨rfl, h1⟩ := hcut
    have BB := Lib.hid h1
    clear h1
    obtain ⟨r, hr⟩ : ∃ r, ord (b0, b1) (c0, c1) = r := ⟨_, rfl⟩
    obtain ⟨u, hu⟩ : ∃ u, ord (a0, a1) (c0, c1) = u := ⟨_, rfl⟩
    obtain ⟨r', hr'⟩ : ∃ r', ord (y0, y1) (z0, z1) = r' := ⟨_, rfl⟩
    obtain ⟨u', hu'⟩ : ∃ u', ord (x0, x1) (z0, z1) = u' := ⟨_, rfl⟩
    go_upto_region 5 with (fail)
    go_cut [68] (fun v68 wc => v68 = .bool false ∧ Below w0.heap.size w0 wc)
    case first =>
      clear hq hs ht hr' hu'
      have CP : Hid (∀ w, Calls Tryd.prog 23 #[.agg #[.int .i64 a0, .int .i64 a1], .agg #[.int .i64 b0, .int .i64 b1]] w fun e w' => e = .returned (.int .i64 p) ∧ Below w.heap.size w w') := Lib.hid (fun w => by rw [← hp]; exact ids_ok w _ _)
      have CR : Hid (∀ w, Calls Tryd.prog 23 #[.agg #[.int .i64 b0, .int .i64 b1], .agg #[.int .i64 c0, .int .i64 c1]] w fun e w' => e = .returned (.int .i64 r) ∧ Below w.heap.size w w') := Lib.hid (fun w => by rw [← hr]; exact ids_ok w _ _)
      have CU : Hid (∀ w, Calls Tryd.prog 23 #[.agg #[.int .i64 a0, .int .i64 a1], .agg #[.int .i64 c0, .int .i64 c1]] w fun e w' => e = .returned (.int .i64 u) ∧ Below w.heap.size w w') := Lib.hid (fun w => by rw [← hu]; exact ids_ok w _ _)
      obtain ⟨_, g0, g1, g2, g3, g4, g5⟩ := SI.out _ BB.out
      have tr : p < 0 → r < 0 → u < 0 := fun h1 h2 => by rw [← hu]; exact ord_trans (by rw [hp]; exact h1) (by rw [hr]; exact h2)
      clear hp hr hu
      by_cases hlt : p < 0
      · by_cases hlt2 : r < 0
        · have hlt3 : u < 0 := tr hlt hlt2
          have hge : decide (0 ≤ u) = false := decide_eq_false (by omega)
          clear tr
          go_wp2_with (go_at_call 23; (first | (with_reducible refine (CP.out _).mono ?_; rintro e w2 ⟨rfl, bl⟩) | (with_reducible refine (CR.out _).mono ?_; rintro e w2 ⟨rfl, bl⟩) | (with_reducible refine (CU.out _).mono ?_; rintro e w2 ⟨rfl, bl⟩)); have BB := Lib.hid (BB.out.trans (bl.mono BB.out.size)); clear bl; obtain ⟨_, g0, g1, g2, g3, g4, g5⟩ := SI.out _ BB.out)
          go_meet
          case rel => exact ⟨rfl, BB.out⟩
        · have hge : 0 ≤ r := by omega
          clear tr
          go_wp2_with (go_at_call 23; (first | (with_reducible refine (CP.out _).mono ?_; rintro e w2 ⟨rfl, bl⟩) | (with_reducible refine (CR.out _).mono ?_; rintro e w2 ⟨rfl, bl⟩) | (with_reducible refine (CU.out _).mono ?_; rintro e w2 ⟨rfl, bl⟩)); have BB := Lib.hid (BB.out.trans (bl.mono BB.out.size)); clear bl; obtain ⟨_, g0, g1, g2, g3, g4, g5⟩ := SI.out _ BB.out)
          go_meet
          case rel => exact ⟨rfl, BB.out⟩
      · have hge : 0 ≤ p := by omega
        clear tr
        go_wp2_with (go_at_call 23; (first | (with_reducible refine (CP.out _).mono ?_; rintro e w2 ⟨rfl, bl⟩) | (with_reducible refine (CR.out _).mono ?_; rintro e w2 ⟨rfl, bl⟩) | (with_reducible refine (CU.out _).mono ?_; rintro e w2 ⟨rfl, bl⟩)); have BB := Lib.hid (BB.out.trans (bl.mono BB.out.size)); clear bl; obtain ⟨_, g0, g1, g2, g3, g4, g5⟩ := SI.out _ BB.out)
        go_meet
        case rel => exact ⟨rfl, BB.out⟩
    case rest =>
      obtain ⟨rfl, h1⟩ := hcut
      have BB := Lib.hid h1
      clear h1 hp hq hr hu ht
      go_upto_region 7 with (fail)
      have CP : Hid (∀ w, Calls Tryd.prog 24 #[.agg #[.int .i64 x0, .int .i64 x1], .agg #[.int .i64 y0, .int .i64 y1]] w fun e w' => e = .returned (.int .i64 s) ∧ Below w.heap.size w w') := Lib.hid (fun w => by rw [← hs]; exact stamps_ok w _ _)
      have CR : Hid (∀ w, Calls Tryd.prog 24 #[.agg #[.int .i64 y0, .int .i64 y1], .agg #[.int .i64 z0, .int .i64 z1]] w fun e w' => e = .returned (.int .i64 r') ∧ Below w.heap.size w w') := Lib.hid (fun w => by rw [← hr']; exact stamps_ok w _ _)
      have CU : Hid (∀ w, Calls Tryd.prog 24 #[.agg #[.int .i64 x0, .int .i64 x1], .agg #[.int .i64 z0, .int .i64 z1]] w fun e w' => e = .returned (.int .i64 u') ∧ Below w.heap.size w w') := Lib.hid (fun w => by rw [← hu']; exact stamps_ok w _ _)
      obtain ⟨_, g0, g1, g2, g3, g4, g5⟩ := ST.out _ BB.out
      have tr : s < 0 → r' < 0 → u' < 0 := fun h1 h2 => by rw [← hu']; exact ord_trans (by rw [hs]; exact h1) (by rw [hr']; exact h2)
      clear hs hr' hu'
      by_cases hlt : s < 0
      · by_cases hlt2 : r' < 0
        · have hlt3 : u' < 0 := tr hlt hlt2
          have hge : decide (0 ≤ u') = false := decide_eq_false (by omega)
          clear tr
          go_wp2_with (go_at_call 24; (first | (with_reducible refine (CP.out _).mono ?_; rintro e w2 ⟨rfl, bl⟩) | (with_reducible refine (CR.out _).mono ?_; rintro e w2 ⟨rfl, bl⟩) | (with_reducible refine (CU.out _).mono ?_; rintro e w2 ⟨rfl, bl⟩)); have BB := Lib.hid (BB.out.trans (bl.mono BB.out.size)); clear bl; obtain ⟨_, g0, g1, g2, g3, g4, g5⟩ := ST.out _ BB.out)
          go_ret
          exact ⟨rfl, HB.out.trans (BB.out.mono HB.out.size)⟩
        · have hge : 0 ≤ r' := by omega
          clear tr
          go_wp2_with (go_at_call 24; (first | (with_reducible refine (CP.out _).mono ?_; rintro e w2 ⟨rfl, bl⟩) | (with_reducible refine (CR.out _).mono ?_; rintro e w2 ⟨rfl, bl⟩) | (with_reducible refine (CU.out _).mono ?_; rintro e w2 ⟨rfl, bl⟩)); have BB := Lib.hid (BB.out.trans (bl.mono BB.out.size)); clear bl; obtain ⟨_, g0, g1, g2, g3, g4, g5⟩ := ST.out _ BB.out)
          go_ret
          exact ⟨rfl, HB.out.trans (BB.out.mono HB.out.size)⟩
      · have hge : 0 ≤ s := by omega
        clear tr
        go_wp2_with (go_at_call 24; (first | (with_reducible refine (CP.out _).mono ?_; rintro e w2 ⟨rfl, bl⟩) | (with_reducible refine (CR.out _).mono ?_; rintro e w2 ⟨rfl, bl⟩) | (with_reducible refine (CU.out _).mono ?_; rintro e w2 ⟨rfl, bl⟩)); have BB := Lib.hid (BB.out.trans (bl.mono BB.out.size)); clear bl; obtain ⟨_, g0, g1, g2, g3, g4, g5⟩ := ST.out _ BB.out)
        go_ret
        exact ⟨rfl, HB.out.trans (BB.out.mono HB.out.size)⟩
end Go.Proofs.YtiakdnoafmojlaaDoor.Q
