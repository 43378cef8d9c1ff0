/- The laws' alive answers true: the walk, by hand. -/
import Derived.Test.YtbaihnpanoibdaaSpliceW
import Derived.Test.YtbaihnpanoibdaaQxS
import Derived.Test.YtbaihnpanoibdaaQx4
import Derived.Test.YtbaihnpanoibdaaQx5
namespace Go.Proofs.Ytbaihnpanoibdaa.Q
open Go.RowKit Go.Proofs.YtbaihnpanoibdaaW.PrintWords Go.Proofs.YtbaihnpanoibdaaW.PrintLast Go.Proofs.YtbaihnpanoibdaaW.PrintMore Go.Proofs.Ytbaihnpanoibdaa.Mem
set_option linter.unusedVariables false
set_option linter.unusedSimpArgs false
def offshootlaw28_alive.f : Option Bool := some true
/-- The small block of alive's outlines. -/
def bl (n : Int) : S36 := ⟨⟨0, n⟩, 0, false, ⟨#[]⟩⟩
theorem vDiff : diff_Diff.f [bl 1, bl 2] [bl 2, bl 3] = some ([⟨2, 1, bl 0⟩, ⟨1, 1, bl 0⟩, ⟨3, 0, bl 3⟩], 0) := by
  kernel_rfl
theorem vSplice : diff_Splice.f 10 ⟨#[97, 98, 99, 100]⟩ ⟨#[97, 120, 100]⟩ = some (1, 2, ⟨#[120]⟩) := by
  kernel_rfl
theorem vPatch : diff_Patch.f 20 [bl 1, bl 2] [⟨2, 1, bl 0⟩, ⟨1, 1, bl 0⟩, ⟨3, 0, bl 3⟩] = some ([bl 2, bl 3], 0) := by
  kernel_rfl
theorem vSame : offshootref00_SameBlocks.f 20 [bl 2, bl 3] [bl 2, bl 3] = some true := by
  kernel_rfl
theorem k36_bl (w : World) (i : Int) : k36.K w (bl i) [.int .i64 0, .int .i64 i, .int .i64 0, .bool false, .string ⟨#[]⟩] :=
  ⟨[.int .i64 0, .int .i64 i], [.int .i64 0, .bool false, .string ⟨#[]⟩], rfl, ⟨[.int .i64 0], [.int .i64 i], rfl, rfl, rfl⟩, ⟨[.int .i64 0], [.bool false, .string ⟨#[]⟩], rfl, rfl, ⟨[.bool false], [.string ⟨#[]⟩], rfl, rfl, rfl⟩⟩⟩
theorem k36_inv {w : World} {i : Int} {cs : List Value} (h : k36.K w (bl i) cs) : cs = [.int .i64 0, .int .i64 i, .int .i64 0, .bool false, .string ⟨#[]⟩] := by
  obtain ⟨c0, c1, rfl, ⟨d0, d1, rfl, h0, h1⟩, ⟨d2, d3, rfl, h2, ⟨d4, d5, rfl, h3, h4⟩⟩⟩ := h
  have e0 : d0 = [.int .i64 0] := h0
  have e1 : d1 = [.int .i64 i] := h1
  have e2 : d2 = [.int .i64 0] := h2
  have e3 : d4 = [.bool false] := h3
  have e4 : d5 = [.string ⟨#[]⟩] := h4
  subst e0 e1 e2 e3 e4
  rfl
theorem k38_inv {w : World} {a b i : Int} {cs : List Value} (h : k38.K w ⟨a, b, bl i⟩ cs) : cs = [.int .i64 a, .int .i64 b, .int .i64 0, .int .i64 i, .int .i64 0, .bool false, .string ⟨#[]⟩] := by
  obtain ⟨c0, c1, rfl, h0, ⟨d0, d1, rfl, h1, h2⟩⟩ := h
  have e0 : c0 = [.int .i64 a] := h0
  have e1 : d0 = [.int .i64 b] := h1
  have e2 := k36_inv (i := i) h2
  subst e0 e1 e2
  rfl
/-- Two small blocks in a fresh row. -/
theorem C2 {W : World} {g : Nat} (i j : Int) (h : W.heap[g]? = some (.cells #[.int .i64 0, .int .i64 i, .int .i64 0, .bool false, .string ⟨#[]⟩, .int .i64 0, .int .i64 j, .int .i64 0, .bool false, .string ⟨#[]⟩] 36 (0, 0))) : Kd.C k36 W (some ⟨g, 0, none⟩) 2 [bl i, bl j] := by
  refine ⟨rfl, by decide, fun _ => ⟨_, rfl, fun n p hp => ?_⟩⟩
  match n, hp with
  | 0, hp =>
    obtain rfl : bl i = p := by simpa using hp
    refine ⟨_, rfl, k36_bl W i, fun m u hu => ?_⟩
    match m, hu with
    | 0, hu | 1, hu | 2, hu | 3, hu | 4, hu => exact (blk_cell h _).trans hu
    | m + 5, hu => simp at hu
  | 1, hp =>
    obtain rfl : bl j = p := by simpa using hp
    refine ⟨_, rfl, k36_bl W j, fun m u hu => ?_⟩
    match m, hu with
    | 0, hu | 1, hu | 2, hu | 3, hu | 4, hu => exact (blk_cell h _).trans hu
    | m + 5, hu => simp at hu
  | n + 2, hp => simp at hp
/-- What alive's last look needs of a world. -/
def Sa (w0 : World) (gd : Nat) (AP A2 : Option Addr) (w' : World) : Prop := w'.cell? ⟨gd, 0, none⟩ = some (.int .i64 2) ∧ w'.cell? ⟨gd, 1, none⟩ = some (.int .i64 1) ∧ w'.cell? ⟨gd, 2, none⟩ = some (.int .i64 0) ∧ w'.cell? ⟨gd, 3, none⟩ = some (.int .i64 0) ∧ w'.cell? ⟨gd, 4, none⟩ = some (.int .i64 0) ∧ w'.cell? ⟨gd, 5, none⟩ = some (.bool false) ∧ w'.cell? ⟨gd, 6, none⟩ = some (.string ⟨#[]⟩) ∧ w'.cell? ⟨gd, 7, none⟩ = some (.int .i64 1) ∧ w'.cell? ⟨gd, 8, none⟩ = some (.int .i64 1) ∧ w'.cell? ⟨gd, 9, none⟩ = some (.int .i64 0) ∧ w'.cell? ⟨gd, 10, none⟩ = some (.int .i64 0) ∧ w'.cell? ⟨gd, 11, none⟩ = some (.int .i64 0) ∧ w'.cell? ⟨gd, 12, none⟩ = some (.bool false) ∧ w'.cell? ⟨gd, 13, none⟩ = some (.string ⟨#[]⟩) ∧ w'.cell? ⟨gd, 14, none⟩ = some (.int .i64 3) ∧ w'.cell? ⟨gd, 15, none⟩ = some (.int .i64 0) ∧ w'.cell? ⟨gd, 16, none⟩ = some (.int .i64 0) ∧ w'.cell? ⟨gd, 17, none⟩ = some (.int .i64 3) ∧ w'.cell? ⟨gd, 18, none⟩ = some (.int .i64 0) ∧ w'.cell? ⟨gd, 19, none⟩ = some (.bool false) ∧ w'.cell? ⟨gd, 20, none⟩ = some (.string ⟨#[]⟩) ∧ Kd.C k36 w' AP 2 [bl 2, bl 3] ∧ Kd.C k36 w' A2 2 [bl 2, bl 3] ∧ Below w0.heap.size w0 w'
theorem Sa.step {w0 : World} {gd : Nat} {AP A2 : Option Addr} {a b : World} {n : Nat} (h : Sa w0 gd AP A2 a) (hb : Below n a b) (hn : a.heap.size ≤ n) : Sa w0 gd AP A2 b := by
  obtain ⟨c0, c1, c2, c3, c4, c5, c6, c7, c8, c9, c10, c11, c12, c13, c14, c15, c16, c17, c18, c19, c20, p, q, r⟩ := h
  have hb := hb.mono hn
  exact ⟨pw_cell_below hb c0, pw_cell_below hb c1, pw_cell_below hb c2, pw_cell_below hb c3, pw_cell_below hb c4, pw_cell_below hb c5, pw_cell_below hb c6, pw_cell_below hb c7, pw_cell_below hb c8, pw_cell_below hb c9, pw_cell_below hb c10, pw_cell_below hb c11, pw_cell_below hb c12, pw_cell_below hb c13, pw_cell_below hb c14, pw_cell_below hb c15, pw_cell_below hb c16, pw_cell_below hb c17, pw_cell_below hb c18, pw_cell_below hb c19, pw_cell_below hb c20, Kd.C_below p hb, Kd.C_below q hb, r.trans (hb.mono r.size)⟩
theorem Sa.of {w0 w : World} {gd : Nat} {AP A2 : Option Addr} (h : Kd.C k38 w (some ⟨gd, 0, none⟩) 3 [⟨2, 1, bl 0⟩, ⟨1, 1, bl 0⟩, ⟨3, 0, bl 3⟩]) (hp : Kd.C k36 w AP 2 [bl 2, bl 3]) (hq : Kd.C k36 w A2 2 [bl 2, bl 3]) (hb : Below w0.heap.size w0 w) : Sa w0 gd AP A2 w := by
  obtain ⟨ad, he, hc⟩ := h.2.2 (by decide)
  obtain rfl := (Option.some.inj he).symm
  obtain ⟨x0, _, k0, e0⟩ := hc 0 _ rfl
  obtain ⟨x1, _, k1, e1⟩ := hc 1 _ rfl
  obtain ⟨x2, _, k2, e2⟩ := hc 2 _ rfl
  obtain rfl := k38_inv k0
  obtain rfl := k38_inv k1
  obtain rfl := k38_inv k2
  exact ⟨e0 0 _ rfl, e0 1 _ rfl, e0 2 _ rfl, e0 3 _ rfl, e0 4 _ rfl, e0 5 _ rfl, e0 6 _ rfl, e1 0 _ rfl, e1 1 _ rfl, e1 2 _ rfl, e1 3 _ rfl, e1 4 _ rfl, e1 5 _ rfl, e1 6 _ rfl, e2 0 _ rfl, e2 1 _ rfl, e2 2 _ rfl, e2 3 _ rfl, e2 4 _ rfl, e2 5 _ rfl, e2 6 _ rfl, hp, hq, hb⟩
theorem Sa.cp {w0 : World} {gd : Nat} {AP A2 : Option Addr} {a : World} (h : Sa w0 gd AP A2 a) : Kd.C k36 a AP 2 [bl 2, bl 3] := by
  obtain ⟨c0, c1, c2, c3, c4, c5, c6, c7, c8, c9, c10, c11, c12, c13, c14, c15, c16, c17, c18, c19, c20, p, q, r⟩ := h
  exact p
theorem Sa.cq {w0 : World} {gd : Nat} {AP A2 : Option Addr} {a : World} (h : Sa w0 gd AP A2 a) : Kd.C k36 a A2 2 [bl 2, bl 3] := by
  obtain ⟨c0, c1, c2, c3, c4, c5, c6, c7, c8, c9, c10, c11, c12, c13, c14, c15, c16, c17, c18, c19, c20, p, q, r⟩ := h
  exact q
theorem Sa.bel {w0 : World} {gd : Nat} {AP A2 : Option Addr} {a : World} (h : Sa w0 gd AP A2 a) : Below w0.heap.size w0 a := by
  obtain ⟨c0, c1, c2, c3, c4, c5, c6, c7, c8, c9, c10, c11, c12, c13, c14, c15, c16, c17, c18, c19, c20, p, q, r⟩ := h
  exact r
theorem sameLL (A0 : Option Addr) (c0 : Nat) (A1 : Option Addr) (c1 : Nat) (w : World) (h0 : Kd.C k36 w A0 2 [bl 2, bl 3]) (hc0 : 2 ≤ c0) (h1 : Kd.C k36 w A1 2 [bl 2, bl 3]) (hc1 : 2 ≤ c1) :
    Calls Try.prog 12 #[.slice A0 2 c0, .slice A1 2 c1] w fun e w' => e = .returned (.bool true) ∧ Drawn0 w w' :=
  offshootref00_SameBlocks.calls 20 A0 c0 [bl 2, bl 3] A1 c1 [bl 2, bl 3] true w h0 hc0 h1 hc1 vSame
set_option maxHeartbeats 8000000 in
set_option maxRecDepth 100000 in
theorem offshootlaw28_alive.calls (r : Bool) (w : World) (h : offshootlaw28_alive.f = some r) :
    Calls Try.prog 8 #[] w fun e w' => e = .returned (.bool r) ∧ Below w.heap.size w w' := by
  obtain rfl : true = r := Option.some.inj h
  clear h
  have hu36 := Try.underlying36
  have hu34 := Try.underlying34
  have hu38 := Try.underlying38
  go_enter Try.func8, Try.ntmps8
  go_upto_region 2 with (first | (go_at_call 19; with_reducible refine (offshootlaw28_block.calls 1 0 1 0 false ⟨#[]⟩ _ rfl).mono ?_; rintro e w1 ⟨rfl, hbw1⟩) | (go_at_call 19; with_reducible refine (offshootlaw28_block.calls 2 0 2 0 false ⟨#[]⟩ _ rfl).mono ?_; rintro e w2 ⟨rfl, hbw2⟩))
  have B1 := Lib.hid (below_alloc (hbw1.trans (hbw2.mono hbw1.size)) (Obj.cells #[.int .i64 0, .int .i64 1, .int .i64 0, .bool false, .string ⟨#[]⟩, .int .i64 0, .int .i64 2, .int .i64 0, .bool false, .string ⟨#[]⟩] 36))
  have C1 := Lib.hid (C2 (W := w2.alloc (Obj.cells #[.int .i64 0, .int .i64 1, .int .i64 0, .bool false, .string ⟨#[]⟩, .int .i64 0, .int .i64 2, .int .i64 0, .bool false, .string ⟨#[]⟩] 36)) 1 2 (heap_alloc_new w2 _))
  clear hbw1 hbw2
  obtain ⟨W1, hW1⟩ : ∃ W_ : World, w2.alloc (Obj.cells #[.int .i64 0, .int .i64 1, .int .i64 0, .bool false, .string ⟨#[]⟩, .int .i64 0, .int .i64 2, .int .i64 0, .bool false, .string ⟨#[]⟩] 36) = W_ := ⟨_, rfl⟩
  obtain ⟨g1, hg1⟩ : ∃ g_ : Nat, w2.heap.size = g_ := ⟨_, rfl⟩
  rw [hW1] at B1 C1
  rw [hg1] at C1
  simp only [hW1, hg1]
  clear hW1 hg1
  go_upto_region 3 with (first | (go_at_call 19; with_reducible refine (offshootlaw28_block.calls 2 0 2 0 false ⟨#[]⟩ _ rfl).mono ?_; rintro e w3 ⟨rfl, hbw3⟩) | (go_at_call 19; with_reducible refine (offshootlaw28_block.calls 3 0 3 0 false ⟨#[]⟩ _ rfl).mono ?_; rintro e w4 ⟨rfl, hbw4⟩))
  have C1 := Lib.hid (Kd.C_below C1.out (below_alloc (hbw3.trans (hbw4.mono hbw3.size)) (Obj.cells #[.int .i64 0, .int .i64 2, .int .i64 0, .bool false, .string ⟨#[]⟩, .int .i64 0, .int .i64 3, .int .i64 0, .bool false, .string ⟨#[]⟩] 36)))
  have BB := Lib.hid (below_alloc (hbw3.trans (hbw4.mono hbw3.size)) (Obj.cells #[.int .i64 0, .int .i64 2, .int .i64 0, .bool false, .string ⟨#[]⟩, .int .i64 0, .int .i64 3, .int .i64 0, .bool false, .string ⟨#[]⟩] 36))
  have B2 := Lib.hid (B1.out.trans (BB.out.mono B1.out.size))
  have C2' := Lib.hid (C2 (W := w4.alloc (Obj.cells #[.int .i64 0, .int .i64 2, .int .i64 0, .bool false, .string ⟨#[]⟩, .int .i64 0, .int .i64 3, .int .i64 0, .bool false, .string ⟨#[]⟩] 36)) 2 3 (heap_alloc_new w4 _))
  clear hbw3 hbw4 BB B1
  obtain ⟨W2, hW2⟩ : ∃ W_ : World, w4.alloc (Obj.cells #[.int .i64 0, .int .i64 2, .int .i64 0, .bool false, .string ⟨#[]⟩, .int .i64 0, .int .i64 3, .int .i64 0, .bool false, .string ⟨#[]⟩] 36) = W_ := ⟨_, rfl⟩
  obtain ⟨g2, hg2⟩ : ∃ g_ : Nat, w4.heap.size = g_ := ⟨_, rfl⟩
  rw [hW2] at B2 C1 C2'
  rw [hg2] at C2'
  simp only [hW2, hg2]
  clear hW2 hg2
  go_upto_region 4 with (first | (go_at_call 10; refine (diff_Diff.calls (some ⟨g1, 0, none⟩) 2 [bl 1, bl 2] (some ⟨g2, 0, none⟩) 2 [bl 2, bl 3] _ 0 W2 C1.out (by decide) C2'.out (by decide) vDiff).mono ?_; rintro e W3 ⟨vd, rfl, rd, b3⟩; have b3 := Lib.hid b3))
  obtain ⟨gd, cd, hvd, hCd, hcd⟩ : ∃ gd cd, vd = .slice (some ⟨gd, 0, none⟩) 3 cd ∧ Kd.C k38 W3 (some ⟨gd, 0, none⟩) 3 [⟨2, 1, bl 0⟩, ⟨1, 1, bl 0⟩, ⟨3, 0, bl 3⟩] ∧ 3 ≤ cd := by
    obtain ⟨inner, hown⟩ := Kd.R_own rd
    obtain ⟨gd, cd, rfl, _, _⟩ := hown.form (by decide)
    obtain ⟨A, c, he, hl, hC⟩ := Kd.R_reads rd
    injection he with e1 e2 e3
    subst e1 e3
    exact ⟨gd, cd, rfl, hC, hl⟩
  subst hvd
  clear rd
  have C1 : Hid (Kd.V k36 36 W3 W3.heap.size (fun k => k < W2.heap.size) (.slice (some ⟨g1, 0, none⟩) 2 2) [bl 1, bl 2]) := Lib.hid (Kd.V_mk (show 2 ≤ 2 by decide) (Kd.F_below (Kd.C_F k36_heap C1.out) b3.out))
  have C2' := Lib.hid (Kd.C_below C2'.out b3.out)
  have B3 := Lib.hid (B2.out.trans (b3.out.mono B2.out.size))
  have hCd := Lib.hid hCd
  have hcd := Lib.hid hcd
  clear b3 B2
  go_upto_region 5 with (first | (go_at_call 13; refine (diff_Patch.calls 20 _ (some ⟨g1, 0, none⟩) 2 [bl 1, bl 2] (some ⟨gd, 0, none⟩) cd [⟨2, 1, bl 0⟩, ⟨1, 1, bl 0⟩, ⟨3, 0, bl 3⟩] [bl 2, bl 3] 0 W3 C1.out hCd.out hcd.out vPatch).mono ?_; rintro e W4 ⟨vp, rfl, rp, b4⟩; have b4 := Lib.hid b4))
  obtain ⟨AP, cp, hvp, hcp, hCp⟩ := Kd.R_reads rp
  replace hvp : vp = .slice AP 2 cp := hvp
  subst hvp
  have hcp : Hid (2 ≤ cp) := Lib.hid hcp
  have hCp := Lib.hid hCp
  clear rp C1
  have C2' := Lib.hid (Kd.C_below C2'.out b4.out)
  have hCd := Lib.hid (Kd.C_below hCd.out b4.out)
  have B4 := Lib.hid (B3.out.trans (b4.out.mono B3.out.size))
  clear b4 B3
  go_upto_region 6 with (first | (go_at_call 16; refine (diff_Splice.calls 10 ⟨#[97, 98, 99, 100]⟩ ⟨#[97, 120, 100]⟩ 1 2 ⟨#[120]⟩ W4 vSplice).mono ?_; rintro e W5 ⟨rfl, b5⟩; have b5 := Lib.hid b5))
  have HS := Lib.hid (Sa.of (Kd.C_below hCd.out b5.out) (Kd.C_below hCp.out b5.out) (Kd.C_below C2'.out b5.out) (B4.out.trans (b5.out.mono B4.out.size)))
  clear b5 hCd hCp C2' B4
  go_region_held3 (fun w' => w'.cell? ⟨gd, 0, none⟩ = some (.int .i64 2) ∧ w'.cell? ⟨gd, 1, none⟩ = some (.int .i64 1) ∧ w'.cell? ⟨gd, 2, none⟩ = some (.int .i64 0) ∧ w'.cell? ⟨gd, 3, none⟩ = some (.int .i64 0) ∧ w'.cell? ⟨gd, 4, none⟩ = some (.int .i64 0) ∧ w'.cell? ⟨gd, 5, none⟩ = some (.bool false) ∧ w'.cell? ⟨gd, 6, none⟩ = some (.string ⟨#[]⟩) ∧ w'.cell? ⟨gd, 7, none⟩ = some (.int .i64 1) ∧ w'.cell? ⟨gd, 8, none⟩ = some (.int .i64 1) ∧ w'.cell? ⟨gd, 9, none⟩ = some (.int .i64 0) ∧ w'.cell? ⟨gd, 10, none⟩ = some (.int .i64 0) ∧ w'.cell? ⟨gd, 11, none⟩ = some (.int .i64 0) ∧ w'.cell? ⟨gd, 12, none⟩ = some (.bool false) ∧ w'.cell? ⟨gd, 13, none⟩ = some (.string ⟨#[]⟩) ∧ w'.cell? ⟨gd, 14, none⟩ = some (.int .i64 3) ∧ w'.cell? ⟨gd, 15, none⟩ = some (.int .i64 0) ∧ w'.cell? ⟨gd, 16, none⟩ = some (.int .i64 0) ∧ w'.cell? ⟨gd, 17, none⟩ = some (.int .i64 3) ∧ w'.cell? ⟨gd, 18, none⟩ = some (.int .i64 0) ∧ w'.cell? ⟨gd, 19, none⟩ = some (.bool false) ∧ w'.cell? ⟨gd, 20, none⟩ = some (.string ⟨#[]⟩) ∧ Kd.C k36 w' AP 2 [bl 2, bl 3] ∧ Kd.C k36 w' (some ⟨g2, 0, none⟩) 2 [bl 2, bl 3] ∧ Below w.heap.size w w') (first | exact HS.out.step (below_drew (Below.refl _ _)) (Nat.le_refl _) | exact Sa.step h7 (pw_below_drewN (Below.refl _ _) nd) (Nat.le_refl _) | exact Sa.step h7 hbq (Nat.le_refl _) | exact Sa.step (w0 := w) (gd := gd) (AP := AP) (A2 := some ⟨g2, 0, none⟩) (by unfold Sa; go_split_ands; exact ⟨by assumption, by assumption, by assumption, by assumption, by assumption, by assumption, by assumption, by assumption, by assumption, by assumption, by assumption, by assumption, by assumption, by assumption, by assumption, by assumption, by assumption, by assumption, by assumption, by assumption, by assumption, by assumption, by assumption, by assumption⟩) hbq (Nat.le_refl _)) (first | (go_at_call 19; with_reducible refine (offshootlaw28_block.calls 3 0 3 0 false ⟨#[]⟩ _ rfl).mono ?_; rintro e w9 ⟨rfl, hbq⟩) | (go_at_call 12; (with_reducible refine (sameLL AP cp (some ⟨g2, 0, none⟩) 2 _ ?s1 hcp.out ?s2 (Nat.le_refl 2)).mono ?_); (case s1 => (go_split_ands; assumption)); (case s2 => (go_split_ands; assumption)); (rintro e w10 ⟨rfl, hdr⟩; obtain ⟨nd, hnd⟩ := hdr.out; have hbq : Below w9.heap.size w9 w10 := (by rw [hnd]; exact pw_below_drewN (Below.refl _ _) nd)); (have h7 : Sa w gd AP (some ⟨g2, 0, none⟩) w9 := (by unfold Sa; go_split_ands; exact ⟨by assumption, by assumption, by assumption, by assumption, by assumption, by assumption, by assumption, by assumption, by assumption, by assumption, by assumption, by assumption, by assumption, by assumption, by assumption, by assumption, by assumption, by assumption, by assumption, by assumption, by assumption, by assumption, by assumption, by assumption⟩))))
  all_goals (go_wp2; go_ret)
  all_goals exact ⟨rfl, by go_split_ands; assumption⟩
end Go.Proofs.Ytbaihnpanoibdaa.Q
