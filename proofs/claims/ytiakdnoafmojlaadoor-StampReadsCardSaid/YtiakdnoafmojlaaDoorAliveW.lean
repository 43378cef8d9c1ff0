/- alive says true. -/
import Derived.Test.YtiakdnoafmojlaaDoorReadW
namespace Go.Proofs.YtiakdnoafmojlaaDoor.Q
open Go.RowKit Go.Proofs.YtiakdnoafmojlaaDoorW.PrintWords Go.Proofs.YtiakdnoafmojlaaDoorW.PrintLast Go.Proofs.YtiakdnoafmojlaaDoorW.PrintMore Go.Proofs.YtiakdnoafmojlaaDoor.Mem
set_option linter.unusedVariables false
set_option linter.unusedSimpArgs false
theorem ClkAt.keep {w w' : World} {b : Nat} {r t n : Int} (h : ClkAt w b r t n) (hb : Below w.heap.size w w') : ClkAt w' b r t n := (hb.block b (lt_of_blk h)).trans h
theorem rd21 : rdWith opL [50, 46, 49] = ((2, 1), true) := by
  have e : shwL 2 1 = [50, 46, 49] := by
    rw [shw_rop (by decide)]
    rw [show (2 : Int).toNat = 2 from rfl, show (1 : Int).toNat = 1 from rfl, Lib.decDigits_one (by decide), Lib.decDigits_one (by decide)]
    rfl
  rw [← e]
  exact rd_shw op_shw (by decide)
attribute [local go_sem high] eqA24
set_option maxHeartbeats 2000000 in
theorem alive_ok (w : World) (hG : Gl w) : Calls Tryd.prog 9 #[] w fun e w' => e = .returned (.bool true) ∧ Below w.heap.size w w' := by
  have G0 := Lib.hid hG
  have BIG := Lib.hid hG.big
  clear hG
  have k1 : up 1 9 = 9 := by decide
  have k2 : upn 2 1 0 7 = 1 := by decide
  have K1 := Lib.hid k1; have K2 := Lib.hid k2
  clear k1 k2
  go_enter Tryd.func9, Tryd.ntmps9
  go_upto_region 4 with (go_at_call 14; refine (newClock_ok _ 2 (by decide) (by decide)).mono ?_; rintro e w1 ⟨rfl, hc, bl⟩; have C1 := Lib.hid hc; have D1 := Lib.hid bl; clear hc bl)
  go_upto_region 5 with (go_at_call 15; refine (tick_ok _ _ _ _ _ C1.out (by decide) (by decide) (by decide) (by decide)).mono ?_; rintro e w2 ⟨rfl, hc, kp⟩; have C2 := Lib.hid hc; have D2 := Lib.hid (D1.out.trans (kp.below (B := w.heap.size) (fun i h1 h2 => by omega) D1.out.size)); have S2 := Lib.hid (lt_of_blk hc); clear hc kp)
  obtain ⟨w3, e3⟩ : ∃ w3, w3 = w2.alloc (.cells #[.int .i64 2, .int .i64 1] 24) := ⟨_, rfl⟩
  have b3 : Below w2.heap.size w2 w3 := by rw [e3]; exact below_alloc (Below.refl _ _) _
  have A3 := Lib.hid (show w3.heap[w2.heap.size]? = some (.cells #[.int .i64 2, .int .i64 1] 24 (0, 0)) by rw [e3]; exact heap_alloc_new w2 _)
  have C3 := Lib.hid (C2.out.keep b3)
  have D3 := Lib.hid (D2.out.trans (b3.mono D2.out.size))
  rw [show (2 : Int) = 2 from rfl, ← e3]
  clear e3 b3
  go_upto_region 6 with (go_at_call 17; refine (see_ok _ _ _ _ _ 0 7 9 C3.out).mono ?_; rintro e w4 ⟨rfl, hc, kp⟩; have C4 := Lib.hid hc; have KP4 := Lib.hid kp; have D4 := Lib.hid (D3.out.trans (kp.below (B := w.heap.size) (fun i h1 h2 => by omega) D3.out.size)); clear hc kp)
  have c4 := C4.out
  rw [show up (0 + 1) 9 = 9 from K1.out, show upn 2 (0 + 1) 0 7 = 1 from K2.out] at c4
  have C5 := Lib.hid c4
  have A4 := Lib.hid (KP4.out.at_ A3.out (fun e => by have := S2.out; omega))
  clear c4 C4
  go_upto_region 7 with (go_at_call 15; refine (tick_ok _ _ _ _ _ C5.out (by decide) (by decide) (by decide) (by decide)).mono ?_; rintro e w5 ⟨rfl, hc, kp⟩; have KP5 := Lib.hid kp; have D5 := Lib.hid (D4.out.trans (kp.below (B := w.heap.size) (fun i h1 h2 => by omega) D4.out.size)); clear hc kp)
  have A5 := Lib.hid (KP5.out.at_ A4.out (fun e => by have := S2.out; omega))
  obtain ⟨w6, e6⟩ : ∃ w6, w6 = w5.alloc (.cells #[.int .i64 2, .int .i64 2] 24) := ⟨_, rfl⟩
  have b6 : Below w5.heap.size w5 w6 := by rw [e6]; exact below_alloc (Below.refl _ _) _
  have B6 := Lib.hid (show w6.heap[w5.heap.size]? = some (.cells #[.int .i64 2, .int .i64 2] 24 (0, 0)) by rw [e6]; exact heap_alloc_new w5 _)
  have A6 := Lib.hid ((b6.block _ (lt_of_blk A5.out)).trans A5.out)
  have D6 := Lib.hid (D5.out.trans (b6.mono D5.out.size))
  rw [← e6]
  clear e6 b6
  have RD := Lib.hid (read_ok w6 (G0.out.on D6.out) ⟨#[50, 46, 49]⟩ (by decide))
  have rd := RD.out
  rw [show (⟨#[50, 46, 49]⟩ : ByteArray).data.toList = [50, 46, 49] from rfl, rd21] at rd
  have RD2 := Lib.hid rd
  clear rd RD
  go_upto_region 8 with (go_at_call 10; refine RD2.out.mono ?_; rintro e w7 ⟨rfl, bl⟩; have BL7 := Lib.hid bl; clear bl)
  obtain ⟨w8, e8⟩ : ∃ w8, w8 = w7.alloc (.cells #[.int .i64 2, .int .i64 1] 24) := ⟨_, rfl⟩
  have b8 : Below w7.heap.size w7 w8 := by rw [e8]; exact below_alloc (Below.refl _ _) _
  have h8 : w8.heap[w7.heap.size]? = some (.cells #[.int .i64 2, .int .i64 1] 24 (0, 0)) := by rw [e8]; exact heap_alloc_new w7 _
  have b68 : Below w6.heap.size w6 w8 := BL7.out.trans (b8.mono BL7.out.size)
  have a8 := (b68.block _ (lt_of_blk A6.out)).trans A6.out
  have c8 := (b68.block _ (lt_of_blk B6.out)).trans B6.out
  have D8 := Lib.hid (D6.out.trans (b68.mono D6.out.size))
  have x0 := blk_cell a8 0; have x1 := blk_cell a8 1; have y0 := blk_cell c8 0; have y1 := blk_cell c8 1; have z0 := blk_cell h8 0; have z1 := blk_cell h8 1
  simp at x0 x1 y0 y1 z0 z1
  have g8 := G0.out.on D8.out
  have r0 := g8.root0; have r1 := g8.root1; have t0 := g8.trash0; have t1 := g8.trash1
  rw [← e8]
  have SH : Hid ((⟨(shwL 1 0).toArray⟩ : ByteArray) = ⟨#[116, 114, 97, 115, 104]⟩) := Lib.hid (by
    have : shwL 1 0 = [116, 114, 97, 115, 104] := by unfold shwL; rfl
    rw [this])
  have RB : Hid (rbl 0 0 = true) := Lib.hid (by decide)
  have RO : Hid (rop 0 0 = false) := Lib.hid (by decide)
  have G8 := Lib.hid g8
  clear e8 b8 h8 b68 a8 c8 g8
  go_wp2_with (first
    | (go_at_call 12; refine (show_ok _ G8.out 1 0).mono ?_; rintro e w9 ⟨rfl, bl⟩; rw [SH.out]; have D9 := Lib.hid (D8.out.trans (bl.mono D8.out.size)); have G9 := Lib.hid (G8.out.on bl); replace r0 := cell_on r0 bl; replace r1 := cell_on r1 bl; clear bl)
    | (go_at_call 13; refine (rbl_ok _ G9.out 0 0).mono ?_; rintro e w10 ⟨rfl, bl⟩; rw [RB.out]; have D10 := Lib.hid (D9.out.trans (bl.mono D9.out.size)); replace r0 := cell_on r0 bl; replace r1 := cell_on r1 bl; clear bl)
    | (go_at_call 21; refine (rop_ok _ 0 0).mono ?_; rintro e w11 ⟨rfl, bl⟩; rw [RO.out]; have D11 := Lib.hid (D10.out.trans (bl.mono D10.out.size)); clear bl))
  go_ret
  exact ⟨rfl, D11.out⟩
end Go.Proofs.YtiakdnoafmojlaaDoor.Q
