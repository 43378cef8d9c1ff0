/- StampReads: the walk. -/
import Derived.Test.YtiakdnoafmojlaaDoorRefR
namespace Go.Proofs.YtiakdnoafmojlaaDoor.Q
open Go.RowKit Go.Proofs.YtiakdnoafmojlaaDoorW.PrintWords Go.Proofs.YtiakdnoafmojlaaDoorW.PrintLast Go.Proofs.YtiakdnoafmojlaaDoorW.PrintMore Go.Proofs.YtiakdnoafmojlaaDoor.Mem
set_option linter.unusedVariables false
set_option linter.unusedSimpArgs false
attribute [local go_sem high] eqA24
set_option maxRecDepth 100000 in
set_option maxHeartbeats 4000000 in
theorem reads_walk (W : World) (hG : Gl W) (s : ByteArray) (hs : s.size ≤ 140737488351232) :
    Calls Tryd.prog 3 #[.string s] W fun e w' => e = .returned (.bool true) ∧ Below W.heap.size W w' := by
  have G0 := Lib.hid hG
  clear hG
  by_cases hbig : 1000 < s.size
  · have hbig' : (1000 : Int) < (s.size : Int) := by omega
    clear hbig hs
    go_enter Tryd.func3, Tryd.ntmps3
    go_wp2_with (go_at_call 9; refine (alive_ok _ G0.out).mono ?_; rintro e w1 ⟨rfl, bl⟩; have D1 := Lib.hid bl; clear bl)
    go_ret
    exact ⟨rfl, D1.out⟩
  · have hbig' : ¬ (1000 : Int) < (s.size : Int) := by omega
    obtain ⟨x, ex⟩ : ∃ x, rdWith opL s.data.toList = x := ⟨_, rfl⟩
    obtain ⟨⟨R, N⟩, v⟩ := x
    have CR : Hid (∀ w, Gl w → Calls Tryd.prog 10 #[.string s] w fun e w' => e = .returned (.tuple #[.agg #[.int .i64 R, .int .i64 N], .bool v]) ∧ Below w.heap.size w w') := Lib.hid (fun w h => by
      have z := read_ok w h s (by omega)
      rw [ex] at z
      exact z)
    have CF : Hid (∀ w, Gl w → Calls Tryd.prog 11 #[.string s] w fun e w' => e = .returned (.tuple #[.agg #[.int .i64 R, .int .i64 N], .bool v]) ∧ Below w.heap.size w w') := Lib.hid (fun w h => by
      have z := rread_ok w h s (by omega)
      rw [← rd_same op_shw pR_shw, ex] at z
      exact z)
    clear hbig ex hs
    go_enter Tryd.func3, Tryd.ntmps3
    go_upto_region 6 with (first
      | (go_at_call 9; refine (alive_ok _ G0.out).mono ?_; rintro e w1 ⟨rfl, bl⟩; have D1 := Lib.hid bl; clear bl)
      | (go_at_call 10; with_reducible refine (CR.out _ (G0.out.on D1.out)).mono ?_; rintro e w2 ⟨rfl, bl⟩; have D1 := Lib.hid (D1.out.trans (bl.mono D1.out.size)); clear bl))
    obtain ⟨w3, e3⟩ : ∃ w3, w3 = w2.alloc (.cells #[.int .i64 R, .int .i64 N] 24) := ⟨_, rfl⟩
    have b3 : Below w2.heap.size w2 w3 := by rw [e3]; exact below_alloc (Below.refl _ _) _
    have h3 : w3.heap[w2.heap.size]? = some (.cells #[.int .i64 R, .int .i64 N] 24 (0, 0)) := by rw [e3]; exact heap_alloc_new w2 _
    have D1 := Lib.hid (D1.out.trans (b3.mono D1.out.size))
    have p0 := blk_cell h3 0; have p1 := blk_cell h3 1
    simp at p0 p1
    rw [← e3]
    clear e3 b3 h3
    go_upto_region 7 with (go_at_call 11; with_reducible refine (CF.out _ (G0.out.on D1.out)).mono ?_; rintro e w4 ⟨rfl, bl⟩; have D1 := Lib.hid (D1.out.trans (bl.mono D1.out.size)); replace p0 := cell_on p0 bl; replace p1 := cell_on p1 bl; clear bl)
    obtain ⟨w5, e5⟩ : ∃ w5, w5 = w4.alloc (.cells #[.int .i64 R, .int .i64 N] 24) := ⟨_, rfl⟩
    have b5 : Below w4.heap.size w4 w5 := by rw [e5]; exact below_alloc (Below.refl _ _) _
    have h5 : w5.heap[w4.heap.size]? = some (.cells #[.int .i64 R, .int .i64 N] 24 (0, 0)) := by rw [e5]; exact heap_alloc_new w4 _
    have D1 := Lib.hid (D1.out.trans (b5.mono D1.out.size))
    replace p0 := cell_on p0 b5; replace p1 := cell_on p1 b5
    have q0 := blk_cell h5 0; have q1 := blk_cell h5 1
    simp at q0 q1
    rw [← e5]
    clear e5 b5 h5
    go_wp2_with fail
    go_ret
    exact ⟨rfl, D1.out⟩
end Go.Proofs.YtiakdnoafmojlaaDoor.Q
