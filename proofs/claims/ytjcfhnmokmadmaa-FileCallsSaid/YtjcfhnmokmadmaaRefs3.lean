/- The contract of the reference's Bytes. -/
import Derived.Test.YtjcfhnmokmadmaaRefs2
namespace Go.Proofs.Ytjcfhnmokmadmaa.Crash
set_option linter.unusedVariables false
set_option linter.unusedSimpArgs false
set_option linter.unnecessarySimpa false
open Go.RowKit Go.Proofs.YtjcfhnmokmadmaaW.PrintWords Go.Proofs.YtjcfhnmokmadmaaW.PrintLast Go.Proofs.YtjcfhnmokmadmaaW.PrintMore Go.Proofs.Ytjcfhnmokmadmaa.Mem Go.Proofs.Ytjcfhnmokmadmaa.File Go.Proofs.Ytjcfhnmokmadmaa.PFileCalls
attribute [local go_sem] max2_int min2_int max_two min_two

set_option maxHeartbeats 4000000 in
theorem refbytes_ok {w : World} {F : Nat → Prop} {b : Nat} {s l : List Int} {lim : Int} (hf : RefAt w F b s l lim) :
    Calls Try.prog 24 #[.pointer (some ⟨b, 0, none⟩)] w fun e w' => ∃ v, e = .returned v ∧ (Kd.int .u8).R 5 w' w.heap.size (fun _ => True) v (s ++ l) ∧ Below w.heap.size w w' := by
  obtain ⟨A1, c1, A2, c2, hb, h1, h2, h3⟩ := hf.mem
  have hd := blk_cell hb 0
  have hd1 := blk_cell hb 1
  simp at hd hd1
  have HF := Lib.hid hf; have HB := Lib.hid hb; have HS := Lib.hid (Kd.R_reads' h1); have HR := Lib.hid (Kd.R_reads' h2)
  have l0 := hf.l0
  have l1 := hf.l1
  have HX := Lib.hid (show (s.length + l.length) * 1 ≤ 140737488355328 by omega)
  have HN := Lib.hid (show s.length ≤ 140737488351232 by omega)
  clear hf hb h1 h2 h3
  go_enter Try.func24, Try.ntmps24
  go_wp2_with fail
  go_region_held3 (fun w' => w'.cell? ⟨b, 0, none⟩ = some (.slice A1 s.length c1) ∧ w'.cell? ⟨b, 1, none⟩ = some (.slice A2 l.length c2))
    (first | exact ⟨hd5, hd6⟩ | exact ⟨hd3, hd4⟩ | exact ⟨hd, hd1⟩)
    (first
      | (go_at_call 17; go_loud (refine (offshootref00_CopyBytes.calls A1 c1 s s _ ?_ HS.out.2.1 (copy_f _ HN.out)).mono ?_); (exact Kd.C_drew HS.out.2.2); rintro e w1 ⟨v1, rfl, r1, b1⟩; obtain ⟨A3, c3, ev⟩ := Kd.R_slice r1; subst ev; have B1 : Hid (Below w.heap.size w w1) := Lib.hid ⟨b1.os, b1.tape, b1.output, b1.size, b1.block⟩; have R1 : Hid ((Kd.int .u8).R 5 w1 w.heap.size (fun _ => True) (.slice A3 s.length c3) s) := Lib.hid r1; have hd3 := (B1.out.cell (World.block_lt_of_cell? _ _ hd)).trans hd; have hd4 := (B1.out.cell (World.block_lt_of_cell? _ _ hd1)).trans hd1; clear r1 b1)
      | (refine Kd.R_append_rows_step (Kd.int .u8) (Rr := (Kd.int .u8).K w) (w0 := w) w.heap.size (by rfl) (.tmp 7) (.tmp 11) 29 5 (.int .u8 0) 1 (by rfl) Try.underlying29 File.info5 rfl (by decide) (by decide) (.slice A3 s.length c3) s l A2 l.length c2 (fun _ => True) (fun _ => False) (by rfl) (by rfl) R1.out ?_ (fun _ _ h => h) (fun _ h => h.elim) (fun k hk => trivial) B1.out B1.out.size HX.out ?_
         · exact Kd.C_below HR.out.2.2 B1.out
         intro v2 w2 hr2 hb2 hg2 hat2
         have R2 := Lib.hid hr2; have B2 := Lib.hid hb2
         have hd5 := (B2.out.cell (World.block_lt_of_cell? _ _ hd)).trans hd
         have hd6 := (B2.out.cell (World.block_lt_of_cell? _ _ hd1)).trans hd1
         clear hr2 hb2 hg2 hat2)
      | fail)
  all_goals
    go_wp2
    go_ret
    exact ⟨_, rfl, R2.out, B2.out⟩
end Go.Proofs.Ytjcfhnmokmadmaa.Crash
