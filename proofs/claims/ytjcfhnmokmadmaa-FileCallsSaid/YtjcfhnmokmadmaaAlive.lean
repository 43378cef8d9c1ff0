/- What the statements of layer 6 ask first: alive answers true, and leaves what was there. -/
import Derived.Test.YtjcfhnmokmadmaaFile
import Derived.Lib.SlBytesConst
namespace Go.Proofs.Ytjcfhnmokmadmaa.File
open Go.RowKit Go.Proofs.YtjcfhnmokmadmaaW.PrintWords Go.Proofs.YtjcfhnmokmadmaaW.PrintLast Go.Proofs.YtjcfhnmokmadmaaW.PrintMore Go.Proofs.Ytjcfhnmokmadmaa.Mem
attribute [local go_sem] max2_int min2_int max_two min_two

theorem C_cells {w : World} {g : Nat} (xs : List Int) (hl : xs.length ≤ 140737488351232) (hc : ∀ j x, xs[j]? = some x → w.cell? ⟨g, j, none⟩ = some (.int .u8 x)) : (Kd.int .u8).C w (some ⟨g, 0, none⟩) xs.length xs := by
  refine ⟨rfl, by omega, fun _ => ⟨⟨g, 0, none⟩, rfl, fun j p hp => ⟨[.int .u8 p], rfl, rfl, fun i u hu => ?_⟩⟩⟩
  have hsz : (Kd.int .u8).sz = 1 := rfl
  rw [hsz]
  match i, hu with
  | 0, hu =>
    have e : u = .int .u8 p := by simpa using hu.symm
    subst e
    have hadd : (⟨g, 0, none⟩ : Addr).add (j * 1 + 0) = ⟨g, j, none⟩ := by
      unfold Addr.add
      split <;> simp_all
    rw [hadd]
    exact hc j p hp
  | i + 1, hu => simp at hu
theorem C_new (w : World) (xs : List Int) (fr : Nat × Nat) (hl : xs.length ≤ 140737488351232) : (Kd.int .u8).C (w.alloc (.cells (nums .u8 xs).toArray 5 fr)) (some ⟨w.heap.size, 0, none⟩) xs.length xs :=
  C_cells xs hl fun j x hx => by
    rw [cell_of_row _ _ j _ _ _ (heap_alloc_new w _)]
    simp [nums, hx]

set_option maxHeartbeats 1000000 in
set_option maxRecDepth 100000 in
theorem alive_ok (w : World) : Calls Try.prog 7 #[] w fun e w' => e = .returned (.bool true) ∧ Below w.heap.size w w' := by
  have kc := fun (w : World) (C : Array Value) (n c : Nat) => Lib.run_convert_bytes_const (P := Try.prog) w 29 5 C n c Try.underlying29 Try.underlying5
  go_enter Try.func7, Try.ntmps7
  go_wp2_with fail
  refine (new_ok 9 w (by omega) (by omega)).mono ?_
  rintro e w1 ⟨b, rfl, f1, b1⟩
  have F1 := Lib.hid f1; have B1 := Lib.hid b1; clear f1 b1
  go_wp2_with fail
  refine (append_ok (F1.out.kept (Keep.alloc (fun _ => False) w1 _) (fun _ _ _ h => h)) _ 2 2 [97, 98] (fun x hx => by simp at hx; omega) (C_new w1 [97, 98] _ (by simp)) (by simp)).mono ?_
  rintro e w2 ⟨rfl, f2, k2⟩
  have F2 := Lib.hid f2; have K2 := Lib.hid k2; clear f2 k2
  go_wp2_with fail
  refine (sync_ok F2.out).mono ?_
  rintro e w3 ⟨rfl, f3, k3⟩
  have F3 := Lib.hid f3; have K3 := Lib.hid k3; clear f3 k3
  go_wp2_with fail
  refine (append_ok (F3.out.kept (Keep.alloc (fun _ => False) w3 _) (fun _ _ _ h => h)) _ 2 2 [99, 100] (fun x hx => by simp at hx; omega) (C_new w3 [99, 100] _ (by simp)) (by simp)).mono ?_
  rintro e w4 ⟨rfl, f4, k4⟩
  have F4 := Lib.hid f4; have K4 := Lib.hid k4; clear f4 k4
  go_wp2_with fail
  refine (crash_ok F4.out 1).mono ?_
  rintro e w5 ⟨rfl, n, hn, f5, k5⟩
  obtain rfl : n = 3 := by simp at hn; omega
  have F5 := Lib.hid f5; have K5 := Lib.hid k5; clear f5 k5 hn
  go_wp2_with fail
  refine (bytes_ok F5.out).mono ?_
  rintro e w6 ⟨v, rfl, r6, b6⟩
  obtain ⟨A6, c6, ev⟩ := Kd.R_slice r6
  subst ev
  have hs6 := Kd.C_string (P := Try.prog) (src := 29) (dst := 9) (e := 5) (c := c6) Try.underlying29 Try.underlying5 Try.underlying9 (Kd.R_reads' r6).2.2
  have hs7 : strOfNums (List.take 3 (([] ++ [97, 98]) ++ [99, 100])) = ⟨#[97, 98, 99]⟩ := rfl
  rw [hs7] at hs6
  have hs6 : (convert 29 9 (.slice A6 3 c6)).run Try.prog w6 = .ok (.string ⟨#[97, 98, 99]⟩) w6 := hs6
  have F6 := Lib.hid (F5.out.kept (G := fun _ => False) (Keep.of_below b6 (fun i h1 h2 => by omega)) (fun _ _ _ h => h))
  have B6 := Lib.hid b6
  clear r6 b6 hs7
  go_wp2_with fail
  refine (synced_ok F6.out).mono ?_
  rintro e w7 ⟨rfl, rfl⟩
  go_wp2_with fail
  refine (room_ok F6.out).mono ?_
  rintro e w9 ⟨rfl, k7, rfl⟩
  obtain ⟨i0, hi0, hz0, hz1, hz2⟩ := info_parts info5
  obtain ⟨wm, hm0, _, hgm⟩ := run_make_full (P := Try.prog) (w7.drewN k7) 0 29 5 i0 (.int .u8 0) 1 Try.underlying29 hi0 hz0 hz1 .i64 .i64 7 (by rw [hz2]; omega) (by simp [maxLen]) (Nat.zero_le _)
  have hm : (Instr.makeSlice 29 (.int .i64 7) (.int .i64 7)).run Try.prog (w7.drewN k7) = .ok (.slice (some ⟨(w7.drewN k7).heap.size, 0, none⟩) 7 7) wm := hm0
  have HGM := Lib.hid hgm
  clear hi0 hz0 hz1 hz2 hm0 hgm
  go_wp2_with fail
  refine (append_full (F6.out.kept (G := fun _ => False) ((Keep.drewN _ w7 k7).trans (Keep.of_grown HGM.out (fun i h => by cases h)) (fun _ _ h => h)) (fun _ _ _ h => h)) _ 7 _ (by simp)).mono ?_
  rintro e w8 ⟨rfl, k8, rfl⟩
  go_wp2_with fail
  go_ret
  refine ⟨rfl, ?_⟩
  have g1 : Below w.heap.size w (w1.alloc (.cells (nums .u8 [97, 98]).toArray 5 (2, 3))) := below_alloc B1.out _
  have g2 := g1.trans (K2.out.below (fun i hi h => by omega) g1.size)
  have g3 := g2.trans (K3.out.below (fun i hi h => by have := g1.size; omega) g2.size)
  have g3' : Below w.heap.size w (w3.alloc (.cells (nums .u8 [99, 100]).toArray 5 (2, 3))) := below_alloc g3 _
  have g4 := g3'.trans (K4.out.below (fun i hi h => by have := g1.size; omega) g3'.size)
  have g5 := g4.trans (K5.out.below (fun i hi h => by have := g1.size; have := g3'.size; omega) g4.size)
  have g6 := g5.trans (B6.out.mono g5.size)
  exact pw_below_drewN ((pw_below_drewN g6 _).grown HGM.out g6.size (fun k h => by cases h)) _
end Go.Proofs.Ytjcfhnmokmadmaa.File
