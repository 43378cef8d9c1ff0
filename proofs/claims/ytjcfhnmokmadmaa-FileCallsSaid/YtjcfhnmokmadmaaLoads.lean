/- FileLoads, the walk: every Load answers a file with these bytes, or its error. -/
import Derived.Test.YtjcfhnmokmadmaaCrash
namespace Go.Proofs.Ytjcfhnmokmadmaa.Crash
set_option linter.unusedVariables false
set_option linter.unusedSimpArgs false
open Go.RowKit Go.Proofs.YtjcfhnmokmadmaaW.PrintWords Go.Proofs.YtjcfhnmokmadmaaW.PrintLast Go.Proofs.YtjcfhnmokmadmaaW.PrintMore Go.Proofs.Ytjcfhnmokmadmaa.Mem Go.Proofs.Ytjcfhnmokmadmaa.File Go.Proofs.Ytjcfhnmokmadmaa.PFileCalls
attribute [local go_sem] max2_int min2_int max_two min_two

theorem own_open {w : World} {base : Nat} {ok : Nat → Prop} {v : Value} {xs : List Int} (h : (Kd.int .u8).R 5 w base ok v xs) (i : Nat) (hi : i < xs.length) :
    ∃ g cap, v = .slice (some ⟨g, 0, none⟩) xs.length cap ∧ ok g ∧ base ≤ g ∧ g < w.heap.size ∧ w.cell? ⟨g, i, none⟩ = some (.int .u8 (xs.getD i 0)) ∧ w.frozen? ⟨g, i, none⟩ = false := by
  obtain ⟨inner, ho⟩ := Kd.R_own h
  rcases ho.2 with ⟨h0, h1⟩ | ⟨g, cap, cur, rfl, _⟩
  · omega
  · have hb := (Kd.R_bound h).1 g rfl
    obtain ⟨q, _, cells, hc⟩ := hb.2.2.2
    refine ⟨g, cap, rfl, hb.1, hb.2.1, hb.2.2.1, ?_, blk_frozen hc i⟩
    obtain ⟨ad, cs, e, _, hK, hcell⟩ := Kd.C_get (Kd.R_reads' h).2.2 (0 : Int) i (by omega) (by omega)
    cases e
    have e2 : cs = [.int .u8 (xs.getD i 0)] := hK
    subst e2
    have := hcell 0 _ rfl
    have hsz : (Kd.int .u8).sz = 1 := rfl
    rw [hsz] at this
    have ea : (⟨g, 0, none⟩ : Addr).add (Int.toNat (i : Int) * 1 + 0) = ⟨g, i, none⟩ := by
      unfold Addr.add
      split <;> simp_all
    rw [ea] at this
    exact this

set_option maxHeartbeats 1000000 in
theorem refnew_ok (r : Int) (w : World) (h0 : 0 ≤ r) (h1 : r ≤ 1048576) :
    Calls Try.prog 16 #[.int .i64 r] w fun e w' => ∃ b, e = .returned (.tuple #[.pointer (some ⟨b, 0, none⟩), .int .i64 0]) ∧ w'.heap[b]? = some (.cells #[.slice none 0 0, .slice none 0 0, .int .i64 r] 47 (0, 0)) ∧ w.heap.size ≤ b ∧ Below w.heap.size w w' := by
  have g0 : decide (r < 0) = false := by simp; omega
  have g1 : decide (1048576 < r) = false := by simp; omega
  go_enter Try.func16, Try.ntmps16
  go_wp2
  go_ret2
  exact ⟨_, rfl, heap_alloc_new w _, Nat.le_refl _, below_alloc (Below.refl _ _) _⟩
theorem refnew_bad (r : Int) (w : World) (h : r < 0 ∨ 1048576 < r) :
    Calls Try.prog 16 #[.int .i64 r] w fun e w' => e = .returned (.tuple #[.pointer none, .int .i64 11]) ∧ w' = w := by
  by_cases h0 : r < 0
  · have g0 : decide (r < 0) = true := by simp; omega
    go_enter Try.func16, Try.ntmps16
    go_wp2
    go_ret2
    exact ⟨rfl, rfl⟩
  · have g0 : decide (r < 0) = false := by simp; omega
    have g1 : decide (1048576 < r) = true := by simp; omega
    go_enter Try.func16, Try.ntmps16
    go_wp2
    go_ret2
    exact ⟨rfl, rfl⟩
theorem copy_f (l : List Int) (hl : l.length ≤ 140737488351232) : offshootref00_CopyBytes.f l = some l := by
  unfold offshootref00_CopyBytes.f
  simp
  omega
theorem refload_range (v : Value) (r : Int) (w : World) (h : r < 0 ∨ 1048576 < r) :
    Calls Try.prog 30 #[v, .int .i64 r] w fun e w' => e = .returned (.tuple #[.pointer none, .int .i64 11]) ∧ w' = w := by
  go_enter Try.func30, Try.ntmps30
  go_wp2_with (go_at_call 16; refine (refnew_bad r w h).mono ?_; rintro e w1 ⟨rfl, rfl⟩)
  go_ret2
  exact ⟨rfl, rfl⟩
theorem refload_full (A : Option Addr) (m c : Nat) (r : Int) (w : World) (h0 : 0 ≤ r) (h1 : r ≤ 1048576) (hm : r < (m : Int)) :
    Calls Try.prog 30 #[.slice A m c, .int .i64 r] w fun e w' => e = .returned (.tuple #[.pointer none, .int .i64 14]) ∧ Below w.heap.size w w' := by
  have g : decide (r < (m : Int)) = true := decide_eq_true hm
  go_enter Try.func30, Try.ntmps30
  go_wp2_with (go_at_call 16; refine (refnew_ok r w h0 h1).mono ?_; rintro e w1 ⟨b, rfl, hb, hl, hB⟩; have HB := Lib.hid hB; clear hB hb hl)
  go_ret2
  exact ⟨rfl, HB.out⟩
set_option maxHeartbeats 1000000 in
theorem refload_ok (A : Option Addr) (c : Nat) (ys : List Int) (r : Int) (w : World) (hC : (Kd.int .u8).C w A ys.length ys) (hc : ys.length ≤ c) (h0 : 0 ≤ r) (h1 : r ≤ 1048576) (hm : (ys.length : Int) ≤ r) :
    Calls Try.prog 30 #[.slice A ys.length c, .int .i64 r] w fun e w' => ∃ b, e = .returned (.tuple #[.pointer (some ⟨b, 0, none⟩), .int .i64 0]) ∧ Below w.heap.size w w' := by
  have g : decide (r < (ys.length : Int)) = false := decide_eq_false (by omega)
  have HC := Lib.hid hC; have Hc := Lib.hid hc
  clear hC hc
  go_enter Try.func30, Try.ntmps30
  go_wp2_with fail
  refine (refnew_ok r w h0 h1).mono ?_
  rintro e w1 ⟨b, rfl, hb, hl, hB⟩
  have HB := Lib.hid hB; have HL := Lib.hid hl; have HK := Lib.hid hb
  clear hB hb hl
  go_wp2_with fail
  refine (offshootref00_CopyBytes.calls A c ys ys w1 (Kd.C_below HC.out HB.out) Hc.out (copy_f _ (by omega))).mono ?_
  rintro e w2 ⟨v, rfl, r2, b2⟩
  have hb2 := (b2.block b (lt_of_blk HK.out)).trans HK.out
  have c0 := blk_cell hb2 0
  have f0 := blk_frozen hb2 0
  simp at c0
  have B2 := Lib.hid (HB.out.trans (b2.mono HB.out.size))
  clear b2 hb2
  obtain ⟨A2, c2, ev⟩ := Kd.R_slice r2
  subst ev
  clear r2
  go_wp2_with fail
  go_ret2
  exact ⟨b, rfl, B2.out.trans ((Keep.setCell (F := fun k => k = b) w2 (p := ⟨b, 0, none⟩) rfl _).below (fun i hi h => by have := HL.out; omega) B2.out.size)⟩
set_option maxHeartbeats 1000000 in
set_option maxRecDepth 100000 in
theorem load_walk (w : World) (A : Option Addr) (c : Nat) (bs : List Int) (hC : (Kd.int .u8).C w A bs.length bs) (hc : bs.length ≤ c) (hy : Byte bs) (room keep : Int) :
    Calls Try.prog 6 #[.slice A bs.length c, .int .i64 room, .int .i64 keep] w fun e w' => e = .returned (.bool true) ∧ Below w.heap.size w w' := by
  have HC := Lib.hid hC; have Hc := Lib.hid hc; have HY := Lib.hid hy
  clear hC hc hy
  by_cases big : 20000 < bs.length
  · have g0 : decide ((20000 : Int) < bs.length) = true := decide_eq_true (by omega)
    go_enter Try.func6, Try.ntmps6
    go_wp2_with fail
    refine (alive_ok w).mono ?_
    rintro e w1 ⟨rfl, b1⟩
    have B1 := Lib.hid b1; clear b1
    go_wp2_with fail
    go_ret
    exact ⟨rfl, B1.out⟩
  · have g0 : decide ((20000 : Int) < bs.length) = false := decide_eq_false (by omega)
    go_enter Try.func6, Try.ntmps6
    go_wp2_with fail
    refine (alive_ok w).mono ?_
    rintro e w1 ⟨rfl, b1⟩
    have B1 := Lib.hid b1; clear b1
    go_wp2_with fail
    refine (offshootref00_CopyBytes.calls A c bs bs w1 (Kd.C_below HC.out B1.out) Hc.out (copy_f _ (by omega))).mono ?_
    rintro e w2 ⟨v2, rfl, r2, b2⟩
    obtain ⟨A2, c2, ev⟩ := Kd.R_slice r2
    subst ev
    have R2 := Lib.hid (Kd.R_bound r2); have B2 := Lib.hid (B1.out.trans (b2.mono B1.out.size)); have S2 := Lib.hid b2.size
    clear r2 b2
    by_cases hr : room < 0 ∨ 1048576 < room
    · have HR := Lib.hid hr
      clear hr
      go_wp2_with fail
      refine (load_range w2 _ room HR.out).mono ?_
      rintro e w3 ⟨rfl, e3⟩
      subst e3
      go_wp2_with fail
      refine (refload_range _ room w3 HR.out).mono ?_
      rintro e w4 ⟨rfl, e4⟩
      subst e4
      go_wp2_with fail
      refine (offshootref00_SameBytes.calls (bs.length + 1) A2 c2 bs A c bs true w4 (Kd.R_reads' R2.out).2.2 (Kd.R_reads' R2.out).2.1 (Kd.C_below HC.out B2.out) Hc.out (same_f _ (by omega))).mono ?_
      rintro e w5 ⟨rfl, ⟨k5, rfl⟩⟩
      go_wp2_with fail
      go_ret
      exact ⟨rfl, pw_below_drewN B2.out _⟩
    · by_cases hm : room < (bs.length : Int)
      · have HR := Lib.hid (And.intro (by omega : 0 ≤ room) (And.intro (by omega : room ≤ 1048576) hm))
        clear hr hm
        go_wp2_with fail
        refine (load_full w2 A2 _ c2 room HR.out.1 HR.out.2.1 HR.out.2.2).mono ?_
        rintro e w3 ⟨rfl, b3⟩
        have R3 := Lib.hid (Kd.R_below R2.out b3); have B3 := Lib.hid (B2.out.trans (b3.mono B2.out.size))
        clear b3
        go_wp2_with fail
        refine (refload_full A _ c room w3 HR.out.1 HR.out.2.1 HR.out.2.2).mono ?_
        rintro e w4 ⟨rfl, b4⟩
        have R4 := Lib.hid (Kd.R_below R3.out b4); have B4 := Lib.hid (B3.out.trans (b4.mono B3.out.size))
        clear b4 R3
        go_wp2_with fail
        refine (offshootref00_SameBytes.calls (bs.length + 1) A2 c2 bs A c bs true w4 (Kd.R_reads' R4.out).2.2 (Kd.R_reads' R4.out).2.1 (Kd.C_below HC.out B4.out) Hc.out (same_f _ (by omega))).mono ?_
        rintro e w5 ⟨rfl, ⟨k5, rfl⟩⟩
        go_wp2_with fail
        go_ret
        exact ⟨rfl, pw_below_drewN B4.out _⟩
      · have HR := Lib.hid (And.intro (by omega : 0 ≤ room) (And.intro (by omega : room ≤ 1048576) (by omega : (bs.length : Int) ≤ room)))
        clear hr hm
        go_wp2_with fail
        refine (load_ok w2 A2 _ c2 bs HY.out (Kd.R_reads' R2.out).2.2 room HR.out.1 HR.out.2.1 HR.out.2.2).mono ?_
        rintro e w3 ⟨b, rfl, f3, b3⟩
        have F3 := Lib.hid (f3.mono (G := fun k => w2.heap.size ≤ k ∧ k < w3.heap.size) (fun k h1 h2 => ⟨h1, h2⟩)); have R3 := Lib.hid (Kd.R_below R2.out b3); have B3 := Lib.hid (B2.out.trans (b3.mono B2.out.size))
        clear b3 f3
        go_wp2_with fail
        refine (refload_ok A c bs room w3 (Kd.C_below HC.out B3.out) Hc.out HR.out.1 HR.out.2.1 HR.out.2.2).mono ?_
        rintro e w4 ⟨rb, rfl, b4⟩
        have F4 := Lib.hid (F3.out.kept (G := fun _ => False) (Keep.of_below b4 (fun i h1 h2 => by omega)) (fun _ _ _ h => h))
        have R4 := Lib.hid (Kd.R_below R3.out b4); have B4 := Lib.hid (B3.out.trans (b4.mono B3.out.size))
        clear b4 R3 F3
        go_wp2_with fail
        refine (offshootref00_SameBytes.calls (bs.length + 1) A2 c2 bs A c bs true w4 (Kd.R_reads' R4.out).2.2 (Kd.R_reads' R4.out).2.1 (Kd.C_below HC.out B4.out) Hc.out (same_f _ (by omega))).mono ?_
        rintro e w5 ⟨rfl, ⟨k5, e5⟩⟩
        have k5' : Keep (fun _ => False) w4 w5 := e5 ▸ Keep.drewN _ _ _
        have F5 := Lib.hid (F4.out.kept k5' (fun _ _ _ h => h))
        have R5 := Lib.hid (R_kept (Kd.R_mono R4.out (fun k hk => (⟨hk.2.1, hk.2.2.1⟩ : w1.heap.size ≤ k ∧ k < w2.heap.size))) k5' (fun _ _ _ h => h)); have B5 := Lib.hid (B4.out.trans (k5'.below (fun _ _ h => h) B4.out.size))
        clear e5 k5' R4 F4 B4
        go_wp2_with fail
        go_loopw [12] (fun i wr => ∃ k : Nat, k ≤ bs.length ∧ i = .int .i64 k ∧ (∃ os, os.length = bs.length ∧ (Kd.int .u8).R 5 wr w1.heap.size (fun k => w1.heap.size ≤ k ∧ k < w2.heap.size) (.slice A2 bs.length c2) os) ∧ Keep (fun k => w1.heap.size ≤ k ∧ k < w2.heap.size) w5 wr) (fun i _ => bs.length - (intOf i).toNat)
        case atStart => exact ⟨0, by omega, rfl, ⟨bs, rfl, R5.out⟩, Keep.refl _ _⟩
        case round =>
          obtain ⟨k, hk, rfl, ⟨os, hos, hr⟩, hkp⟩ := hrel
          have HRR := Lib.hid hr; have HK := Lib.hid hkp
          clear hr hkp
          by_cases hlt : k < bs.length
          · obtain ⟨g, cap, ev, hg, _, _, hcell, hfr⟩ := own_open HRR.out k (by omega)
            injection ev with e1 e2 e3
            subst e1
            have HG := Lib.hid hg
            have HP := fun x => Lib.hid (Kd.R_putg HRR.out (k : Int) x)
            clear hg e2 e3
            go_wp2_with fail
            refine ⟨⟨k + 1, by omega, by go_num, ⟨_, by rw [List.length_set]; exact hos, (HP _).out.1⟩, HK.out.trans (Keep.setCell (F := fun k => w1.heap.size ≤ k ∧ k < w2.heap.size) wr (p := ⟨g, k, none⟩) HG.out _) (fun _ _ h => h)⟩, by simp [intOf]; omega⟩
          · obtain rfl : k = bs.length := by omega
            have F6 := Lib.hid (F5.out.kept HK.out (fun k h1 _ h2 => by omega))
            have B6 := Lib.hid (B5.out.trans (HK.out.below (fun i hi h => by have := B1.out.size; omega) B5.out.size))
            clear HRR HK F5 B5 R5
            go_wp2_with fail
            refine (crash_ok F6.out keep).mono ?_
            rintro e w7 ⟨rfl, n, en, f7, k7⟩
            obtain rfl : n = bs.length := by omega
            rw [List.take_length] at f7
            have F7 := Lib.hid f7; have B7 := Lib.hid (B6.out.trans (k7.below (fun i hi h => by have := B2.out.size; omega) B6.out.size))
            clear f7 k7 en
            go_wp2_with fail
            refine (bytes_ok F7.out).mono ?_
            rintro e w8 ⟨v8, rfl, r8, b8⟩
            obtain ⟨A8, c8, ev⟩ := Kd.R_slice r8
            subst ev
            have F8 := Lib.hid (F7.out.kept (G := fun _ => False) (Keep.of_below b8 (fun i h1 h2 => by omega)) (fun _ _ _ h => h)); have B8 := Lib.hid (B7.out.trans (b8.mono B7.out.size)); have R8 := Lib.hid r8
            clear b8 r8
            go_wp2_with fail
            refine (offshootref00_SameBytes.calls (bs.length + 1) A8 c8 bs A c bs true w8 (Kd.R_reads' R8.out).2.2 (Kd.R_reads' R8.out).2.1 (Kd.C_below HC.out B8.out) Hc.out (same_f _ (by omega))).mono ?_
            rintro e w9 ⟨rfl, ⟨k9, e9⟩⟩
            have k9' : Keep (fun _ => False) w8 w9 := e9 ▸ Keep.drewN _ _ _
            have F9 := Lib.hid (F8.out.kept k9' (fun _ _ _ h => h)); have B9 := Lib.hid (B8.out.trans (k9'.below (fun _ _ h => h) B8.out.size))
            have hlr := HR.out
            clear e9 k9' F8 B8 R8
            go_wp2_with fail
            refine (synced_ok F9.out).mono ?_
            rintro e w10 ⟨rfl, rfl⟩
            go_wp2_with fail
            refine (room_ok F9.out).mono ?_
            rintro e w11 ⟨rfl, k11, rfl⟩
            go_wp2_with fail
            go_ret
            exact ⟨rfl, pw_below_drewN B9.out _⟩
theorem load_row (w : World) (A : Option Addr) (c : Nat) (bs : List Int) (hC : (Kd.int .u8).C w A bs.length bs) (hc : bs.length ≤ c) (ok : OkBytes bs) (room : Int) (wr : okInt room) (keep : Int) (wk : okInt keep) :
    Calls Try.prog 6 #[.slice A bs.length c, .int .i64 room, .int .i64 keep] w fun e w' => e = .returned (.bool true) ∧ Below w.heap.size w w' :=
  load_walk w A c bs hC hc (fun b hb => byte_wf (ok.2 b hb)) room keep
end Go.Proofs.Ytjcfhnmokmadmaa.Crash
