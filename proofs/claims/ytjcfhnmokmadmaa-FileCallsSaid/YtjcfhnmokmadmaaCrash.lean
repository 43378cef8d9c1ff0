/- FileCrash, the walk: behind a crash a file has what it had when it was synced last, and a beginning of the rest. -/
import Derived.Test.YtjcfhnmokmadmaaDo
import Derived.Test.YtjcfhnmokmadmaaOpens
import Derived.Test.YtjcfhnmokmadmaaPFileCallsx1
namespace Go.Proofs.Ytjcfhnmokmadmaa.Crash
set_option linter.unusedVariables false
set_option linter.unusedSimpArgs false
open Go.RowKit Go.Proofs.YtjcfhnmokmadmaaW.PrintWords Go.Proofs.YtjcfhnmokmadmaaW.PrintLast Go.Proofs.YtjcfhnmokmadmaaW.PrintMore Go.Proofs.Ytjcfhnmokmadmaa.Mem Go.Proofs.Ytjcfhnmokmadmaa.File Go.Proofs.Ytjcfhnmokmadmaa.PFileCalls
attribute [local go_sem] max2_int min2_int max_two min_two

theorem w64 {x : Int} (_ : -9223372036854775808 ≤ x) (_ : x ≤ 9223372036854775807) : wrap64 x = x := by unfold wrap64; omega
/-! ### The same bytes -/
theorem same_loop (l : List Int) (hl : l.length ≤ 140737488351232) : ∀ (d k i : Nat), i + d = l.length → d + 1 ≤ k → offshootref00_SameBytes.l0 k l l i = some true
  | 0, k, i, hd, hk => by
    obtain ⟨k, rfl⟩ : ∃ m, k = m + 1 := ⟨k - 1, by omega⟩
    simp only [offshootref00_SameBytes.l0]
    rw [if_neg (by omega)]
  | d + 1, k, i, hd, hk => by
    obtain ⟨k, rfl⟩ : ∃ m, k = m + 1 := ⟨k - 1, by omega⟩
    simp only [offshootref00_SameBytes.l0]
    rw [if_pos (by omega), if_pos (by omega)]
    simp only [if_true]
    rw [show wrap64 ((i : Int) + 1) = ((i + 1 : Nat) : Int) from by rw [w64] <;> omega]
    try rw [if_pos (by omega)]
    exact same_loop l hl d k (i + 1) (by omega) (by omega)
theorem same_f (l : List Int) (hl : l.length ≤ 140737488351232) : offshootref00_SameBytes.f (l.length + 1) l l = some true := by
  unfold offshootref00_SameBytes.f
  rw [if_pos rfl]
  exact same_loop l hl l.length _ 0 (by omega) (by omega)
theorem great_loop (l : List S41) (hl : l.length ≤ 140737488351232) : ∀ (d k i : Nat) (n : Int), i + d = l.length → d + 1 ≤ k → ∃ r, offshootlaw06_great.l0 k l n i = some r
  | 0, k, i, n, hd, hk => by
    obtain ⟨k, rfl⟩ : ∃ m, k = m + 1 := ⟨k - 1, by omega⟩
    simp only [offshootlaw06_great.l0]
    rw [if_neg (by omega)]
    exact ⟨_, rfl⟩
  | d + 1, k, i, n, hd, hk => by
    obtain ⟨k, rfl⟩ : ∃ m, k = m + 1 := ⟨k - 1, by omega⟩
    simp only [offshootlaw06_great.l0]
    rw [if_pos (by omega), if_pos (by omega)]
    split
    · exact ⟨_, rfl⟩
    · rw [show wrap64 ((i : Int) + 1) = ((i + 1 : Nat) : Int) from by rw [w64] <;> omega]
      exact great_loop l hl d k (i + 1) _ (by omega) (by omega)
theorem great_f (l : List S41) (hl : l.length ≤ 140737488351232) : ∃ k r, offshootlaw06_great.f k l = some r := by
  unfold offshootlaw06_great.f
  by_cases c : (l.length : Int) > 100
  · exact ⟨0, _, by rw [if_pos c]⟩
  · obtain ⟨r, h1⟩ := great_loop l hl l.length (l.length + 1) 0 0 (by omega) (by omega)
    exact ⟨l.length + 1, r, by rw [if_neg c]; exact h1⟩

set_option maxHeartbeats 1000000 in
set_option maxRecDepth 100000 in
theorem walk (w : World) (room : Int) (A : Option Addr) (c : Nat) (xs : List S41) (hC : k41.C w A xs.length xs) (hc : xs.length ≤ c) (hx : ∀ x ∈ xs, Byte x.f2) (hl : xs.length ≤ 140737488351232) (keep : Int) :
    Calls Try.prog 5 #[.int .i64 room, .slice A xs.length c, .int .i64 keep] w fun e w' => e = .returned (.bool true) ∧ Below w.heap.size w w' := by
  obtain ⟨kg, rg, hg⟩ := great_f xs hl
  have HC := Lib.hid hC; have HX := Lib.hid hx; have HG := Lib.hid hg; have Hc := Lib.hid hc
  clear hC hx hg hc
  go_enter Try.func5, Try.ntmps5
  go_wp2_with fail
  refine (alive_ok w).mono ?_
  rintro e w1 ⟨rfl, b1⟩
  have B1 := Lib.hid b1; clear b1
  go_wp2_with fail
  refine (offshootlaw06_great.calls kg A c xs rg w1 (Kd.C_below HC.out B1.out) Hc.out HG.out).mono ?_
  rintro e w2 ⟨rfl, ⟨k2, rfl⟩⟩
  obtain ⟨w2, ew2⟩ : ∃ w2, w2 = w1.drewN k2 := ⟨_, rfl⟩
  rw [← ew2]
  have B2 := Lib.hid (ew2 ▸ pw_below_drewN B1.out k2 : Below w.heap.size w w2)
  clear ew2 B1
  cases rg with
  | true =>
    go_wp2_with fail
    go_ret
    exact ⟨rfl, B2.out⟩
  | false =>
    by_cases hr : 0 ≤ room ∧ room ≤ 1048576
    · go_wp2_with fail
      refine (new_ok room w2 hr.1 hr.2).mono ?_
      rintro e w3 ⟨b, rfl, f3, b3⟩
      have B3 := Lib.hid (B2.out.trans (b3.mono B2.out.size))
      have F3 := Lib.hid (f3.mono (G := fun k => w.heap.size ≤ k) (fun k h _ => Nat.le_trans B2.out.size h))
      clear b3 f3
      go_wp2_with fail
      go_loopw [9] (fun i wr => ∃ k : Nat, k ≤ xs.length ∧ i = .int .i64 k ∧ ∃ ds sy, FileAt wr (fun k => w.heap.size ≤ k) b ds sy room ∧ Below w.heap.size w wr) (fun i _ => xs.length - (intOf i).toNat)
      case atStart => exact ⟨0, by omega, rfl, _, _, F3.out, B3.out⟩
      case round =>
        obtain ⟨k, hk, rfl, ds, sy, hf, hb⟩ := hrel
        have HF := Lib.hid hf; have HB := Lib.hid hb
        clear hf hb
        by_cases hlt : k < xs.length
        · obtain ⟨ad, A0, c0, rfl, h0, h1, h2, hc0, hC0⟩ := at_T41 (Kd.C_below HC.out HB.out) (k : Int) (by omega) (by omega)
          have hby : Byte (rd_T41 xs (k : Int)).f2 := by
            have : rd_T41 xs (k : Int) = xs[k] := by unfold rd_T41; rw [Int.toNat_natCast, List.getD_eq_getElem?_getD, List.getElem?_eq_getElem hlt]; rfl
            rw [this]
            exact HX.out _ (List.getElem_mem hlt)
          rw [Int.toNat_natCast] at h0 h1 h2
          obtain ⟨p, ep⟩ : ∃ p, p = rd_T41 xs (k : Int) := ⟨_, rfl⟩
          rw [← ep] at h0 h1 h2 hC0 hby
          obtain ⟨pw, pn, pd⟩ := p
          have h0 : wr.cell? (ad.add (k * 3)) = some (.int .i64 pw) := h0
          have h1 : wr.cell? ⟨(ad.add (k * 3)).block, (ad.add (k * 3)).off + 1, none⟩ = some (.int .i64 pn) := h1
          have h2 : wr.cell? ⟨(ad.add (k * 3)).block, (ad.add (k * 3)).off + 2, none⟩ = some (.slice A0 pd.length c0) := h2
          have HC0 := Lib.hid hC0; have HBY := Lib.hid hby
          clear hC0 hby ep hc0
          go_wp2_with fail
          refine (do_ok HF.out pw pn A0 c0 pd HBY.out HC0.out).mono ?_
          rintro e w4 ⟨rfl, f4, k4⟩
          have B4 := Lib.hid (HB.out.trans (k4.below (fun i hi h => by omega) HB.out.size))
          have F4 := Lib.hid (f4.mono (G := fun k => w.heap.size ≤ k) (fun k h _ => h.elim id (fun h => Nat.le_trans HB.out.size h)))
          clear f4 k4 h0 h1 h2
          obtain ⟨ds', eds⟩ : ∃ ds', ds' = (doD pw pn pd ds sy room).1 := ⟨_, rfl⟩
          obtain ⟨sy', esy⟩ : ∃ sy', sy' = (doD pw pn pd ds sy room).2 := ⟨_, rfl⟩
          rw [← eds, ← esy] at F4
          clear eds esy
          have g0 : decide ((ds'.length : Int) < sy') = false := decide_eq_false (by have := F4.out.s1; omega)
          have g1 : ((ds'.length : Int) + (room - ds'.length) != room) = false := by simp; omega
          have lb := F4.out.l0
          go_wp2_with fail
          refine (synced_ok F4.out).mono ?_
          rintro e w5 ⟨rfl, rfl⟩
          go_wp2_with fail
          refine (size_ok F4.out).mono ?_
          rintro e w6 ⟨rfl, rfl⟩
          go_wp2_with fail
          refine (size_ok F4.out).mono ?_
          rintro e w7 ⟨rfl, rfl⟩
          go_wp2_with fail
          refine (room_ok F4.out).mono ?_
          rintro e w8 ⟨rfl, k8, rfl⟩
          go_wp2_with fail
          go_roundw
          case rel => exact ⟨k + 1, by omega, by go_num, _, _, F4.out.kept (G := fun _ => False) (Keep.drewN _ _ _) (fun _ _ _ h => h), pw_below_drewN B4.out _⟩
          case measure => simp [intOf]; omega
        · obtain rfl : k = xs.length := by omega
          have F0 := Lib.hid (HF.out.mono (G := fun k => w.heap.size ≤ k ∧ k < wr.heap.size) (fun k h1 h2 => ⟨h1, h2⟩))
          go_wp2_with fail
          refine (bytes_ok F0.out).mono ?_
          rintro e w4 ⟨v4, rfl, r4, b4⟩
          obtain ⟨A4, c4, ev⟩ := Kd.R_slice r4
          subst ev
          have F4 := Lib.hid (F0.out.kept (G := fun _ => False) (Keep.of_below b4 (fun i h1 h2 => by omega)) (fun _ _ _ h => h))
          have R4 := Lib.hid (Kd.R_bound r4); have B4 := Lib.hid (HB.out.trans (b4.mono HB.out.size)); have S4 := Lib.hid b4.size
          clear r4 b4 F0
          go_wp2_with fail
          refine (synced_ok F4.out).mono ?_
          rintro e w5 ⟨rfl, rfl⟩
          go_wp2_with fail
          refine (crash_ok F4.out keep).mono ?_
          rintro e w5 ⟨rfl, n, en, f5, k5⟩
          have F5 := Lib.hid f5
          have R5 := Lib.hid (R_kept R4.out k5 (fun k hk _ h => by have := hk.2.1; omega))
          have B5 := Lib.hid (B4.out.trans (k5.below (fun i hi h => by omega) B4.out.size))
          have S5 := Lib.hid (Nat.le_trans S4.out k5.size)
          have hn : n ≤ ds.length := by have := F4.out.s0; have := F4.out.s1; omega
          have hl' : ds.length ≤ 1048576 := by have := F4.out.l0; have := F4.out.l1; omega
          have hs0 := F4.out.s0; have hs1 := F4.out.s1
          clear f5 k5 F4 R4 B4 S4
          have hlen : (ds.take n).length = n := by rw [List.length_take]; omega
          obtain ⟨zs, eas⟩ : ∃ zs, zs = ds.take n := ⟨_, rfl⟩
          rw [← eas] at F5 hlen
          subst hlen
          have EAS := Lib.hid eas; have EN := Lib.hid en
          have g0 : decide ((zs.length : Int) < sy) = false := decide_eq_false (by omega)
          have g1 : decide ((ds.length : Int) < zs.length) = false := decide_eq_false (by omega)
          have g2 : keep < 0 → decide (0 < (zs.length : Int) - sy) = false := fun h => decide_eq_false (by omega)
          have g3 : ¬ keep < 0 → decide (keep < (zs.length : Int) - sy) = false := fun h => decide_eq_false (by omega)
          have G2 := Lib.hid g2; have G3 := Lib.hid g3
          clear eas en g2 g3
          go_wp2_with fail
          refine (bytes_ok F5.out).mono ?_
          rintro e w6 ⟨v6, rfl, r6, b6⟩
          obtain ⟨A6, c6, ev⟩ := Kd.R_slice r6
          subst ev
          have F6 := Lib.hid (F5.out.kept (G := fun _ => False) (Keep.of_below b6 (fun i h1 h2 => by omega)) (fun _ _ _ h => h))
          have R6 := Lib.hid (Kd.R_bound r6); have R4 := Lib.hid (Kd.R_below (Kd.R_mono R5.out (fun k h => h.2.1)) b6); have B6 := Lib.hid (B5.out.trans (b6.mono B5.out.size))
          clear r6 b6 R5 B5
          have hzc : zs.length ≤ c4 := by have := (Kd.R_reads' R4.out).2.1; omega
          have hzl : zs.length ≤ ds.length := by omega
          have C4 := Lib.hid (Kd.C_take (Kd.R_reads' R4.out).2.2 hzl)
          have C6 := Lib.hid (Kd.R_reads' R6.out)
          rw [← EAS.out] at C4
          rcases Int.lt_or_le keep 0 with hk | hk
          · have gk : decide (keep < 0) = true := decide_eq_true hk
            have g2 := G2.out hk
            have g4 : ¬ sy < (zs.length : Int) := by have := of_decide_eq_false g2; omega
            have g5 : ¬ (0 : Int) < (zs.length : Int) - sy := of_decide_eq_false g2
            clear G2 G3
            go_wp2_with fail
            refine (offshootref00_SameBytes.calls (zs.length + 1) A6 c6 zs A4 c4 zs true w6 C6.out.2.2 C6.out.2.1 C4.out hzc (same_f _ (by omega))).mono ?_
            rintro e w7 ⟨rfl, ⟨k7, rfl⟩⟩
            have F7 := Lib.hid (F6.out.kept (G := fun _ => False) (Keep.drewN _ _ k7) (fun _ _ _ h => h))
            have B7 := Lib.hid (pw_below_drewN B6.out k7)
            have R7 := Lib.hid (Kd.R_bound (R_kept R6.out (Keep.drewN (fun _ => False) _ k7) (fun _ _ _ h => h)))
            obtain ⟨w7, ew7⟩ : ∃ w7, w7 = w6.drewN k7 := ⟨_, rfl⟩
            rw [← ew7] at F7 B7 R7 ⊢
            clear ew7 C4 C6 R4 R6 F6 B6
            go_wp2_with fail
            refine (synced_ok F7.out).mono ?_
            rintro e w8 ⟨rfl, rfl⟩
            go_wp2_with fail
            refine (crash_ok F7.out keep).mono ?_
            rintro e w9 ⟨rfl, n, en, f9, k9⟩
            obtain rfl : n = zs.length := by omega
            rw [List.take_length] at f9
            have F9 := Lib.hid f9
            have R9 := Lib.hid (R_kept R7.out k9 (fun k hk _ h => by have := hk.2.1; have := S5.out; omega))
            have B9 := Lib.hid (B7.out.trans (k9.below (fun i hi h => by omega) B7.out.size))
            clear f9 k9 R7 B7 F7 en
            go_wp2_with fail
            refine (bytes_ok F9.out).mono ?_
            rintro e w10 ⟨v10, rfl, r10, b10⟩
            obtain ⟨A10, c10, ev⟩ := Kd.R_slice r10
            subst ev
            have C10 := Lib.hid (Kd.R_reads' r10)
            have C9 := Lib.hid (Kd.R_reads' (Kd.R_below R9.out b10))
            have B10 := Lib.hid (B9.out.trans (b10.mono B9.out.size))
            clear r10 b10
            go_wp2_with fail
            refine (offshootref00_SameBytes.calls (zs.length + 1) A10 c10 zs A6 c6 zs true w10 C10.out.2.2 C10.out.2.1 C9.out.2.2 C9.out.2.1 (same_f _ (by omega))).mono ?_
            rintro e w11 ⟨rfl, ⟨k11, rfl⟩⟩
            go_wp2_with fail
            go_ret
            exact ⟨rfl, pw_below_drewN B10.out _⟩
          · have gk : decide (keep < 0) = false := decide_eq_false (by omega)
            have g2 := G3.out (by omega)
            have g5 : ¬ keep < (zs.length : Int) - sy := of_decide_eq_false g2
            clear G2 G3
            go_wp2_with fail
            refine (offshootref00_SameBytes.calls (zs.length + 1) A6 c6 zs A4 c4 zs true w6 C6.out.2.2 C6.out.2.1 C4.out hzc (same_f _ (by omega))).mono ?_
            rintro e w7 ⟨rfl, ⟨k7, rfl⟩⟩
            have F7 := Lib.hid (F6.out.kept (G := fun _ => False) (Keep.drewN _ _ k7) (fun _ _ _ h => h))
            have B7 := Lib.hid (pw_below_drewN B6.out k7)
            have R7 := Lib.hid (Kd.R_bound (R_kept R6.out (Keep.drewN (fun _ => False) _ k7) (fun _ _ _ h => h)))
            obtain ⟨w7, ew7⟩ : ∃ w7, w7 = w6.drewN k7 := ⟨_, rfl⟩
            rw [← ew7] at F7 B7 R7 ⊢
            clear ew7 C4 C6 R4 R6 F6 B6
            go_wp2_with fail
            refine (synced_ok F7.out).mono ?_
            rintro e w8 ⟨rfl, rfl⟩
            go_wp2_with fail
            refine (crash_ok F7.out keep).mono ?_
            rintro e w9 ⟨rfl, n, en, f9, k9⟩
            obtain rfl : n = zs.length := by omega
            rw [List.take_length] at f9
            have F9 := Lib.hid f9
            have R9 := Lib.hid (R_kept R7.out k9 (fun k hk _ h => by have := hk.2.1; have := S5.out; omega))
            have B9 := Lib.hid (B7.out.trans (k9.below (fun i hi h => by omega) B7.out.size))
            clear f9 k9 R7 B7 F7 en
            go_wp2_with fail
            refine (bytes_ok F9.out).mono ?_
            rintro e w10 ⟨v10, rfl, r10, b10⟩
            obtain ⟨A10, c10, ev⟩ := Kd.R_slice r10
            subst ev
            have C10 := Lib.hid (Kd.R_reads' r10)
            have C9 := Lib.hid (Kd.R_reads' (Kd.R_below R9.out b10))
            have B10 := Lib.hid (B9.out.trans (b10.mono B9.out.size))
            clear r10 b10
            go_wp2_with fail
            refine (offshootref00_SameBytes.calls (zs.length + 1) A10 c10 zs A6 c6 zs true w10 C10.out.2.2 C10.out.2.1 C9.out.2.2 C9.out.2.1 (same_f _ (by omega))).mono ?_
            rintro e w11 ⟨rfl, ⟨k11, rfl⟩⟩
            go_wp2_with fail
            go_ret
            exact ⟨rfl, pw_below_drewN B10.out _⟩
    · by_cases h0 : room < 0
      · have g0 : decide (room < 0) = true := decide_eq_true h0
        go_wp2_with fail
        refine (new_bad room w2 (.inl h0)).mono ?_
        rintro e w3 ⟨rfl, rfl⟩
        go_wp2_with fail
        go_ret
        exact ⟨rfl, B2.out⟩
      · have g0 : decide (room < 0) = false := decide_eq_false h0
        have g1 : decide (1048576 < room) = true := decide_eq_true (by omega)
        go_wp2_with fail
        refine (new_bad room w2 (.inr (by omega))).mono ?_
        rintro e w3 ⟨rfl, rfl⟩
        go_wp2_with fail
        go_ret
        exact ⟨rfl, B2.out⟩
abbrev okInt (n : Int) : Prop := (Lit.int .i64 n).wf = true
abbrev OkBytes (x : List Int) : Prop := x.length * Try.prog.bytesOf 5 ≤ 140737488351232 ∧ ∀ b ∈ x, (Lit.int .u8 b).wf = true
theorem opens29 : Opens.Opens Try.prog 29 (Kd.slice 5 (Kd.int .u8)) OkBytes :=
  Opens.opens_slice Try.underlying29 (by kernel_rfl) (Opens.opens_int Try.underlying5 (by kernel_rfl))
theorem opens41 : Opens.Opens Try.prog 41 k41 (fun x => okInt x.f0 ∧ okInt x.f1 ∧ OkBytes x.f2) :=
  Opens.Opens.iso (Opens.opens_struct Try.underlying41 (Opens.FO.cons (off' := 1) (Opens.opens_int Try.underlying3 (by kernel_rfl)) rfl rfl (Opens.FO.cons (off' := 2) (Opens.opens_int Try.underlying3 (by kernel_rfl)) rfl rfl (Opens.FO.one opens29 rfl))) (by kernel_rfl)) (fun x : S41 => (x.f0, x.f1, x.f2)) (fun a => ⟨a.1, a.2.1, a.2.2⟩) (fun _ => rfl)
theorem opens35 : Opens.Opens Try.prog 35 (Kd.slice 41 k41) (fun xs => xs.length * Try.prog.bytesOf 41 ≤ 140737488351232 ∧ ∀ x ∈ xs, okInt x.f0 ∧ okInt x.f1 ∧ OkBytes x.f2) :=
  Opens.opens_slice (P := Try.prog) Try.underlying35 (by kernel_rfl) opens41
theorem byte_wf {x : Int} (h : (Lit.int .u8 x).wf = true) : 0 ≤ x ∧ x < 256 := by
  have h' : IntKind.u8.min ≤ x ∧ x ≤ IntKind.u8.max := by simpa [Lit.wf] using h
  have e1 : IntKind.u8.min = 0 := rfl
  have e2 : IntKind.u8.max = 255 := rfl
  omega
abbrev OkCalls (xs : List S41) : Prop := xs.length * Try.prog.bytesOf 41 ≤ 140737488351232 ∧ ∀ x ∈ xs, okInt x.f0 ∧ okInt x.f1 ∧ OkBytes x.f2
theorem OkCalls.len {xs : List S41} (h : OkCalls xs) : xs.length ≤ 140737488351232 := by
  have b41 : Try.prog.bytesOf 41 = 40 := by kernel_rfl
  have := h.1
  rw [b41] at this
  omega
theorem OkCalls.byte {xs : List S41} (h : OkCalls xs) : ∀ x ∈ xs, Byte x.f2 := fun x hx b hb => byte_wf ((h.2 x hx).2.2.2 b hb)
theorem row (w : World) (room : Int) (wr : okInt room) (A : Option Addr) (c : Nat) (xs : List S41) (hC : k41.C w A xs.length xs) (hc : xs.length ≤ c) (ok : OkCalls xs) (keep : Int) (wk : okInt keep) :
    Calls Try.prog 5 #[.int .i64 room, .slice A xs.length c, .int .i64 keep] w fun e w' => e = .returned (.bool true) ∧ Below w.heap.size w w' :=
  walk w room A c xs hC hc ok.byte ok.len keep
end Go.Proofs.Ytjcfhnmokmadmaa.Crash
