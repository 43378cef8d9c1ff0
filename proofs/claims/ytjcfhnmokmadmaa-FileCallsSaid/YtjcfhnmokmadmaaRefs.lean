/- The contracts of the reference's File: Room, Append, Replace, Trim, Sync, Crash, Bytes. -/
import Derived.Test.YtjcfhnmokmadmaaLoads
import Derived.Deep.RegionHeld3
namespace Go.Proofs.Ytjcfhnmokmadmaa.Crash
set_option linter.unusedVariables false
set_option linter.unusedSimpArgs false
open Go.RowKit Go.Proofs.YtjcfhnmokmadmaaW.PrintWords Go.Proofs.YtjcfhnmokmadmaaW.PrintLast Go.Proofs.YtjcfhnmokmadmaaW.PrintMore Go.Proofs.Ytjcfhnmokmadmaa.Mem Go.Proofs.Ytjcfhnmokmadmaa.File Go.Proofs.Ytjcfhnmokmadmaa.PFileCalls
attribute [local go_sem] max2_int min2_int max_two min_two

/-- At b the reference's file: what is synced, what is not, its limit; all that it owns lies in F. -/
structure RefAt (w : World) (F : Nat → Prop) (b : Nat) (s l : List Int) (lim : Int) : Prop where
  mem : ∃ A1 c1 A2 c2, w.heap[b]? = some (.cells #[.slice A1 s.length c1, .slice A2 l.length c2, .int .i64 lim] 47 (0, 0)) ∧ (Kd.int .u8).R 5 w 0 (fun k => F k ∧ k ≠ b) (.slice A1 s.length c1) s ∧ (Kd.int .u8).R 5 w 0 (fun k => F k ∧ k ≠ b) (.slice A2 l.length c2) l ∧
    ∀ k, (Value.slice A1 s.length c1).ownBlock = some k → (Value.slice A2 l.length c2).ownBlock ≠ some k
  own : F b
  l0 : (s.length : Int) + l.length ≤ lim
  l1 : lim ≤ 1048576
section
variable {w w' : World} {F G : Nat → Prop} {b : Nat} {s l : List Int} {lim : Int}
theorem RefAt.kept (h : RefAt w F b s l lim) (hk : Keep G w w') (hd : ∀ k, F k → k < w.heap.size → ¬ G k) : RefAt w' F b s l lim := by
  obtain ⟨A1, c1, A2, c2, hb, h1, h2, h3⟩ := h.mem
  exact ⟨⟨A1, c1, A2, c2, hk.at_ hb (hd b h.own (lt_of_blk hb)), R_kept h1 hk (fun k hk' => hd k hk'.1), R_kept h2 hk (fun k hk' => hd k hk'.1), h3⟩, h.own, h.l0, h.l1⟩
theorem RefAt.mono (h : RefAt w F b s l lim) (hFG : ∀ k, F k → k < w.heap.size → G k) : RefAt w G b s l lim := by
  obtain ⟨A1, c1, A2, c2, hb, h1, h2, h3⟩ := h.mem
  exact ⟨⟨A1, c1, A2, c2, hb, Kd.R_mono (Kd.R_bound h1) (fun k hk => ⟨hFG k hk.1.1 hk.2.2.1, hk.1.2⟩), Kd.R_mono (Kd.R_bound h2) (fun k hk => ⟨hFG k hk.1.1 hk.2.2.1, hk.1.2⟩), h3⟩, hFG b h.own (lt_of_blk hb), h.l0, h.l1⟩
theorem RefAt.lt (h : RefAt w F b s l lim) : b < w.heap.size := by
  obtain ⟨A1, c1, A2, c2, hb, _⟩ := h.mem
  exact lt_of_blk hb
theorem RefAt.fresh (hb : w.heap[b]? = some (.cells #[.slice none 0 0, .slice none 0 0, .int .i64 lim] 47 (0, 0))) (hF : F b) (h0 : 0 ≤ lim) (h1 : lim ≤ 1048576) : RefAt w F b [] [] lim :=
  ⟨⟨none, 0, none, 0, hb, Kd.R_nil _ _ _ _ _, Kd.R_nil _ _ _ _ _, fun k h => by cases h⟩, hF, by simpa using h0, h1⟩
end

set_option maxHeartbeats 1000000 in
theorem refroom_ok {w : World} {F : Nat → Prop} {b : Nat} {s l : List Int} {lim : Int} (hf : RefAt w F b s l lim) :
    Calls Try.prog 27 #[.pointer (some ⟨b, 0, none⟩)] w fun e w' => e = .returned (.int .i64 (lim - s.length - l.length)) ∧ ∃ k, w' = w.drewN k := by
  obtain ⟨A1, c1, A2, c2, hb, h1, h2, h3⟩ := hf.mem
  have hd := blk_cell hb 0
  have hd1 := blk_cell hb 1
  have hd2 := blk_cell hb 2
  simp at hd hd1 hd2
  have l0 := hf.l0
  have l1 := hf.l1
  clear hb h1 h2 h3 hf
  go_enter Try.func27, Try.ntmps27
  go_wp2
  go_quiet (fail)
  go_wp2
  go_ret
  exact ⟨rfl, _, rfl⟩
theorem refappend_full {w : World} {F : Nat → Prop} {b : Nat} {s l : List Int} {lim : Int} (hf : RefAt w F b s l lim) (A : Option Addr) (m c : Nat) (hm : lim - s.length - l.length < m) :
    Calls Try.prog 19 #[.pointer (some ⟨b, 0, none⟩), .slice A m c] w fun e w' => e = .returned (.int .i64 14) ∧ ∃ k, w' = w.drewN k := by
  have g : decide (lim - (s.length : Int) - l.length < m) = true := by simp; omega
  have HF := Lib.hid hf
  clear hf hm
  go_enter Try.func19, Try.ntmps19
  go_wp2_with ((go_at_call 27; refine (refroom_ok HF.out).mono ?_; rintro e w1 ⟨rfl, k, rfl⟩))
  go_ret
  exact ⟨rfl, _, rfl⟩
set_option maxHeartbeats 1000000 in
theorem refappend_ok {w : World} {F : Nat → Prop} {b : Nat} {s l : List Int} {lim : Int} (hf : RefAt w F b s l lim) (A : Option Addr) (m c : Nat) (ys : List Int) (hc : (Kd.int .u8).C w A m ys) (hm : (m : Int) ≤ lim - s.length - l.length) :
    Calls Try.prog 19 #[.pointer (some ⟨b, 0, none⟩), .slice A m c] w fun e w' => e = .returned (.int .i64 0) ∧ RefAt w' (fun k => F k ∨ w.heap.size ≤ k) b s (l ++ ys) lim ∧ Keep F w w' := by
  have g : decide (lim - (s.length : Int) - l.length < m) = false := by simp; omega
  obtain ⟨A1, c1, A2, c2, hb, h1, h2, h3⟩ := hf.mem
  have HF := Lib.hid hf; have HB := Lib.hid hb; have HS := Lib.hid h1; have HR := Lib.hid h2; have HD := Lib.hid h3; have HC := Lib.hid hc; have HM := Lib.hid hm
  have hd := blk_cell hb 1
  simp at hd
  clear hf hb h1 h2 h3 hc hm
  go_enter Try.func19, Try.ntmps19
  go_wp2_with (first
    | (go_at_call 27; refine (refroom_ok HF.out).mono ?_; rintro e w1 ⟨rfl, k, rfl⟩)
    | (at_builtin
       go_loud (refine Kd.R_append_row (Value.int .u8) 0 (w0 := w) 0 rfl (.tmp 14) (.tmp 15) 29 5 _ 1 rfl Try.underlying29 File.info5 rfl (by decide) (.slice A2 l.length c2) l ys A m c (fun k => F k ∧ k ≠ b ∨ w.heap.size ≤ k) rfl rfl (fun k hk => .inr hk) (Kd.R_mono (Kd.R_drewN HR.out _) (fun k hk => .inl hk)) (Kd.C_drewN HC.out _) (pw_below_drewN (Below.refl _ _) _) (Nat.zero_le _) (by have := HF.out.l1; have := HF.out.l0; have := HM.out; omega) ?_)
       intro v1 w1 hr1 hb1 hg1 hat1
       obtain ⟨A3, c3, e1⟩ := Kd.R_slice hr1
       subst e1
       have HR1 := Lib.hid hr1; have HG1 := Lib.hid hg1; have HAT := Lib.hid hat1
       have hne : some b ≠ (Value.slice A2 l.length c2).ownBlock := fun e => (HR.out.1 b e.symm).2 rfl
       have hbw : w1.heap[b]? = some (.cells #[.slice A1 s.length c1, .slice A2 l.length c2, .int .i64 lim] 47 (0, 0)) := (hg1.block b (lt_of_blk HB.out) hne).trans HB.out
       have HBW := Lib.hid hbw
       have hd1 := blk_cell hbw 1
       have hf1 := blk_frozen hbw 1
       simp at hd1
       clear hr1 hg1 hat1 hne hbw hb1))
  go_ret
  have hf := HF.out
  have hlt : b < w.heap.size := lt_of_blk HB.out
  have hs1 : (Kd.int .u8).R 5 w1 0 (fun k => F k ∧ k ≠ b) (.slice A1 s.length c1) s := Kd.R_grown2 (Kd.R_drewN HS.out _) rfl HG1.out (fun k hk e => HD.out k e.symm hk)
  refine ⟨rfl, ⟨⟨A1, c1, A3, c3, by simpa using blk_set HBW.out 1 (.slice A3 (l ++ ys).length c3), Kd.R_mono (Kd.R_far hs1 (fun k hk => hk.2) _) (fun k hk => ⟨.inl hk.1, hk.2⟩), Kd.R_mono (Kd.R_far HR1.out (fun k hk => hk.elim (fun h => h.2) (fun h => (show k ≠ b by omega))) _) (fun k hk => hk.elim (fun h => ⟨.inl h.1, h.2⟩) (fun h => ⟨.inr h, by omega⟩)), ?_⟩, .inl hf.own, ?_, hf.l1⟩, ?_⟩
  · intro k hk e
    have hkw := (Kd.R_bound HS.out).1 k hk
    rcases HAT.out with h | ⟨g, h, hg⟩
    · exact HD.out k hk (h ▸ e)
    · rw [h] at e
      cases e
      have := hkw.2.2.1
      simp at hg
      omega
  · have := HC.out.1; have := HM.out; simp; omega
  · refine (Keep.of_grown (F := F) (a := w) (row := (Value.slice A2 l.length c2).ownBlock) ?_ ?_).trans (Keep.setCell _ (F := F) hf.own _) (fun _ _ h => h)
    · exact ⟨HG1.out.os, HG1.out.tape, HG1.out.output, HG1.out.size, HG1.out.block⟩
    · intro i hi
      exact (HR.out.1 i hi).1
theorem refreplace_full {w : World} {F : Nat → Prop} {b : Nat} {s l : List Int} {lim : Int} (hf : RefAt w F b s l lim) (A : Option Addr) (m c : Nat) (hm : lim < m) :
    Calls Try.prog 21 #[.pointer (some ⟨b, 0, none⟩), .slice A m c] w fun e w' => e = .returned (.int .i64 14) ∧ w' = w := by
  obtain ⟨A1, c1, A2, c2, hb, h1, h2, h3⟩ := hf.mem
  have hd := blk_cell hb 2
  simp at hd
  have g : decide (lim < (m : Int)) = true := by simp; omega
  clear hb h1 h2 h3 hf hm
  go_enter Try.func21, Try.ntmps21
  go_wp2
  go_ret
  exact ⟨rfl, rfl⟩
set_option maxHeartbeats 1000000 in
theorem refreplace_ok {w : World} {F : Nat → Prop} {b : Nat} {s l : List Int} {lim : Int} (hf : RefAt w F b s l lim) (A : Option Addr) (c : Nat) (ys : List Int) (hc : (Kd.int .u8).C w A ys.length ys) (hcc : ys.length ≤ c) (hm : (ys.length : Int) ≤ lim) :
    Calls Try.prog 21 #[.pointer (some ⟨b, 0, none⟩), .slice A ys.length c] w fun e w' => e = .returned (.int .i64 0) ∧ RefAt w' (fun k => F k ∨ w.heap.size ≤ k) b ys [] lim ∧ Keep F w w' := by
  obtain ⟨A1, c1, A2, c2, hb, h1, h2, h3⟩ := hf.mem
  have HF := Lib.hid hf; have HB := Lib.hid hb; have HC := Lib.hid hc; have HM := Lib.hid hm; have HCC := Lib.hid hcc
  have hd := blk_cell hb 2
  simp at hd
  have g : decide (lim < (ys.length : Int)) = false := by simp; omega
  clear hf hb h1 h2 h3 hc hm hcc
  go_enter Try.func21, Try.ntmps21
  go_wp2_with fail
  refine (offshootref00_CopyBytes.calls A c ys ys w HC.out HCC.out (copy_f _ (by have := HF.out.l1; have := HM.out; omega))).mono ?_
  rintro e w1 ⟨v, rfl, hr1, hb1⟩
  obtain ⟨A3, c3, e1⟩ := Kd.R_slice hr1
  subst e1
  have hbw := (hb1.block b (lt_of_blk HB.out)).trans HB.out
  have HBW := Lib.hid hbw
  have hd1 := blk_cell hbw 0
  have hf1 := blk_frozen hbw 0
  have hd3 := blk_cell hbw 1
  have hf3 := blk_frozen hbw 1
  simp at hd1 hd3
  have HR1 := Lib.hid hr1; have HB1 := Lib.hid hb1
  clear hr1 hb1 hbw
  go_wp2_with fail
  go_ret
  have hf := HF.out
  have hlt : b < w.heap.size := lt_of_blk HB.out
  refine ⟨rfl, ⟨⟨A3, c3, none, 0, by simpa using blk_set (blk_set HBW.out 0 (.slice A3 ys.length c3)) 1 (.slice none 0 0), ?_, Kd.R_nil _ _ _ _ _, fun k _ h => by cases h⟩, .inl hf.own, by have := HM.out; simpa using this, hf.l1⟩, ?_⟩
  · refine Kd.R_mono (Kd.R_far (Kd.R_far (Kd.R_lower (Kd.R_bound HR1.out) (Nat.zero_le _)) (fun k hk => ?_) _) (fun k hk => ?_) _) (fun k hk => ⟨.inr hk.2.1, ?_⟩)
    all_goals
      have := hk.2.1
      show k ≠ b
      omega
  · exact ((Keep.of_below (F := F) HB1.out (fun i h1 h2 => by omega)).trans (Keep.setCell _ (F := F) hf.own _) (fun _ _ h => h)).trans (Keep.setCell _ (F := F) hf.own _) (fun _ _ h => h)
set_option maxHeartbeats 1000000 in
theorem reftrim_bad {w : World} {F : Nat → Prop} {b : Nat} {s l : List Int} {lim : Int} (hf : RefAt w F b s l lim) (n : Int) (h : n < 0 ∨ ((s ++ l).length : Int) < n) :
    Calls Try.prog 22 #[.pointer (some ⟨b, 0, none⟩), .int .i64 n] w fun e w' => e = .returned (.int .i64 11) ∧ ∃ k, w' = w.drewN k := by
  obtain ⟨A1, c1, A2, c2, hb, h1, h2, h3⟩ := hf.mem
  have hd := blk_cell hb 0
  have hd1 := blk_cell hb 1
  simp at hd hd1
  have l0 := hf.l0
  have l1 := hf.l1
  rw [List.length_append] at h
  clear hb h1 h2 h3 hf
  by_cases h0 : n < 0
  · have g0 : decide (n < 0) = true := decide_eq_true h0
    go_enter Try.func22, Try.ntmps22
    go_wp2
    go_quiet (fail)
    go_wp2
    go_ret
    exact ⟨rfl, _, rfl⟩
  · have g0 : decide (n < 0) = false := decide_eq_false h0
    have g1 : decide ((s.length : Int) + l.length < n) = true := decide_eq_true (by omega)
    go_enter Try.func22, Try.ntmps22
    go_wp2
    go_quiet (fail)
    go_wp2
    go_ret
    exact ⟨rfl, _, rfl⟩
set_option maxHeartbeats 1000000 in
theorem reftrim_safe {w : World} {F : Nat → Prop} {b : Nat} {s l : List Int} {lim : Int} (hf : RefAt w F b s l lim) (n : Nat) (h : n ≤ s.length) :
    Calls Try.prog 22 #[.pointer (some ⟨b, 0, none⟩), .int .i64 n] w fun e w' => e = .returned (.int .i64 0) ∧ RefAt w' F b (s.take n) [] lim ∧ Keep F w w' := by
  obtain ⟨A1, c1, A2, c2, hb, h1, h2, h3⟩ := hf.mem
  have hd := blk_cell hb 0
  have hd1 := blk_cell hb 1
  have hz := blk_frozen hb 0
  have hz1 := blk_frozen hb 1
  simp at hd hd1
  have HF := Lib.hid hf; have HB := Lib.hid hb; have HR := Lib.hid h1
  have l0 := hf.l0
  have l1 := hf.l1
  have g0 : decide ((n : Int) < 0) = false := decide_eq_false (by omega)
  have g1 : decide ((s.length : Int) + l.length < (n : Int)) = false := decide_eq_false (by omega)
  have g2 : decide ((n : Int) ≤ (s.length : Int)) = true := decide_eq_true (by omega)
  have hlc : s.length ≤ c1 := (Kd.R_reads' h1).2.1
  have hnc : n ≤ c1 := by omega
  clear hf hb h1 h2 h3
  go_enter Try.func22, Try.ntmps22
  go_wp2
  go_quiet (fail)
  go_wp2
  go_ret
  have hf := HF.out
  have hl : (s.take n).length = n := by simp; omega
  refine ⟨rfl, ⟨⟨A1, c1, none, 0, ?_, ?_, Kd.R_nil _ _ _ _ _, fun k _ h => by cases h⟩, hf.own, ?_, hf.l1⟩, ((Keep.drewN F w _).trans (Keep.setCell _ (F := F) hf.own _) (fun _ _ h => h)).trans (Keep.setCell _ (F := F) hf.own _) (fun _ _ h => h)⟩
  · rw [hl]
    have hbd : (w.drewN nq).heap[b]? = some (.cells #[.slice A1 s.length c1, .slice A2 l.length c2, .int .i64 lim] 47 (0, 0)) := HB.out
    simpa using blk_set (blk_set hbd 0 (.slice A1 n c1)) 1 (.slice none 0 0)
  · rw [hl]
    exact Kd.R_far (Kd.R_far (Kd.R_take (Kd.R_drewN HR.out _) (by omega)) (fun k hk => hk.2) _) (fun k hk => hk.2) _
  · rw [hl]; simp; omega
end Go.Proofs.Ytjcfhnmokmadmaa.Crash
