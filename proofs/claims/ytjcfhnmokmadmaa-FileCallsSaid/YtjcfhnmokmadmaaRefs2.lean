/- The contracts of the reference's File, more: Trim, Sync, Crash, Bytes. -/
import Derived.Test.YtjcfhnmokmadmaaRefs
import Derived.Deep.AppendLies
import Derived.Deep.RegionLaw
namespace Go.Proofs.Ytjcfhnmokmadmaa.Crash
set_option linter.unusedVariables false
set_option linter.unusedSimpArgs false
set_option linter.unnecessarySimpa false
open Go.RowKit Go.Proofs.YtjcfhnmokmadmaaW.PrintWords Go.Proofs.YtjcfhnmokmadmaaW.PrintLast Go.Proofs.YtjcfhnmokmadmaaW.PrintMore Go.Proofs.Ytjcfhnmokmadmaa.Mem Go.Proofs.Ytjcfhnmokmadmaa.File Go.Proofs.Ytjcfhnmokmadmaa.PFileCalls
attribute [local go_sem] max2_int min2_int max_two min_two

set_option maxHeartbeats 1000000 in
theorem reftrim_loose {w : World} {F : Nat → Prop} {b : Nat} {s l : List Int} {lim : Int} (hf : RefAt w F b s l lim) (m : Nat) (h0 : 0 < m) (h : m ≤ l.length) :
    Calls Try.prog 22 #[.pointer (some ⟨b, 0, none⟩), .int .i64 ((s.length : Int) + m)] w fun e w' => e = .returned (.int .i64 0) ∧ RefAt w' F b s (l.take m) lim ∧ Keep F w w' := by
  obtain ⟨A1, c1, A2, c2, hb, h1, h2, h3⟩ := hf.mem
  have hd := blk_cell hb 0
  have hd1 := blk_cell hb 1
  have hz := blk_frozen hb 0
  have hz1 := blk_frozen hb 1
  simp at hd hd1
  have HF := Lib.hid hf; have HB := Lib.hid hb; have HR := Lib.hid h2; have HS := Lib.hid h1; have HD := Lib.hid h3
  have l0 := hf.l0
  have l1 := hf.l1
  obtain ⟨n, en⟩ : ∃ n : Nat, n = s.length + m := ⟨_, rfl⟩
  have en' : (s.length : Int) + m = (n : Int) := by omega
  rw [en']
  have g0 : decide ((n : Int) < 0) = false := decide_eq_false (by omega)
  have g1 : decide ((s.length : Int) + l.length < (n : Int)) = false := decide_eq_false (by omega)
  have g2 : decide ((n : Int) ≤ (s.length : Int)) = false := decide_eq_false (by omega)
  have hlc : l.length ≤ c2 := (Kd.R_reads' h2).2.1
  have hnc : n ≤ s.length + c2 := by omega
  have hns : s.length ≤ n := by omega
  have eq : (n : Int) - (s.length : Int) = (m : Int) := by omega
  have hmc : m ≤ c2 := by omega
  clear hf hb h1 h2 h3 en en'
  go_enter Try.func22, Try.ntmps22
  go_wp2
  go_quiet (fail)
  go_wp2
  go_region
  all_goals go_wp2
  go_ret
  have hf := HF.out
  have hl : (l.take m).length = m := by simp; omega
  refine ⟨rfl, ⟨⟨A1, c1, A2, c2, ?_, ?_, ?_, fun k h1 h2 => HD.out k h1 (by cases A2 <;> simpa [Value.ownBlock] using h2)⟩, hf.own, ?_, hf.l1⟩, (Keep.drewN F w _).trans (Keep.setCell _ (F := F) hf.own _) (fun _ _ h => h)⟩
  · rw [hl]
    have hbd : (w.drewN (nq + 1)).heap[b]? = some (.cells #[.slice A1 s.length c1, .slice A2 l.length c2, .int .i64 lim] 47 (0, 0)) := HB.out
    simpa using blk_set hbd 1 (.slice A2 m c2)
  · exact Kd.R_far (Kd.R_drewN HS.out _) (fun k hk => hk.2) _
  · rw [hl]
    exact Kd.R_far (Kd.R_take (Kd.R_drewN HR.out _) (by omega)) (fun k hk => hk.2) _
  · rw [hl]; have := hf.l0; omega
set_option maxHeartbeats 2000000 in
theorem refsync_ok {w : World} {F : Nat → Prop} {b : Nat} {s l : List Int} {lim : Int} (hf : RefAt w F b s l lim) :
    Calls Try.prog 20 #[.pointer (some ⟨b, 0, none⟩)] w fun e w' => e = .returned (.tuple #[]) ∧ RefAt w' (fun k => F k ∨ w.heap.size ≤ k) b (s ++ l) [] lim ∧ Keep F w w' := by
  obtain ⟨A1, c1, A2, c2, hb, h1, h2, h3⟩ := hf.mem
  have hd := blk_cell hb 0
  have hd1 := blk_cell hb 1
  have hz := blk_frozen hb 0
  have hz1 := blk_frozen hb 1
  simp at hd hd1
  have HF := Lib.hid hf; have HB := Lib.hid hb; have HS := Lib.hid h1; have HR := Lib.hid h2; have HD := Lib.hid h3
  have l0 := hf.l0
  have l1 := hf.l1
  have HX := Lib.hid (show (s.length + l.length) * 1 ≤ 140737488355328 by omega)
  clear hf hb h1 h2 h3
  go_enter Try.func20, Try.ntmps20
  go_wp2_with fail
  go_region_law (first
      | (refine Kd.R_append_rows_step (Kd.int .u8) (Rr := (Kd.int .u8).K w) (w0 := w) 0 (by rfl) (.tmp 6) (.tmp 10) 29 5 (.int .u8 0) 1 (by rfl) Try.underlying29 File.info5 rfl (by decide) (by decide) (.slice A1 s.length c1) s l A2 l.length c2 (fun k => F k ∧ k ≠ b ∨ w.heap.size ≤ k) (fun _ => False) (by rfl) (by rfl) ?_ ?_ (fun _ _ h => h) (fun _ h => h.elim) (fun k hk => .inr hk) ?_ (Nat.zero_le _) HX.out ?_
         · exact Kd.R_mono (Kd.R_drew HS.out) (fun k hk => .inl hk)
         · exact (Kd.R_reads' HR.out).2.2
         · exact ⟨rfl, rfl, rfl, Nat.le_refl _, fun _ _ => rfl⟩
         intro v1 w1 hr1 hb1 hg1 hat1
         obtain ⟨A3, c3, e1⟩ := Kd.R_slice hr1
         subst e1
         have HR1 := Lib.hid hr1; have HG1 := Lib.hid hg1
         have hbw : w1.heap[b]? = some (.cells #[.slice A1 s.length c1, .slice A2 l.length c2, .int .i64 lim] 47 (0, 0)) := (hg1.block b (lt_of_blk HB.out) (fun e => (HS.out.1 b e.symm).2 rfl)).trans HB.out
         have HBW := Lib.hid hbw
         have hd3 := blk_cell hbw 0
         have hd4 := blk_cell hbw 1
         have hf1 := blk_frozen hbw 0
         have hf4 := blk_frozen hbw 1
         simp at hd3 hd4
         clear hr1 hg1 hat1 hbw hb1))
  all_goals
    go_wp2
    go_end0
    have hf := HF.out
    have hlt : b < w.heap.size := lt_of_blk HB.out
    have hl : (s ++ l).length = s.length + l.length := List.length_append
    have kd : Keep F w w.drew := ⟨rfl, rfl, rfl, Nat.le_refl _, fun _ _ _ => rfl⟩
    refine ⟨rfl, ⟨⟨A3, c3, none, 0, ?_, ?_, Kd.R_nil _ _ _ _ _, fun k _ h => by cases h⟩, .inl hf.own, by rw [hl]; simp; omega, hf.l1⟩, ?_⟩
    · rw [hl]
      simpa using blk_set (blk_set HBW.out 0 (.slice A3 (s.length + l.length) c3)) 1 (.slice none 0 0)
    · rw [hl]
      have hr3 : (Kd.int .u8).R 5 w1 0 (fun k => F k ∧ k ≠ b ∨ w.heap.size ≤ k) (.slice A3 (s.length + l.length) c3) (s ++ l) := by have := HR1.out; rwa [hl] at this
      refine Kd.R_mono (Kd.R_far (Kd.R_far hr3 (fun k hk => ?_) _) (fun k hk => ?_) _) (fun k hk => hk.elim (fun h => ⟨.inl h.1, h.2⟩) (fun h => ⟨.inr h, by omega⟩))
      all_goals
        rcases hk with h | h
        · exact h.2
        · show k ≠ b
          omega
    · exact ((kd.trans (Keep.of_grown (F := F) HG1.out (fun i hi => (HS.out.1 i hi).1)) (fun _ _ h => h)).trans (Keep.setCell _ (F := F) hf.own _) (fun _ _ h => h)).trans (Keep.setCell _ (F := F) hf.own _) (fun _ _ h => h)
set_option maxHeartbeats 4000000 in
theorem refcrash_ok {w : World} {F : Nat → Prop} {b : Nat} {s l : List Int} {lim : Int} (hf : RefAt w F b s l lim) (keep : Int) (m : Nat) (hm : (m : Int) = min (max keep 0) l.length) :
    Calls Try.prog 23 #[.pointer (some ⟨b, 0, none⟩), .int .i64 keep] w fun e w' => e = .returned (.tuple #[]) ∧ RefAt w' (fun k => F k ∨ w.heap.size ≤ k) b (s ++ l.take m) [] lim ∧ Keep F w w' := by
  obtain ⟨A1, c1, A2, c2, hb, h1, h2, h3⟩ := hf.mem
  have hd := blk_cell hb 0
  have hd1 := blk_cell hb 1
  have hz := blk_frozen hb 0
  have hz1 := blk_frozen hb 1
  simp at hd hd1
  have HF := Lib.hid hf; have HB := Lib.hid hb; have HS := Lib.hid h1; have HR := Lib.hid h2; have HD := Lib.hid h3
  have l0 := hf.l0
  have l1 := hf.l1
  have hml : m ≤ l.length := by omega
  have hlc : l.length ≤ c2 := (Kd.R_reads' h2).2.1
  have hmc : m ≤ c2 := by omega
  have hlm : (l.take m).length = m := by rw [List.length_take]; omega
  have HX := Lib.hid (show (s.length + m) * 1 ≤ 140737488355328 by omega)
  have HT := Lib.hid (show (Kd.int .u8).C w A2 m (l.take m) by have := Kd.C_take (Kd.R_reads' h2).2.2 hml; rwa [hlm] at this)
  have HM := Lib.hid hm; have HLM := Lib.hid hlm
  clear hf hb h1 h2 h3 hlm hm
  rcases Int.lt_or_le keep 0 with hk | hk
  · obtain rfl : m = 0 := by have := HM.out; omega
    go_enter Try.func23, Try.ntmps23
    go_wp2_with fail
    go_region_law (first
        | (refine Kd.R_append_rows_step (Kd.int .u8) (Rr := (Kd.int .u8).K w) (w0 := w) 0 (by rfl) (.tmp 18) (.tmp 24) 29 5 (.int .u8 0) 1 (by rfl) Try.underlying29 File.info5 rfl (by decide) (by decide) (.slice A1 s.length c1) s (l.take 0) A2 0 c2 (fun k => F k ∧ k ≠ b ∨ w.heap.size ≤ k) (fun _ => False) (by rfl) (by rfl) ?_ ?_ (fun _ _ h => h) (fun _ h => h.elim) (fun k hk => .inr hk) ?_ (Nat.zero_le _) HX.out ?_
           · exact Kd.R_mono (Kd.R_drew HS.out) (fun k hk => .inl hk)
           · exact HT.out
           · exact ⟨rfl, rfl, rfl, Nat.le_refl _, fun _ _ => rfl⟩
           intro v1 w1 hr1 hb1 hg1 hat1
           obtain ⟨A3, c3, e1⟩ := Kd.R_slice hr1
           subst e1
           have HR1 := Lib.hid hr1; have HG1 := Lib.hid hg1
           have hbw : w1.heap[b]? = some (.cells #[.slice A1 s.length c1, .slice A2 l.length c2, .int .i64 lim] 47 (0, 0)) := (hg1.block b (lt_of_blk HB.out) (fun e => (HS.out.1 b e.symm).2 rfl)).trans HB.out
           have HBW := Lib.hid hbw
           have hd3 := blk_cell hbw 0
           have hd4 := blk_cell hbw 1
           have hf1 := blk_frozen hbw 0
           have hf4 := blk_frozen hbw 1
           simp at hd3 hd4
           clear hr1 hg1 hat1 hbw hb1))
    all_goals
      go_wp2
      go_end0
      have hf := HF.out
      have hlt : b < w.heap.size := lt_of_blk HB.out
      have kd : Keep F w w.drew := ⟨rfl, rfl, rfl, Nat.le_refl _, fun _ _ _ => rfl⟩
      refine ⟨rfl, ⟨⟨A3, c3, none, 0, ?_, ?_, Kd.R_nil _ _ _ _ _, fun k _ h => by cases h⟩, .inl hf.own, by rw [List.length_append, HLM.out]; simp; omega, hf.l1⟩, ?_⟩
      · simpa using blk_set (blk_set HBW.out 0 (.slice A3 (s ++ l.take 0).length c3)) 1 (.slice none 0 0)
      · refine Kd.R_mono (Kd.R_far (Kd.R_far HR1.out (fun k hk => ?_) _) (fun k hk => ?_) _) (fun k hk => hk.elim (fun h => ⟨.inl h.1, h.2⟩) (fun h => ⟨.inr h, by omega⟩))
        all_goals
          rcases hk with h | h
          · exact h.2
          · show k ≠ b
            omega
      · exact ((kd.trans (Keep.of_grown (F := F) HG1.out (fun i hi => (HS.out.1 i hi).1)) (fun _ _ h => h)).trans (Keep.setCell _ (F := F) hf.own _) (fun _ _ h => h)).trans (Keep.setCell _ (F := F) hf.own _) (fun _ _ h => h)
  · rcases Int.lt_or_le (l.length : Int) keep with hk2 | hk2
    · obtain rfl : m = l.length := by have := HM.out; omega
      have hk3 : ¬ keep < 0 := by omega
      go_enter Try.func23, Try.ntmps23
      go_wp2_with fail
      go_region_law (first
          | (refine Kd.R_append_rows_step (Kd.int .u8) (Rr := (Kd.int .u8).K w) (w0 := w) 0 (by rfl) (.tmp 18) (.tmp 24) 29 5 (.int .u8 0) 1 (by rfl) Try.underlying29 File.info5 rfl (by decide) (by decide) (.slice A1 s.length c1) s (l.take l.length) A2 l.length c2 (fun k => F k ∧ k ≠ b ∨ w.heap.size ≤ k) (fun _ => False) (by rfl) (by rfl) ?_ ?_ (fun _ _ h => h) (fun _ h => h.elim) (fun k hk => .inr hk) ?_ (Nat.zero_le _) HX.out ?_
             · exact Kd.R_mono (Kd.R_drew HS.out) (fun k hk => .inl hk)
             · exact HT.out
             · exact ⟨rfl, rfl, rfl, Nat.le_refl _, fun _ _ => rfl⟩
             intro v1 w1 hr1 hb1 hg1 hat1
             obtain ⟨A3, c3, e1⟩ := Kd.R_slice hr1
             subst e1
             have HR1 := Lib.hid hr1; have HG1 := Lib.hid hg1
             have hbw : w1.heap[b]? = some (.cells #[.slice A1 s.length c1, .slice A2 l.length c2, .int .i64 lim] 47 (0, 0)) := (hg1.block b (lt_of_blk HB.out) (fun e => (HS.out.1 b e.symm).2 rfl)).trans HB.out
             have HBW := Lib.hid hbw
             have hd3 := blk_cell hbw 0
             have hd4 := blk_cell hbw 1
             have hf1 := blk_frozen hbw 0
             have hf4 := blk_frozen hbw 1
             simp at hd3 hd4
             clear hr1 hg1 hat1 hbw hb1))
      all_goals
        go_wp2
        go_end0
        have hf := HF.out
        have hlt : b < w.heap.size := lt_of_blk HB.out
        have kd : Keep F w w.drew := ⟨rfl, rfl, rfl, Nat.le_refl _, fun _ _ _ => rfl⟩
        refine ⟨rfl, ⟨⟨A3, c3, none, 0, ?_, ?_, Kd.R_nil _ _ _ _ _, fun k _ h => by cases h⟩, .inl hf.own, by rw [List.length_append, HLM.out]; simp; omega, hf.l1⟩, ?_⟩
        · simpa using blk_set (blk_set HBW.out 0 (.slice A3 (s ++ l.take l.length).length c3)) 1 (.slice none 0 0)
        · refine Kd.R_mono (Kd.R_far (Kd.R_far HR1.out (fun k hk => ?_) _) (fun k hk => ?_) _) (fun k hk => hk.elim (fun h => ⟨.inl h.1, h.2⟩) (fun h => ⟨.inr h, by omega⟩))
          all_goals
            rcases hk with h | h
            · exact h.2
            · show k ≠ b
              omega
        · exact ((kd.trans (Keep.of_grown (F := F) HG1.out (fun i hi => (HS.out.1 i hi).1)) (fun _ _ h => h)).trans (Keep.setCell _ (F := F) hf.own _) (fun _ _ h => h)).trans (Keep.setCell _ (F := F) hf.own _) (fun _ _ h => h)
    · obtain rfl : keep = (m : Int) := by have := HM.out; omega
      have hk3 : ¬ ((m : Int) < 0) := by omega
      have hk4 : ¬ ((l.length : Int) < (m : Int)) := by omega
      go_enter Try.func23, Try.ntmps23
      go_wp2_with fail
      go_region_law (first
          | (refine Kd.R_append_rows_step (Kd.int .u8) (Rr := (Kd.int .u8).K w) (w0 := w) 0 (by rfl) (.tmp 18) (.tmp 24) 29 5 (.int .u8 0) 1 (by rfl) Try.underlying29 File.info5 rfl (by decide) (by decide) (.slice A1 s.length c1) s (l.take m) A2 m c2 (fun k => F k ∧ k ≠ b ∨ w.heap.size ≤ k) (fun _ => False) (by rfl) (by rfl) ?_ ?_ (fun _ _ h => h) (fun _ h => h.elim) (fun k hk => .inr hk) ?_ (Nat.zero_le _) HX.out ?_
             · exact Kd.R_mono (Kd.R_drew HS.out) (fun k hk => .inl hk)
             · exact HT.out
             · exact ⟨rfl, rfl, rfl, Nat.le_refl _, fun _ _ => rfl⟩
             intro v1 w1 hr1 hb1 hg1 hat1
             obtain ⟨A3, c3, e1⟩ := Kd.R_slice hr1
             subst e1
             have HR1 := Lib.hid hr1; have HG1 := Lib.hid hg1
             have hbw : w1.heap[b]? = some (.cells #[.slice A1 s.length c1, .slice A2 l.length c2, .int .i64 lim] 47 (0, 0)) := (hg1.block b (lt_of_blk HB.out) (fun e => (HS.out.1 b e.symm).2 rfl)).trans HB.out
             have HBW := Lib.hid hbw
             have hd3 := blk_cell hbw 0
             have hd4 := blk_cell hbw 1
             have hf1 := blk_frozen hbw 0
             have hf4 := blk_frozen hbw 1
             simp at hd3 hd4
             clear hr1 hg1 hat1 hbw hb1))
      all_goals
        go_wp2
        go_end0
        have hf := HF.out
        have hlt : b < w.heap.size := lt_of_blk HB.out
        have kd : Keep F w w.drew := ⟨rfl, rfl, rfl, Nat.le_refl _, fun _ _ _ => rfl⟩
        refine ⟨rfl, ⟨⟨A3, c3, none, 0, ?_, ?_, Kd.R_nil _ _ _ _ _, fun k _ h => by cases h⟩, .inl hf.own, by rw [List.length_append, HLM.out]; simp; omega, hf.l1⟩, ?_⟩
        · rw [show (s ++ l.take m).length = s.length + m by rw [List.length_append, HLM.out]]
          simpa using blk_set (blk_set HBW.out 0 (.slice A3 (s.length + m) c3)) 1 (.slice none 0 0)
        · refine Kd.R_mono (Kd.R_far (Kd.R_far HR1.out (fun k hk => ?_) _) (fun k hk => ?_) _) (fun k hk => hk.elim (fun h => ⟨.inl h.1, h.2⟩) (fun h => ⟨.inr h, by omega⟩))
          all_goals
            rcases hk with h | h
            · exact h.2
            · show k ≠ b
              omega
        · exact ((kd.trans (Keep.of_grown (F := F) HG1.out (fun i hi => (HS.out.1 i hi).1)) (fun _ _ h => h)).trans (Keep.setCell _ (F := F) hf.own _) (fun _ _ h => h)).trans (Keep.setCell _ (F := F) hf.own _) (fun _ _ h => h)
end Go.Proofs.Ytjcfhnmokmadmaa.Crash
