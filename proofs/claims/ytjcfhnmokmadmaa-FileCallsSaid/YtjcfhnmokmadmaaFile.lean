/- The contracts of package file: what each method of File does. -/
import Derived.Test.YtjcfhnmokmadmaaMem
namespace Go.Proofs.Ytjcfhnmokmadmaa.File
open Go.RowKit Go.Proofs.YtjcfhnmokmadmaaW.PrintWords Go.Proofs.YtjcfhnmokmadmaaW.PrintLast Go.Proofs.YtjcfhnmokmadmaaW.PrintMore Go.Proofs.Ytjcfhnmokmadmaa.Mem
attribute [local go_sem] max2_int min2_int max_two min_two

theorem info5 : (Try.prog.info? 5).map (fun i => (i.zero, i.size, i.bytes)) = some (some (.int .u8 0), 1, 1) := by kernel_rfl

/-- At b a file: its bytes, how many are synced, its limit; all that it owns lies in F. -/
structure FileAt (w : World) (F : Nat → Prop) (b : Nat) (ds : List Int) (sy lim : Int) : Prop where
  mem : ∃ A c, w.heap[b]? = some (.cells #[.slice A ds.length c, .int .i64 sy, .int .i64 lim] 54 (0, 0)) ∧ (Kd.int .u8).R 5 w 0 (fun k => F k ∧ k ≠ b) (.slice A ds.length c) ds
  own : F b
  byte : Byte ds
  s0 : 0 ≤ sy
  s1 : sy ≤ ds.length
  l0 : (ds.length : Int) ≤ lim
  l1 : lim ≤ 1048576

section
variable {w w' : World} {F G : Nat → Prop} {b : Nat} {ds : List Int} {sy lim : Int}
theorem FileAt.kept (h : FileAt w F b ds sy lim) (hk : Keep G w w') (hd : ∀ k, F k → k < w.heap.size → ¬ G k) : FileAt w' F b ds sy lim := by
  obtain ⟨A, c, hb, hr⟩ := h.mem
  exact ⟨⟨A, c, hk.at_ hb (hd b h.own (lt_of_blk hb)), R_kept hr hk (fun k hk' => hd k hk'.1)⟩, h.own, h.byte, h.s0, h.s1, h.l0, h.l1⟩
theorem FileAt.mono (h : FileAt w F b ds sy lim) (hFG : ∀ k, F k → k < w.heap.size → G k) : FileAt w G b ds sy lim := by
  obtain ⟨A, c, hb, hr⟩ := h.mem
  exact ⟨⟨A, c, hb, Kd.R_mono (Kd.R_bound hr) (fun k hk => ⟨hFG k hk.1.1 hk.2.2.1, hk.1.2⟩)⟩, hFG b h.own (lt_of_blk hb), h.byte, h.s0, h.s1, h.l0, h.l1⟩
theorem FileAt.lt (h : FileAt w F b ds sy lim) : b < w.heap.size := by
  obtain ⟨A, c, hb, hr⟩ := h.mem
  exact lt_of_blk hb
end

set_option maxHeartbeats 400000 in
theorem new_ok (r : Int) (w : World) (h0 : 0 ≤ r) (h1 : r ≤ 1048576) :
    Calls Try.prog 9 #[.int .i64 r] w fun e w' => ∃ b, e = .returned (.tuple #[.pointer (some ⟨b, 0, none⟩), .int .i64 0]) ∧ FileAt w' (fun k => w.heap.size ≤ k) b [] 0 r ∧ Below w.heap.size w w' := by
  have g0 : decide (r < 0) = false := by simp; omega
  have g1 : decide (1048576 < r) = false := by simp; omega
  go_enter Try.func9, Try.ntmps9
  go_wp2
  go_ret2
  refine ⟨w.heap.size, rfl, ⟨⟨none, 0, heap_alloc_new w _, Kd.R_nil _ _ _ _ _⟩, Nat.le_refl _, fun _ h => (by cases h), Int.le_refl _, by simp, by simpa using h0, h1⟩, (Below.refl _ _).alloc (Nat.le_refl _) _⟩
set_option maxHeartbeats 400000 in
theorem new_bad (r : Int) (w : World) (h : r < 0 ∨ 1048576 < r) :
    Calls Try.prog 9 #[.int .i64 r] w fun e w' => e = .returned (.tuple #[.pointer none, .int .i64 11]) ∧ w' = w := by
  by_cases h0 : r < 0
  · have g0 : decide (r < 0) = true := by simp; omega
    go_enter Try.func9, Try.ntmps9
    go_wp2
    go_ret2
    exact ⟨rfl, rfl⟩
  · have g0 : decide (r < 0) = false := by simp; omega
    have g1 : decide (1048576 < r) = true := by simp; omega
    go_enter Try.func9, Try.ntmps9
    go_wp2
    go_ret2
    exact ⟨rfl, rfl⟩

set_option maxHeartbeats 400000 in
theorem room_ok {w : World} {F : Nat → Prop} {b : Nat} {ds : List Int} {sy lim : Int} (hf : FileAt w F b ds sy lim) :
    Calls Try.prog 26 #[.pointer (some ⟨b, 0, none⟩)] w fun e w' => e = .returned (.int .i64 (lim - ds.length)) ∧ ∃ k, w' = w.drewN k := by
  obtain ⟨A, c, hb, hr⟩ := hf.mem
  have hd := blk_cell hb 0
  have h2 := blk_cell hb 2
  simp at hd h2
  have l0 := hf.l0
  have l1 := hf.l1
  clear hb hr hf
  go_enter Try.func26, Try.ntmps26
  go_wp2
  go_quiet (fail)
  go_wp2
  go_ret
  exact ⟨rfl, _, rfl⟩
set_option maxHeartbeats 400000 in
theorem size_ok {w : World} {F : Nat → Prop} {b : Nat} {ds : List Int} {sy lim : Int} (hf : FileAt w F b ds sy lim) :
    Calls Try.prog 14 #[.pointer (some ⟨b, 0, none⟩)] w fun e w' => e = .returned (.int .i64 ds.length) ∧ w' = w := by
  obtain ⟨A, c, hb, hr⟩ := hf.mem
  have hd := blk_cell hb 0
  simp at hd
  clear hb hr hf
  go_enter Try.func14, Try.ntmps14
  go_wp2
  go_ret
  exact ⟨rfl, rfl⟩
set_option maxHeartbeats 400000 in
theorem synced_ok {w : World} {F : Nat → Prop} {b : Nat} {ds : List Int} {sy lim : Int} (hf : FileAt w F b ds sy lim) :
    Calls Try.prog 25 #[.pointer (some ⟨b, 0, none⟩)] w fun e w' => e = .returned (.int .i64 sy) ∧ w' = w := by
  obtain ⟨A, c, hb, hr⟩ := hf.mem
  have hd := blk_cell hb 1
  simp at hd
  clear hb hr hf
  go_enter Try.func25, Try.ntmps25
  go_wp2
  go_ret
  exact ⟨rfl, rfl⟩
set_option maxHeartbeats 400000 in
theorem sync_raw {w : World} {b n c : Nat} {A : Option Addr} {s l : Value} (hb : w.heap[b]? = some (.cells #[.slice A n c, s, l] 54 (0, 0))) :
    Calls Try.prog 11 #[.pointer (some ⟨b, 0, none⟩)] w fun e w' => e = .returned (.tuple #[]) ∧ w' = w.setCell ⟨b, 1, none⟩ (.int .i64 n) := by
  have hd := blk_cell hb 0
  have hfz := blk_frozen hb 1
  have h1 := blk_cell hb 1
  simp at hd h1
  clear hb
  go_enter Try.func11, Try.ntmps11
  go_wp2
  go_end0
  exact ⟨rfl, rfl⟩
theorem sync_ok {w : World} {F : Nat → Prop} {b : Nat} {ds : List Int} {sy lim : Int} (hf : FileAt w F b ds sy lim) :
    Calls Try.prog 11 #[.pointer (some ⟨b, 0, none⟩)] w fun e w' => e = .returned (.tuple #[]) ∧ FileAt w' F b ds ds.length lim ∧ Keep F w w' := by
  obtain ⟨A, c, hb, hr⟩ := hf.mem
  refine (sync_raw hb).mono ?_
  rintro e w' ⟨rfl, rfl⟩
  exact ⟨rfl, ⟨⟨A, c, by simpa using blk_set hb 1 (.int .i64 ds.length), Kd.R_far hr (fun k hk => hk.2) _⟩, hf.own, hf.byte, by omega, Int.le_refl _, hf.l0, hf.l1⟩, Keep.setCell _ hf.own _⟩
set_option maxHeartbeats 400000 in
theorem append_full {w : World} {F : Nat → Prop} {b : Nat} {ds : List Int} {sy lim : Int} (hf : FileAt w F b ds sy lim) (A : Option Addr) (m c : Nat) (hm : lim - ds.length < m) :
    Calls Try.prog 10 #[.pointer (some ⟨b, 0, none⟩), .slice A m c] w fun e w' => e = .returned (.int .i64 14) ∧ ∃ k, w' = w.drewN k := by
  have g : decide (lim - (ds.length : Int) < m) = true := by simp; omega
  have HF := Lib.hid hf
  clear hf hm
  go_enter Try.func10, Try.ntmps10
  go_wp2_with ((go_at_call 26; refine (room_ok HF.out).mono ?_; rintro e w1 ⟨rfl, k, rfl⟩))
  go_ret
  exact ⟨rfl, _, rfl⟩
set_option maxHeartbeats 400000 in
theorem append_ok {w : World} {F : Nat → Prop} {b : Nat} {ds : List Int} {sy lim : Int} (hf : FileAt w F b ds sy lim) (A : Option Addr) (m c : Nat) (ys : List Int) (hys : Byte ys) (hc : (Kd.int .u8).C w A m ys) (hm : (m : Int) ≤ lim - ds.length) :
    Calls Try.prog 10 #[.pointer (some ⟨b, 0, none⟩), .slice A m c] w fun e w' => e = .returned (.int .i64 0) ∧ FileAt w' (fun k => F k ∨ w.heap.size ≤ k) b (ds ++ ys) sy lim ∧ Keep F w w' := by
  have g : decide (lim - (ds.length : Int) < m) = false := by simp; omega
  obtain ⟨A0, c0, hb, hr⟩ := hf.mem
  have HF := Lib.hid hf; have HB := Lib.hid hb; have HR := Lib.hid hr; have HC := Lib.hid hc; have HM := Lib.hid hm
  have hd := blk_cell hb 0
  simp at hd
  clear hf hb hr hc hm
  go_enter Try.func10, Try.ntmps10
  go_wp2_with (first
    | (go_at_call 26; refine (room_ok HF.out).mono ?_; rintro e w1 ⟨rfl, k, rfl⟩)
    | (at_builtin
       refine Kd.R_append_row (Value.int .u8) 0 (w0 := w) 0 rfl (.tmp 14) (.tmp 15) 29 5 _ 1 rfl Try.underlying29 info5 rfl (by decide) (.slice A0 ds.length c0) ds ys A m c (fun k => F k ∧ k ≠ b ∨ w.heap.size ≤ k) rfl rfl (fun k hk => .inr hk)
         (Kd.R_mono (Kd.R_drewN HR.out _) (fun k hk => .inl hk)) (Kd.C_drewN HC.out _) (pw_below_drewN (Below.refl _ _) _) (Nat.zero_le _) (by have := HF.out.l1; have := HF.out.l0; have := HM.out; omega) ?_
       intro v1 w1 hr1 hb1 hg1 hat1
       obtain ⟨A1, c1, e1⟩ := Kd.R_slice hr1
       subst e1
       have HR1 := Lib.hid hr1; have HG1 := Lib.hid hg1
       have hne : some b ≠ (Value.slice A0 ds.length c0).ownBlock := fun e => (HR.out.1 b e.symm).2 rfl
       have hbw : w1.heap[b]? = some (.cells #[.slice A0 ds.length c0, .int .i64 sy, .int .i64 lim] 54 (0, 0)) := (hg1.block b (lt_of_blk HB.out) hne).trans HB.out
       have HBW := Lib.hid hbw
       have hd1 := blk_cell hbw 0
       have hf1 := blk_frozen hbw 0
       simp at hd1
       clear hr1 hg1 hat1 hne hbw hb1))
  go_ret
  have hf := HF.out
  have hlt : b < w.heap.size := lt_of_blk HB.out
  refine ⟨rfl, ⟨⟨A1, c1, by simpa using blk_set HBW.out 0 (.slice A1 (ds ++ ys).length c1), Kd.R_mono (Kd.R_far HR1.out (fun k hk => hk.elim (fun h => h.2) (fun h => (show k ≠ b by omega))) _) (fun k hk => hk.elim (fun h => ⟨.inl h.1, h.2⟩) (fun h => ⟨.inr h, by omega⟩))⟩, .inl hf.own, hf.byte.app hys, hf.s0, by have := hf.s1; simp; omega, ?_, hf.l1⟩, ?_⟩
  · have := HC.out.1; have := HM.out; simp; omega
  · refine (Keep.of_grown (F := F) (a := w) (row := (Value.slice A0 ds.length c0).ownBlock) ?_ ?_).trans (Keep.setCell _ (F := F) hf.own _) (fun _ _ h => h)
    · exact ⟨HG1.out.os, HG1.out.tape, HG1.out.output, HG1.out.size, HG1.out.block⟩
    · intro i hi
      exact (HR.out.1 i hi).1

set_option maxHeartbeats 400000 in
theorem clone_ok (w : World) (A : Option Addr) (m c : Nat) (ys : List Int) (hc : (Kd.int .u8).C w A m ys) (hm : m ≤ 140737488351232) :
    Calls Try.prog 31 #[.slice A m c] w fun e w' => ∃ v, e = .returned v ∧ (Kd.int .u8).R 5 w' w.heap.size (fun _ => True) v ys ∧ Below w.heap.size w w' := by
  have hn := Lib.run_eql_slice_nil (P := Try.prog) w 29 5 A m c 0 0 Try.underlying29
  have HC := Lib.hid hc
  clear hc
  cases A with
  | none =>
    go_enter Try.func31, Try.ntmps31
    go_wp2
    go_ret
    have h0 : ys = [] := by
      have h := HC.out
      have hl := h.1
      rcases Nat.eq_zero_or_pos m with h0 | h0
      · exact List.eq_nil_of_length_eq_zero (by omega)
      · obtain ⟨ad, h, _⟩ := h.2.2 h0; cases h
    subst h0
    exact ⟨_, rfl, Kd.R_nil _ _ _ _ _, Below.refl _ _⟩
  | some ad =>
    go_enter Try.func31, Try.ntmps31
    go_wp2_with (first
      | ((with_reducible refine gate_dst (N := 5) rfl ?_)
         refine Kd.R_lit (Kd.int .u8) _ 5 ?hg (N := 5) ?hd (xs := ([] : List Int)) (inner := []) (ok := fun _ => True) (okp := fun _ => True) ?hr ?hp (fun _ hk => hk) trivial (Below.refl _ _) (Nat.le_refl _) (by simp) ?_
         (case hd => rfl)
         (case hg => rfl)
         (case hr => first | (go_simp; done) | (go_simp; rfl))
         (case hp => exact (Reps.none _ _))
         intro v5 w3 ho4 hb hg_ hnew_
         have HO4 := Lib.hid ho4; have HB := Lib.hid hb
         clear hg_ hnew_ ho4 hb)
      | (at_builtin
         refine Kd.R_append_row (Value.int .u8) 0 (w0 := w) w.heap.size rfl (.tmp 5) (.tmp 6) 29 5 _ 1 rfl Try.underlying29 info5 rfl (by decide) v5 [] ys (some ad) m c (fun _ => True) rfl rfl (fun k hk => trivial)
           HO4.out (Kd.C_below HC.out HB.out) HB.out HB.out.size (by simp; omega) ?_
         intro v1 w1 hr1 hb1 hg1 hat1
         have HR1 := Lib.hid hr1; have HB1 := Lib.hid hb1
         clear hr1 hg1 hat1 hb1))
    go_ret
    exact ⟨_, rfl, HR1.out, HB1.out⟩
set_option maxHeartbeats 400000 in
theorem bytes_ok {w : World} {F : Nat → Prop} {b : Nat} {ds : List Int} {sy lim : Int} (hf : FileAt w F b ds sy lim) :
    Calls Try.prog 13 #[.pointer (some ⟨b, 0, none⟩)] w fun e w' => ∃ v, e = .returned v ∧ (Kd.int .u8).R 5 w' w.heap.size (fun _ => True) v ds ∧ Below w.heap.size w w' := by
  obtain ⟨A, c, hb, hr⟩ := hf.mem
  have hd := blk_cell hb 0
  simp at hd
  have HR := Lib.hid (Kd.R_reads' hr).2.2
  have HF := Lib.hid hf
  clear hb hr hf
  go_enter Try.func13, Try.ntmps13
  go_wp2_with ((go_at_call 31; refine (clone_ok w A ds.length c ds HR.out (by have := HF.out.l0; have := HF.out.l1; omega)).mono ?_; rintro e w1 ⟨v, rfl, hr, hb⟩
                have HR1 := Lib.hid hr; have HB1 := Lib.hid hb; clear hr hb))
  go_ret
  exact ⟨_, rfl, HR1.out, HB1.out⟩
set_option maxHeartbeats 400000 in
theorem replace_full {w : World} {F : Nat → Prop} {b : Nat} {ds : List Int} {sy lim : Int} (hf : FileAt w F b ds sy lim) (A : Option Addr) (m c : Nat) (hm : lim < m) :
    Calls Try.prog 32 #[.pointer (some ⟨b, 0, none⟩), .slice A m c] w fun e w' => e = .returned (.int .i64 14) ∧ w' = w := by
  obtain ⟨A0, c0, hb, hr⟩ := hf.mem
  have hd := blk_cell hb 2
  simp at hd
  have g : decide (lim < (m : Int)) = true := by simp; omega
  clear hb hr hf hm
  go_enter Try.func32, Try.ntmps32
  go_wp2
  go_ret
  exact ⟨rfl, rfl⟩
set_option maxHeartbeats 400000 in
theorem replace_ok {w : World} {F : Nat → Prop} {b : Nat} {ds : List Int} {sy lim : Int} (hf : FileAt w F b ds sy lim) (A : Option Addr) (m c : Nat) (ys : List Int) (hys : Byte ys) (hc : (Kd.int .u8).C w A m ys) (hm : (m : Int) ≤ lim) :
    Calls Try.prog 32 #[.pointer (some ⟨b, 0, none⟩), .slice A m c] w fun e w' => e = .returned (.int .i64 0) ∧ FileAt w' (fun k => F k ∨ w.heap.size ≤ k) b ys ys.length lim ∧ Keep F w w' := by
  obtain ⟨A0, c0, hb, hr⟩ := hf.mem
  have HF := Lib.hid hf; have HB := Lib.hid hb; have HC := Lib.hid hc; have HM := Lib.hid hm
  have hd := blk_cell hb 2
  simp at hd
  have g : decide (lim < (m : Int)) = false := by simp; omega
  clear hf hb hr hc hm
  go_enter Try.func32, Try.ntmps32
  go_wp2_with (first
    | (go_at_call 31; refine (clone_ok w A m c ys HC.out (by have := HF.out.l1; have := HM.out; omega)).mono ?_; rintro e w1 ⟨v, rfl, hr1, hb1⟩
       obtain ⟨A1, c1, e1⟩ := Kd.R_slice hr1
       subst e1
       have hbw := (hb1.block b (lt_of_blk HB.out)).trans HB.out
       have HBW := Lib.hid hbw
       have hd1 := blk_cell hbw 0
       have hf1 := blk_frozen hbw 0
       simp at hd1
       have HR1 := Lib.hid hr1; have HB1 := Lib.hid hb1
       clear hr1 hb1 hbw)
    | (go_at_call 11
       have hset : (w1.setCell ⟨b, 0, none⟩ (.slice A1 ys.length c1)).heap[b]? = some (.cells #[.slice A1 ys.length c1, .int .i64 sy, .int .i64 lim] 54 (0, 0)) := by simpa using blk_set HBW.out 0 (.slice A1 ys.length c1)
       refine (sync_raw hset).mono ?_
       have HSET := Lib.hid hset
       clear hset
       rintro e w2 ⟨rfl, rfl⟩))
  go_ret
  have hf := HF.out
  have hlt : b < w.heap.size := lt_of_blk HB.out
  refine ⟨rfl, ⟨⟨A1, c1, by simpa using blk_set HSET.out 1 (.int .i64 ys.length), ?_⟩, .inl hf.own, hys, by omega, Int.le_refl _, by have := HC.out.1; have := HM.out; omega, hf.l1⟩, ?_⟩
  · refine Kd.R_mono (Kd.R_far (Kd.R_far (Kd.R_lower (Kd.R_bound HR1.out) (Nat.zero_le _)) (fun k hk => ?_) _) (fun k hk => ?_) _) (fun k hk => ⟨.inr hk.2.1, ?_⟩)
    all_goals
      have := hk.2.1
      show k ≠ b
      omega
  · exact ((Keep.of_below (F := F) HB1.out (fun i h1 h2 => by omega)).trans (Keep.setCell _ (F := F) hf.own _) (fun _ _ h => h)).trans (Keep.setCell _ (F := F) hf.own _) (fun _ _ h => h)
set_option maxHeartbeats 400000 in
theorem trim_bad {w : World} {F : Nat → Prop} {b : Nat} {ds : List Int} {sy lim : Int} (hf : FileAt w F b ds sy lim) (n : Int) (h : n < 0 ∨ (ds.length : Int) < n) :
    Calls Try.prog 33 #[.pointer (some ⟨b, 0, none⟩), .int .i64 n] w fun e w' => e = .returned (.int .i64 11) ∧ ∃ k, w' = w.drewN k := by
  obtain ⟨A, c, hb, hr⟩ := hf.mem
  have hd := blk_cell hb 0
  simp at hd
  clear hb hr hf
  by_cases h0 : n < 0
  · have g0 : decide (n < 0) = true := by simp; omega
    go_enter Try.func33, Try.ntmps33
    go_wp2
    repeat (go_quiet (fail); try go_wp2)
    go_ret
    exact ⟨rfl, by first | exact ⟨_, rfl⟩ | exact ⟨0, rfl⟩⟩
  · have g0 : decide (n < 0) = false := by simp; omega
    have g1 : decide ((ds.length : Int) < n) = true := decide_eq_true (by omega)
    go_enter Try.func33, Try.ntmps33
    go_wp2
    repeat (go_quiet (fail); try go_wp2)
    go_ret
    exact ⟨rfl, by first | exact ⟨_, rfl⟩ | exact ⟨0, rfl⟩⟩
set_option maxHeartbeats 400000 in
theorem trim_ok {w : World} {F : Nat → Prop} {b : Nat} {ds : List Int} {sy lim : Int} (hf : FileAt w F b ds sy lim) (n : Nat) (h : n ≤ ds.length) :
    Calls Try.prog 33 #[.pointer (some ⟨b, 0, none⟩), .int .i64 n] w fun e w' => e = .returned (.int .i64 0) ∧ FileAt w' F b (ds.take n) (min sy n) lim ∧ Keep F w w' := by
  obtain ⟨A, c, hb, hr⟩ := hf.mem
  have hd := blk_cell hb 0
  have hd1 := blk_cell hb 1
  have hz := blk_frozen hb 0
  have hz1 := blk_frozen hb 1
  simp at hd hd1
  have HF := Lib.hid hf; have HB := Lib.hid hb; have HR := Lib.hid hr
  have g0 : decide ((n : Int) < 0) = false := decide_eq_false (by omega)
  have g1 : decide ((ds.length : Int) < (n : Int)) = false := decide_eq_false (by omega)
  have hlc : ds.length ≤ c := (Kd.R_reads' hr).2.1
  have hnc : n ≤ c := by omega
  clear hf hb hr
  go_enter Try.func33, Try.ntmps33
  go_wp2
  repeat (go_quiet (fail); try go_wp2)
  all_goals
    go_ret
    have hf := HF.out
    have hl : (ds.take n).length = n := by simp; omega
    refine ⟨rfl, ⟨⟨A, c, ?_, ?_⟩, hf.own, hf.byte.take n, ?_, ?_, ?_, hf.l1⟩, (Keep.setCell _ (F := F) hf.own _).trans (Keep.setCell _ (F := F) hf.own _) (fun _ _ h => h)⟩
    · have := blk_set (blk_set HB.out 0 (.slice A n c)) 1
      rw [hl]
      first
        | (rw [show min sy (n : Int) = sy from by omega]; simpa using this (.int .i64 sy))
        | (rw [show min sy (n : Int) = n from by omega]; simpa using this (.int .i64 n))
    · rw [hl]
      exact Kd.R_far (Kd.R_far (Kd.R_take HR.out (by omega)) (fun k hk => hk.2) _) (fun k hk => hk.2) _
    · have := hf.s0; omega
    · rw [hl]; omega
    · rw [hl]; have := hf.l0; omega
theorem sync_after {w : World} {b n0 c0 n c : Nat} {A0 A : Option Addr} {s l : Value} (hb : w.heap[b]? = some (.cells #[.slice A0 n0 c0, s, l] 54 (0, 0))) (k : Nat) :
    Calls Try.prog 11 #[.pointer (some ⟨b, 0, none⟩)] ((w.drewN k).setCell ⟨b, 0, none⟩ (.slice A n c)) fun e w' => e = .returned (.tuple #[]) ∧ w' = ((w.drewN k).setCell ⟨b, 0, none⟩ (.slice A n c)).setCell ⟨b, 1, none⟩ (.int .i64 n) :=
  sync_raw (by simpa using blk_set (w := w.drewN k) hb 0 (.slice A n c))
theorem crash_end {w : World} {F : Nat → Prop} {b : Nat} {ds : List Int} {sy lim : Int} {A : Option Addr} {c : Nat} (hf : FileAt w F b ds sy lim) (hb : w.heap[b]? = some (.cells #[.slice A ds.length c, .int .i64 sy, .int .i64 lim] 54 (0, 0)))
    (hr : (Kd.int .u8).R 5 w 0 (fun k => F k ∧ k ≠ b) (.slice A ds.length c) ds) (n : Nat) (hn : n ≤ ds.length) (k : Nat) (x : Int) (hx : x = n) :
    FileAt (((w.drewN k).setCell ⟨b, 0, none⟩ (.slice A n c)).setCell ⟨b, 1, none⟩ (.int .i64 x)) F b (ds.take n) n lim ∧ Keep F w (((w.drewN k).setCell ⟨b, 0, none⟩ (.slice A n c)).setCell ⟨b, 1, none⟩ (.int .i64 x)) := by
  subst hx
  have hl : (ds.take n).length = n := by simp; omega
  refine ⟨⟨⟨A, c, ?_, ?_⟩, hf.own, hf.byte.take n, by omega, by omega, ?_, hf.l1⟩, ((Keep.drewN F w k).trans (Keep.setCell _ (F := F) hf.own _) (fun _ _ h => h)).trans (Keep.setCell _ (F := F) hf.own _) (fun _ _ h => h)⟩
  · rw [hl]; simpa using blk_set (blk_set (w := w.drewN k) hb 0 (.slice A n c)) 1 (.int .i64 n)
  · rw [hl]
    exact Kd.R_far (Kd.R_far (Kd.R_take (Kd.R_drewN hr k) hn) (fun k hk => hk.2) _) (fun k hk => hk.2) _
  · have := hf.l0; omega
set_option maxHeartbeats 400000 in
theorem crash_ok {w : World} {F : Nat → Prop} {b : Nat} {ds : List Int} {sy lim : Int} (hf : FileAt w F b ds sy lim) (keep : Int) :
    Calls Try.prog 28 #[.pointer (some ⟨b, 0, none⟩), .int .i64 keep] w fun e w' => e = .returned (.tuple #[]) ∧ ∃ n : Nat, (n : Int) = sy + min (max keep 0) (ds.length - sy) ∧ FileAt w' F b (ds.take n) n lim ∧ Keep F w w' := by
  obtain ⟨A, c, hb, hr⟩ := hf.mem
  have hd := blk_cell hb 0
  have hd1 := blk_cell hb 1
  have hz := blk_frozen hb 0
  have hz1 := blk_frozen hb 1
  simp at hd hd1
  have HF := Lib.hid hf; have HB := Lib.hid hb; have HR := Lib.hid hr
  have hlc : ds.length ≤ c := (Kd.R_reads' hr).2.1
  have s0 := hf.s0
  have s1 := hf.s1
  have l0 := hf.l0
  have l1 := hf.l1
  clear hf hb hr
  go_enter Try.func28, Try.ntmps28
  go_wp2
  go_quiet (fail)
  go_wp2
  go_region
  all_goals go_wp2_with (go_at_call 11; refine (sync_after HB.out _).mono ?_; rintro e w2 ⟨rfl, rfl⟩)
  all_goals
    go_end0
    refine ⟨rfl, _, ?_, crash_end HF.out HB.out HR.out _ ?_ _ _ ?_⟩
    all_goals first | omega | (split at * <;> omega)
set_option maxHeartbeats 400000 in
theorem load_ok (w : World) (A : Option Addr) (m c : Nat) (ys : List Int) (hys : Byte ys) (hc : (Kd.int .u8).C w A m ys) (r : Int) (h0 : 0 ≤ r) (h1 : r ≤ 1048576) (hm : (m : Int) ≤ r) :
    Calls Try.prog 29 #[.slice A m c, .int .i64 r] w fun e w' => ∃ b, e = .returned (.tuple #[.pointer (some ⟨b, 0, none⟩), .int .i64 0]) ∧ FileAt w' (fun k => w.heap.size ≤ k) b ys ys.length r ∧ Below w.heap.size w w' := by
  have HC := Lib.hid hc; have HM := Lib.hid hm
  clear hc hm
  go_enter Try.func29, Try.ntmps29
  go_wp2_with (first
    | (go_at_call 9; refine (new_ok r w h0 h1).mono ?_; rintro e w1 ⟨b, rfl, hf, hb⟩
       have HF := Lib.hid hf; have HB := Lib.hid hb; clear hf hb)
    | (go_at_call 32; refine (replace_ok HF.out A m c ys hys (Kd.C_below HC.out HB.out) HM.out).mono ?_; rintro e w2 ⟨rfl, hf2, hk⟩
       have HF2 := Lib.hid hf2; have HK := Lib.hid hk; clear hf2 hk))
  go_ret2
  exact ⟨b, rfl, HF2.out.mono (fun k hk _ => hk.elim id (fun h => Nat.le_trans HB.out.size h)), HB.out.trans (HK.out.below (fun i hi h => by omega) HB.out.size)⟩
set_option maxHeartbeats 400000 in
theorem load_range (w : World) (v : Value) (r : Int) (h : r < 0 ∨ 1048576 < r) :
    Calls Try.prog 29 #[v, .int .i64 r] w fun e w' => e = .returned (.tuple #[.pointer none, .int .i64 11]) ∧ w' = w := by
  go_enter Try.func29, Try.ntmps29
  go_wp2_with (go_at_call 9; refine (new_bad r w h).mono ?_; rintro e w1 ⟨rfl, rfl⟩)
  go_ret2
  exact ⟨rfl, rfl⟩
set_option maxHeartbeats 400000 in
theorem load_full (w : World) (A : Option Addr) (m c : Nat) (r : Int) (h0 : 0 ≤ r) (h1 : r ≤ 1048576) (hm : r < (m : Int)) :
    Calls Try.prog 29 #[.slice A m c, .int .i64 r] w fun e w' => e = .returned (.tuple #[.pointer none, .int .i64 14]) ∧ Below w.heap.size w w' := by
  have HM := Lib.hid hm
  clear hm
  go_enter Try.func29, Try.ntmps29
  go_wp2_with (first
    | (go_at_call 9; refine (new_ok r w h0 h1).mono ?_; rintro e w1 ⟨b, rfl, hf, hb⟩
       have HF := Lib.hid hf; have HB := Lib.hid hb; clear hf hb)
    | (go_at_call 32; refine (replace_full HF.out A m c HM.out).mono ?_; rintro e w2 ⟨rfl, rfl⟩))
  go_ret2
  exact ⟨rfl, HB.out⟩
end Go.Proofs.Ytjcfhnmokmadmaa.File
