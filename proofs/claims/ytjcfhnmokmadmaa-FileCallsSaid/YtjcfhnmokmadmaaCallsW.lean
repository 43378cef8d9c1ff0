/- FileCalls, the walk: every row of calls is answered as the document says, and leaves its bytes. -/
import Derived.Test.YtjcfhnmokmadmaaRefs3
namespace Go.Proofs.Ytjcfhnmokmadmaa.Crash
set_option linter.unusedVariables false
set_option linter.unusedSimpArgs false
set_option linter.unnecessarySimpa false
open Go.RowKit Go.Proofs.YtjcfhnmokmadmaaW.PrintWords Go.Proofs.YtjcfhnmokmadmaaW.PrintLast Go.Proofs.YtjcfhnmokmadmaaW.PrintMore Go.Proofs.Ytjcfhnmokmadmaa.Mem Go.Proofs.Ytjcfhnmokmadmaa.File Go.Proofs.Ytjcfhnmokmadmaa.PFileCalls
attribute [local go_sem] max2_int min2_int max_two min_two

/-- What a call makes of the reference's two rows. -/
def doS (what n : Int) (data s l : List Int) (lim : Int) : List Int × List Int :=
  if what = 0 then (if lim - (s ++ l).length < data.length then (s, l) else (s, l ++ data))
  else if what = 1 then (s ++ l, [])
  else if what = 2 then (if lim < data.length then (s, l) else (data, []))
  else if what = 3 then (if n < 0 ∨ ((s ++ l).length : Int) < n then (s, l) else if n ≤ s.length then (s.take n.toNat, []) else (s, l.take (n.toNat - s.length)))
  else if what = 4 then (s ++ l.take (min (max n 0) l.length).toNat, [])
  else (s, l)
theorem doS_doD (what n : Int) (data s l : List Int) (lim : Int) : doD what n data (s ++ l) s.length lim = ((doS what n data s l lim).1 ++ (doS what n data s l lim).2, ((doS what n data s l lim).1.length : Int)) := by
  unfold doD doS
  split
  · split <;> simp
  · split
    · simp
    · split
      · split <;> simp
      · split
        · by_cases c : n < 0 ∨ ((s ++ l).length : Int) < n
          · rw [if_pos c, if_pos c]
          · rw [if_neg c, if_neg c]
            rw [List.length_append] at c
            by_cases c2 : n ≤ s.length
            · rw [if_pos c2]
              simp only [List.append_nil, Prod.mk.injEq]
              refine ⟨by rw [List.take_append_of_le_length (by omega)], ?_⟩
              rw [List.length_take]; omega
            · rw [if_neg c2]
              simp only [Prod.mk.injEq]
              refine ⟨by rw [List.take_append, List.take_of_length_le (by omega)], by omega⟩
        · split
          · have e : left (s ++ l).length s.length n = s.length + (min (max n 0) l.length).toNat := by unfold left; rw [List.length_append]; omega
            rw [e]
            simp only [List.append_nil, Prod.mk.injEq]
            refine ⟨by rw [List.take_append, List.take_of_length_le (by omega)]; congr 2; omega, ?_⟩
            rw [List.length_append, List.length_take]; omega
          · rfl

section
variable (n : Int) (data s l ds : List Int) (lim : Int)
theorem doE1 : doE 1 n data ds lim = 0 := rfl
theorem doE2 : doE 2 n data ds lim = if lim < data.length then 14 else 0 := rfl
theorem doE3 : doE 3 n data ds lim = if n < 0 ∨ (ds.length : Int) < n then 11 else 0 := rfl
theorem doE4 : doE 4 n data ds lim = 0 := rfl
theorem doS1 : doS 1 n data s l lim = (s ++ l, []) := rfl
theorem doS2 : doS 2 n data s l lim = if lim < data.length then (s, l) else (data, []) := rfl
theorem doS3 : doS 3 n data s l lim = if n < 0 ∨ ((s ++ l).length : Int) < n then (s, l) else if n ≤ s.length then (s.take n.toNat, []) else (s, l.take (n.toNat - s.length)) := rfl
theorem doS4 : doS 4 n data s l lim = (s ++ l.take (min (max n 0) l.length).toNat, []) := rfl
end
/-- The two files, side by side, apart from each other and from the blocks of O. -/
def Two (w0 W : World) (b b' : Nat) (ds : List Int) (sy : Int) (s l : List Int) (room : Int) (O : Nat → Prop) : Prop :=
  ∃ F1 F2 : Nat → Prop, FileAt W F1 b ds sy room ∧ RefAt W F2 b' s l room ∧ (∀ k, F1 k → w0.heap.size ≤ k ∧ k < W.heap.size ∧ ¬ F2 k ∧ ¬ O k) ∧ (∀ k, F2 k → w0.heap.size ≤ k ∧ k < W.heap.size ∧ ¬ O k) ∧ Below w0.heap.size w0 W ∧ ∀ k, O k → w0.heap.size ≤ k ∧ k < W.heap.size
section
variable {w0 W W1 : World} {b b' : Nat} {ds : List Int} {sy : Int} {s l : List Int} {room : Int} {O : Nat → Prop}
theorem Two.file {F1 F2 : Nat → Prop} {ds' : List Int} {sy' : Int} (hr : RefAt W F2 b' s l room) (h1 : ∀ k, F1 k → w0.heap.size ≤ k ∧ k < W.heap.size ∧ ¬ F2 k ∧ ¬ O k) (h2 : ∀ k, F2 k → w0.heap.size ≤ k ∧ k < W.heap.size ∧ ¬ O k) (hB : Below w0.heap.size w0 W) (hO : ∀ k, O k → w0.heap.size ≤ k ∧ k < W.heap.size)
    (hf : FileAt W1 (fun k => F1 k ∨ W.heap.size ≤ k) b ds' sy' room) (hk : Keep F1 W W1) : Two w0 W1 b b' ds' sy' s l room O :=
  ⟨fun k => (F1 k ∨ W.heap.size ≤ k) ∧ k < W1.heap.size, F2, hf.mono (fun k h1 h2 => ⟨h1, h2⟩), hr.kept hk (fun k h _ hf => (h1 k hf).2.2.1 h),
    fun k h => h.1.elim (fun h' => ⟨(h1 k h').1, h.2, (h1 k h').2.2⟩) (fun h' => ⟨Nat.le_trans hB.size h', h.2, fun h3 => by have := (h2 k h3).2.1; omega, fun h3 => by have := (hO k h3).2; omega⟩),
    fun k h => ⟨(h2 k h).1, Nat.lt_of_lt_of_le (h2 k h).2.1 hk.size, (h2 k h).2.2⟩, hB.trans (hk.below (fun i hi h => by have := (h1 i h).1; omega) hB.size), fun k h => ⟨(hO k h).1, Nat.lt_of_lt_of_le (hO k h).2 hk.size⟩⟩
theorem Two.ref {F1 F2 : Nat → Prop} {s' l' : List Int} (hf : FileAt W F1 b ds sy room) (h1 : ∀ k, F1 k → w0.heap.size ≤ k ∧ k < W.heap.size ∧ ¬ F2 k ∧ ¬ O k) (h2 : ∀ k, F2 k → w0.heap.size ≤ k ∧ k < W.heap.size ∧ ¬ O k) (hB : Below w0.heap.size w0 W) (hO : ∀ k, O k → w0.heap.size ≤ k ∧ k < W.heap.size)
    (hr : RefAt W1 (fun k => F2 k ∨ W.heap.size ≤ k) b' s' l' room) (hk : Keep F2 W W1) : Two w0 W1 b b' ds sy s' l' room O :=
  ⟨F1, fun k => (F2 k ∨ W.heap.size ≤ k) ∧ k < W1.heap.size, hf.kept hk (fun k h _ => (h1 k h).2.2.1), hr.mono (fun k h1 h2 => ⟨h1, h2⟩),
    fun k h => ⟨(h1 k h).1, Nat.lt_of_lt_of_le (h1 k h).2.1 hk.size, fun h' => h'.1.elim (h1 k h).2.2.1 (fun h3 => by have := (h1 k h).2.1; omega), (h1 k h).2.2.2⟩,
    fun k h => ⟨h.1.elim (fun h' => (h2 k h').1) (fun h' => Nat.le_trans hB.size h'), h.2, h.1.elim (fun h' => (h2 k h').2.2) (fun h' h3 => by have := (hO k h3).2; omega)⟩, hB.trans (hk.below (fun i hi h => by have := (h2 i h).1; omega) hB.size), fun k h => ⟨(hO k h).1, Nat.lt_of_lt_of_le (hO k h).2 hk.size⟩⟩
/-- Blocks of O may turn, and new ones may come. -/
theorem Two.kept (h : Two w0 W b b' ds sy s l room O) (hk : Keep O W W1) : Two w0 W1 b b' ds sy s l room O := by
  obtain ⟨F1, F2, hf, hr, h1, h2, hB, hO⟩ := h
  exact ⟨F1, F2, hf.kept hk (fun k h _ => (h1 k h).2.2.2), hr.kept hk (fun k h _ => (h2 k h).2.2), fun k h => ⟨(h1 k h).1, Nat.lt_of_lt_of_le (h1 k h).2.1 hk.size, (h1 k h).2.2⟩, fun k h => ⟨(h2 k h).1, Nat.lt_of_lt_of_le (h2 k h).2.1 hk.size, (h2 k h).2.2⟩, hB.trans (hk.below (fun i hi h => by have := (hO i h).1; omega) hB.size), fun k h => ⟨(hO k h).1, Nat.lt_of_lt_of_le (hO k h).2 hk.size⟩⟩
theorem Two.free (h : Two w0 W b b' ds sy s l room O) {O' : Nat → Prop} (hO' : ∀ k, O' k → False) : Two w0 W b b' ds sy s l room O' := by
  obtain ⟨F1, F2, hf, hr, h1, h2, hB, hO⟩ := h
  exact ⟨F1, F2, hf, hr, fun k h => ⟨(h1 k h).1, (h1 k h).2.1, (h1 k h).2.2.1, fun h => hO' k h⟩, fun k h => ⟨(h2 k h).1, (h2 k h).2.1, fun h => hO' k h⟩, hB, fun k h => (hO' k h).elim⟩
/-- New blocks are apart from both. -/
theorem Two.newer (h : Two w0 W b b' ds sy s l room O) (hB1 : Below W.heap.size W W1) : Two w0 W1 b b' ds sy s l room (fun k => W.heap.size ≤ k ∧ k < W1.heap.size) := by
  obtain ⟨F1, F2, hf, hr, h1, h2, hB, hO⟩ := h
  have hk : Keep (fun _ => False) W W1 := Keep.of_below hB1 (fun i h1 h2 => by omega)
  exact ⟨F1, F2, hf.kept hk (fun _ _ _ h => h), hr.kept hk (fun _ _ _ h => h), fun k h => ⟨(h1 k h).1, Nat.lt_of_lt_of_le (h1 k h).2.1 hk.size, (h1 k h).2.2.1, fun h' => by have := (h1 k h).2.1; omega⟩, fun k h => ⟨(h2 k h).1, Nat.lt_of_lt_of_le (h2 k h).2.1 hk.size, fun h' => by have := (h2 k h).2.1; omega⟩, hB.trans (hB1.mono hB.size), fun k h => ⟨Nat.le_trans hB.size h.1, h.2⟩⟩
end
section
variable {w : World} {F : Nat → Prop} {b : Nat} {s l : List Int} {lim : Int}
theorem RefAt.drew (hf : RefAt w F b s l lim) {w' : World} (h : ∃ k, w' = w.drewN k) : RefAt w' (fun k => F k ∨ w.heap.size ≤ k) b s l lim ∧ Keep F w w' := by
  obtain ⟨k, rfl⟩ := h
  exact ⟨(hf.kept (G := fun _ => False) (Keep.drewN _ _ _) (fun _ _ _ h => h)).mono (fun _ h _ => .inl h), Keep.drewN _ _ _⟩
theorem refappend_any (hf : RefAt w F b s l lim) (n : Int) (A : Option Addr) (c : Nat) (data : List Int) (hC : (Kd.int .u8).C w A data.length data) :
    Calls Try.prog 19 #[.pointer (some ⟨b, 0, none⟩), .slice A data.length c] w fun e w' => e = .returned (.int .i64 (doE 0 n data (s ++ l) lim)) ∧ RefAt w' (fun k => F k ∨ w.heap.size ≤ k) b (doS 0 n data s l lim).1 (doS 0 n data s l lim).2 lim ∧ Keep F w w' := by
  unfold doE doS
  simp only [if_true, List.length_append]
  by_cases c0 : lim - ((s.length + l.length : Nat) : Int) < data.length
  · rw [if_pos c0, if_pos c0]
    refine (refappend_full hf A data.length c (by omega)).mono ?_
    rintro e w' ⟨rfl, h⟩
    exact ⟨rfl, hf.drew h⟩
  · rw [if_neg c0, if_neg c0]
    exact refappend_ok hf A data.length c data hC (by omega)
theorem refreplace_any (hf : RefAt w F b s l lim) (n : Int) (A : Option Addr) (c : Nat) (data : List Int) (hC : (Kd.int .u8).C w A data.length data) (hc : data.length ≤ c) :
    Calls Try.prog 21 #[.pointer (some ⟨b, 0, none⟩), .slice A data.length c] w fun e w' => e = .returned (.int .i64 (doE 2 n data (s ++ l) lim)) ∧ RefAt w' (fun k => F k ∨ w.heap.size ≤ k) b (doS 2 n data s l lim).1 (doS 2 n data s l lim).2 lim ∧ Keep F w w' := by
  rw [doE2, doS2]
  by_cases c0 : lim < data.length
  · rw [if_pos c0, if_pos c0]
    refine (refreplace_full hf A data.length c c0).mono ?_
    rintro e w' ⟨rfl, h⟩
    exact ⟨rfl, hf.drew ⟨0, h⟩⟩
  · rw [if_neg c0, if_neg c0]
    exact refreplace_ok hf A c data hC hc (by omega)
theorem reftrim_any (hf : RefAt w F b s l lim) (n : Int) (data : List Int) :
    Calls Try.prog 22 #[.pointer (some ⟨b, 0, none⟩), .int .i64 n] w fun e w' => e = .returned (.int .i64 (doE 3 n data (s ++ l) lim)) ∧ RefAt w' (fun k => F k ∨ w.heap.size ≤ k) b (doS 3 n data s l lim).1 (doS 3 n data s l lim).2 lim ∧ Keep F w w' := by
  rw [doE3, doS3]
  by_cases c0 : n < 0 ∨ ((s ++ l).length : Int) < n
  · rw [if_pos c0, if_pos c0]
    refine (reftrim_bad hf n c0).mono ?_
    rintro e w' ⟨rfl, h⟩
    exact ⟨rfl, hf.drew h⟩
  · rw [if_neg c0, if_neg c0]
    rw [List.length_append] at c0
    obtain ⟨m, rfl⟩ := Int.eq_ofNat_of_zero_le (by omega : 0 ≤ n)
    by_cases c1 : (m : Int) ≤ s.length
    · rw [if_pos c1]
      refine (reftrim_safe hf m (by omega)).mono ?_
      rintro e w' ⟨rfl, h1, h2⟩
      exact ⟨rfl, h1.mono (fun _ h _ => .inl h), h2⟩
    · rw [if_neg c1]
      obtain ⟨q, rfl⟩ : ∃ q, m = s.length + q := ⟨m - s.length, by omega⟩
      have := reftrim_loose hf q (by omega) (by omega)
      rw [show ((s.length : Int) + (q : Int)) = ((s.length + q : Nat) : Int) from by omega] at this
      refine this.mono ?_
      rintro e w' ⟨rfl, h1, h2⟩
      refine ⟨rfl, ?_, h2⟩
      simp only [Int.toNat_natCast, Nat.add_sub_cancel_left]
      exact h1.mono (fun _ h _ => .inl h)
theorem refsync_any (hf : RefAt w F b s l lim) (n : Int) (data : List Int) :
    Calls Try.prog 20 #[.pointer (some ⟨b, 0, none⟩)] w fun e w' => e = .returned (.tuple #[]) ∧ RefAt w' (fun k => F k ∨ w.heap.size ≤ k) b (doS 1 n data s l lim).1 (doS 1 n data s l lim).2 lim ∧ Keep F w w' := by
  rw [doS1]
  exact refsync_ok hf
theorem refcrash_any (hf : RefAt w F b s l lim) (n : Int) (data : List Int) :
    Calls Try.prog 23 #[.pointer (some ⟨b, 0, none⟩), .int .i64 n] w fun e w' => e = .returned (.tuple #[]) ∧ RefAt w' (fun k => F k ∨ w.heap.size ≤ k) b (doS 4 n data s l lim).1 (doS 4 n data s l lim).2 lim ∧ Keep F w w' := by
  rw [doS4]
  exact refcrash_ok hf n _ (by omega)
end
end Go.Proofs.Ytjcfhnmokmadmaa.Crash
