/- DiffPatch, the plain law: the program's Patch and the reference's answer alike. -/
import Derived.Test.YtbaihnpanoibdaaQx11
namespace Go.Proofs.Ytbaihnpanoibdaa.Pure2
open Go.RowKit Go.Proofs.Ytbaihnpanoibdaa.Q Go.Proofs.YtbaihnpanoibdaaW.PrintWords Go.Proofs.YtbaihnpanoibdaaW.PrintLast
set_option linter.unusedVariables false
theorem w64 {x : Int} (_ : -9223372036854775808 ≤ x) (_ : x ≤ 9223372036854775807) : wrap64 x = x := by unfold wrap64; omega
theorem le_mono {α : Type} {f : Nat → Option α} (h : ∀ k, LeO (f k) (f (k + 1))) {j k : Nat} (hjk : j ≤ k) {r : α} (hr : f j = some r) : f k = some r := by
  induction hjk with
  | refl => exact hr
  | step _ ih => exact h _ _ ih
/-- great ends, whatever it says. -/
theorem great_l0 (l : List S36) : ∀ d i k : Nat, i ≤ 300 → 300 - i = d → ∃ r, offshootlaw28_great.l0 (2 * d + 2 + k) l (i : Int) = some r
  | 0, i, k, hi, hd => by
    obtain rfl : i = 300 := by omega
    refine ⟨false, ?_⟩
    rw [show 2 * 0 + 2 + k = (k + 1) + 1 by omega, offshootlaw28_great.l0]
    split
    · rw [offshootlaw28_great.j2, if_neg (by simp)]
    · rw [offshootlaw28_great.j2, if_neg (by simp)]
  | d + 1, i, k, hi, hd => by
    rw [show 2 * (d + 1) + 2 + k = (2 * d + 2 + k + 1) + 1 by omega, offshootlaw28_great.l0]
    split
    · rename_i c
      rw [offshootlaw28_great.j2, if_pos (decide_eq_true (by omega)), if_pos (by omega), if_pos c]
      split
      · exact ⟨_, rfl⟩
      · rw [w64 (by omega) (by omega), show (i : Int) + 1 = ((i + 1 : Nat) : Int) by omega]
        exact great_l0 l d (i + 1) k (by omega) (by omega)
    · exact ⟨false, by rw [offshootlaw28_great.j2, if_neg (by simp)]⟩
theorem great_ends (l : List S36) : (∃ r, ∀ k, 700 ≤ k → offshootlaw28_great.f k l = some r) ∧ ((60 < l.length ∧ l.length ≤ 300) → ∀ k, 1 ≤ k → offshootlaw28_great.f k l = some true) := by
  constructor
  · have : ∃ r, offshootlaw28_great.f 700 l = some r := by
      obtain ⟨r, hr⟩ := great_l0 l 300 0 97 (by omega) (by omega)
      have hr : offshootlaw28_great.l0 699 l 0 = some r := hr
      unfold offshootlaw28_great.f
      split
      · rw [show 700 = 699 + 1 by rfl, offshootlaw28_great.j0]
        split
        · exact ⟨_, rfl⟩
        · exact ⟨r, hr⟩
      · rw [show 700 = 699 + 1 by rfl, offshootlaw28_great.j0, if_neg (by simp)]
        exact ⟨r, hr⟩
    obtain ⟨r, hr⟩ := this
    exact ⟨r, fun k hk => le_mono (f := fun k => offshootlaw28_great.f k l) (fun k => offshootlaw28_great.mono l k) hk hr⟩
  · intro h k hk
    obtain ⟨k, rfl⟩ : ∃ j, k = j + 1 := ⟨k - 1, by omega⟩
    unfold offshootlaw28_great.f
    rw [if_pos (by omega), offshootlaw28_great.j0, if_pos (decide_eq_true (by omega))]
theorem same_refl (l : List S36) (hl : l.length < 4611686018427387904) : ∀ d i k : Nat, i + d = l.length → offshootref00_SameBlocks.l0 (k + 1 + d) l l (i : Int) = some true
  | 0, i, k, hi => by
    rw [Nat.add_zero, offshootref00_SameBlocks.l0, if_neg (by omega)]
  | d + 1, i, k, hi => by
    rw [show k + 1 + (d + 1) = (k + 1 + d) + 1 by omega, offshootref00_SameBlocks.l0, if_pos (by omega), if_pos (by omega), if_pos (by omega), if_neg (by simp), w64 (by omega) (by omega), show (i : Int) + 1 = ((i + 1 : Nat) : Int) by omega]
    exact same_refl l hl d (i + 1) k (by omega)
theorem same_f (l : List S36) (hl : l.length < 4611686018427387904) (k : Nat) : offshootref00_SameBlocks.f (k + 1 + l.length) l l = some true := by
  unfold offshootref00_SameBlocks.f
  rw [if_pos rfl]
  exact same_refl l hl l.length 0 k (by omega)
/-- What a patch makes, in plain words. -/
def pt : List S36 → List S36 → List S38 → List S36 × Int
  | out, rest, [] => if 0 < rest.length then ([], 10) else (out, 0)
  | out, rest, c :: cs =>
    if c.f0 = 1 then (if c.f1 < 1 ∨ (rest.length : Int) < c.f1 then ([], 10) else pt (out ++ rest.take c.f1.toNat) (rest.drop c.f1.toNat) cs)
    else if c.f0 = 2 then (if c.f1 < 1 ∨ (rest.length : Int) < c.f1 then ([], 10) else pt out (rest.drop c.f1.toNat) cs)
    else if c.f0 = 3 then pt (out ++ [c.f2]) rest cs
    else if c.f0 = 4 then (match rest with
      | [] => ([], 10)
      | x :: xs => if x.f0.f0 = c.f2.f0.f0 ∧ x.f0.f1 = c.f2.f0.f1 then pt (out ++ [c.f2]) xs cs else ([], 10))
    else ([], 10)
theorem pt_cons (out rest : List S36) (c : S38) (cs : List S38) : pt out rest (c :: cs) =
    (if c.f0 = 1 then (if c.f1 < 1 ∨ (rest.length : Int) < c.f1 then ([], 10) else pt (out ++ rest.take c.f1.toNat) (rest.drop c.f1.toNat) cs)
    else if c.f0 = 2 then (if c.f1 < 1 ∨ (rest.length : Int) < c.f1 then ([], 10) else pt out (rest.drop c.f1.toNat) cs)
    else if c.f0 = 3 then pt (out ++ [c.f2]) rest cs
    else if c.f0 = 4 then (match rest with
      | [] => ([], 10)
      | x :: xs => if x.f0.f0 = c.f2.f0.f0 ∧ x.f0.f1 = c.f2.f0.f1 then pt (out ++ [c.f2]) xs cs else ([], 10))
    else ([], 10)) := by
  first | rfl | (rw [pt.eq_def])
theorem rd38 {l : List S38} {i : Nat} {c : S38} {cs : List S38} (h : l.drop i = c :: cs) : rd_T38 l (i : Int) = c ∧ i < l.length ∧ l.drop (i + 1) = cs := by
  have hi : i < l.length := by
    rcases Nat.lt_or_ge i l.length with h' | h'
    · exact h'
    · rw [List.drop_eq_nil_of_le h'] at h; cases h
  rw [List.drop_eq_getElem_cons hi] at h
  injection h with h1 h2
  refine ⟨?_, hi, h2⟩
  unfold rd_T38
  rw [Int.toNat_natCast, List.getD_eq_getElem?_getD, List.getElem?_eq_getElem hi]
  exact h1
theorem rd39 {l : List S39} {i : Nat} {c : S39} {cs : List S39} (h : l.drop i = c :: cs) : rd_T39 l (i : Int) = c ∧ i < l.length ∧ l.drop (i + 1) = cs := by
  have hi : i < l.length := by
    rcases Nat.lt_or_ge i l.length with h' | h'
    · exact h'
    · rw [List.drop_eq_nil_of_le h'] at h; cases h
  rw [List.drop_eq_getElem_cons hi] at h
  injection h with h1 h2
  refine ⟨?_, hi, h2⟩
  unfold rd_T39
  rw [Int.toNat_natCast, List.getD_eq_getElem?_getD, List.getElem?_eq_getElem hi]
  exact h1
theorem rd36 {l : List S36} {i : Nat} {c : S36} {cs : List S36} (h : l.drop i = c :: cs) : rd_T36 l (i : Int) = c ∧ i < l.length ∧ l.drop (i + 1) = cs := by
  have hi : i < l.length := by
    rcases Nat.lt_or_ge i l.length with h' | h'
    · exact h'
    · rw [List.drop_eq_nil_of_le h'] at h; cases h
  rw [List.drop_eq_getElem_cons hi] at h
  injection h with h1 h2
  refine ⟨?_, hi, h2⟩
  unfold rd_T36
  rw [Int.toNat_natCast, List.getD_eq_getElem?_getD, List.getElem?_eq_getElem hi]
  exact h1
theorem drop_nil {α : Type} {l : List α} {i : Nat} (h : l.drop i = []) : l.length ≤ i := by
  have := congrArg List.length h
  simp at this
  omega
set_option maxHeartbeats 2000000 in
/-- The program's rounds. -/
theorem p_l0 (L : List S38) (hL : L.length ≤ 1000000) : ∀ (cs : List S38) (i k : Nat) (out rest : List S36), L.drop i = cs → out.length + rest.length + cs.length ≤ 2000000000 →
    diff_Patch.l0 (k + 1 + 3 * cs.length) out rest L (L.length : Int) (i : Int) = some (pt out rest cs)
  | [], i, k, out, rest, hd, hb => by
    have := drop_nil hd
    rw [List.length_nil, Nat.mul_zero, Nat.add_zero, diff_Patch.l0, if_neg (by omega), pt]
    split
    · rw [if_pos (by omega)]
    · rw [if_neg (by omega)]
  | c :: cs, i, k, out, rest, hd, hb => by
    obtain ⟨hc, hi, hd'⟩ := rd38 hd
    have ih := p_l0 L hL cs (i + 1) k
    have ew : wrap64 ((i : Int) + 1) = ((i + 1 : Nat) : Int) := by rw [w64] <;> omega
    have hb' : out.length + rest.length + (cs.length + 1) ≤ 2000000000 := hb
    rw [List.length_cons, show k + 1 + 3 * (cs.length + 1) = (k + 1 + 3 * cs.length + 1 + 1) + 1 by omega, diff_Patch.l0, if_pos (by omega), if_pos (by omega), if_pos (by omega), hc, pt_cons]
    by_cases c1 : c.f0 = 1
    · rw [if_pos c1, if_pos c1, diff_Patch.j1, if_pos (by rw [c1]; rfl)]
      split
      · rename_i c2
        rw [diff_Patch.j2, if_pos rfl, if_pos (.inl c2)]
      · rename_i c2
        rw [diff_Patch.j2]
        split
        · rename_i c3
          rw [if_pos (.inr (of_decide_eq_true c3))]
        · rename_i c3
          have c4 : ¬ (c.f1 > (rest.length : Int)) := fun h => c3 (decide_eq_true h)
          rw [if_pos (by omega), if_pos (by omega), if_neg (by omega), Option.bind_some, if_pos (by rw [List.length_take]; omega), ew]
          exact ih _ _ hd' (by rw [List.length_append, List.length_take, List.length_drop]; omega)
    · rw [if_neg c1, if_neg c1]
      by_cases c2 : c.f0 = 2
      · rw [if_pos c2, diff_Patch.j1, if_pos (by rw [c2]; rfl)]
        split
        · rename_i c3
          rw [diff_Patch.j2, if_pos rfl, if_pos (.inl c3)]
        · rename_i c3
          rw [diff_Patch.j2]
          split
          · rename_i c4
            rw [if_pos (.inr (of_decide_eq_true c4))]
          · rename_i c4
            have c5 : ¬ (c.f1 > (rest.length : Int)) := fun h => c4 (decide_eq_true h)
            rw [if_pos (by omega), if_pos (by omega), if_neg (by omega), ew]
            exact ih _ _ hd' (by rw [List.length_drop]; omega)
      · rw [if_neg c2, diff_Patch.j1, if_neg (by simpa using c2)]
        by_cases c4 : c.f0 = 4
        · rw [if_pos c4, if_neg (show ¬ c.f0 = 3 by omega), if_pos c4]
          match rest, hb' with
          | [], hb' => rw [if_pos (by simp)]
          | x :: xs, hb' =>
            have hr : rd_T36 (x :: xs) 0 = x := rfl
            simp only [List.length_cons] at hb'
            rw [if_neg (by simp <;> omega), if_pos (by simp <;> omega), hr]
            by_cases c5 : x.f0.f0 = c.f2.f0.f0 ∧ x.f0.f1 = c.f2.f0.f1
            · simp only [if_pos c5]
              rw [if_neg (by simp [c5.1, c5.2]), if_pos (by omega), if_pos (by simp; omega), ew, List.drop_one, List.tail_cons]
              refine le_mono (f := fun k => diff_Patch.l0 k (out ++ [c.f2]) xs L (L.length : Int) ((i + 1 : Nat) : Int)) (fun k => (diff_Patch.mono_l k).1 _ _ _ _ _) (j := k + 1 + 3 * cs.length) (by omega) ?_
              exact ih _ _ hd' (by rw [List.length_append]; simp; omega)
            · simp only [if_neg c5]
              rw [if_pos]
              by_cases c6 : x.f0.f0 = c.f2.f0.f0
              · have c7 : ¬ x.f0.f1 = c.f2.f0.f1 := fun h => c5 ⟨c6, h⟩
                simp [c7]
              · simp [c6]
        · rw [if_neg c4]
          by_cases c3 : c.f0 = 3
          · rw [if_pos c3, if_pos c3, if_pos (by omega), if_pos (by omega), if_pos (by omega), ew]
            refine le_mono (f := fun k => diff_Patch.l0 k (out ++ [c.f2]) rest L (L.length : Int) ((i + 1 : Nat) : Int)) (fun k => (diff_Patch.mono_l k).1 _ _ _ _ _) (j := k + 1 + 3 * cs.length) (by omega) ?_
            exact ih _ _ hd' (by rw [List.length_append]; simp; omega)
          · rw [if_neg c3, if_neg c3, if_neg c4]
/-- A reference's change as the program's. -/
def cv (x : S39) : S38 := ⟨x.f0, x.f1, x.f2⟩
set_option maxHeartbeats 2000000 in
/-- The reference's rounds. -/
theorem r_l0 (a : List S36) (ha : a.length ≤ 1000000) (L : List S39) (hL : L.length ≤ 1000000) : ∀ (cs : List S39) (i at' k : Nat) (out : List S36), L.drop i = cs → at' ≤ a.length → out.length + (a.length - at') + cs.length ≤ 2000000000 →
    offshootref28_Patch.l0 (k + 1 + 3 * cs.length) a L out (at' : Int) (i : Int) = some (pt out (a.drop at') (cs.map cv))
  | [], i, at', k, out, hd, hat, hb => by
    have := drop_nil hd
    rw [List.length_nil, Nat.mul_zero, Nat.add_zero, offshootref28_Patch.l0, if_neg (by omega), List.map_nil, pt, List.length_drop]
    by_cases c : at' < a.length
    · rw [if_pos (by omega), if_pos (by omega)]
    · rw [if_neg (by omega), if_neg (by omega)]
  | c :: cs, i, at', k, out, hd, hat, hb => by
    obtain ⟨hc, hi, hd'⟩ := rd39 hd
    have ih := r_l0 a ha L hL cs (i + 1)
    have ew : Hid (wrap64 ((i : Int) + 1) = ((i + 1 : Nat) : Int)) := Lib.hid (by rw [w64] <;> omega)
    have el : Hid (wrap64 ((a.length : Int) - (at' : Int)) = ((a.length - at' : Nat) : Int)) := Lib.hid (by rw [w64] <;> omega)
    have hb' : out.length + (a.length - at') + (cs.length + 1) ≤ 2000000000 := hb
    rw [List.length_cons, show k + 1 + 3 * (cs.length + 1) = (k + 1 + 3 * cs.length + 1 + 1) + 1 by omega, offshootref28_Patch.l0, if_pos (by omega), if_pos (by omega), hc, List.map_cons, pt_cons, List.length_drop]
    have q0 : (cv c).f0 = c.f0 := rfl
    have q1 : (cv c).f1 = c.f1 := rfl
    have q2 : (cv c).f2 = c.f2 := rfl
    rw [q0, q1, q2]
    by_cases c1 : c.f0 = 1
    · rw [if_pos c1, if_pos c1, offshootref28_Patch.j1, if_pos (by rw [c1]; rfl), el.out]
      split
      · rename_i c2
        rw [offshootref28_Patch.j2, if_pos rfl, if_pos (.inl c2)]
      · rename_i c2
        rw [offshootref28_Patch.j2]
        split
        · rename_i c3
          rw [if_pos (.inr (of_decide_eq_true c3))]
        · rename_i c3
          have c4 : ¬ (c.f1 > ((a.length - at' : Nat) : Int)) := fun h => c3 (decide_eq_true h)
          obtain ⟨m, hm⟩ : ∃ m : Nat, c.f1 = (m : Int) := ⟨c.f1.toNat, by omega⟩
          have ea : Hid (wrap64 ((at' : Int) + c.f1) = ((at' + m : Nat) : Int)) := Lib.hid (by rw [hm, w64] <;> omega)
          have et : (a.take (at' + m)).drop at' = (a.drop at').take m := by
            rw [List.drop_take]
            congr 1
            omega
          rw [ea.out, if_pos (by omega), if_pos (by omega), if_pos (by omega), if_neg (by omega), Option.bind_some, Int.toNat_natCast, Int.toNat_natCast, et, if_pos (by rw [List.length_take, List.length_drop]; omega), ew.out, hm, Int.toNat_natCast, List.drop_drop]
          exact ih _ k _ hd' (by omega) (by rw [List.length_append, List.length_take, List.length_drop]; omega)
    · rw [if_neg c1, if_neg c1]
      by_cases c2 : c.f0 = 2
      · rw [if_pos c2, offshootref28_Patch.j1, if_pos (by rw [c2]; rfl), el.out]
        split
        · rename_i c3
          rw [offshootref28_Patch.j2, if_pos rfl, if_pos (.inl c3)]
        · rename_i c3
          rw [offshootref28_Patch.j2]
          split
          · rename_i c4
            rw [if_pos (.inr (of_decide_eq_true c4))]
          · rename_i c4
            have c5 : ¬ (c.f1 > ((a.length - at' : Nat) : Int)) := fun h => c4 (decide_eq_true h)
            obtain ⟨m, hm⟩ : ∃ m : Nat, c.f1 = (m : Int) := ⟨c.f1.toNat, by omega⟩
            have ea : Hid (wrap64 ((at' : Int) + c.f1) = ((at' + m : Nat) : Int)) := Lib.hid (by rw [hm, w64] <;> omega)
            rw [ea.out, if_neg (by omega), ew.out, hm, Int.toNat_natCast, List.drop_drop]
            exact ih _ k _ hd' (by omega) (by omega)
      · rw [if_neg c2, offshootref28_Patch.j1, if_neg (by simpa using c2)]
        by_cases c3 : c.f0 = 3
        · rw [if_pos c3, if_pos c3, if_pos (by omega), ew.out]
          refine le_mono (f := fun k => offshootref28_Patch.l0 k a L (out ++ [c.f2]) (at' : Int) ((i + 1 : Nat) : Int)) (fun k => (offshootref28_Patch.mono_l k).1 _ _ _ _ _) (j := k + 1 + 3 * cs.length) (by omega) ?_
          exact ih _ k _ hd' (by omega) (by rw [List.length_append]; simp; omega)
        · rw [if_neg c3, if_neg c3]
          by_cases c4 : c.f0 = 4
          · rw [if_pos c4, if_pos c4]
            by_cases c5 : at' < a.length
            · have f1 : at' + 1 ≤ a.length := c5
              have f2 : (out ++ [c.f2]).length + (a.length - (at' + 1)) + cs.length ≤ 2000000000 := by
                rw [List.length_append, List.length_singleton]
                omega
              have ea : Hid (wrap64 ((at' : Int) + 1) = ((at' + 1 : Nat) : Int)) := Lib.hid (by rw [w64] <;> omega)
              obtain ⟨x, xs, hx⟩ : ∃ x xs, a.drop at' = x :: xs := ⟨_, _, List.drop_eq_getElem_cons c5⟩
              obtain ⟨hr, _, hx'⟩ := rd36 hx
              rw [hx, if_neg (by omega), if_pos (by omega), if_pos (by omega), hr]
              by_cases c6 : x.f0.f0 = c.f2.f0.f0 ∧ x.f0.f1 = c.f2.f0.f1
              · simp only [if_pos c6]
                rw [if_neg (by simp [c6.1, c6.2]), if_pos (by omega), ew.out, ea.out, ← hx']
                refine le_mono (f := fun k => offshootref28_Patch.l0 k a L (out ++ [c.f2]) ((at' + 1 : Nat) : Int) ((i + 1 : Nat) : Int)) (fun k => (offshootref28_Patch.mono_l k).1 _ _ _ _ _) (j := k + 1 + 3 * cs.length) (by omega) ?_
                exact ih _ k _ hd' f1 f2
              · simp only [if_neg c6]
                rw [if_pos]
                by_cases c7 : x.f0.f0 = c.f2.f0.f0
                · have c8 : ¬ x.f0.f1 = c.f2.f0.f1 := fun h => c6 ⟨c7, h⟩
                  simp [c8]
                · simp [c7]
            · rw [if_pos (by omega), List.drop_eq_nil_of_le (by omega)]
          · rw [if_neg c4, if_neg c4]
theorem pt_len : ∀ (cs : List S38) (out rest : List S36), (pt out rest cs).1.length ≤ out.length + rest.length + cs.length
  | [], out, rest => by
    rw [pt]
    split <;> simp
  | c :: cs, out, rest => by
    have ih := pt_len cs
    rw [pt_cons]
    split
    · split
      · simp
      · refine Nat.le_trans (ih _ _) ?_
        rw [List.length_append, List.length_take, List.length_drop, List.length_cons]
        omega
    · split
      · split
        · simp
        · refine Nat.le_trans (ih _ _) ?_
          rw [List.length_drop, List.length_cons]
          omega
      · split
        · refine Nat.le_trans (ih _ _) ?_
          rw [List.length_append, List.length_cons, List.length_cons, List.length_nil]
          omega
        · split
          · match rest with
            | [] => simp
            | x :: xs =>
              dsimp only
              split
              · refine Nat.le_trans (ih _ _) ?_
                rw [List.length_append, List.length_cons, List.length_cons, List.length_nil, List.length_cons]
                omega
              · simp
          · simp
/-- The law's rounds: the reference's changes turned. -/
theorem law_l0 (a : List S36) (ha : a.length ≤ 1000000) (L : List S39) (hL : L.length ≤ 1000000) (K : Nat) (hK : K = 10000000) : ∀ (d i : Nat), i + d = L.length →
    offshootlaw28_DiffPatch.l0 (K + 1 + d) a L ((L.take i).map cv) (i : Int) = some true
  | 0, i, hi => by
    have e1 : L.take i = L := List.take_of_length_le (by omega)
    have hp : diff_Patch.f K a (L.map cv) = some (pt [] a (L.map cv)) := by
      have := p_l0 (L.map cv) (by rw [List.length_map]; exact hL) (L.map cv) 0 (K - 1 - 3 * L.length) [] a rfl (by rw [List.length_map]; simp; omega)
      rw [List.length_map, show K - 1 - 3 * L.length + 1 + 3 * L.length = K by omega] at this
      unfold diff_Patch.f
      rw [List.length_map]
      exact this
    have hr : offshootref28_Patch.f K a L = some (pt [] a (L.map cv)) := by
      have := r_l0 a ha L hL L 0 0 (K - 1 - 3 * L.length) [] rfl (by omega) (by simp; omega)
      rw [show K - 1 - 3 * L.length + 1 + 3 * L.length = K by omega] at this
      exact this
    have hl := pt_len (L.map cv) [] a
    rw [List.length_map, List.length_nil] at hl
    have hs : offshootref00_SameBlocks.f K (pt [] a (L.map cv)).1 (pt [] a (L.map cv)).1 = some true := by
      have := same_f (pt [] a (L.map cv)).1 (by omega) (K - 1 - (pt [] a (L.map cv)).1.length)
      rw [show K - 1 - (pt [] a (L.map cv)).1.length + 1 + (pt [] a (L.map cv)).1.length = K by omega] at this
      exact this
    rw [Nat.add_zero, offshootlaw28_DiffPatch.l0, if_neg (by omega), e1, hp, hr, Option.bind_some, Option.bind_some, if_pos rfl, hs, Option.bind_some]
  | d + 1, i, hi => by
    have hd : L.drop i = L[i] :: L.drop (i + 1) := List.drop_eq_getElem_cons (by omega)
    obtain ⟨hc, hi', hd'⟩ := rd39 hd
    have ew : wrap64 ((i : Int) + 1) = ((i + 1 : Nat) : Int) := by rw [w64] <;> omega
    have et : (L.take i).map cv ++ [cv L[i]] = (L.take (i + 1)).map cv := by
      rw [List.take_succ_eq_append_getElem (by omega), List.map_append]
      rfl
    rw [show K + 1 + (d + 1) = (K + 1 + d) + 1 by omega, offshootlaw28_DiffPatch.l0, if_pos (by omega), if_pos (by omega), if_pos (by rw [List.length_map, List.length_take]; omega), hc, ew]
    have := law_l0 a ha L hL K hK d (i + 1) (by omega)
    rw [← et] at this
    exact this
theorem DiffPatch (a : List S36) (L : List S39) : ∃ k, offshootlaw28_DiffPatch.f k a L = some true := by
  refine ⟨10000200, ?_⟩
  obtain ⟨⟨g, hg⟩, _⟩ := great_ends a
  unfold offshootlaw28_DiffPatch.f offshootlaw28_alive.f
  rw [Option.bind_some, if_pos rfl, hg _ (by omega), Option.bind_some]
  split
  · rw [show 10000200 = 10000199 + 1 by rfl, offshootlaw28_DiffPatch.j0, if_pos rfl]
  split
  · rw [show 10000200 = 10000199 + 1 by rfl, offshootlaw28_DiffPatch.j0, if_pos rfl]
  rw [show 10000200 = 10000199 + 1 by rfl, offshootlaw28_DiffPatch.j0]
  split
  · rfl
  rename_i c1 c2 c3
  have hL : ¬ ((L.length : Int) > 100) := fun h => c3 (decide_eq_true h)
  refine le_mono (f := fun k => offshootlaw28_DiffPatch.l0 k a L [] 0) (fun k => (offshootlaw28_DiffPatch.mono_l k).2 _ _ _ _) (j := 10000000 + 1 + L.length) (by omega) ?_
  exact law_l0 a (by omega) L (by omega) 10000000 rfl L.length 0 (by omega)
theorem patch_walk (W : World) (A0 : Option Addr) (c0 : Nat) (l0 : List S36) (hC0 : Kd.C k36 W A0 l0.length l0) (hl0 : l0.length ≤ c0) (_ : True) (A1 : Option Addr) (c1 : Nat) (l1 : List S39) (hC1 : Kd.C k39 W A1 l1.length l1) (hl1 : l1.length ≤ c1) (_ : True) :
    Calls Try.prog 4 #[.slice A0 l0.length c0, .slice A1 l1.length c1] W fun e w' => e = .returned (.bool true) ∧ Below W.heap.size W w' := by
  obtain ⟨k, h⟩ := DiffPatch l0 l1
  exact offshootlaw28_DiffPatch.calls k A0 c0 l0 A1 c1 l1 true W hC0 hl0 hC1 hl1 h
end Go.Proofs.Ytbaihnpanoibdaa.Pure2
