/- DiffSplice, the plain law: the program's splice and the reference's are one, and the law's tests hold of it. -/
import Derived.Test.YtbaihnpanoibdaaQx13
namespace Go.Proofs.Ytbaihnpanoibdaa.Pure
set_option linter.unusedVariables false
open Go.RowKit Go.Proofs.Ytbaihnpanoibdaa.Q Go.Proofs.YtbaihnpanoibdaaW.PrintWords Go.Proofs.YtbaihnpanoibdaaW.PrintLast
theorem w64 {x : Int} (_ : -9223372036854775808 ≤ x) (_ : x ≤ 9223372036854775807) : wrap64 x = x := by unfold wrap64; omega
theorem bt_nat (a : ByteArray) (i : Nat) (h : i < a.size) : bt a (i : Int) = (a[i].toNat : Int) := by
  unfold bt
  rw [dif_pos (by simpa using h)]
  rfl
theorem ba_ext {a b : ByteArray} (hs : a.size = b.size) (h : ∀ i : Nat, i < a.size → bt a (i : Int) = bt b (i : Int)) : a = b := by
  apply ByteArray.ext
  apply Array.ext
  · exact hs
  · intro i h1 h2
    have e := h i h1
    rw [bt_nat a i h1, bt_nat b i h2] at e
    have e2 : a[i].toNat = b[i].toNat := by omega
    exact UInt8.toNat_inj.1 e2
theorem bt_ext (a : ByteArray) (n m i : Nat) (h : i < (a.extract n m).size) : bt (a.extract n m) (i : Int) = bt a ((n + i : Nat) : Int) := by
  have hs := h
  rw [ByteArray.size_extract] at hs
  rw [bt_nat _ i h, bt_nat a (n + i) (by omega)]
  congr 2
  simp only [ByteArray.getElem_eq_getElem_data]
  simp
/-- Two texts begin alike for n bytes, and there it ends. -/
structure Pre (a b : ByteArray) (n : Nat) : Prop where
  ha : n ≤ a.size
  hb : n ≤ b.size
  same : ∀ i : Nat, i < n → bt a (i : Int) = bt b (i : Int)
  stop : n = a.size ∨ n = b.size ∨ bt a (n : Int) ≠ bt b (n : Int)
/-- Behind n, two texts end alike for k bytes, and there it ends. -/
structure Suf (a b : ByteArray) (n k : Nat) : Prop where
  ha : n + k ≤ a.size
  hb : n + k ≤ b.size
  same : ∀ i : Nat, i < k → bt a ((a.size - 1 - i : Nat) : Int) = bt b ((b.size - 1 - i : Nat) : Int)
  stop : n + k = a.size ∨ n + k = b.size ∨ bt a ((a.size - 1 - k : Nat) : Int) ≠ bt b ((b.size - 1 - k : Nat) : Int)
theorem pre_from (a b : ByteArray) : ∀ d n : Nat, n ≤ a.size → n ≤ b.size → a.size - n = d → (∀ i : Nat, i < n → bt a (i : Int) = bt b (i : Int)) → ∃ m, Pre a b m
  | 0, n, h1, h2, hd, hs => ⟨n, h1, h2, hs, .inl (by omega)⟩
  | d + 1, n, h1, h2, hd, hs => by
    by_cases hb : n = b.size
    · exact ⟨n, h1, h2, hs, .inr (.inl hb)⟩
    by_cases he : bt a (n : Int) = bt b (n : Int)
    · refine pre_from a b d (n + 1) (by omega) (by omega) (by omega) (fun i hi => ?_)
      rcases Nat.lt_or_ge i n with h | h
      · exact hs i h
      · obtain rfl : i = n := by omega
        exact he
    · exact ⟨n, h1, h2, hs, .inr (.inr he)⟩
theorem suf_from (a b : ByteArray) (n : Nat) : ∀ d k : Nat, n + k ≤ a.size → n + k ≤ b.size → a.size - (n + k) = d → (∀ i : Nat, i < k → bt a ((a.size - 1 - i : Nat) : Int) = bt b ((b.size - 1 - i : Nat) : Int)) → ∃ m, Suf a b n m
  | 0, k, h1, h2, hd, hs => ⟨k, h1, h2, hs, .inl (by omega)⟩
  | d + 1, k, h1, h2, hd, hs => by
    by_cases hb : n + k = b.size
    · exact ⟨k, h1, h2, hs, .inr (.inl hb)⟩
    by_cases he : bt a ((a.size - 1 - k : Nat) : Int) = bt b ((b.size - 1 - k : Nat) : Int)
    · refine suf_from a b n d (k + 1) (by omega) (by omega) (by omega) (fun i hi => ?_)
      rcases Nat.lt_or_ge i k with h | h
      · exact hs i h
      · obtain rfl : i = k := by omega
        exact he
    · exact ⟨k, h1, h2, hs, .inr (.inr he)⟩
section
variable {a b : ByteArray} {n m : Nat}
theorem mn_lt (x : Int) (hx : x < mn (a.size : Int) (b.size : Int)) : x < a.size ∧ x < b.size := by
  unfold mn at hx
  split at hx <;> omega
/-- The program's first rounds. -/
theorem p_l0 (h : Pre a b n) (ha : a.size ≤ 2000) (hb : b.size ≤ 2000) : ∀ d i k : Nat, i + d = n → diff_Splice.l0 (k + 1 + d) a b (i : Int) = diff_Splice.j1 k a b (n : Int)
  | 0, i, k, hi => by
    obtain rfl : i = n := by omega
    rw [Nat.add_zero, diff_Splice.l0]
    split
    · rename_i c
      have hc : (i : Int) < a.size ∧ (i : Int) < b.size := by
        unfold mn at c
        split at c <;> omega
      rw [if_pos (by omega), if_pos hc.1, if_pos hc.2, if_neg]
      rcases h.stop with e | e | e
      · omega
      · omega
      · exact e
    · rfl
  | d + 1, i, k, hi => by
    have h1 := h.ha
    have h2 := h.hb
    rw [show k + 1 + (d + 1) = (k + 1 + d) + 1 by omega, diff_Splice.l0, if_pos (by unfold mn; split <;> omega), if_pos (by omega), if_pos (by omega), if_pos (by omega), if_pos (h.same i (by omega)), w64 (by omega) (by omega), show (i : Int) + 1 = ((i + 1 : Nat) : Int) by omega]
    exact p_l0 h ha hb d (i + 1) k (by omega)
theorem r_l0 (h : Pre a b n) (ha : a.size ≤ 2000) (hb : b.size ≤ 2000) : ∀ d i k : Nat, i + d = n → offshootref28_Splice.l0 (k + 1 + d) a b (i : Int) = offshootref28_Splice.j1 k a b (n : Int)
  | 0, i, k, hi => by
    obtain rfl : i = n := by omega
    rw [Nat.add_zero, offshootref28_Splice.l0]
    split
    · split
      · rw [if_pos (by omega), if_neg]
        rcases h.stop with e | e | e
        · omega
        · omega
        · exact e
      · rfl
    · rfl
  | d + 1, i, k, hi => by
    have h1 := h.ha
    have h2 := h.hb
    rw [show k + 1 + (d + 1) = (k + 1 + d) + 1 by omega, offshootref28_Splice.l0, if_pos (by omega), if_pos (by omega), if_pos (by omega), if_pos (h.same i (by omega)), w64 (by omega) (by omega), show (i : Int) + 1 = ((i + 1 : Nat) : Int) by omega]
    exact r_l0 h ha hb d (i + 1) k (by omega)
theorem nil_iff (x : ByteArray) : x.toList = [] ↔ x.size = 0 := by
  rw [ByteArray.toList_eq, ← List.length_eq_zero_iff, data_length]
theorem ext_cut (x : ByteArray) (i j : Nat) (h : i ≤ j) (hj : j + 1 ≤ x.size) : (x.extract i (j + 1)).extract 0 (j - i) = x.extract i j := by
  rw [ByteArray.extract_extract]
  congr 1
  omega
set_option maxHeartbeats 2000000 in
/-- The program's second rounds. -/
theorem p_l1 (h : Suf a b n m) (ha : a.size ≤ 2000) (hb : b.size ≤ 2000) : ∀ d i k : Nat, i + d = m → diff_Splice.l1 (k + 1 + d) (n : Int) (a.extract n (a.size - i)) (b.extract n (b.size - i)) = some ((n : Int), ((a.size - m - n : Nat) : Int), b.extract n (b.size - m))
  | 0, i, k, hi => by
    obtain rfl : i = m := by omega
    have h1 := h.ha
    have h2 := h.hb
    have sa : (a.extract n (a.size - i)).size = a.size - i - n := by rw [ByteArray.size_extract]; omega
    have sb : (b.extract n (b.size - i)).size = b.size - i - n := by rw [ByteArray.size_extract]; omega
    rw [Nat.add_zero, diff_Splice.l1]
    have hr : some ((n : Int), ((a.extract n (a.size - i)).size : Int), b.extract n (b.size - i)) = some ((n : Int), ((a.size - i - n : Nat) : Int), b.extract n (b.size - i)) := by rw [sa]
    split
    · exact hr
    · rename_i c1
      split
      · exact hr
      · rename_i c2
        rw [nil_iff, sa] at c1
        rw [nil_iff, sb] at c2
        have ea : wrap64 (((a.extract n (a.size - i)).size : Int) - 1) = ((a.size - i - n - 1 : Nat) : Int) := by rw [sa, w64] <;> omega
        have eb : wrap64 (((b.extract n (b.size - i)).size : Int) - 1) = ((b.size - i - n - 1 : Nat) : Int) := by rw [sb, w64] <;> omega
        rw [ea, eb, if_pos (by omega), if_pos (by rw [sa]; omega), if_pos (by omega), if_pos (by rw [sb]; omega), if_neg]
        · exact hr
        · rw [bt_ext _ _ _ _ (by rw [sa]; omega), bt_ext _ _ _ _ (by rw [sb]; omega), show n + (a.size - i - n - 1) = a.size - 1 - i by omega, show n + (b.size - i - n - 1) = b.size - 1 - i by omega]
          rcases h.stop with e | e | e
          · omega
          · omega
          · exact e
  | d + 1, i, k, hi => by
    have h1 := h.ha
    have h2 := h.hb
    have sa : (a.extract n (a.size - i)).size = a.size - i - n := by rw [ByteArray.size_extract]; omega
    have sb : (b.extract n (b.size - i)).size = b.size - i - n := by rw [ByteArray.size_extract]; omega
    have ea : wrap64 (((a.extract n (a.size - i)).size : Int) - 1) = ((a.size - i - n - 1 : Nat) : Int) := by rw [sa, w64] <;> omega
    have eb : wrap64 (((b.extract n (b.size - i)).size : Int) - 1) = ((b.size - i - n - 1 : Nat) : Int) := by rw [sb, w64] <;> omega
    have hs := h.same i (by omega)
    have xa : (a.extract n (a.size - i)).extract 0 (a.size - i - n - 1) = a.extract n (a.size - (i + 1)) := by
      have := ext_cut a n (a.size - (i + 1)) (by omega) (by omega)
      rw [show a.size - (i + 1) + 1 = a.size - i by omega, show a.size - (i + 1) - n = a.size - i - n - 1 by omega] at this
      exact this
    have xb : (b.extract n (b.size - i)).extract 0 (b.size - i - n - 1) = b.extract n (b.size - (i + 1)) := by
      have := ext_cut b n (b.size - (i + 1)) (by omega) (by omega)
      rw [show b.size - (i + 1) + 1 = b.size - i by omega, show b.size - (i + 1) - n = b.size - i - n - 1 by omega] at this
      exact this
    rw [show k + 1 + (d + 1) = (k + 1 + d) + 1 by omega, diff_Splice.l1, if_neg (by rw [nil_iff, sa]; omega), if_neg (by rw [nil_iff, sb]; omega), ea, eb, if_pos (by omega), if_pos (by rw [sa]; omega), if_pos (by omega), if_pos (by rw [sb]; omega), if_pos, if_pos (by rw [sa]; omega), if_pos (by rw [sb]; omega), Int.toNat_natCast, Int.toNat_natCast, xa, xb]
    · exact p_l1 h ha hb d (i + 1) k (by omega)
    · rw [bt_ext _ _ _ _ (by rw [sa]; omega), bt_ext _ _ _ _ (by rw [sb]; omega), show n + (a.size - i - n - 1) = a.size - 1 - i by omega, show n + (b.size - i - n - 1) = b.size - 1 - i by omega]
      exact hs
theorem r_step (h : Suf a b n m) (ha : a.size ≤ 2000) (hb : b.size ≤ 2000) (i k : Nat) (hi : i < m) : offshootref28_Splice.l1 (k + 1) a b (n : Int) (i : Int) = offshootref28_Splice.l1 k a b (n : Int) ((i + 1 : Nat) : Int) := by
  have h1 := h.ha
  have h2 := h.hb
  have c1 : ((n + i : Nat) : Int) < (a.size : Int) := by omega
  have c2 : ((n + i : Nat) : Int) < (b.size : Int) := by omega
  have c3 : 0 ≤ ((a.size - 1 - i : Nat) : Int) := by omega
  have c4 : ((a.size - 1 - i : Nat) : Int) < (a.size : Int) := by omega
  have c5 : 0 ≤ ((b.size - 1 - i : Nat) : Int) := by omega
  have c6 : ((b.size - 1 - i : Nat) : Int) < (b.size : Int) := by omega
  have hs := h.same i hi
  have e0 : wrap64 ((n : Int) + (i : Int)) = ((n + i : Nat) : Int) := by rw [w64] <;> omega
  have ea : wrap64 (wrap64 ((a.size : Int) - 1) - (i : Int)) = ((a.size - 1 - i : Nat) : Int) := by rw [w64 (x := (a.size : Int) - 1), w64] <;> omega
  have eb : wrap64 (wrap64 ((b.size : Int) - 1) - (i : Int)) = ((b.size - 1 - i : Nat) : Int) := by rw [w64 (x := (b.size : Int) - 1), w64] <;> omega
  have e4 : wrap64 ((i : Int) + 1) = ((i + 1 : Nat) : Int) := by rw [w64] <;> omega
  generalize hR : offshootref28_Splice.l1 k a b (n : Int) ((i + 1 : Nat) : Int) = R
  rw [offshootref28_Splice.l1, e0, ea, eb, if_pos c1, if_pos c2, if_pos c3, if_pos c4, if_pos c5, if_pos c6, if_pos hs, e4, hR]
theorem r_end (h : Suf a b n m) (ha : a.size ≤ 2000) (hb : b.size ≤ 2000) (k : Nat) : offshootref28_Splice.l1 (k + 1) a b (n : Int) (m : Int) = some ((n : Int), ((a.size - m - n : Nat) : Int), b.extract n (b.size - m)) := by
  have h1 := h.ha
  have h2 := h.hb
  have e0 : wrap64 ((n : Int) + (m : Int)) = ((n + m : Nat) : Int) := by rw [w64] <;> omega
  have e1 : wrap64 ((b.size : Int) - (m : Int)) = ((b.size - m : Nat) : Int) := by rw [w64] <;> omega
  have e2 : wrap64 ((a.size : Int) - (m : Int)) = ((a.size - m : Nat) : Int) := by rw [w64] <;> omega
  have e3 : wrap64 (((a.size - m : Nat) : Int) - (n : Int)) = ((a.size - m - n : Nat) : Int) := by rw [w64] <;> omega
  have hr : (if (0 : Int) ≤ (n : Int) then (if (n : Int) ≤ ((b.size - m : Nat) : Int) then (if ((b.size - m : Nat) : Int) ≤ (b.size : Int) then (some ((n : Int), ((a.size - m - n : Nat) : Int), b.extract ((n : Int)).toNat (((b.size - m : Nat) : Int)).toNat)) else none) else none) else none) = some ((n : Int), ((a.size - m - n : Nat) : Int), b.extract n (b.size - m)) := by
    rw [if_pos (by omega), if_pos (by omega), if_pos (by omega), Int.toNat_natCast, Int.toNat_natCast]
  have ea : wrap64 (wrap64 ((a.size : Int) - 1) - (m : Int)) = (a.size : Int) - 1 - m := by rw [w64 (x := (a.size : Int) - 1), w64] <;> omega
  have eb : wrap64 (wrap64 ((b.size : Int) - 1) - (m : Int)) = (b.size : Int) - 1 - m := by rw [w64 (x := (b.size : Int) - 1), w64] <;> omega
  rw [offshootref28_Splice.l1, e0, e1, e2, e3, hr, ea, eb]
  by_cases c1 : ((n + m : Nat) : Int) < (a.size : Int)
  · by_cases c2 : ((n + m : Nat) : Int) < (b.size : Int)
    · have c3 : 0 ≤ (a.size : Int) - 1 - m := by omega
      have c4 : (a.size : Int) - 1 - m < (a.size : Int) := by omega
      have c5 : 0 ≤ (b.size : Int) - 1 - m := by omega
      have c6 : (b.size : Int) - 1 - m < (b.size : Int) := by omega
      have c7 : ¬ (bt a ((a.size : Int) - 1 - m) = bt b ((b.size : Int) - 1 - m)) := by
        rw [show (a.size : Int) - 1 - m = ((a.size - 1 - m : Nat) : Int) by omega, show (b.size : Int) - 1 - m = ((b.size - 1 - m : Nat) : Int) by omega]
        rcases h.stop with e | e | e
        · omega
        · omega
        · exact e
      rw [if_pos c1, if_pos c2, if_pos c3, if_pos c4, if_pos c5, if_pos c6, if_neg c7]
    · rw [if_pos c1, if_neg c2]
  · rw [if_neg c1]
theorem r_l1 (h : Suf a b n m) (ha : a.size ≤ 2000) (hb : b.size ≤ 2000) (d : Nat) : ∀ i k : Nat, i + d = m → offshootref28_Splice.l1 (k + 1 + d) a b (n : Int) (i : Int) = some ((n : Int), ((a.size - m - n : Nat) : Int), b.extract n (b.size - m)) := by
  induction d with
  | zero =>
    intro i k hi
    obtain rfl : i = m := by omega
    exact r_end h ha hb k
  | succ d ih =>
    intro i k hi
    rw [show k + 1 + (d + 1) = (k + 1 + d) + 1 by omega, r_step h ha hb i _ (by omega)]
    exact ih (i + 1) k (by omega)
theorem p_f (h : Pre a b n) (h' : Suf a b n m) (ha : a.size ≤ 2000) (hb : b.size ≤ 2000) (k : Nat) : diff_Splice.f (k + m + 3 + n) a b = some ((n : Int), ((a.size - m - n : Nat) : Int), b.extract n (b.size - m)) := by
  have h1 := h.ha
  have h2 := h.hb
  unfold diff_Splice.f
  have := p_l0 h ha hb n 0 (k + m + 2) (by omega)
  rw [show k + m + 2 + 1 + n = k + m + 3 + n by omega] at this
  rw [show (0 : Int) = ((0 : Nat) : Int) by rfl, this, diff_Splice.j1, if_pos (by omega), if_pos (by omega), if_pos (by omega), Int.toNat_natCast]
  have := p_l1 h' ha hb m 0 k (by omega)
  rw [show k + 1 + m = k + m + 1 by omega] at this
  exact this
theorem r_f (h : Pre a b n) (h' : Suf a b n m) (ha : a.size ≤ 2000) (hb : b.size ≤ 2000) (k : Nat) : offshootref28_Splice.f (k + m + 3 + n) a b = some ((n : Int), ((a.size - m - n : Nat) : Int), b.extract n (b.size - m)) := by
  have h1 := h.ha
  have h2 := h.hb
  unfold offshootref28_Splice.f
  have := r_l0 h ha hb n 0 (k + m + 2) (by omega)
  rw [show k + m + 2 + 1 + n = k + m + 3 + n by omega] at this
  rw [show (0 : Int) = ((0 : Nat) : Int) by rfl, this, offshootref28_Splice.j1]
  have := r_l1 h' ha hb m 0 k (by omega)
  rw [show k + 1 + m = k + m + 1 by omega] at this
  exact this
/-- Spliced, the first text is the second. -/
theorem made (h : Pre a b n) (h' : Suf a b n m) : a.extract 0 n ++ b.extract n (b.size - m) ++ a.extract (a.size - m) a.size = b := by
  have h1 := h'.ha
  have h2 := h'.hb
  have e0 : a.extract 0 n = b.extract 0 n := by
    apply ba_ext
    · rw [ByteArray.size_extract, ByteArray.size_extract]; omega
    · intro i hi
      have hi' := hi
      rw [ByteArray.size_extract] at hi'
      rw [bt_ext _ _ _ _ hi, bt_ext _ _ _ _ (by rw [ByteArray.size_extract]; omega)]
      exact h.same _ (by omega)
  have e1 : a.extract (a.size - m) a.size = b.extract (b.size - m) b.size := by
    apply ba_ext
    · rw [ByteArray.size_extract, ByteArray.size_extract]; omega
    · intro i hi
      have hi' := hi
      rw [ByteArray.size_extract] at hi'
      rw [bt_ext _ _ _ _ hi, bt_ext _ _ _ _ (by rw [ByteArray.size_extract]; omega)]
      have := h'.same (m - 1 - i) (by omega)
      rw [show a.size - 1 - (m - 1 - i) = a.size - m + i by omega, show b.size - 1 - (m - 1 - i) = b.size - m + i by omega] at this
      exact this
  rw [e0, e1, ← ByteArray.extract_eq_extract_append_extract n (by omega) (by omega), ← ByteArray.extract_eq_extract_append_extract (b.size - m) (by omega) (by omega), ByteArray.extract_zero_size]
end
theorem DiffSplice : offshootlaw28_DiffSplice.Pure := by
  intro a b _ _
  by_cases ha : 2000 < a.size
  · refine ⟨2, ?_⟩
    unfold offshootlaw28_DiffSplice.f offshootlaw28_alive.f
    rw [Option.bind_some, if_pos rfl, if_pos (by omega), offshootlaw28_DiffSplice.j0, if_pos rfl]
  by_cases hb : 2000 < b.size
  · refine ⟨2, ?_⟩
    unfold offshootlaw28_DiffSplice.f offshootlaw28_alive.f
    rw [Option.bind_some, if_pos rfl, if_neg (by omega), offshootlaw28_DiffSplice.j0, if_pos (decide_eq_true (by omega))]
  have ha' : a.size ≤ 2000 := by omega
  have hb' : b.size ≤ 2000 := by omega
  obtain ⟨n, h⟩ := pre_from a b (a.size - 0) 0 (by omega) (by omega) rfl (fun i hi => absurd hi (by omega))
  obtain ⟨m, h'⟩ := suf_from a b n (a.size - (n + 0)) 0 (by have := h.ha; omega) (by have := h.hb; omega) rfl (fun i hi => absurd hi (by omega))
  have h1 := h'.ha
  have h2 := h'.hb
  refine ⟨0 + m + 3 + n + 1, ?_⟩
  unfold offshootlaw28_DiffSplice.f offshootlaw28_alive.f
  rw [Option.bind_some, if_pos rfl, if_neg (by omega), offshootlaw28_DiffSplice.j0, if_neg (by simp; omega), p_f h h' ha' hb', r_f h h' ha' hb', Option.bind_some, Option.bind_some]
  have e : wrap64 ((n : Int) + ((a.size - m - n : Nat) : Int)) = ((a.size - m : Nat) : Int) := by rw [w64] <;> omega
  have s0 : (a.extract 0 n).size = n := by rw [ByteArray.size_extract]; omega
  have s1 : (b.extract n (b.size - m)).size = b.size - m - n := by rw [ByteArray.size_extract]; omega
  have s2 : (a.extract (a.size - m) a.size).size = m := by rw [ByteArray.size_extract]; omega
  have s3 : (a.extract n (a.size - m)).size = a.size - m - n := by rw [ByteArray.size_extract]; omega
  simp only [e, Int.toNat_natCast]
  rw [if_pos trivial, if_pos trivial, if_pos trivial, if_neg (by omega), if_neg (by omega), if_neg (by omega), if_pos (by omega), if_pos (by omega), if_pos (by rw [s0, s1]; omega), if_pos (by omega), if_pos (by omega), if_pos (by rw [ByteArray.size_append, s0, s1, s2]; omega), made h h', if_pos rfl, if_pos (by omega), s3, s1]
  split
  · rfl
  split
  · rfl
  rename_i c1 c2
  have ex : wrap64 (((a.size - m - n : Nat) : Int) - 1) = ((a.size - m - n - 1 : Nat) : Int) := by rw [w64] <;> omega
  have ey : wrap64 (((b.size - m - n : Nat) : Int) - 1) = ((b.size - m - n - 1 : Nat) : Int) := by rw [w64] <;> omega
  have b0 := bt_ext a n (a.size - m) 0 (by rw [s3]; omega)
  have b1 := bt_ext b n (b.size - m) 0 (by rw [s1]; omega)
  have b2 := bt_ext a n (a.size - m) (a.size - m - n - 1) (by rw [s3]; omega)
  have b3 := bt_ext b n (b.size - m) (b.size - m - n - 1) (by rw [s1]; omega)
  rw [show n + (a.size - m - n - 1) = a.size - 1 - m by omega] at b2
  rw [show n + (b.size - m - n - 1) = b.size - 1 - m by omega] at b3
  rw [if_pos (by omega), if_pos (by omega), if_neg, ex, ey, if_pos (by omega), if_pos (by omega), if_pos (by omega), if_pos (by omega), b2, b3]
  · have : bt a ((a.size - 1 - m : Nat) : Int) ≠ bt b ((b.size - 1 - m : Nat) : Int) := by
      rcases h'.stop with e | e | e
      · omega
      · omega
      · exact e
    rw [bne_iff_ne.2 this]
  · rw [show (0 : Int) = ((0 : Nat) : Int) by rfl, b0, b1, Nat.add_zero]
    rcases h.stop with e | e | e
    · omega
    · omega
    · exact e
end Go.Proofs.Ytbaihnpanoibdaa.Pure
