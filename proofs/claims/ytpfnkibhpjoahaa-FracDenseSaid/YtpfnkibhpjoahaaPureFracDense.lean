/- Keys that are made between others, again and again, are in order, as long as there are any: for every row of numbers. -/
import Derived.Test.YtpfnkibhpjoahaaKit
import Derived.Test.YtpfnkibhpjoahaaQx6
import Derived.Laws.BitsLemmas
namespace Go.Proofs.Ytpfnkibhpjoahaa.Pure
open Go.RowKit Go.Proofs.Ytpfnkibhpjoahaa.Q Go.Proofs.Ytpfnkibhpjoahaa.Math Go.Proofs.Ytpfnkibhpjoahaa.Kit Go.Proofs.YtpfnkibhpjoahaaW.PrintWords Go.Proofs.YtpfnkibhpjoahaaW.PrintLast

theorem and1023 (n : Int) : bits .and .i64 n 1023 = n % 1024 := by
  have h1 : (BitVec.ofInt 64 1023).toNat = 2 ^ 10 - 1 := by decide
  have key : (BitVec.ofInt 64 n &&& BitVec.ofInt 64 1023).toNat = (n % ((2 ^ 64 : Nat) : Int)).toNat % 2 ^ 10 := by
    rw [BitVec.toNat_and, BitVec.toNat_ofInt, h1, Nat.and_two_pow_sub_one_eq_mod]
  show IntKind.i64.wrap ((BitVec.ofInt 64 n &&& BitVec.ofInt 64 1023).toNat : Nat) = n % 1024
  rw [key, IntKind.wrap_i64]
  omega

/-- Keys in order. -/
structure Inv (ks : List (List Int)) : Prop where
  good : ∀ x ∈ ks, Rng x ∧ right x = true
  adj : ∀ i, i + 1 < ks.length → lt (ks.getD i []) (ks.getD (i + 1) []) = true
theorem getD_mem' (ks : List (List Int)) (i : Nat) (h : i < ks.length) : ks.getD i [] ∈ ks := by
  rw [List.getD_eq_getElem?_getD, List.getElem?_eq_getElem h]; exact List.getElem_mem h
theorem getD_ins (ks : List (List Int)) (r : List Int) (n i : Nat) (h : n ≤ ks.length) :
    (ks.take n ++ [r] ++ ks.drop n).getD i [] = if i < n then ks.getD i [] else if i = n then r else ks.getD (i - 1) [] := by
  simp only [List.getD_eq_getElem?_getD]
  congr 1
  rw [List.append_assoc]
  by_cases c : i < n
  · rw [if_pos c, List.getElem?_append_left (by simp; omega), List.getElem?_take, if_pos c]
  · rw [if_neg c, List.getElem?_append_right (by simp; omega), List.length_take, Nat.min_eq_left h]
    by_cases e : i = n
    · subst e; simp
    · rw [if_neg e, show i - n = (i - n - 1) + 1 from by omega, List.singleton_append, List.getElem?_cons_succ, List.getElem?_drop, show n + (i - n - 1) = i - 1 from by omega]
theorem Inv.insert {ks : List (List Int)} (h : Inv ks) {n : Nat} (hn : n ≤ ks.length) {r : List Int} (hr : Rng r) (hr' : right r = true)
    (hl : 0 < n → lt (ks.getD (n - 1) []) r = true) (hh : n < ks.length → lt r (ks.getD n []) = true) : Inv (ks.take n ++ [r] ++ ks.drop n) := by
  refine ⟨fun x hx => ?_, fun i hi => ?_⟩
  · simp only [List.mem_append, List.mem_singleton] at hx
    rcases hx with (hx | rfl) | hx
    · exact h.good x (List.mem_of_mem_take hx)
    · exact ⟨hr, hr'⟩
    · exact h.good x (List.mem_of_mem_drop hx)
  · have hlen : i + 1 < ks.length + 1 := by simp at hi; omega
    rw [getD_ins ks r n i hn, getD_ins ks r n (i + 1) hn]
    by_cases c : i + 1 < n
    · rw [if_pos (by omega), if_pos c]; exact h.adj i (by omega)
    · by_cases c' : i + 1 = n
      · subst c'; rw [if_pos (by omega), if_neg (by omega), if_pos rfl]; exact hl (by omega)
      · by_cases c'' : i = n
        · subst c''; rw [if_neg (by omega), if_pos rfl, if_neg (by omega), if_neg (by omega)]; exact hh (by omega)
        · rw [if_neg (by omega), if_neg c'', if_neg (by omega), if_neg (by omega)]
          have := h.adj (i - 1) (by omega)
          rwa [show i - 1 + 1 = i + 1 - 1 from by omega] at this
def lowOf (ks : List (List Int)) (n : Nat) : List Int := if 0 < n then ks.getD (n - 1) [] else []
def highOf (ks : List (List Int)) (n : Nat) : List Int := if n < ks.length then ks.getD n [] else []
theorem fine_of {ks : List (List Int)} (h : Inv ks) (n : Nat) (hn : n < ks.length) : fine (ks.getD n []) = true := by
  unfold fine; rw [(h.good _ (getD_mem' ks n hn)).2]; simp
theorem span_of {lo hi : List Int} (h : fine lo = true) (h' : fine hi = true) (h2 : lo = [] ∨ hi = [] ∨ lt lo hi = true) : spanFine lo hi = true := by
  unfold spanFine
  rw [h, h']
  rcases h2 with rfl | rfl | h2
  · rfl
  · cases lo <;> rfl
  · rw [h2]; simp
theorem rng_nil : Rng [] := fun _ h => by cases h
theorem ends_ok {ks : List (List Int)} (h : Inv ks) {n : Nat} (hn : n ≤ ks.length) : spanFine (lowOf ks n) (highOf ks n) = true ∧ Rng (lowOf ks n) ∧ Rng (highOf ks n) ∧ (lowOf ks n).length ≤ 32 ∧ (highOf ks n).length ≤ 32 := by
  unfold lowOf highOf
  by_cases c : 0 < n
  · have g1 := h.good _ (getD_mem' ks (n - 1) (by omega))
    rw [if_pos c]
    by_cases c' : n < ks.length
    · have g2 := h.good _ (getD_mem' ks n c')
      have ha := h.adj (n - 1) (by omega)
      rw [show n - 1 + 1 = n from by omega] at ha
      rw [if_pos c']
      exact ⟨span_of (fine_of h (n - 1) (by omega)) (fine_of h n c') (.inr (.inr ha)), g1.1, g2.1, (right_ends g1.2).2, (right_ends g2.2).2⟩
    · rw [if_neg c']
      exact ⟨span_of (fine_of h (n - 1) (by omega)) rfl (.inr (.inl rfl)), g1.1, rng_nil, (right_ends g1.2).2, by simp⟩
  · rw [if_neg c]
    by_cases c' : n < ks.length
    · have g2 := h.good _ (getD_mem' ks n c')
      rw [if_pos c']
      exact ⟨span_of rfl (fine_of h n c') (.inl rfl), rng_nil, g2.1, by simp, (right_ends g2.2).2⟩
    · rw [if_neg c']
      exact ⟨rfl, rng_nil, rng_nil, by simp, by simp⟩
theorem ends_next {ks : List (List Int)} (h : Inv ks) {n : Nat} (hn : n ≤ ks.length) {r : List Int} (hr : betw (lowOf ks n) (highOf ks n) = some r) : Inv (ks.take n ++ [r] ++ ks.drop n) := by
  obtain ⟨_, r1, r2, _, _⟩ := ends_ok h hn
  obtain ⟨b1, b2, b3, b4⟩ := betw_some r1 r2 hr
  refine h.insert hn b1 b2 (fun c => ?_) (fun c => ?_)
  · unfold lowOf at b3; rw [if_pos c] at b3; exact b3
  · unfold highOf at b4; rw [if_pos c] at b4
    exact b4 (right_ends (h.good _ (getD_mem' ks n c)).2).1.ne

theorem rd_map (ks : List (List Int)) (i : Nat) (h : i < ks.length) : rdOf ByteArray.empty (ks.map strOfNums) (i : Int) = strOfNums (ks.getD i []) := by
  unfold rdOf
  rw [Int.toNat_natCast, List.getD_eq_getElem?_getD, List.getElem?_map, List.getD_eq_getElem?_getD, List.getElem?_eq_getElem h]
  rfl

theorem order_loop {ks : List (List Int)} (h : Inv ks) (hl : ks.length ≤ 1000) : ∀ (d k i : Nat), i + d = ks.length + 1 → 1 ≤ i → d + 1 ≤ k → offshootlaw04_FracDense.l1 k (ks.map strOfNums) i = some true
  | 0, k, i, hd, hi, hk => by
    obtain ⟨k, rfl⟩ : ∃ m, k = m + 1 := ⟨k - 1, by omega⟩
    simp only [offshootlaw04_FracDense.l1, List.length_map]
    rw [if_neg (by omega)]
  | d + 1, k, i, hd, hi, hk => by
    obtain ⟨k, rfl⟩ : ∃ m, k = m + 1 := ⟨k - 1, by omega⟩
    simp only [offshootlaw04_FracDense.l1, List.length_map]
    by_cases c : i < ks.length
    · have e1 : wrap64 ((i : Int) - 1) = ((i - 1 : Nat) : Int) := by rw [w64] <;> omega
      have e2 : wrap64 ((i : Int) + 1) = ((i + 1 : Nat) : Int) := by rw [w64] <;> omega
      rw [if_pos (by omega), e1, e2, if_pos (by omega), if_pos (by omega), if_pos (by omega), rd_map ks _ (by omega), rd_map ks _ c]
      obtain ⟨t, o, p⟩ := order_neg (strOfNums (ks.getD (i - 1) [])) (strOfNums (ks.getD i []))
      rw [nm_str _ (h.good _ (getD_mem' ks _ (by omega))).1, nm_str _ (h.good _ (getD_mem' ks _ c)).1] at p
      have ha := h.adj (i - 1) (by omega)
      rw [show i - 1 + 1 = i from by omega] at ha
      have ht := p.2 ha
      rw [o]
      simp only [Option.bind_some]
      rw [if_neg (by omega)]
      exact order_loop h hl d k (i + 1) (by omega) (by omega) (by omega)
    · rw [if_neg (by omega)]

theorem dense_loop (xs : List Int) (hx : xs.length ≤ 300) : ∀ (d k i : Nat) (ks : List (List Int)), Inv ks → i + d = xs.length → ks.length = i → 2 * d + 2000 ≤ k → offshootlaw04_FracDense.l0 k xs (ks.map strOfNums) i = some true
  | 0, k, i, ks, hI, hd, hi, hk => by
    obtain ⟨k, rfl⟩ : ∃ m, k = m + 1 := ⟨k - 1, by omega⟩
    simp only [offshootlaw04_FracDense.l0]
    rw [if_neg (by omega)]
    exact order_loop hI (by omega) ks.length k 1 (by omega) (by omega) (by omega)
  | d + 1, k, i, ks, hI, hd, hi, hk => by
    obtain ⟨k, rfl⟩ : ∃ m, k = m + 2 := ⟨k - 2, by omega⟩
    simp only [offshootlaw04_FracDense.l0, List.length_map, and1023]
    obtain ⟨n, hn, hnl⟩ : ∃ n : Nat, Int.tmod (rd xs i % 1024) (wrap64 ((ks.length : Int) + 1)) = n ∧ n ≤ ks.length := by
      rw [w64 (by omega) (by omega)]
      refine ⟨((rd xs i % 1024) % ((ks.length : Int) + 1)).toNat, ?_, ?_⟩
      · rw [Int.tmod_eq_emod_of_nonneg (by omega)]
        have := Int.emod_nonneg (rd xs i % 1024) (b := (ks.length : Int) + 1) (by omega)
        omega
      · have := Int.emod_lt_of_pos (rd xs i % 1024) (b := (ks.length : Int) + 1) (by omega)
        have := Int.emod_nonneg (rd xs i % 1024) (b := (ks.length : Int) + 1) (by omega)
        omega
    rw [if_pos (by omega), if_pos (by omega), if_neg (by rw [w64] <;> omega), hn]
    have e2 : wrap64 ((i : Int) + 1) = ((i + 1 : Nat) : Int) := by rw [w64] <;> omega
    obtain ⟨s1, s2, s3, s4, s5⟩ := ends_ok hI hnl
    have main : offshootlaw04_FracDense.j1 (k + 1) xs (ks.map strOfNums) i n (strOfNums (lowOf ks n)) (⟨#[]⟩ : ByteArray) = some true := by
      have fin : ∀ q : ByteArray, q = strOfNums (highOf ks n) →
          ((frac_Between.f k (strOfNums (lowOf ks n)) q) = some (ans (betw (lowOf ks n) (highOf ks n)))) := by
        rintro q rfl
        rw [between_at (by omega) _ _ (big_str (by omega) s2) (big_str (by omega) s3), nm_str _ s2, nm_str _ s3]
      have bad : ∀ q : ByteArray, q = strOfNums (highOf ks n) → betw (lowOf ks n) (highOf ks n) = none →
          (if ((strOfNums (lowOf ks n)).size : Int) ≥ 31 then (some true) else (some (decide ((q.size : Int) ≥ 31)))) = some true := by
        rintro q rfl hb
        have := betw_none s2 s3 s1 hb
        rw [← nm_len, ← nm_len, nm_str _ s2, nm_str _ s3]
        split
        · rfl
        · rw [decide_eq_true (by omega)]
      have next : ∀ r, betw (lowOf ks n) (highOf ks n) = some r → offshootlaw04_FracDense.l0 k xs ((ks.take n ++ [r] ++ ks.drop n).map strOfNums) ((i + 1 : Nat) : Int) = some true := by
        intro r hr
        exact dense_loop xs hx d k (i + 1) _ (ends_next hI hnl hr) (by omega) (by simp; omega) (by omega)
      simp only [offshootlaw04_FracDense.j1, List.length_map, Int.toNat_natCast, e2]
      by_cases c : n < ks.length
      · have eh : rdOf ByteArray.empty (ks.map strOfNums) (n : Int) = strOfNums (highOf ks n) := by rw [rd_map ks n c]; unfold highOf; rw [if_pos c]
        rw [if_pos (by omega), if_pos (by omega), fin _ eh]
        simp only [Option.bind_some]
        cases hb : betw (lowOf ks n) (highOf ks n) with
        | none => rw [if_neg (show ¬ (ans none).2 = 0 by decide)]; exact bad _ eh hb
        | some r =>
          have := next r hb
          simp only [ans, if_true, List.length_nil, List.nil_append, List.length_append, List.length_take, List.length_map, List.length_drop, List.length_singleton, Nat.min_eq_left hnl, Nat.zero_add]
          rw [if_pos (by omega), if_pos (by omega), if_pos (by omega), if_pos (by omega)]
          simpa using this
      · have eh : (⟨#[]⟩ : ByteArray) = strOfNums (highOf ks n) := by unfold highOf; rw [if_neg c]; rfl
        rw [if_neg (by omega), fin _ eh]
        simp only [Option.bind_some]
        cases hb : betw (lowOf ks n) (highOf ks n) with
        | none => rw [if_neg (show ¬ (ans none).2 = 0 by decide)]; exact bad _ eh hb
        | some r =>
          have := next r hb
          simp only [ans, if_true, List.length_nil, List.nil_append, List.length_append, List.length_take, List.length_map, List.length_drop, List.length_singleton, Nat.min_eq_left hnl, Nat.zero_add]
          rw [if_pos (by omega), if_pos (by omega), if_pos (by omega), if_pos (by omega), if_pos (by omega)]
          simpa using this
    by_cases c : 0 < n
    · have e1 : wrap64 ((n : Int) - 1) = ((n - 1 : Nat) : Int) := by rw [w64] <;> omega
      rw [if_pos (by omega), e1, if_pos (by omega), if_pos (by omega), rd_map ks _ (by omega)]
      unfold lowOf at main
      rw [if_pos c] at main
      exact main
    · rw [if_neg (by omega)]
      unfold lowOf at main
      rw [if_neg c] at main
      exact main

theorem FracDense : offshootlaw04_FracDense.Pure := by
  intro xs _ _ _
  refine ⟨9000, ?_⟩
  unfold offshootlaw04_FracDense.f
  rw [alive_at (by omega)]
  simp only [Option.bind_some, if_true]
  by_cases c : (xs.length : Int) > 300
  · rw [if_pos c]
  · rw [if_neg c]
    exact dense_loop xs (by omega) xs.length 9000 0 [] ⟨fun _ h => (by cases h), fun i h => (by simp at h)⟩ (by omega) rfl (by omega)
end Go.Proofs.Ytpfnkibhpjoahaa.Pure
