/- What a difference drops and puts, counted; a difference of an outline with itself. -/
import Derived.Test.YtbaihnpanoibdaaDiffW
namespace Go.Proofs.Ytbaihnpanoibdaa.Q
set_option linter.unusedVariables false
/-- How many blocks a list of changes drops. -/
def dsum : List S38 → Int
  | [] => 0
  | c :: cs => (if c.f0 = 2 then c.f1 else 0) + dsum cs
/-- How many it puts. -/
def psum : List S38 → Int
  | [] => 0
  | c :: cs => (if c.f0 = 3 then 1 else 0) + psum cs
theorem dsum_app : ∀ (a b : List S38), dsum (a ++ b) = dsum a + dsum b
  | [], b => by simp [dsum]
  | c :: a, b => by rw [List.cons_append, dsum, dsum, dsum_app a b]; omega
theorem psum_app : ∀ (a b : List S38), psum (a ++ b) = psum a + psum b
  | [], b => by simp [psum]
  | c :: a, b => by rw [List.cons_append, psum, psum, psum_app a b]; omega
/-- No two keeps in a row, no two drops in a row. -/
def NoAdj (l : List S38) : Prop := ∀ (i : Nat) (x y : S38), l[i]? = some x → l[i + 1]? = some y → x.f0 = y.f0 → x.f0 ≠ 1 ∧ x.f0 ≠ 2
theorem NoAdj.nil : NoAdj [] := fun i x y h _ _ => by simp at h
/-- One change more, unlike the last one, or neither a keep nor a drop. -/
theorem NoAdj.snoc {l : List S38} {c : S38} (h : NoAdj l) (hc : (∀ x, l.getLast? = some x → x.f0 ≠ c.f0) ∨ (c.f0 ≠ 1 ∧ c.f0 ≠ 2)) : NoAdj (l ++ [c]) := by
  intro i x y hx hy he
  by_cases h1 : i + 1 < l.length
  · rw [List.getElem?_append_left (by omega)] at hx
    rw [List.getElem?_append_left h1] at hy
    exact h i x y hx hy he
  · have h2 : i + 1 = l.length := by
      have := (List.getElem?_eq_some_iff.1 hy).1
      rw [List.length_append, List.length_singleton] at this
      omega
    rw [List.getElem?_append_left (by omega)] at hx
    rw [List.getElem?_append_right (by omega), h2, Nat.sub_self] at hy
    obtain rfl : c = y := by simpa using hy
    rcases hc with hc | hc
    · refine absurd he (hc x ?_)
      rw [List.getLast?_eq_getElem?, show l.length - 1 = i by omega]
      exact hx
    · rw [he]; exact hc
theorem NoAdj.init {l : List S38} {c : S38} (h : NoAdj (l ++ [c])) : NoAdj l := by
  intro i x y hx hy he
  have h1 := (List.getElem?_eq_some_iff.1 hy).1
  exact h i x y (by rw [List.getElem?_append_left (by omega)]; exact hx) (by rw [List.getElem?_append_left h1]; exact hy) he
/-- Of a longer list whose last change is of one kind: another of the kind in its place. -/
theorem NoAdj.swap {l : List S38} {c d : S38} (h : NoAdj (l ++ [c])) (hk : c.f0 = d.f0) : NoAdj (l ++ [d]) := by
  intro i x y hx hy he
  by_cases h1 : i + 1 < l.length
  · rw [List.getElem?_append_left (by omega)] at hx
    rw [List.getElem?_append_left h1] at hy
    exact h.init i x y hx hy he
  · have h2 : i + 1 = l.length := by
      have := (List.getElem?_eq_some_iff.1 hy).1
      rw [List.length_append, List.length_singleton] at this
      omega
    rw [List.getElem?_append_left (by omega)] at hx
    rw [List.getElem?_append_right (by omega), h2, Nat.sub_self] at hy
    obtain rfl : d = y := by simpa using hy
    exact h i x c (by rw [List.getElem?_append_left (by omega)]; exact hx) (by rw [List.getElem?_append_right (by omega), h2, Nat.sub_self]; rfl) (he.trans hk.symm)
theorem some_cases (ch : List S38) (kind n : Int) (hn : n ≠ 0) : (∃ l x, ch = l ++ [x] ∧ x.f0 = kind ∧ someF ch kind n = l ++ [⟨kind, x.f1 + n, x.f2⟩]) ∨ ((∀ x, ch.getLast? = some x → x.f0 ≠ kind) ∧ someF ch kind n = ch ++ [⟨kind, n, z36⟩]) := by
  unfold someF
  rw [if_neg hn]
  cases hx : ch.getLast? with
  | none => exact .inr ⟨fun x h => (nomatch h), rfl⟩
  | some x =>
    obtain ⟨l, rfl⟩ := List.getLast?_eq_some_iff.1 hx
    by_cases hk : x.f0 = kind
    · refine .inl ⟨l, x, rfl, hk, ?_⟩
      dsimp only
      rw [if_pos hk, List.dropLast_concat, hk]
    · refine .inr ⟨fun y h => ?_, ?_⟩
      · obtain rfl := Option.some.inj h
        exact hk
      · dsimp only
        rw [if_neg hk]
/-- What is counted of a list. -/
structure Cnt (ch : List S38) (d p : Int) : Prop where
  d : dsum ch = d
  p : psum ch = p
  n : NoAdj ch
theorem Cnt.some2 {ch : List S38} {d p : Int} (h : Cnt ch d p) (n : Int) : Cnt (someF ch 2 n) (d + n) p := by
  by_cases h0 : n = 0
  · subst h0
    have e : someF ch 2 0 = ch := by unfold someF; rw [if_pos rfl]
    rw [e, Int.add_zero]; exact h
  · rcases some_cases ch 2 n h0 with ⟨l, x, rfl, hk, e⟩ | ⟨hl, e⟩
    · rw [e]
      have h1 := h.d
      have h2 := h.p
      rw [dsum_app] at h1
      rw [psum_app] at h2
      simp only [dsum, psum, hk] at h1 h2
      exact ⟨by rw [dsum_app]; simp only [dsum]; simp at h1 ⊢; omega, by rw [psum_app]; simp only [psum]; simp at h2 ⊢; omega, h.n.swap hk⟩
    · rw [e]
      have h1 := h.d
      have h2 := h.p
      exact ⟨by rw [dsum_app]; simp [dsum]; omega, by rw [psum_app]; simp [psum]; omega, h.n.snoc (.inl hl)⟩
theorem Cnt.some1 {ch : List S38} {d p : Int} (h : Cnt ch d p) (n : Int) : Cnt (someF ch 1 n) d p := by
  by_cases h0 : n = 0
  · subst h0
    have e : someF ch 1 0 = ch := by unfold someF; rw [if_pos rfl]
    rw [e]; exact h
  · rcases some_cases ch 1 n h0 with ⟨l, x, rfl, hk, e⟩ | ⟨hl, e⟩
    · rw [e]
      have h1 := h.d
      have h2 := h.p
      rw [dsum_app] at h1
      rw [psum_app] at h2
      simp only [dsum, psum, hk] at h1 h2
      exact ⟨by rw [dsum_app]; simp only [dsum]; simp at h1 ⊢; omega, by rw [psum_app]; simp only [psum]; simp at h2 ⊢; omega, h.n.swap hk⟩
    · rw [e]
      have h1 := h.d
      have h2 := h.p
      exact ⟨by rw [dsum_app]; simp [dsum]; omega, by rw [psum_app]; simp [psum]; omega, h.n.snoc (.inl hl)⟩
theorem Cnt.puts : ∀ (ys : List S36) {ch : List S38} {d p : Int}, Cnt ch d p → Cnt (ch ++ ys.map putC) d (p + ys.length)
  | [], ch, d, p, h => by simpa using h
  | y :: ys, ch, d, p, h => by
    have h1 : Cnt (ch ++ [putC y]) d (p + 1) := by
      have h1 := h.d
      have h2 := h.p
      exact ⟨by rw [dsum_app]; simp [dsum, putC]; omega, by rw [psum_app]; simp [psum, putC]; omega, h.n.snoc (.inr (by simp [putC]))⟩
    have := Cnt.puts ys h1
    rw [List.map_cons, List.length_cons, show p + ((ys.length + 1 : Nat) : Int) = p + 1 + (ys.length : Int) by omega]
    simpa using this
theorem Cnt.kept {ch : List S38} {d p : Int} (h : Cnt ch d p) (x y : S36) : Cnt (keptF ch x y) d p := by
  unfold keptF
  split
  · exact h.some1 1
  · have h1 := h.d
    have h2 := h.p
    exact ⟨by rw [dsum_app]; simp [dsum]; omega, by rw [psum_app]; simp [psum]; omega, h.n.snoc (.inr (by simp))⟩
theorem nx_zero {A B : List S36} (h : nx A B = none) : lcs A B = 0 := by
  by_cases c : lcs A B = 0
  · exact c
  · obtain ⟨p, hp⟩ := nx_some A B c
    rw [h] at hp; cases hp
/-- A difference drops and puts as few as can be. -/
theorem dl_cnt : ∀ (n : Nat) (A B : List S36) (ch : List S38) (d p : Int), A.length ≤ n → Cnt ch d p → Cnt (dl n A B ch) (d + A.length - lcs A B) (p + B.length - lcs A B)
  | 0, A, B, ch, d, p, hA, h => by
    obtain rfl : A = [] := List.length_eq_zero_iff.1 (by omega)
    have := Cnt.puts B (h.some2 (([] : List S36).length : Int))
    rw [dl, lcs_nil]
    simpa using this
  | n + 1, A, B, ch, d, p, hA, h => by
    rw [dl]
    split
    · rename_i hx
      have := Cnt.puts B (h.some2 (A.length : Int))
      rw [nx_zero hx]
      simpa using this
    · rename_i q hq
      obtain ⟨s, j⟩ := q
      obtain ⟨h1, h2, _, h4⟩ := nx_lt hq
      have g := dl_cnt n (A.drop (s + 1)) (B.drop (j + 1)) _ _ _ (by rw [List.length_drop]; omega) ((Cnt.puts (B.take j) (h.some2 (s : Int))).kept (rd_T36 A (s : Int)) (rd_T36 B (j : Int)))
      rw [List.length_drop, List.length_drop, List.length_take] at g
      dsimp only
      have e1 : d + (s : Int) + ((A.length - (s + 1) : Nat) : Int) - (lcs (A.drop (s + 1)) (B.drop (j + 1)) : Int) = d + A.length - lcs A B := by omega
      have e2 : p + ((min j B.length : Nat) : Int) + ((B.length - (j + 1) : Nat) : Int) - (lcs (A.drop (s + 1)) (B.drop (j + 1)) : Int) = p + B.length - lcs A B := by omega
      rw [e1, e2] at g
      exact g
theorem nx_self (x : S36) (A : List S36) : nx (x :: A) (x :: A) = some (0, 0) := by
  refine nx_here (j := 0) (by unfold pos; rw [if_pos rfl]) ?_
  rw [lcs_eq A A rfl]
  rfl
/-- The difference of an outline with itself. -/
theorem dl_same : ∀ (n : Nat) (A : List S36) (m : Nat), A.length ≤ n → dl n A A (if m = 0 then [] else [⟨1, (m : Int), z36⟩]) = (if m + A.length = 0 then [] else [⟨1, ((m + A.length : Nat) : Int), z36⟩])
  | 0, A, m, h => by
    obtain rfl : A = [] := List.length_eq_zero_iff.1 (by omega)
    rw [dl]
    unfold someF
    simp
  | n + 1, [], m, h => by
    rw [dl]
    have : nx ([] : List S36) [] = none := rfl
    rw [this]
    unfold someF
    simp
  | n + 1, x :: A, m, h => by
    rw [dl, nx_self]
    dsimp only
    have e1 : rd_T36 (x :: A) ((0 : Nat) : Int) = x := rfl
    have e2 : someF (if m = 0 then [] else [⟨1, (m : Int), z36⟩]) 2 ((0 : Nat) : Int) = (if m = 0 then [] else [⟨1, (m : Int), z36⟩]) := by
      unfold someF; rw [if_pos (show ((0 : Nat) : Int) = 0 from rfl)]
    have e3 : keptF (if m = 0 then [] else [⟨1, (m : Int), z36⟩]) x x = (if m + 1 = 0 then [] else [⟨1, ((m + 1 : Nat) : Int), z36⟩]) := by
      unfold keptF
      rw [if_pos (sameB_iff.2 rfl)]
      unfold someF
      by_cases hm : m = 0
      · subst hm; simp
      · simp [hm]
    rw [e1, e2, List.take_zero, List.map_nil, List.append_nil, e3]
    have := dl_same n A (m + 1) (by simp at h; omega)
    simp only [List.drop_succ_cons, List.drop_zero]
    rw [this, List.length_cons]
    rw [if_neg (by omega), if_neg (by omega), show m + 1 + A.length = m + (A.length + 1) by omega]
end Go.Proofs.Ytbaihnpanoibdaa.Q
