/- The plain mathematics of layer 28: longest rows, the greedy difference, what a writer makes of it. No program in sight. -/
import Derived.Test.YtbaihnpanoibdaaQx0
namespace Go.Proofs.Ytbaihnpanoibdaa.Q
set_option linter.unusedVariables false

/-- A block's name. -/
def idOf (x : S36) : Int × Int := (x.f0.f0, x.f0.f1)
/-- One row of the table, out of the next one. -/
def row (x : S36) (f : List S36 → Nat) : List S36 → Nat
  | [] => 0
  | y :: b => if idOf x = idOf y then f b + 1 else max (f (y :: b)) (row x f b)
/-- How many blocks of two outlines can be kept. -/
def lcs : List S36 → List S36 → Nat
  | [], _ => 0
  | x :: a, b => row x (lcs a) b
theorem lcs_nil (b : List S36) : lcs [] b = 0 := rfl
theorem lcs_nil' : ∀ a : List S36, lcs a [] = 0
  | [] => rfl
  | _ :: _ => rfl
theorem lcs_eq {x y : S36} (a b : List S36) (h : idOf x = idOf y) : lcs (x :: a) (y :: b) = lcs a b + 1 := by
  show row x (lcs a) (y :: b) = _
  unfold row; rw [if_pos h]
theorem lcs_ne {x y : S36} (a b : List S36) (h : idOf x ≠ idOf y) : lcs (x :: a) (y :: b) = max (lcs a (y :: b)) (lcs (x :: a) b) := by
  show row x (lcs a) (y :: b) = _
  rw [row, if_neg h]; rfl
/-- One block more changes the number by at most one, on either side. -/
theorem lcs_step : ∀ (a b : List S36), (∀ x, lcs a b ≤ lcs (x :: a) b ∧ lcs (x :: a) b ≤ lcs a b + 1) ∧ (∀ y, lcs a b ≤ lcs a (y :: b) ∧ lcs a (y :: b) ≤ lcs a b + 1) := by
  have main : ∀ (n : Nat) (a b : List S36), a.length + b.length ≤ n → (∀ x, lcs a b ≤ lcs (x :: a) b ∧ lcs (x :: a) b ≤ lcs a b + 1) ∧ (∀ y, lcs a b ≤ lcs a (y :: b) ∧ lcs a (y :: b) ≤ lcs a b + 1) := by
    intro n
    induction n with
    | zero =>
      intro a b h
      obtain rfl : a = [] := List.length_eq_zero_iff.1 (by omega)
      obtain rfl : b = [] := List.length_eq_zero_iff.1 (by omega)
      simp [lcs_nil, lcs_nil']
    | succ n ih =>
      intro a b h
      constructor
      · intro x
        cases b with
        | nil => simp [lcs_nil']
        | cons y b =>
          simp only [List.length_cons] at h
          have i1 := (ih a b (by omega)).2 y
          by_cases e : idOf x = idOf y
          · rw [lcs_eq a b e]; omega
          · rw [lcs_ne a b e]
            have i2 := (ih a b (by omega)).1 x
            omega
      · intro y
        cases a with
        | nil => simp [lcs_nil]
        | cons x a =>
          simp only [List.length_cons] at h
          have i1 := (ih a b (by omega)).1 x
          by_cases e : idOf x = idOf y
          · rw [lcs_eq a b e]; omega
          · rw [lcs_ne a b e]
            have i2 := (ih a b (by omega)).2 y
            omega
  exact fun a b => main _ a b (Nat.le_refl _)
/-- Where a name stands first. -/
def pos (i : Int × Int) : List S36 → Option Nat
  | [] => none
  | y :: b => if i = idOf y then some 0 else (pos i b).map (· + 1)
/-- How many can be kept, if this block is one of them. -/
def lead (x : S36) (a b : List S36) : Nat := match pos (idOf x) b with | none => 0 | some j => lcs a (b.drop (j + 1)) + 1
theorem lcs_lead (x : S36) (a : List S36) : ∀ b, lcs (x :: a) b = max (lcs a b) (lead x a b)
  | [] => by simp [lead, pos, lcs_nil']
  | y :: b => by
    have s := (lcs_step a b).2 y
    by_cases e : idOf x = idOf y
    · rw [lcs_eq a b e]
      have : lead x a (y :: b) = lcs a b + 1 := by unfold lead pos; rw [if_pos e]; rfl
      rw [this]; omega
    · rw [lcs_ne a b e, lcs_lead x a b]
      have : lead x a (y :: b) = lead x a b := by
        unfold lead
        rw [pos, if_neg e]
        cases pos (idOf x) b <;> rfl
      rw [this]; omega
/-- The next block that is kept: so many are gone, so many are new. -/
def nx : List S36 → List S36 → Option (Nat × Nat)
  | [], _ => none
  | x :: a, b => match pos (idOf x) b with
    | some j => if lcs a (b.drop (j + 1)) + 1 = lcs (x :: a) b then some (0, j) else (nx a b).map fun p => (p.1 + 1, p.2)
    | none => (nx a b).map fun p => (p.1 + 1, p.2)
theorem nx_skip {x : S36} {a b : List S36} (h : lead x a b ≠ lcs (x :: a) b ∨ lcs (x :: a) b = 0) : nx (x :: a) b = (nx a b).map (fun p => (p.1 + 1, p.2)) ∧ (lcs (x :: a) b ≠ 0 → lcs a b = lcs (x :: a) b) := by
  have l := lcs_lead x a b
  refine ⟨?_, fun h0 => by omega⟩
  rw [nx]
  unfold lead at h l
  split
  · rename_i j e
    rw [e] at h l
    simp only at h l
    rw [if_neg (by omega)]
  · rfl
theorem nx_here {x : S36} {a b : List S36} {j : Nat} (e : pos (idOf x) b = some j) (h : lcs a (b.drop (j + 1)) + 1 = lcs (x :: a) b) : nx (x :: a) b = some (0, j) := by
  rw [nx, e]; simp only; rw [if_pos h]
theorem nx_none : ∀ (a b : List S36), lcs a b = 0 → nx a b = none
  | [], _, _ => rfl
  | x :: a, b, h => by
    have s := (lcs_step a b).1 x
    rw [(nx_skip (.inr h)).1, nx_none a b (by omega)]; rfl
theorem nx_some : ∀ (a b : List S36), lcs a b ≠ 0 → ∃ p, nx a b = some p
  | [], _, h => absurd rfl h
  | x :: a, b, h => by
    by_cases c : lead x a b = lcs (x :: a) b
    · unfold lead at c
      cases e : pos (idOf x) b with
      | none => rw [e] at c; exact absurd c.symm h
      | some j => rw [e] at c; exact ⟨_, nx_here e c⟩
    · have s := nx_skip (.inl c)
      obtain ⟨p, hp⟩ := nx_some a b (by rw [s.2 h]; exact h)
      exact ⟨_, by rw [s.1, hp]; rfl⟩
theorem pos_lt {i : Int × Int} : ∀ {b : List S36} {j : Nat}, pos i b = some j → ∃ h : j < b.length, idOf b[j] = i
  | [], _, h => by cases h
  | y :: b, j, h => by
    unfold pos at h
    split at h
    · rename_i e; cases h; exact ⟨by simp, e.symm⟩
    · cases e : pos i b with
      | none => rw [e] at h; cases h
      | some m =>
        rw [e] at h; cases h
        obtain ⟨h1, h2⟩ := pos_lt e
        exact ⟨by simpa using h1, by simpa using h2⟩
theorem nx_lt : ∀ {a b : List S36} {s j : Nat}, nx a b = some (s, j) → ∃ (h : s < a.length) (h' : j < b.length), idOf a[s] = idOf b[j] ∧ lcs (a.drop (s + 1)) (b.drop (j + 1)) + 1 = lcs a b
  | [], _, _, _, h => by cases h
  | x :: a, b, s, j, h => by
    have go : ∀ {s j}, (nx a b).map (fun p => (p.1 + 1, p.2)) = some (s, j) → (lcs a b ≠ 0 → lcs a b = lcs (x :: a) b) → ∃ (h : s < (x :: a).length) (h' : j < b.length), idOf (x :: a)[s] = idOf b[j] ∧ lcs ((x :: a).drop (s + 1)) (b.drop (j + 1)) + 1 = lcs (x :: a) b := by
      intro s j h hl
      cases e : nx a b with
      | none => rw [e] at h; cases h
      | some p =>
        rw [e] at h
        obtain ⟨s', j'⟩ := p
        simp only [Option.map_some, Option.some.injEq, Prod.mk.injEq] at h
        obtain ⟨rfl, rfl⟩ := h
        obtain ⟨h1, h2, h3, h4⟩ := nx_lt e
        exact ⟨by simpa using h1, h2, by simpa using h3, by rw [← hl (by omega)]; simpa using h4⟩
    by_cases c : lead x a b ≠ lcs (x :: a) b ∨ lcs (x :: a) b = 0
    · have s := nx_skip c
      rw [s.1] at h
      refine go h (fun h0 => s.2 ?_)
      have := (lcs_step a b).1 x
      omega
    · have c1 : lead x a b = lcs (x :: a) b := by omega
      have c2 : lcs (x :: a) b ≠ 0 := by omega
      unfold lead at c1
      cases e : pos (idOf x) b with
      | none => rw [e] at c1; exact absurd c1.symm c2
      | some m =>
        rw [e] at c1
        simp only at c1
        rw [nx_here e c1] at h
        simp only [Option.some.injEq, Prod.mk.injEq] at h
        obtain ⟨rfl, rfl⟩ := h
        obtain ⟨h1, h2⟩ := pos_lt e
        exact ⟨by simp, h1, by simpa using h2.symm, by simpa using c1⟩
end Go.Proofs.Ytbaihnpanoibdaa.Q
