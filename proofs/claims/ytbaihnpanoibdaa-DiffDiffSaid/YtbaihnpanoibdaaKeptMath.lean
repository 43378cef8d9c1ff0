/- The reference's kept blocks are the program's: the chain of next kept blocks. No program in sight. -/
import Derived.Test.YtbaihnpanoibdaaDiffW
namespace Go.Proofs.Ytbaihnpanoibdaa.Q
set_option linter.unusedVariables false

/-- The places of the blocks that are kept, from these on. -/
def kp : Nat → List S36 → List S36 → Nat → Nat → List (Nat × Nat)
  | 0, _, _, _, _ => []
  | n + 1, a, b, i, k => match nx (a.drop i) (b.drop k) with
    | none => []
    | some p => (i + p.1, k + p.2) :: kp n a b (i + p.1 + 1) (k + p.2 + 1)
theorem kp_none {a b : List S36} {i k : Nat} (h : nx (a.drop i) (b.drop k) = none) : ∀ n, kp n a b i k = []
  | 0 => rfl
  | n + 1 => by rw [kp, h]
theorem kp_some {a b : List S36} {i k : Nat} {p : Nat × Nat} (h : nx (a.drop i) (b.drop k) = some p) (n : Nat) : kp (n + 1) a b i k = (i + p.1, k + p.2) :: kp n a b (i + p.1 + 1) (k + p.2 + 1) := by rw [kp, h]
theorem kp_skip {a b : List S36} {i k : Nat} (h : nx (a.drop i) (b.drop k) = (nx (a.drop (i + 1)) (b.drop k)).map (fun p => (p.1 + 1, p.2))) : ∀ n, kp n a b i k = kp n a b (i + 1) k
  | 0 => rfl
  | n + 1 => by
    rw [kp, kp, h]
    cases nx (a.drop (i + 1)) (b.drop k) with
    | none => rfl
    | some p =>
      simp only [Option.map_some]
      rw [show i + (p.1 + 1) = i + 1 + p.1 by omega]
theorem kp_len : ∀ (n : Nat) (a b : List S36) (i k : Nat), (kp n a b i k).length ≤ n
  | 0, _, _, _, _ => by simp [kp]
  | n + 1, a, b, i, k => by
    rw [kp]
    cases nx (a.drop i) (b.drop k) with
    | none => simp
    | some p => simp only [List.length_cons]; have := kp_len n a b (i + p.1 + 1) (k + p.2 + 1); omega
theorem lcs_drop_le (a : List S36) : ∀ (b : List S36) (j : Nat), lcs a (b.drop j) ≤ lcs a b
  | b, 0 => by simp
  | [], j + 1 => by simp
  | y :: b, j + 1 => by
    have h1 := lcs_drop_le a b j
    have h2 := (lcs_step a b).2 y
    rw [List.drop_succ_cons]
    omega
theorem pos_first {i : Int × Int} : ∀ {b : List S36} {j : Nat}, pos i b = some j → ∀ m, m < j → ∀ h : m < b.length, i ≠ idOf b[m]
  | [], _, h, _, _, _ => by cases h
  | y :: b, j, h, m, hm, hb => by
    unfold pos at h
    split at h
    · cases h; omega
    · rename_i hne
      cases e : pos i b with
      | none => rw [e] at h; cases h
      | some q =>
        rw [e] at h; cases h
        cases m with
        | zero => simpa using hne
        | succ m =>
          simp only [List.getElem_cons_succ]
          exact pos_first e m (Nat.lt_of_succ_lt_succ hm) _
theorem pos_spec {i : Int × Int} : ∀ (b : List S36) (m : Nat) (h : m < b.length), i = idOf b[m] → ∃ j, j ≤ m ∧ pos i b = some j
  | [], m, h, _ => by simp at h
  | y :: b, m, h, e => by
    unfold pos
    split
    · exact ⟨0, by omega, rfl⟩
    · rename_i hne
      cases m with
      | zero => simp at e; exact absurd e hne
      | succ m =>
        simp only [List.getElem_cons_succ] at e
        obtain ⟨j, hj, hp⟩ := pos_spec b m (by simpa using h) e
        exact ⟨j + 1, by omega, by rw [hp]; rfl⟩
/-- A round of the outer loop: one is kept, or the block is passed over. -/
theorem hit_or {a b : List S36} {i t : Nat} (hi : i < a.length) (ht : t ≤ b.length) :
    (∃ j, ∃ hj : t + j < b.length, nx (a.drop i) (b.drop t) = some (0, j) ∧ idOf a[i] = idOf b[t + j] ∧ lcs (a.drop (i + 1)) (b.drop (t + j + 1)) + 1 = lcs (a.drop i) (b.drop t) ∧ ∀ k, t ≤ k → k < t + j → ∀ hk : k < b.length, idOf a[i] ≠ idOf b[k]) ∨
    (nx (a.drop i) (b.drop t) = (nx (a.drop (i + 1)) (b.drop t)).map (fun p => (p.1 + 1, p.2)) ∧ lcs (a.drop (i + 1)) (b.drop t) = lcs (a.drop i) (b.drop t) ∧ ∀ k, t ≤ k → ∀ hk : k < b.length, idOf a[i] = idOf b[k] → lcs (a.drop (i + 1)) (b.drop (k + 1)) + 1 ≠ lcs (a.drop i) (b.drop t)) := by
  have da : a.drop i = a[i] :: a.drop (i + 1) := List.drop_eq_getElem_cons hi
  by_cases c : ∃ j, pos (idOf a[i]) (b.drop t) = some j ∧ lcs (a.drop (i + 1)) ((b.drop t).drop (j + 1)) + 1 = lcs (a.drop i) (b.drop t)
  · obtain ⟨j, hp, hl⟩ := c
    obtain ⟨hj, he⟩ := pos_lt hp
    rw [List.length_drop] at hj
    refine .inl ⟨j, by omega, ?_, ?_, ?_, ?_⟩
    · rw [da] at hl ⊢; exact nx_here hp hl
    · rw [List.getElem_drop] at he; exact he.symm
    · rw [List.drop_drop] at hl; rw [show t + j + 1 = t + (j + 1) by omega]; exact hl
    · intro k h1 h2 hk
      have := pos_first hp (k - t) (by omega) (by rw [List.length_drop]; omega)
      rw [List.getElem_drop] at this
      simpa [show t + (k - t) = k by omega] using this
  · have hl := lcs_lead a[i] (a.drop (i + 1)) (b.drop t)
    rw [← da] at hl
    have hne : lead a[i] (a.drop (i + 1)) (b.drop t) ≠ lcs (a.drop i) (b.drop t) ∨ lcs (a.drop i) (b.drop t) = 0 := by
      cases hp : pos (idOf a[i]) (b.drop t) with
      | none =>
        have : lead a[i] (a.drop (i + 1)) (b.drop t) = 0 := by unfold lead; rw [hp]
        omega
      | some j =>
        have : lead a[i] (a.drop (i + 1)) (b.drop t) = lcs (a.drop (i + 1)) ((b.drop t).drop (j + 1)) + 1 := by unfold lead; rw [hp]
        exact .inl (fun e => c ⟨j, hp, this.symm.trans e⟩)
    have st := (lcs_step (a.drop (i + 1)) (b.drop t)).1 a[i]
    rw [← da] at st
    rw [da] at hne
    have sk := nx_skip hne
    rw [← da] at sk
    refine .inr ⟨sk.1, ?_, ?_⟩
    · by_cases h0 : lcs (a.drop i) (b.drop t) = 0
      · omega
      · exact sk.2 h0
    · intro k h1 hk he hc
      have hk' : k - t < (b.drop t).length := by rw [List.length_drop]; omega
      have eb : (b.drop t)[k - t] = b[k] := by rw [List.getElem_drop]; simp [show t + (k - t) = k by omega]
      obtain ⟨j, hj, hp⟩ := pos_spec (i := idOf a[i]) (b.drop t) (k - t) hk' (by rw [eb]; exact he)
      have e1 : lead a[i] (a.drop (i + 1)) (b.drop t) = lcs (a.drop (i + 1)) ((b.drop t).drop (j + 1)) + 1 := by unfold lead; rw [hp]
      have m1 := lcs_drop_le (a.drop (i + 1)) (b.drop (t + (j + 1))) (k - t - j)
      rw [List.drop_drop, show t + (j + 1) + (k - t - j) = k + 1 by omega] at m1
      rw [List.drop_drop] at e1
      exact c ⟨j, hp, by rw [List.drop_drop]; omega⟩
/-- A list of changes whose last one drops nothing. -/
def NoDrop (ch : List S38) : Prop := ∀ x, ch.getLast? = some x → x.f0 ≠ 2
theorem someF_last1 (ch : List S38) : ∀ x, (someF ch 1 1).getLast? = some x → x.f0 = 1 := by
  intro x hx
  unfold someF at hx
  rw [if_neg (by decide)] at hx
  split at hx
  · rename_i y hy
    split at hx
    · rename_i he
      rw [List.getLast?_concat] at hx
      cases hx
      exact he
    · rw [List.getLast?_concat] at hx
      cases hx
      rfl
  · rw [List.getLast?_concat] at hx
    cases hx
    rfl
theorem keptF_noDrop (ch : List S38) (x y : S36) : NoDrop (keptF ch x y) := by
  intro z hz
  unfold keptF at hz
  split at hz
  · rw [someF_last1 ch z hz]; decide
  · rw [List.getLast?_concat] at hz
    cases hz
    show (4 : Int) ≠ 2
    decide
theorem drop_noDrop {ch : List S38} (h : NoDrop ch) (s : Int) : someF ch 2 s = if s = 0 then ch else ch ++ [⟨2, s, z36⟩] := by
  unfold someF
  split
  · rfl
  · split
    · rename_i x hx
      rw [if_neg (h x hx)]
    · rfl
/-- What is written ahead of a kept block, or of the end. -/
def ch2 (b : List S36) (ch : List S38) (i k X Y : Nat) : List S38 := (if X = i then ch else ch ++ [⟨2, ((X : Int) - (i : Int)), z36⟩]) ++ ((b.drop k).take (Y - k)).map putC
theorem ch2_eq {b : List S36} {ch : List S38} (h : NoDrop ch) (i k X Y : Nat) (hX : i ≤ X) : someF ch 2 ((X : Int) - (i : Int)) ++ ((b.drop k).take (Y - k)).map putC = ch2 b ch i k X Y := by
  unfold ch2
  rw [drop_noDrop h]
  by_cases e : X = i
  · rw [if_pos (by omega), if_pos e]
  · rw [if_neg (by omega), if_neg e]
theorem ch2_small {b : List S36} {ch : List S38} {i k X Y : Nat} (h : Small ch i k) (hc : NoDrop ch) (hX : i ≤ X) (hk : k ≤ Y) (hY : Y ≤ b.length) : Small (ch2 b ch i k X Y) X Y := by
  have h1 := (h.drop (X - i)).puts ((b.drop k).take (Y - k))
  rw [show ((X - i : Nat) : Int) = (X : Int) - (i : Int) by omega, ch2_eq hc i k X Y hX, List.length_take, List.length_drop, show i + (X - i) = X by omega, show k + min (Y - k) (b.length - k) = Y by omega] at h1
  exact h1
theorem chain {a b : List S36} {lst : List (Nat × Nat)} {m i k n : Nat} {ch r : List S38} (hl : lst.drop m = kp n a b i k ++ [(a.length, b.length)]) (hi : i ≤ a.length) (hk : k ≤ b.length) (hn : a.length ≤ i + n) (hd : dl n (a.drop i) (b.drop k) ch = r) (hc : NoDrop ch) :
    ∃ X Y, lst.getD m (0, 0) = (X, Y) ∧ i ≤ X ∧ X ≤ a.length ∧ k ≤ Y ∧ Y ≤ b.length ∧ m < lst.length ∧
      ((m + 1 = lst.length ∧ ch2 b ch i k X Y = r) ∨ (m + 1 < lst.length ∧ X < a.length ∧ Y < b.length ∧ ∃ n', n = n' + 1 ∧ lst.drop (m + 1) = kp n' a b (X + 1) (Y + 1) ++ [(a.length, b.length)] ∧ dl n' (a.drop (X + 1)) (b.drop (Y + 1)) (keptF (ch2 b ch i k X Y) (rd_T36 a (X : Int)) (rd_T36 b (Y : Int))) = r)) := by
  have hlen := congrArg List.length hl
  rw [List.length_drop, List.length_append, List.length_singleton] at hlen
  have hg : lst.getD m (0, 0) = ((lst.drop m).head?).getD (0, 0) := by
    rw [List.head?_drop, List.getD_eq_getElem?_getD]
  cases hx : nx (a.drop i) (b.drop k) with
  | none =>
    rw [kp_none hx, List.nil_append] at hl
    rw [kp_none hx] at hlen
    rw [hl] at hg
    refine ⟨a.length, b.length, hg, hi, Nat.le_refl _, hk, Nat.le_refl _, by omega, .inl ⟨by simp at hlen; omega, ?_⟩⟩
    rw [← ch2_eq hc i k _ _ hi, ← hd, dl_none hx, List.length_drop, List.take_of_length_le (by rw [List.length_drop]; omega)]
    rw [show ((a.length - i : Nat) : Int) = (a.length : Int) - (i : Int) by omega]
  | some q =>
    obtain ⟨h1, h2, _, _⟩ := nx_lt hx
    rw [List.length_drop] at h1 h2
    obtain ⟨n, rfl⟩ : ∃ m, n = m + 1 := ⟨n - 1, by omega⟩
    rw [kp_some hx] at hl hlen
    rw [hl] at hg
    refine ⟨i + q.1, k + q.2, hg, by omega, by omega, by omega, by omega, by omega, .inr ⟨by simp at hlen; omega, by omega, by omega, n, rfl, ?_, ?_⟩⟩
    · rw [← List.drop_drop, hl]; rfl
    · rw [dl, hx] at hd
      simp only at hd
      rw [← ch2_eq hc i k _ _ (by omega), ← hd, List.drop_drop, List.drop_drop, rd_drop, rd_drop, show k + q.2 - k = q.2 by omega, show ((i + q.1 : Nat) : Int) - (i : Int) = (q.1 : Int) by omega]
      rw [show i + (q.1 + 1) = i + q.1 + 1 by omega, show k + (q.2 + 1) = k + q.2 + 1 by omega]
/-- A change of the program as one of the reference. -/
def conv (c : S38) : S39 := ⟨c.f0, c.f1, c.f2⟩
theorem puts_succ (b : List S36) (ch : List S38) (k q : Nat) (hk : k ≤ q) (hq : q < b.length) : (ch ++ ((b.drop k).take (q + 1 - k)).map putC).map conv = (ch ++ ((b.drop k).take (q - k)).map putC).map conv ++ [⟨3, 0, rd_T36 b (q : Int)⟩] := by
  have e : (b.drop k).take (q + 1 - k) = (b.drop k).take (q - k) ++ [rd_T36 b (q : Int)] := by
    rw [show q + 1 - k = q - k + 1 by omega, List.take_succ_eq_append_getElem (by rw [List.length_drop]; omega), List.getElem_drop]
    congr 2
    unfold rd_T36
    rw [Int.toNat_natCast, List.getD_eq_getElem?_getD, List.getElem?_eq_getElem hq]
    simp [show k + (q - k) = q by omega]
  rw [e]
  simp [conv, putC]
/-- What the reference's Diff computes. -/
def offshootref28_Diff.f (l0 l1 : List S36) : Option (List S39 × Int) := (diff_Diff.f l0 l1).map fun p => (p.1.map conv, p.2)
end Go.Proofs.Ytbaihnpanoibdaa.Q
