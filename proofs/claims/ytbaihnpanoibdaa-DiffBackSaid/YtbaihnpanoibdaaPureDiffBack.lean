/- DiffBack, the plain law: a difference, patched, makes the second outline. -/
import Derived.Test.YtbaihnpanoibdaaPureDiffPatch
import Derived.Test.YtbaihnpanoibdaaQx14
namespace Go.Proofs.Ytbaihnpanoibdaa.Pure3
open Go.RowKit Go.Proofs.Ytbaihnpanoibdaa.Q Go.Proofs.Ytbaihnpanoibdaa.Pure2 Go.Proofs.YtbaihnpanoibdaaW.PrintWords Go.Proofs.YtbaihnpanoibdaaW.PrintLast
set_option linter.unusedVariables false
/-- One change: what is made, what is left. -/
def st1 (o r : List S36) (c : S38) : Option (List S36 × List S36) :=
  if c.f0 = 1 then (if c.f1 < 1 ∨ (r.length : Int) < c.f1 then none else some (o ++ r.take c.f1.toNat, r.drop c.f1.toNat))
  else if c.f0 = 2 then (if c.f1 < 1 ∨ (r.length : Int) < c.f1 then none else some (o, r.drop c.f1.toNat))
  else if c.f0 = 3 then some (o ++ [c.f2], r)
  else if c.f0 = 4 then (match r with
    | [] => none
    | x :: xs => if x.f0.f0 = c.f2.f0.f0 ∧ x.f0.f1 = c.f2.f0.f1 then some (o ++ [c.f2], xs) else none)
  else none
def stf : List S36 × List S36 → List S38 → Option (List S36 × List S36)
  | p, [] => some p
  | p, c :: cs => (st1 p.1 p.2 c).bind fun q => stf q cs
theorem stf_app : ∀ (xs ys : List S38) (p : List S36 × List S36), stf p (xs ++ ys) = (stf p xs).bind fun q => stf q ys
  | [], ys, p => rfl
  | c :: xs, ys, p => by
    rw [List.cons_append, stf, stf]
    cases st1 p.1 p.2 c with
    | none => rfl
    | some q => exact stf_app xs ys q
theorem pt_stf : ∀ (cs : List S38) (o r o' : List S36), stf (o, r) cs = some (o', []) → pt o r cs = (o', 0)
  | [], o, r, o', h => by
    rw [stf] at h
    cases h
    rw [pt]
    rfl
  | c :: cs, o, r, o', h => by
    rw [stf] at h
    rw [pt_cons]
    unfold st1 at h
    dsimp only at h
    by_cases c1 : c.f0 = 1
    · rw [if_pos c1] at h ⊢
      by_cases c2 : c.f1 < 1 ∨ (r.length : Int) < c.f1
      · rw [if_pos c2] at h; cases h
      · rw [if_neg c2] at h ⊢
        exact pt_stf cs _ _ _ h
    · rw [if_neg c1] at h ⊢
      by_cases c2 : c.f0 = 2
      · rw [if_pos c2] at h ⊢
        by_cases c3 : c.f1 < 1 ∨ (r.length : Int) < c.f1
        · rw [if_pos c3] at h; cases h
        · rw [if_neg c3] at h ⊢
          exact pt_stf cs _ _ _ h
      · rw [if_neg c2] at h ⊢
        by_cases c3 : c.f0 = 3
        · rw [if_pos c3] at h ⊢
          exact pt_stf cs _ _ _ h
        · rw [if_neg c3] at h ⊢
          by_cases c4 : c.f0 = 4
          · rw [if_pos c4] at h ⊢
            cases r with
            | nil => cases h
            | cons x xs =>
              dsimp only at h ⊢
              by_cases c5 : x.f0.f0 = c.f2.f0.f0 ∧ x.f0.f1 = c.f2.f0.f1
              · rw [if_pos c5] at h ⊢
                exact pt_stf cs _ _ _ h
              · rw [if_neg c5] at h; cases h
          · rw [if_neg c4] at h; cases h
theorem st_drop {o r : List S36} {n : Nat} (z : S36) (h1 : 1 ≤ n) (h2 : n ≤ r.length) : st1 o r ⟨2, (n : Int), z⟩ = some (o, r.drop n) := by
  unfold st1
  rw [if_neg (show ¬ (2 : Int) = 1 by decide), if_pos rfl, if_neg (by dsimp only; omega)]
  dsimp only
  rw [Int.toNat_natCast]
theorem st_keep {o r : List S36} {n : Nat} (z : S36) (h1 : 1 ≤ n) (h2 : n ≤ r.length) : st1 o r ⟨1, (n : Int), z⟩ = some (o ++ r.take n, r.drop n) := by
  unfold st1
  rw [if_pos rfl, if_neg (by dsimp only; omega)]
  dsimp only
  rw [Int.toNat_natCast]
theorem st_put (o r : List S36) (y : S36) : st1 o r (putC y) = some (o ++ [y], r) := by
  unfold st1 putC
  rw [if_neg (show ¬ (3 : Int) = 1 by decide), if_neg (show ¬ (3 : Int) = 2 by decide), if_pos rfl]
theorem st_set {o r : List S36} {x y : S36} (h : idOf x = idOf y) : st1 o (x :: r) ⟨4, 0, y⟩ = some (o ++ [y], r) := by
  unfold st1
  rw [if_neg (show ¬ (4 : Int) = 1 by decide), if_neg (show ¬ (4 : Int) = 2 by decide), if_neg (show ¬ (4 : Int) = 3 by decide), if_pos rfl]
  dsimp only
  unfold idOf at h
  rw [if_pos ⟨congrArg Prod.fst h, congrArg Prod.snd h⟩]
/-- A run whose last change is a drop or a keep, told apart. -/
theorem last_run {p : List S36 × List S36} {ch : List S38} {x : S38} {out rest : List S36} (h : stf p ch = some (out, rest)) (hx : ch.getLast? = some x) :
    ∃ o1 r1, stf p ch.dropLast = some (o1, r1) ∧ st1 o1 r1 x = some (out, rest) := by
  obtain ⟨ys, rfl⟩ := List.getLast?_eq_some_iff.1 hx
  have e : (ys ++ [x]).dropLast = ys := List.dropLast_concat
  rw [e]
  rw [stf_app] at h
  cases hq : stf p ys with
  | none => rw [hq] at h; cases h
  | some q =>
    rw [hq, Option.bind_some, stf] at h
    cases hs : st1 q.1 q.2 x with
    | none => rw [hs] at h; cases h
    | some t =>
      rw [hs, Option.bind_some, stf] at h
      exact ⟨q.1, q.2, rfl, by rw [hs]; exact h⟩
theorem stf_one {p q : List S36 × List S36} {ch : List S38} {c : S38} {t : List S36 × List S36} (h : stf p ch = some q) (hc : st1 q.1 q.2 c = some t) : stf p (ch ++ [c]) = some t := by
  rw [stf_app, h, Option.bind_some, stf, hc, Option.bind_some, stf]
theorem stf_drop {p : List S36 × List S36} {ch : List S38} {out rest : List S36} {n : Nat} (h : stf p ch = some (out, rest)) (hn : n ≤ rest.length) : stf p (someF ch 2 (n : Int)) = some (out, rest.drop n) := by
  unfold someF
  by_cases h0 : n = 0
  · subst h0
    rw [if_pos (show ((0 : Nat) : Int) = 0 from rfl), h]
    rfl
  rw [if_neg (by omega)]
  split
  · rename_i x hx
    split
    · rename_i hk
      obtain ⟨o1, r1, h1, h2⟩ := last_run h hx
      unfold st1 at h2
      rw [hk, if_neg (by decide), if_pos rfl] at h2
      by_cases c : x.f1 < 1 ∨ (r1.length : Int) < x.f1
      · rw [if_pos c] at h2; cases h2
      · rw [if_neg c] at h2
        obtain ⟨m, hm⟩ : ∃ m : Nat, x.f1 = (m : Int) := ⟨x.f1.toNat, by omega⟩
        rw [hm, Int.toNat_natCast] at h2
        simp only [Option.some.injEq, Prod.mk.injEq] at h2
        obtain ⟨rfl, rfl⟩ := h2
        rw [List.length_drop] at hn
        rw [hm] at c
        refine stf_one h1 ?_
        rw [hk, hm, show (m : Int) + (n : Int) = ((m + n : Nat) : Int) by omega, st_drop _ (by omega) (by dsimp only; omega), List.drop_drop]
    · exact stf_one h (st_drop _ (by omega) hn)
  · exact stf_one h (st_drop _ (by omega) hn)
theorem stf_keep {p : List S36 × List S36} {ch : List S38} {out rest : List S36} {n : Nat} (h : stf p ch = some (out, rest)) (h0 : 1 ≤ n) (hn : n ≤ rest.length) : stf p (someF ch 1 (n : Int)) = some (out ++ rest.take n, rest.drop n) := by
  unfold someF
  rw [if_neg (by omega)]
  split
  · rename_i x hx
    split
    · rename_i hk
      obtain ⟨o1, r1, h1, h2⟩ := last_run h hx
      unfold st1 at h2
      rw [hk, if_pos rfl] at h2
      by_cases c : x.f1 < 1 ∨ (r1.length : Int) < x.f1
      · rw [if_pos c] at h2; cases h2
      · rw [if_neg c] at h2
        obtain ⟨m, hm⟩ : ∃ m : Nat, x.f1 = (m : Int) := ⟨x.f1.toNat, by omega⟩
        rw [hm, Int.toNat_natCast] at h2
        simp only [Option.some.injEq, Prod.mk.injEq] at h2
        obtain ⟨rfl, rfl⟩ := h2
        rw [List.length_drop] at hn
        rw [hm] at c
        refine stf_one h1 ?_
        rw [hk, hm, show (m : Int) + (n : Int) = ((m + n : Nat) : Int) by omega, st_keep _ (by omega) (by dsimp only; omega), List.drop_drop, List.append_assoc, ← List.take_add]
    · exact stf_one h (st_keep _ (by omega) hn)
  · exact stf_one h (st_keep _ (by omega) hn)
theorem stf_puts : ∀ (ys : List S36) (p : List S36 × List S36) (ch : List S38) (out rest : List S36), stf p ch = some (out, rest) → stf p (ch ++ ys.map putC) = some (out ++ ys, rest)
  | [], p, ch, out, rest, h => by simpa using h
  | y :: ys, p, ch, out, rest, h => by
    have := stf_puts ys p (ch ++ [putC y]) (out ++ [y]) rest (stf_one h (st_put _ _ _))
    simpa using this
theorem stf_kept {p : List S36 × List S36} {ch : List S38} {out rest : List S36} {x y : S36} (h : stf p ch = some (out, x :: rest)) (he : idOf x = idOf y) : stf p (keptF ch x y) = some (out ++ [y], rest) := by
  unfold keptF
  split
  · rename_i hs
    obtain rfl := sameB_iff.1 hs
    exact stf_keep (n := 1) h (Nat.le_refl 1) (by simp)
  · exact stf_one h (st_set he)
theorem rd_at (A : List S36) (s : Nat) (h : s < A.length) : rd_T36 A (s : Int) = A[s] := by
  unfold rd_T36
  rw [Int.toNat_natCast, List.getD_eq_getElem?_getD, List.getElem?_eq_getElem h]
  rfl
theorem stf_end {p : List S36 × List S36} {ch : List S38} {out A : List S36} (B : List S36) (h : stf p ch = some (out, A)) : stf p (someF ch 2 (A.length : Int) ++ B.map putC) = some (out ++ B, []) := by
  have := stf_puts B p _ _ _ (stf_drop h (Nat.le_refl A.length))
  rw [List.drop_length] at this
  exact this
/-- A difference, run from the first outline, makes the second one. -/
theorem dl_run (p : List S36 × List S36) : ∀ (n : Nat) (A B : List S36) (ch : List S38) (out : List S36), stf p ch = some (out, A) → stf p (dl n A B ch) = some (out ++ B, [])
  | 0, A, B, ch, out, h => stf_end B h
  | n + 1, A, B, ch, out, h => by
    rw [dl]
    split
    · exact stf_end B h
    · rename_i q hq
      obtain ⟨s, j⟩ := q
      obtain ⟨h1, h2, h3, _⟩ := nx_lt hq
      have g1 := stf_drop h (Nat.le_of_lt h1)
      have g2 := stf_puts (B.take j) p _ _ _ g1
      rw [List.drop_eq_getElem_cons h1] at g2
      have g3 := stf_kept g2 h3
      dsimp only
      rw [rd_at A s h1, rd_at B j h2]
      have g4 := dl_run p n (A.drop (s + 1)) (B.drop (j + 1)) _ _ g3
      rw [g4, List.append_assoc, List.append_assoc]
      congr 2
      congr 1
      rw [List.singleton_append, ← List.drop_eq_getElem_cons h2, List.take_append_drop]
theorem kept_len (ch : List S38) (x y : S36) : (keptF ch x y).length ≤ ch.length + 1 := by
  unfold keptF
  split
  · have := someF_len ch 1 1
    split at this <;> omega
  · simp
theorem dl_len : ∀ (n : Nat) (A B : List S36) (ch : List S38), (dl n A B ch).length ≤ ch.length + 2 * n + 1 + B.length
  | 0, A, B, ch => by
    rw [dl, List.length_append, List.length_map]
    have := someF_len ch 2 A.length
    split at this <;> omega
  | n + 1, A, B, ch => by
    rw [dl]
    split
    · rw [List.length_append, List.length_map]
      have := someF_len ch 2 A.length
      split at this <;> omega
    · rename_i q hq
      obtain ⟨s, j⟩ := q
      obtain ⟨h1, h2, h3, _⟩ := nx_lt hq
      dsimp only
      refine Nat.le_trans (dl_len n _ _ _) ?_
      have k1 := kept_len (someF ch 2 (s : Int) ++ (B.take j).map putC) (rd_T36 A (s : Int)) (rd_T36 B (j : Int))
      rw [List.length_append, List.length_map, List.length_take] at k1
      have k2 := someF_len ch 2 (s : Int)
      rw [List.length_drop]
      split at k2 <;> omega
theorem patch_dl (a b : List S36) (ha : a.length ≤ 300) (hb : b.length ≤ 300) (k : Nat) (hk : 10000 ≤ k) : diff_Patch.f k a (dl a.length a b []) = some (b, 0) := by
  have hl := dl_len a.length a b []
  rw [List.length_nil] at hl
  have h := pt_stf (dl a.length a b []) [] a b (by have := dl_run ([], a) a.length a b [] [] rfl; simpa using this)
  have := p_l0 (dl a.length a b []) (by omega) (dl a.length a b []) 0 (k - 1 - 3 * (dl a.length a b []).length) [] a rfl (by rw [List.length_nil]; omega)
  rw [show k - 1 - 3 * (dl a.length a b []).length + 1 + 3 * (dl a.length a b []).length = k by omega, h] at this
  exact this
theorem same_k (l : List S36) (hl : l.length ≤ 300) (k : Nat) (hk : 10000 ≤ k) : offshootref00_SameBlocks.f k l l = some true := by
  have := same_f l (by omega) (k - 1 - l.length)
  rw [show k - 1 - l.length + 1 + l.length = k by omega] at this
  exact this
theorem DiffBack (a b : List S36) : ∃ k, offshootlaw28_DiffBack.f k a b = some true := by
  refine ⟨20002, ?_⟩
  obtain ⟨⟨g, hg⟩, _⟩ := great_ends a
  obtain ⟨⟨g', hg'⟩, _⟩ := great_ends b
  have hj : offshootlaw28_DiffBack.j0 (20001 + 1) a b false = some true := by
    rw [offshootlaw28_DiffBack.j0, if_neg (by decide)]
    unfold diff_Diff.f
    by_cases c1 : 300 < a.length ∨ 300 < b.length
    · rw [if_pos c1, Option.bind_some, if_neg (by decide)]
      rfl
    rw [if_neg c1]
    by_cases c2 : (dup a || dup b) = true
    · rw [if_pos c2, Option.bind_some, if_neg (by decide)]
      rfl
    have ha : a.length ≤ 300 := by omega
    have hb : b.length ≤ 300 := by omega
    rw [if_neg c2, Option.bind_some, if_pos rfl, patch_dl a b ha hb _ (by omega), Option.bind_some, if_pos rfl, same_k b hb _ (by omega), Option.bind_some]
    rw [show 20001 = 20000 + 1 by rfl, offshootlaw28_DiffBack.j1, if_neg (by decide)]
    unfold diff_Back.f
    dsimp only
    rw [patch_dl a b ha hb _ (by omega), Option.bind_some, if_pos rfl]
    unfold diff_Diff.f
    dsimp only
    rw [if_neg (by omega), if_neg (by rw [Bool.or_comm]; exact c2), Option.bind_some, Option.bind_some, if_pos rfl]
    dsimp only
    rw [patch_dl b a hb ha _ (by omega), Option.bind_some, if_pos rfl, same_k a ha _ (by omega), Option.bind_some]
  unfold offshootlaw28_DiffBack.f offshootlaw28_alive.f
  rw [Option.bind_some, if_pos rfl, hg _ (by omega), Option.bind_some]
  have ht : offshootlaw28_DiffBack.j0 20002 a b true = some true := by
    rw [show 20002 = 20001 + 1 by rfl, offshootlaw28_DiffBack.j0, if_pos rfl]
  cases g with
  | true => rw [if_pos rfl]; exact ht
  | false =>
    rw [if_neg (by decide), hg' _ (by omega), Option.bind_some]
    cases g' with
    | true => exact ht
    | false => exact hj
theorem back_walk (W : World) (A0 : Option Addr) (c0 : Nat) (l0 : List S36) (hC0 : Kd.C k36 W A0 l0.length l0) (hl0 : l0.length ≤ c0) (_ : True) (A1 : Option Addr) (c1 : Nat) (l1 : List S36) (hC1 : Kd.C k36 W A1 l1.length l1) (hl1 : l1.length ≤ c1) (_ : True) :
    Calls Try.prog 7 #[.slice A0 l0.length c0, .slice A1 l1.length c1] W fun e w' => e = .returned (.bool true) ∧ Below W.heap.size W w' := by
  obtain ⟨k, h⟩ := DiffBack l0 l1
  exact offshootlaw28_DiffBack.calls k A0 c0 l0 A1 c1 l1 true W hC0 hl0 hC1 hl1 h
end Go.Proofs.Ytbaihnpanoibdaa.Pure3
