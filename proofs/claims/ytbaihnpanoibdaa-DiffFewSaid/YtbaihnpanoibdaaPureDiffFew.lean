/- DiffFew, the plain law: a difference drops and puts as few as can be. -/
import Derived.Test.YtbaihnpanoibdaaLongest
import Derived.Test.YtbaihnpanoibdaaFewMath
import Derived.Test.YtbaihnpanoibdaaQx12
import Derived.Test.YtbaihnpanoibdaaFewKit
namespace Go.Proofs.Ytbaihnpanoibdaa.Pure5
open Go.RowKit Go.Proofs.Ytbaihnpanoibdaa.Q Go.Proofs.YtbaihnpanoibdaaW.PrintWords Go.Proofs.YtbaihnpanoibdaaW.PrintLast
set_option linter.unusedVariables false
set_option linter.unusedSimpArgs false
theorem w64 {x : Int} (_ : -9223372036854775808 ≤ x) (_ : x ≤ 9223372036854775807) : wrap64 x = x := by unfold wrap64; omega
theorem wS (n : Nat) (h : n ≤ 10000) : wrap64 ((n : Int) + 1) = ((n + 1 : Nat) : Int) := w64 (by omega) (by omega)
theorem wP (n : Nat) (h : n + 1 ≤ 10000) : wrap64 (((n + 1 : Nat) : Int) - 1) = (n : Int) := by rw [w64 (by omega) (by omega)]; omega
theorem wAdd (x y : Int) : wrap64 (wrap64 x + y) = wrap64 (x + y) := by unfold wrap64; omega
theorem at38 (L : List S38) (i : Nat) (h : i < L.length) : rd_T38 L (i : Int) = L[i] := by
  unfold rd_T38
  rw [Int.toNat_natCast, List.getD_eq_getElem?_getD, List.getElem?_eq_getElem h]
  rfl
theorem dsum_take (L : List S38) (i : Nat) (h : i < L.length) : dsum (L.take (i + 1)) = dsum (L.take i) + (if L[i].f0 = 2 then L[i].f1 else 0) := by
  rw [List.take_succ_eq_append_getElem h, dsum_app]
  simp [dsum]
theorem psum_take (L : List S38) (i : Nat) (h : i < L.length) : psum (L.take (i + 1)) = psum (L.take i) + (if L[i].f0 = 3 then 1 else 0) := by
  rw [List.take_succ_eq_append_getElem h, psum_app]
  simp [psum]
theorem bytes0 : (⟨#[]⟩ : ByteArray).toList = ([] : List UInt8) := by rw [ByteArray.toList_eq]
/-- What stands behind the rounds. -/
theorem few_end (a b : List S36) (ha : a.length ≤ 300) (hb : b.length ≤ 300) (hda : dup a = false) (L : List S38) (hd : dsum L = (a.length : Int) - lcs a b) (hp : psum L = (b.length : Int) - lcs a b) (f : Nat) (hf : 200000 ≤ f) :
    offshootlaw28_DiffFew.l0 (f + 1) a b L (wrap64 (dsum L)) (wrap64 (psum L)) (L.length : Int) = some true := by
  obtain ⟨h1, h2, h3⟩ := Pure4.first_cell a b
  have hD : diff_Diff.f a a = some (dl a.length a a [], 0) := by
    unfold diff_Diff.f
    rw [if_neg (by omega), if_neg (by rw [hda]; decide)]
  have hs := dl_same a.length a 0 (Nat.le_refl _)
  rw [if_pos rfl, Nat.zero_add] at hs
  have h2' : 0 < ((Pure4.tb a b 0 0).length : Int) := by omega
  have h3' : 0 < ((rd_L6 (Pure4.tb a b 0 0) 0).length : Int) := by omega
  rw [offshootlaw28_DiffFew.l0, if_neg (Int.lt_irrefl _), Pure4.longest ha hb f hf, Option.bind_some, if_pos h2', if_pos h3', hD, Option.bind_some, h1, hd, hp, if_pos rfl, if_pos rfl]
  dsimp only
  rw [hs]
  by_cases h0 : a.length = 0
  · rw [if_pos h0, if_pos (by omega), if_pos (show ((([] : List S38).length : Nat) : Int) = 0 from rfl)]
  · rw [if_neg h0, if_neg (by omega), if_pos (show ((([⟨1, (a.length : Int), z36⟩] : List S38).length : Nat) : Int) = 1 from rfl), if_pos (show (0 : Int) < ((([⟨1, (a.length : Int), z36⟩] : List S38).length : Nat) : Int) by simp)]
    have e : rd_T38 [⟨1, (a.length : Int), z36⟩] 0 = ⟨1, (a.length : Int), z36⟩ := rfl
    rw [e]
    simp [z36, z34, bytes0]
theorem ar (f d : Nat) : f + 1 + 2 * (d + 1) = ((f + 1 + 2 * d) + 1) + 1 := by omega
theorem le_tenk {i n : Nat} (h : i < n) (hn : n ≤ 5000) : i ≤ 10000 ∧ i + 1 ≤ 10000 := by omega
/-- A round's second half. -/
theorem j2_ok (a b : List S36) (L : List S38) (hL : L.length ≤ 5000) (hn : NoAdj L) (f : Nat) (x7 x8 : Int) : ∀ (i : Nat) (hi : i < L.length),
    offshootlaw28_DiffFew.l0 f a b L x7 (if L[i].f0 = 3 then wrap64 (x8 + 1) else x8) ((i + 1 : Nat) : Int) = some true → offshootlaw28_DiffFew.j2 (f + 1) a b L x7 x8 (i : Int) = some true
  | 0, hi, h => by
    have c1 : ((0 : Nat) : Int) < (L.length : Int) := Int.ofNat_lt.2 hi
    have c2 : 0 ≤ ((0 : Nat) : Int) := Int.natCast_nonneg 0
    have c3 : ¬ (((0 : Nat) : Int) > 0) := by decide
    have hc := at38 L 0 hi
    have ew := wS 0 (by decide)
    rw [offshootlaw28_DiffFew.j2, if_pos c2, if_pos c1, hc, ew, if_neg c3, if_neg c3]
    by_cases k : L[0].f0 = 3
    · rw [if_pos k] at h ⊢; exact h
    · rw [if_neg k] at h ⊢; exact h
  | j + 1, hi, h => by
    have c1 : ((j + 1 : Nat) : Int) < (L.length : Int) := Int.ofNat_lt.2 hi
    have c2 : 0 ≤ ((j + 1 : Nat) : Int) := Int.natCast_nonneg _
    have c3 : ((j + 1 : Nat) : Int) > 0 := Int.natCast_pos.2 (Nat.succ_pos j)
    have c4 : 0 ≤ (j : Int) := Int.natCast_nonneg _
    have c5 : (j : Int) < (L.length : Int) := Int.ofNat_lt.2 (Nat.lt_of_succ_lt hi)
    have hc := at38 L (j + 1) hi
    have hj := at38 L j (Nat.lt_of_succ_lt hi)
    have ew := wS (j + 1) (le_tenk hi hL).1
    have ep := wP j (le_tenk hi hL).1
    have hno : L[j + 1].f0 = L[j].f0 → L[j + 1].f0 ≠ 1 ∧ L[j + 1].f0 ≠ 2 := fun he => by
      have := hn j L[j] L[j + 1] (List.getElem?_eq_getElem _) (List.getElem?_eq_getElem _) he.symm
      rw [he]; exact this
    rw [offshootlaw28_DiffFew.j2, if_pos c2, if_pos c1, hc, ew, ep, hj]
    by_cases k : L[j + 1].f0 = 3
    · rw [if_pos k] at h ⊢
      rw [if_pos c3, if_pos c4, if_pos c5]
      by_cases e : L[j + 1].f0 = L[j].f0
      · rw [if_pos e, if_neg (hno e).1, if_neg (hno e).2]; exact h
      · rw [if_neg e]; exact h
    · rw [if_neg k] at h ⊢
      rw [if_pos c3, if_pos c4, if_pos c5]
      by_cases e : L[j + 1].f0 = L[j].f0
      · rw [if_pos e, if_neg (hno e).1, if_neg (hno e).2]; exact h
      · rw [if_neg e]; exact h
theorem kp_eq (c : Prop) [Decidable c] (x : Int) : (if c then wrap64 (wrap64 x + 1) else wrap64 x) = wrap64 (x + (if c then 1 else 0)) := by
  split
  · rw [wAdd]
  · rw [Int.add_zero]
theorem l0_ok (a b : List S36) (L : List S38) (hL : L.length ≤ 5000) (hn : NoAdj L) (f i : Nat) (hi : i < L.length)
    (h : offshootlaw28_DiffFew.l0 f a b L (wrap64 (dsum (L.take (i + 1)))) (wrap64 (psum (L.take (i + 1)))) ((i + 1 : Nat) : Int) = some true) :
    offshootlaw28_DiffFew.l0 ((f + 1) + 1) a b L (wrap64 (dsum (L.take i))) (wrap64 (psum (L.take i))) (i : Int) = some true := by
  have c1 : (i : Int) < (L.length : Int) := Int.ofNat_lt.2 hi
  have c2 : 0 ≤ (i : Int) := Int.natCast_nonneg i
  have hc := at38 L i hi
  rw [dsum_take L i hi, psum_take L i hi] at h
  rw [offshootlaw28_DiffFew.l0, if_pos c1, if_pos c2, hc]
  by_cases k : L[i].f0 = 2
  · rw [if_pos k, wAdd]
    rw [if_pos k] at h
    exact j2_ok a b L hL hn f _ _ i hi (by rw [kp_eq]; exact h)
  · rw [if_neg k]
    rw [if_neg k, Int.add_zero] at h
    exact j2_ok a b L hL hn f _ _ i hi (by rw [kp_eq]; exact h)
/-- The law's rounds. -/
theorem few_loop (a b : List S36) (ha : a.length ≤ 300) (hb : b.length ≤ 300) (hda : dup a = false) (L : List S38) (hL : L.length ≤ 5000) (hn : NoAdj L) (hd : Hid (dsum L = (a.length : Int) - lcs a b)) (hp : Hid (psum L = (b.length : Int) - lcs a b)) (f : Nat) (hf : 200000 ≤ f) (d : Nat) :
    ∀ i : Nat, i + d = L.length → offshootlaw28_DiffFew.l0 (f + 1 + 2 * d) a b L (wrap64 (dsum (L.take i))) (wrap64 (psum (L.take i))) (i : Int) = some true := by
  induction d with
  | zero =>
    intro i hi
    obtain rfl : i = L.length := by omega
    rw [List.take_length]
    exact few_end a b ha hb hda L hd hp f hf
  | succ d ih =>
    intro i hi
    rw [ar]
    exact l0_ok a b L hL hn _ i (by omega) (ih (i + 1) (by omega))
theorem DiffFew (a b : List S36) : ∃ k, offshootlaw28_DiffFew.f k a b = some true := by
  refine ⟨300002, ?_⟩
  obtain ⟨⟨g, hg⟩, _⟩ := FewKit.great_ends a
  obtain ⟨⟨g', hg'⟩, _⟩ := FewKit.great_ends b
  have hj : offshootlaw28_DiffFew.j0 (300001 + 1) a b false = some true := by
    rw [offshootlaw28_DiffFew.j0, if_neg (by decide)]
    unfold diff_Diff.f
    by_cases c1 : 300 < a.length ∨ 300 < b.length
    · rw [if_pos c1, Option.bind_some, if_neg (by decide)]
    rw [if_neg c1]
    by_cases c2 : (dup a || dup b) = true
    · rw [if_pos c2, Option.bind_some, if_neg (by decide)]
    have ha : a.length ≤ 300 := by omega
    have hb : b.length ≤ 300 := by omega
    have hda : dup a = false := by
      cases h : dup a with
      | false => rfl
      | true => rw [h] at c2; exact absurd rfl c2
    rw [if_neg c2, Option.bind_some, if_pos rfl]
    dsimp only
    have hl := FewKit.dl_len a.length a b []
    rw [List.length_nil] at hl
    have hc := dl_cnt a.length a b [] 0 0 (Nat.le_refl _) ⟨rfl, rfl, NoAdj.nil⟩
    have h := few_loop a b ha hb hda (dl a.length a b []) (by omega) hc.n (show _ = _ from (by rw [hc.d, Int.zero_add])) (show _ = _ from (by rw [hc.p, Int.zero_add])) 200000 (Nat.le_refl _) (dl a.length a b []).length 0 (Nat.zero_add _)
    have z0 : wrap64 0 = 0 := w64 (by decide) (by decide)
    rw [List.take_zero, show dsum [] = 0 from rfl, show psum [] = 0 from rfl, z0] at h
    exact FewKit.le_mono (f := fun k => offshootlaw28_DiffFew.l0 k a b (dl a.length a b []) 0 0 0) (fun k => (offshootlaw28_DiffFew.mono_l k).2.1 _ _ _ _ _ _) (j := 200000 + 1 + 2 * (dl a.length a b []).length) (by omega) h
  unfold offshootlaw28_DiffFew.f offshootlaw28_alive.f
  rw [Option.bind_some, if_pos rfl, hg _ (by omega), Option.bind_some]
  have ht : offshootlaw28_DiffFew.j0 300002 a b true = some true := by
    rw [show 300002 = 300001 + 1 by rfl, offshootlaw28_DiffFew.j0, if_pos rfl]
  cases g with
  | true => rw [if_pos rfl]; exact ht
  | false =>
    rw [if_neg (by decide), hg' _ (by omega), Option.bind_some]
    cases g' with
    | true => exact ht
    | false => exact hj
theorem few_walk (W : World) (A0 : Option Addr) (c0 : Nat) (l0 : List S36) (hC0 : Kd.C k36 W A0 l0.length l0) (hl0 : l0.length ≤ c0) (_ : True) (A1 : Option Addr) (c1 : Nat) (l1 : List S36) (hC1 : Kd.C k36 W A1 l1.length l1) (hl1 : l1.length ≤ c1) (_ : True) :
    Calls Try.prog 5 #[.slice A0 l0.length c0, .slice A1 l1.length c1] W fun e w' => e = .returned (.bool true) ∧ Below W.heap.size W w' := by
  obtain ⟨k, h⟩ := DiffFew l0 l1
  exact offshootlaw28_DiffFew.calls k A0 c0 l0 A1 c1 l1 true W hC0 hl0 hC1 hl1 h
end Go.Proofs.Ytbaihnpanoibdaa.Pure5
