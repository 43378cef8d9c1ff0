/- DiffDiff, the plain law: the program's difference is the reference's. -/
import Derived.Test.YtbaihnpanoibdaaQx9
import Derived.Test.YtbaihnpanoibdaaFewKit
import Derived.Test.YtbaihnpanoibdaaOpened
namespace Go.Proofs.Ytbaihnpanoibdaa.Pure6
open Go.RowKit Go.Proofs.Ytbaihnpanoibdaa.Q Go.Proofs.Ytbaihnpanoibdaa.FewKit Go.Proofs.YtbaihnpanoibdaaW.PrintWords Go.Proofs.YtbaihnpanoibdaaW.PrintLast
set_option linter.unusedVariables false
theorem same_refl (l : List S36) (hl : l.length < 4611686018427387904) : ∀ d i k : Nat, i + d = l.length → offshootref00_SameBlocks.l0 (k + 1 + d) l l (i : Int) = some true
  | 0, i, k, hi => by
    rw [Nat.add_zero, offshootref00_SameBlocks.l0, if_neg (by omega)]
  | d + 1, i, k, hi => by
    rw [show k + 1 + (d + 1) = (k + 1 + d) + 1 by omega, offshootref00_SameBlocks.l0]
    simp only [Int.natCast_nonneg, if_true, show (i : Int) < (l.length : Int) by omega, w64 (x := (i : Int) + 1) (by omega) (by omega), Bool.or_false, beq_self_eq_true, Bool.not_true, Bool.false_eq_true, if_false]
    rw [show (i : Int) + 1 = ((i + 1 : Nat) : Int) by omega]
    exact same_refl l hl d (i + 1) k (by omega)
theorem rd_conv (L : List S38) (i : Int) : rd_T39 (L.map conv) i = conv (rd_T38 L i) := by
  unfold rd_T39 rd_T38
  rw [List.getD_eq_getElem?_getD, List.getD_eq_getElem?_getD, List.getElem?_map]
  cases L[i.toNat]? with
  | none => rfl
  | some x => rfl
theorem all_same (L : List S38) (hL : L.length ≤ 5000) : ∀ (d i f : Nat), i + d = L.length → offshootlaw28_DiffDiff.l0 (f + 1 + d) L (L.map conv) (i : Int) = some true
  | 0, i, f, hi => by
    rw [Nat.add_zero, offshootlaw28_DiffDiff.l0, if_neg (by omega)]
  | d + 1, i, f, hi => by
    rw [show f + 1 + (d + 1) = (f + 1 + d) + 1 by omega, offshootlaw28_DiffDiff.l0, if_pos (by omega), if_pos (by omega), if_pos (by rw [List.length_map]; omega), rd_conv, if_pos (show (rd_T38 L (i : Int)).f0 = (conv (rd_T38 L (i : Int))).f0 from rfl), if_pos (show (rd_T38 L (i : Int)).f1 = (conv (rd_T38 L (i : Int))).f1 from rfl)]
    rw [if_neg (by simp [conv]), w64 (by omega) (by omega), show (i : Int) + 1 = ((i + 1 : Nat) : Int) by omega]
    exact all_same L hL d (i + 1) f (by omega)
theorem diff_ends (a b : List S36) : ∃ L e, diff_Diff.f a b = some (L, e) ∧ L.length ≤ 5000 := by
  unfold diff_Diff.f
  by_cases c1 : 300 < a.length ∨ 300 < b.length
  · rw [if_pos c1]; exact ⟨_, _, rfl, by simp⟩
  · rw [if_neg c1]
    by_cases c2 : (dup a || dup b) = true
    · rw [if_pos c2]; exact ⟨_, _, rfl, by simp⟩
    · rw [if_neg c2]
      refine ⟨_, _, rfl, ?_⟩
      have := dl_len a.length a b []
      simp only [List.length_nil] at this
      omega
theorem DiffDiff (a b : List S36) (ha : a.length * 48 ≤ 140737488351232) (hb : b.length * 48 ≤ 140737488351232) : ∃ k, offshootlaw28_DiffDiff.f k a b = some true := by
  obtain ⟨⟨g, hg⟩, _⟩ := great_ends a
  obtain ⟨⟨g', hg'⟩, _⟩ := great_ends b
  obtain ⟨K, hK⟩ : ∃ K, K = a.length + b.length + 20000 := ⟨_, rfl⟩
  refine ⟨K + 1, ?_⟩
  have hj : offshootlaw28_DiffDiff.j0 (K + 1) a b false = some true := by
    obtain ⟨L, e, hd, hL⟩ := diff_ends a b
    have hr : offshootref28_Diff.f a b = some (L.map conv, e) := by unfold offshootref28_Diff.f; rw [hd]; rfl
    have s1 := same_refl a (by omega) a.length 0 (K - 1 - a.length) (by omega)
    have s2 := same_refl b (by omega) b.length 0 (K - 1 - b.length) (by omega)
    rw [show K - 1 - a.length + 1 + a.length = K by omega] at s1
    rw [show K - 1 - b.length + 1 + b.length = K by omega] at s2
    have s1 : offshootref00_SameBlocks.f K a a = some true := by unfold offshootref00_SameBlocks.f; rw [if_pos rfl]; exact s1
    have s2 : offshootref00_SameBlocks.f K b b = some true := by unfold offshootref00_SameBlocks.f; rw [if_pos rfl]; exact s2
    have s3 := all_same L hL L.length 0 (K - 2 - L.length) (by omega)
    rw [show K - 2 - L.length + 1 + L.length = K - 1 by omega] at s3
    rw [offshootlaw28_DiffDiff.j0, if_neg (by decide), Option.bind_some, if_pos (by simp; omega), Option.bind_some, Option.bind_some, if_pos (by simp; omega), Option.bind_some, List.nil_append, List.nil_append, hd, Option.bind_some, hr, Option.bind_some, if_pos rfl, if_pos (by simp)]
    rw [s1, Option.bind_some, if_pos rfl, s2, Option.bind_some]
    rw [show K = (K - 1) + 1 by omega, offshootlaw28_DiffDiff.j1, if_neg (by decide)]
    exact s3
  unfold offshootlaw28_DiffDiff.f offshootlaw28_alive.f
  rw [Option.bind_some, if_pos rfl, hg _ (by omega), Option.bind_some]
  have ht : offshootlaw28_DiffDiff.j0 (K + 1) a b true = some true := by
    rw [offshootlaw28_DiffDiff.j0, if_pos rfl]
  cases g with
  | true => rw [if_pos rfl]; exact ht
  | false =>
    rw [if_neg (by decide), hg' _ (by omega), Option.bind_some]
    cases g' with
    | true => exact ht
    | false => exact hj
theorem opens22L : Opens.Opens Try.prog 22 (Kd.slice 36 k36) (fun xs => xs.length * 48 ≤ 140737488351232) := Opens.Opens.imp (Opens.opens_slice (P := Try.prog) Try.underlying22 (by kernel_rfl) opens36) (fun xs h => by
  have := h.1
  rw [show Try.prog.bytesOf 36 = 48 by kernel_rfl] at this
  exact this)
theorem diff_walk (W : World) (A0 : Option Addr) (c0 : Nat) (l0 : List S36) (hC0 : Kd.C k36 W A0 l0.length l0) (hl0 : l0.length ≤ c0) (ok0 : l0.length * 48 ≤ 140737488351232) (A1 : Option Addr) (c1 : Nat) (l1 : List S36) (hC1 : Kd.C k36 W A1 l1.length l1) (hl1 : l1.length ≤ c1) (ok1 : l1.length * 48 ≤ 140737488351232) :
    Calls Try.prog 3 #[.slice A0 l0.length c0, .slice A1 l1.length c1] W fun e w' => e = .returned (.bool true) ∧ Below W.heap.size W w' := by
  obtain ⟨k, h⟩ := DiffDiff l0 l1 ok0 ok1
  exact offshootlaw28_DiffDiff.calls k A0 c0 l0 A1 c1 l1 true W hC0 hl0 hC1 hl1 h
end Go.Proofs.Ytbaihnpanoibdaa.Pure6
