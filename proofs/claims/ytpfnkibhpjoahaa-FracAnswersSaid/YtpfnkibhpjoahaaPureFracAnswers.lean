/- Every Right, Order, Between and Row of the program answers what the reference answers: for every two texts and every number. -/
import Derived.Test.YtpfnkibhpjoahaaKit
namespace Go.Proofs.Ytpfnkibhpjoahaa.Pure
open Go.RowKit Go.Proofs.Ytpfnkibhpjoahaa.Q Go.Proofs.Ytpfnkibhpjoahaa.Math Go.Proofs.Ytpfnkibhpjoahaa.Kit Go.Proofs.YtpfnkibhpjoahaaW.PrintWords Go.Proofs.YtpfnkibhpjoahaaW.PrintLast

theorem same_loop (l : List ByteArray) (hl : l.length ≤ 1000) : ∀ (d k i : Nat), i + d = l.length → d + 1 ≤ k → offshootlaw04_FracAnswers.l0 k l l i = some true
  | 0, k, i, hd, hk => by
    obtain ⟨k, rfl⟩ : ∃ m, k = m + 1 := ⟨k - 1, by omega⟩
    simp only [offshootlaw04_FracAnswers.l0]
    rw [if_neg (by omega)]
  | d + 1, k, i, hd, hk => by
    obtain ⟨k, rfl⟩ : ∃ m, k = m + 1 := ⟨k - 1, by omega⟩
    simp only [offshootlaw04_FracAnswers.l0]
    rw [if_pos (by omega), if_pos (by omega), if_pos (by omega)]
    simp only [if_true]
    rw [show wrap64 ((i : Int) + 1) = ((i + 1 : Nat) : Int) from by rw [w64] <;> omega]
    exact same_loop l hl d k (i + 1) (by omega) (by omega)
theorem rowk_length : ∀ (n : Nat) (l : List Int), (rowk n l).length = n
  | 0, _ => rfl
  | n + 1, l => by simp [rowk, rowk_length n]
theorem rows_length (n : Int) : (rows n).length ≤ 400 := by
  unfold rows
  split
  · rw [rowk_length]; omega
  · simp

theorem FracAnswers : offshootlaw04_FracAnswers.Pure := by
  intro a b n ha hb _
  have e0 : offshootlaw04_FracAnswers.j0 9001 a b n true = some true := by
    rw [show (9001 : Nat) = 9000 + 1 from rfl]; simp only [offshootlaw04_FracAnswers.j0, if_true]
  refine ⟨9001, ?_⟩
  unfold offshootlaw04_FracAnswers.f
  rw [alive_at (by omega)]
  simp only [Option.bind_some, if_true]
  by_cases c : (a.size : Int) > 1000
  · rw [if_pos c, e0]
  rw [if_neg c]
  by_cases c' : (b.size : Int) > 1000
  · rw [decide_eq_true c', e0]
  rw [decide_eq_false c', show (9001 : Nat) = 9000 + 1 from rfl]
  simp only [offshootlaw04_FracAnswers.j0, Bool.false_eq_true, if_false]
  rw [between_at (by omega) a b ha hb, ref_between_at (by omega) a b (by omega) (by omega), right_f a ha, ref_right_f a ha, order_f, texts_at a b (by omega) (by omega)]
  simp only [Option.bind_some, bne_self_eq_false, Bool.false_eq_true, if_false, cmpv, if_true]
  rw [show (9000 : Nat) = 8999 + 1 from rfl]
  simp only [offshootlaw04_FracAnswers.j1, Bool.false_eq_true, if_false]
  rw [row_at (by omega), ref_row_at (by omega)]
  simp only [Option.bind_some, if_true]
  have := rows_length n
  exact same_loop _ (by rw [List.length_map]; omega) ((rows n).map strOfNums).length _ 0 (by omega) (by rw [List.length_map]; omega)
end Go.Proofs.Ytpfnkibhpjoahaa.Pure
