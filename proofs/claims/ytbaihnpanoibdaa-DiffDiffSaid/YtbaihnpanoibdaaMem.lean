/- Small words on memory for the walks of layer 28: what a call keeps, an object's footprint. -/
import Derived.Test.YtbaihnpanoibdaaProg
import Derived.Test.YtbaihnpanoibdaaWMore
import Derived.Test.YtbaihnpanoibdaaWLast
import Derived.WalkKit
import Derived.WalkSpells
import Derived.WalkLawsBesides
import Derived.KernelRfl
import Derived.Deep.QuietTactic
import Derived.BigQuiet
import Derived.Lib.Hide
namespace Go.Proofs.Ytbaihnpanoibdaa.Mem
open Go.RowKit Go.Proofs.YtbaihnpanoibdaaW.PrintWords

/-- But for the blocks of F, what was there is as it was. -/
structure Keep (F : Nat → Prop) (w w' : World) : Prop where
  os : w'.os = w.os
  tape : w'.tape = w.tape
  output : w'.output = w.output
  size : w.heap.size ≤ w'.heap.size
  block : ∀ k, k < w.heap.size → ¬ F k → w'.heap[k]? = w.heap[k]?
section
variable {F G : Nat → Prop} {a b c : World}
theorem Keep.refl (F : Nat → Prop) (w : World) : Keep F w w := ⟨rfl, rfl, rfl, Nat.le_refl _, fun _ _ _ => rfl⟩
theorem Keep.trans (h : Keep F a b) (k : Keep G b c) (hg : ∀ i, i < a.heap.size → G i → F i) : Keep F a c :=
  ⟨k.os.trans h.os, k.tape.trans h.tape, k.output.trans h.output, Nat.le_trans h.size k.size, fun i hi hn =>
    (k.block i (Nat.lt_of_lt_of_le hi h.size) (fun hg' => hn (hg i hi hg'))).trans (h.block i hi hn)⟩
theorem Keep.mono (h : Keep F a b) (hg : ∀ i, i < a.heap.size → F i → G i) : Keep G a b :=
  ⟨h.os, h.tape, h.output, h.size, fun i hi hn => h.block i hi (fun hf => hn (hg i hi hf))⟩
theorem Keep.drewN (F : Nat → Prop) (w : World) (n : Nat) : Keep F w (w.drewN n) := ⟨rfl, rfl, rfl, Nat.le_refl _, fun _ _ _ => rfl⟩
theorem Keep.setCell (w : World) {p : Addr} (hp : F p.block) (u : Value) : Keep F w (w.setCell p u) :=
  ⟨rfl, rfl, rfl, by simp [World.setCell], fun k _ hn => Below.heap_setCell _ _ _ _ (fun e => by subst e; exact hn hp)⟩
theorem Keep.alloc (F : Nat → Prop) (w : World) (o : Obj) : Keep F w (w.alloc o) := ⟨rfl, rfl, rfl, by simp, fun k hk _ => Below.heap_alloc _ _ _ hk⟩
theorem Keep.of_below {B : Nat} (h : Below B a b) (hB : ∀ i, B ≤ i → i < a.heap.size → F i) : Keep F a b :=
  ⟨h.os, h.tape, h.output, h.size, fun k hk hn => h.block k (Nat.lt_of_not_le fun hle => hn (hB k hle hk))⟩
theorem Keep.of_grown {row : Option Nat} (h : a.grownBy b row) (hr : ∀ i, row = some i → F i) : Keep F a b :=
  ⟨h.os, h.tape, h.output, h.size, fun k hk hn => h.block k hk (fun e => hn (hr k e.symm))⟩
theorem Keep.below {B : Nat} (h : Keep F a b) (hB : ∀ i, i < B → ¬ F i) (hs : B ≤ a.heap.size) : Below B a b :=
  ⟨h.os, h.tape, h.output, h.size, fun k hk => h.block k (by omega) (hB k hk)⟩
theorem Keep.none_below (h : Keep F a b) (hB : ∀ i, i < a.heap.size → ¬ F i) : Below a.heap.size a b := h.below hB (Nat.le_refl _)
theorem Keep.at_ (h : Keep F a b) {k : Nat} {o : Obj} (hk : a.heap[k]? = some o) (hn : ¬ F k) : b.heap[k]? = some o := by
  refine (h.block k ?_ hn).trans hk
  rcases Nat.lt_or_ge k a.heap.size with hlt | hge
  · exact hlt
  · rw [Array.getElem?_eq_none hge] at hk; cases hk
end
theorem lt_of_blk {w : World} {k : Nat} {o : Obj} (hk : w.heap[k]? = some o) : k < w.heap.size := by
  rcases Nat.lt_or_ge k w.heap.size with hlt | hge
  · exact hlt
  · rw [Array.getElem?_eq_none hge] at hk; cases hk
theorem R_kept {α : Type} {d : Kd α} {e : Nat} {w w1 : World} {base : Nat} {ok F : Nat → Prop} {v : Value} {xs : List α} (h : d.R e w base ok v xs) (hk : Keep F w w1) (hok : ∀ k, ok k → k < w.heap.size → ¬ F k) : d.R e w1 base ok v xs :=
  Kd.R_step h (fun k ho hlt => hk.block k hlt (hok k ho hlt))

/-- A byte. -/
def Byte (l : List Int) : Prop := ∀ x ∈ l, 0 ≤ x ∧ x < 256
theorem Byte.app {x y : List Int} (h : Byte x) (h' : Byte y) : Byte (x ++ y) := fun z hz => by
  rcases List.mem_append.1 hz with hz | hz
  · exact h z hz
  · exact h' z hz
theorem Byte.take {x : List Int} (h : Byte x) (n : Nat) : Byte (x.take n) := fun z hz => h z (List.mem_of_mem_take hz)
theorem Byte.drop {x : List Int} (h : Byte x) (n : Nat) : Byte (x.drop n) := fun z hz => h z (List.mem_of_mem_drop hz)
end Go.Proofs.Ytbaihnpanoibdaa.Mem
