/- Small words on memory for the walks of layer 3: what a call keeps, an object's footprint. -/
import Derived.Test.YtiakdnoafmojlaaDoorProg
import Derived.Test.YtiakdnoafmojlaaDoorWMore
import Derived.Test.YtiakdnoafmojlaaDoorWLast
import Derived.WalkKit
import Derived.WalkSpells
import Derived.WalkLawsBesides
import Derived.KernelRfl
import Derived.Deep.QuietTactic
import Derived.BigQuiet
import Derived.Lib.Hide
import Derived.Lib.LaidTab
import Derived.Laws.LoneSync
import Derived.Test.YtiakdnoafmojlaaDoorShelf
namespace Go.Proofs.YtiakdnoafmojlaaDoor.Mem
open Go.RowKit Go.Proofs.YtiakdnoafmojlaaDoorW.PrintWords

/-- But for the blocks of F, what was there is as it was. -/
structure Keep (F : Nat → Prop) (w w' : World) : Prop where
  os : w'.os = w.os
  tape : w'.tape = w.tape
  output : w'.output = w.output
  size : w.heap.size ≤ w'.heap.size
  block : ∀ k, k < w.heap.size → ¬ F k → w'.heap[k]? = w.heap[k]?
section
variable {F G : Nat → Prop} {a b c : World}
theorem Keep.refl (F : Nat → Prop) (w : World) : Keep F w w := ⟨rfl, rfl, rfl, Nat.le_refl _, fun _ _ _ => rfl⟩
theorem Keep.trans (h : Keep F a b) (k : Keep G b c) (hg : ∀ i, i < a.heap.size → G i → F i) : Keep F a c :=
  ⟨k.os.trans h.os, k.tape.trans h.tape, k.output.trans h.output, Nat.le_trans h.size k.size, fun i hi hn =>
    (k.block i (Nat.lt_of_lt_of_le hi h.size) (fun hg' => hn (hg i hi hg'))).trans (h.block i hi hn)⟩
theorem Keep.mono (h : Keep F a b) (hg : ∀ i, i < a.heap.size → F i → G i) : Keep G a b :=
  ⟨h.os, h.tape, h.output, h.size, fun i hi hn => h.block i hi (fun hf => hn (hg i hi hf))⟩
theorem Keep.drewN (F : Nat → Prop) (w : World) (n : Nat) : Keep F w (w.drewN n) := ⟨rfl, rfl, rfl, Nat.le_refl _, fun _ _ _ => rfl⟩
theorem Keep.setCell (w : World) {p : Addr} (hp : F p.block) (u : Value) : Keep F w (w.setCell p u) :=
  ⟨rfl, rfl, rfl, by simp [World.setCell], fun k _ hn => Below.heap_setCell _ _ _ _ (fun e => by subst e; exact hn hp)⟩
theorem Keep.alloc (F : Nat → Prop) (w : World) (o : Obj) : Keep F w (w.alloc o) := ⟨rfl, rfl, rfl, by simp, fun k hk _ => Below.heap_alloc _ _ _ hk⟩
theorem Keep.of_below {B : Nat} (h : Below B a b) (hB : ∀ i, B ≤ i → i < a.heap.size → F i) : Keep F a b :=
  ⟨h.os, h.tape, h.output, h.size, fun k hk hn => h.block k (Nat.lt_of_not_le fun hle => hn (hB k hle hk))⟩
theorem Keep.of_grown {row : Option Nat} (h : a.grownBy b row) (hr : ∀ i, row = some i → F i) : Keep F a b :=
  ⟨h.os, h.tape, h.output, h.size, fun k hk hn => h.block k hk (fun e => hn (hr k e.symm))⟩
theorem Keep.below {B : Nat} (h : Keep F a b) (hB : ∀ i, i < B → ¬ F i) (hs : B ≤ a.heap.size) : Below B a b :=
  ⟨h.os, h.tape, h.output, h.size, fun k hk => h.block k (by omega) (hB k hk)⟩
theorem Keep.none_below (h : Keep F a b) (hB : ∀ i, i < a.heap.size → ¬ F i) : Below a.heap.size a b := h.below hB (Nat.le_refl _)
theorem Keep.at_ (h : Keep F a b) {k : Nat} {o : Obj} (hk : a.heap[k]? = some o) (hn : ¬ F k) : b.heap[k]? = some o := by
  refine (h.block k ?_ hn).trans hk
  rcases Nat.lt_or_ge k a.heap.size with hlt | hge
  · exact hlt
  · rw [Array.getElem?_eq_none hge] at hk; cases hk
end
theorem lt_of_blk {w : World} {k : Nat} {o : Obj} (hk : w.heap[k]? = some o) : k < w.heap.size := by
  rcases Nat.lt_or_ge k w.heap.size with hlt | hge
  · exact hlt
  · rw [Array.getElem?_eq_none hge] at hk; cases hk
theorem R_kept {α : Type} {d : Kd α} {e : Nat} {w w1 : World} {base : Nat} {ok F : Nat → Prop} {v : Value} {xs : List α} (h : d.R e w base ok v xs) (hk : Keep F w w1) (hok : ∀ k, ok k → k < w.heap.size → ¬ F k) : d.R e w1 base ok v xs :=
  Kd.R_step h (fun k ho hlt => hk.block k hlt (hok k ho hlt))

theorem cell_on {w w' : World} {p : Addr} {v : Value} (h : w.cell? p = some v) (hb : Below w.heap.size w w') : w'.cell? p = some v := (hb.cell (World.block_lt_of_cell? _ _ h)).trans h
theorem gSyn : Tryd.prog.globalNamed "strconv.ErrSyntax" = some 3 := by kernel_rfl
theorem gRng : Tryd.prog.globalNamed "strconv.ErrRange" = some 4 := by kernel_rfl
theorem gTab : Tryd.prog.globalNamed "internal/strconv.uint64pow10" = some 5 := by kernel_rfl
/-- What the package-level variables hold: the two blocks' names, the two errors, the table. -/
structure Gl (w : World) : Prop where
  big : 8 ≤ w.heap.size
  root0 : w.cell? ⟨1, 0, none⟩ = some (.int .i64 0)
  root1 : w.cell? ⟨1, 1, none⟩ = some (.int .i64 0)
  trash0 : w.cell? ⟨0, 0, none⟩ = some (.int .i64 1)
  trash1 : w.cell? ⟨0, 1, none⟩ = some (.int .i64 0)
  maxl : ∃ m, w.cell? ⟨2, 0, none⟩ = some (.int .i64 m)
  syn : ∃ tp p, w.var? Tryd.prog "strconv.ErrSyntax" = some #[.iface tp p]
  rng : ∃ tp p, w.var? Tryd.prog "strconv.ErrRange" = some #[.iface tp p]
  tab : Lib.TabIs Tryd.prog w "internal/strconv.uint64pow10" .u64 Lib.pow10Tab
theorem cell_same {w w' : World} {p : Addr} (h : w'.heap[p.block]? = w.heap[p.block]?) : w'.cell? p = w.cell? p := by unfold World.cell?; rw [h]
theorem var_same {w w' : World} {n : String} {g : Nat} (hg : Tryd.prog.globalNamed n = some g) (h : w'.heap[g]? = w.heap[g]?) : w'.var? Tryd.prog n = w.var? Tryd.prog n := by
  unfold World.var?
  rw [hg, Option.bind_some, Option.bind_some, h]
theorem Gl.same {w w' : World} (h : Gl w) (hs : w.heap.size ≤ w'.heap.size) (hk : ∀ k, k < 8 → w'.heap[k]? = w.heap[k]?) : Gl w' where
  big := Nat.le_trans h.big hs
  root0 := (cell_same (hk 1 (by omega))).trans h.root0
  root1 := (cell_same (hk 1 (by omega))).trans h.root1
  trash0 := (cell_same (hk 0 (by omega))).trans h.trash0
  trash1 := (cell_same (hk 0 (by omega))).trans h.trash1
  maxl := h.maxl.imp fun m hm => (cell_same (hk 2 (by omega))).trans hm
  syn := by rw [var_same gSyn (hk 3 (by omega))]; exact h.syn
  rng := by rw [var_same gRng (hk 4 (by omega))]; exact h.rng
  tab := by unfold Lib.TabIs; rw [var_same gTab (hk 5 (by omega))]; exact h.tab
theorem Gl.below {w w' : World} {B : Nat} (h : Gl w) (hb : Below B w w') (hB : 8 ≤ B) : Gl w' := h.same hb.size (fun k hk => hb.block k (by omega))
theorem Gl.on {w w' : World} (h : Gl w) (hb : Below w.heap.size w w') : Gl w' := h.below hb h.big
theorem Gl.keep {w w' : World} {F : Nat → Prop} (h : Gl w) (hb : Keep F w w') (hF : ∀ k, k < 8 → ¬ F k) : Gl w' := h.same hb.size (fun k hk => hb.block k (by have := h.big; omega) (hF k hk))
end Go.Proofs.YtiakdnoafmojlaaDoor.Mem
