/- What an argument reads as, opened: a reading of a slice or a struct gives a Lean value whose kind its cells are. -/
import Derived.Test.YtiakdnoafmojlaaDoorWMore
import Derived.ChangeArms
import Derived.ChangeOld
import Derived.Carry
import Derived.OpenShut
import Derived.ShutString
import Derived.ProofKit
import Derived.SizedLaws
import Derived.WalkKit
namespace Go.Proofs.YtiakdnoafmojlaaDoor.Opens
open Go.ChangeShapes Go.WideShapes Go.ChangeAt Go.RowKit Go.Proofs.YtiakdnoafmojlaaDoorW.PrintWords

def Opens {α : Type} (P : Program) (t : TypeId) (d : Kd α) (ok : α → Prop) : Prop :=
  P.cellsOf t = d.sz ∧ ∀ (H : Type) (enc : TypeId × Value → H) (w : World) (sp : Nat → Bool) (held : Bool) (fuel : Nat) (cs : List Value) (x : DataW H × List MemPlace),
    DataW.trod enc P w 0 sp held fuel t cs = some x → (∀ n ∈ x.1.weights P t, n ≤ reachBytes) → ∃ a, d.K w a cs ∧ ok a

theorem opens_int {P : Program} {t : TypeId} {k : IntKind} (ht : P.underlying t = some (.int k)) (hc : P.cellsOf t = 1) : Opens P t (Kd.int k) (fun n => (Lit.int k n).wf = true) :=
  ⟨hc, fun H enc w sp held fuel cs x h _ => by
    obtain ⟨n, rfl, _, hw⟩ := DataW.trod_int ht h
    exact ⟨n, rfl, hw⟩⟩
theorem opens_bool {P : Program} {t : TypeId} (ht : P.underlying t = some .bool) (hc : P.cellsOf t = 1) : Opens P t Kd.bool (fun _ => True) :=
  ⟨hc, fun H enc w sp held fuel cs x h _ => by
    obtain ⟨n, rfl, _⟩ := DataW.trod_bool ht h
    exact ⟨n, rfl, trivial⟩⟩
theorem opens_string {P : Program} {t : TypeId} (ht : P.underlying t = some .string) (hc : P.cellsOf t = 1) : Opens P t Kd.string (fun s => s.size ≤ 140737488351232) :=
  ⟨hc, fun H enc w sp held fuel cs x h hz => by
    obtain ⟨n, rfl, rfl, _⟩ := DataW.trod_string ht h
    have := hz n.data.toList.length (by simp [DataW.weights])
    exact ⟨n, rfl, by simpa [reachBytes] using this⟩⟩
theorem Opens.iso {α β : Type} {P : Program} {t : TypeId} {d : Kd α} {ok : α → Prop} (h : Opens P t d ok) (f : β → α) (g : α → β) (hfg : ∀ a, f (g a) = a) : Opens P t (Kd.iso d f) (fun b => ok (f b)) :=
  ⟨h.1, fun H enc w sp held fuel cs x hx hz => by
    obtain ⟨a, ha, ho⟩ := h.2 H enc w sp held fuel cs x hx hz
    exact ⟨g a, by show d.K w (f (g a)) cs; rw [hfg]; exact ha, by show ok (f (g a)); rw [hfg]; exact ho⟩⟩
theorem Opens.imp {α : Type} {P : Program} {t : TypeId} {d : Kd α} {ok ok' : α → Prop} (h : Opens P t d ok) (hi : ∀ a, ok a → ok' a) : Opens P t d ok' :=
  ⟨h.1, fun H enc w sp held fuel cs x hx hz => by
    obtain ⟨a, ha, ho⟩ := h.2 H enc w sp held fuel cs x hx hz
    exact ⟨a, ha, hi a ho⟩⟩

theorem exists_list {α : Type} {p : Nat → α → Prop} : ∀ (n : Nat), (∀ i, i < n → ∃ a, p i a) → ∃ xs : List α, xs.length = n ∧ ∀ i a, xs[i]? = some a → p i a
  | 0, _ => ⟨[], rfl, fun i a h => by simp at h⟩
  | n + 1, h => by
    obtain ⟨xs, hl, hx⟩ := exists_list n (fun i hi => h i (by omega))
    obtain ⟨a, ha⟩ := h n (by omega)
    refine ⟨xs ++ [a], by simp [hl], fun i b hb => ?_⟩
    by_cases c : i < n
    · rw [List.getElem?_append_left (by omega)] at hb
      exact hx i b hb
    · have hi : i < (xs ++ [a]).length := by
        rcases Nat.lt_or_ge i (xs ++ [a]).length with h | h
        · exact h
        · rw [List.getElem?_eq_none h] at hb; cases hb
      have e : i = n := by simp at hi; omega
      subst e
      rw [List.getElem?_append_right (by omega)] at hb
      simp [hl] at hb
      subst hb
      exact ha
theorem add_add (a : Addr) (i j : Nat) : (a.add i).add j = a.add (i + j) := by
  unfold Addr.add
  by_cases hi : i = 0 <;> by_cases hj : j = 0 <;> simp [hi, hj, Nat.add_assoc]

theorem mem_weightsAll {H : Type} {P : Program} {e : TypeId} : ∀ {l : List (DataW H)} {d : DataW H}, d ∈ l → ∀ n ∈ d.weights P e, n ∈ DataW.weightsAll P e l
  | d0 :: l, d, hd, n, hn => by
    simp only [DataW.weightsAll, List.mem_append]
    rcases List.mem_cons.1 hd with rfl | hd
    · exact .inl hn
    · exact .inr (mem_weightsAll hd n hn)
theorem opens_slice {α : Type} {P : Program} {t e : TypeId} {d : Kd α} {ok : α → Prop} (ht : P.underlying t = some (.slice e)) (hc : P.cellsOf t = 1) (h : Opens P e d ok) : Opens P t (Kd.slice e d) (fun xs => xs.length * P.bytesOf e ≤ 140737488351232 ∧ ∀ x ∈ xs, ok x) :=
  ⟨hc, fun H enc w sp held fuel cs x hx hz => by
    rcases DataW.trod_slice ht hx with ⟨rfl, _⟩ | ⟨a, len, cap, elems, rest, n, _, rfl, rfl, _, hlc, hcm, hel, hcell, _⟩
    · exact ⟨[], ⟨none, 0, rfl, Nat.le_refl _, Kd.C_nil d w⟩, by simp, fun _ h => by cases h⟩
    · have key : ∀ i, i < len → ∃ p, (∃ c, c.length = d.sz ∧ d.K w p c ∧ ∀ j u, c[j]? = some u → w.cell? (a.add (i * d.sz + j)) = some u) ∧ ok p := by
        intro i hi
        have hy := hcell i hi
        rw [List.getElem?_eq_getElem (by omega)] at hy
        obtain ⟨c, hc1, hc2⟩ := Option.bind_eq_some_iff.1 hy
        obtain ⟨p, hp, hok⟩ := h.2 H enc w sp held n c _ hc2 (fun m hm => hz m (by
          simp only [DataW.weights, ht]
          exact List.mem_cons_of_mem _ (List.mem_append_left _ (mem_weightsAll (List.mem_map.2 ⟨_, List.getElem_mem _, rfl⟩) m hm))))
        obtain ⟨_, hl, hg⟩ := World.cells?_some hc1
        refine ⟨p, ⟨c, by rw [hl, h.1], hp, fun j u hu => ?_⟩, hok⟩
        have hj : j < P.cellsOf e := by
          rw [← hl]
          rcases Nat.lt_or_ge j c.length with h | h
          · exact h
          · rw [List.getElem?_eq_none h] at hu; cases hu
        have := hg j hj
        rw [add_add, h.1] at this
        exact this.trans hu
      obtain ⟨xs, hxl, hxs⟩ := exists_list len key
      refine ⟨xs, ⟨some a, cap, by rw [hxl], by omega, rfl, ?_, fun _ => ⟨a, rfl, fun j p hp => (hxs j p hp).1⟩⟩, ?_, fun x hx => ?_⟩
      · have hm : cap ≤ maxLen := hcm
        unfold maxLen at hm
        omega
      · have := hz _ (by simp only [DataW.weights, ht]; exact List.mem_cons_self)
        rw [List.length_map, List.length_map, hel] at this
        rw [hxl]
        exact Nat.le_trans (Nat.mul_le_mul_right _ (Nat.le_add_right _ _)) this
      · obtain ⟨i, hi⟩ := List.mem_iff_getElem?.1 hx
        exact (hxs i x hi).2⟩

/-- Fields in line, from off on. -/
def FO {α : Type} (P : Program) (fs : List Field) (off : Nat) (d : Kd α) (ok : α → Prop) : Prop :=
  ∀ (H : Type) (enc : TypeId × Value → H) (w : World) (sp : Nat → Bool) (held : Bool) (n : Nat) (cs : List Value) (xs : List (DataW H × List MemPlace)),
    cs.length = off + d.sz → xs.length = fs.length → (∀ (i : Nat) (f : Field), fs[i]? = some f → DataW.trod enc P w 0 sp held n f.type ((cs.drop f.offset).take (P.cellsOf f.type)) = xs[i]?) →
    (∀ (i : Nat) (f : Field) (x : DataW H × List MemPlace), fs[i]? = some f → xs[i]? = some x → ∀ n ∈ x.1.weights P f.type, n ≤ reachBytes) → ∃ a, d.K w a (cs.drop off) ∧ ok a
theorem FO.one {α : Type} {P : Program} {f : Field} {off : Nat} {d : Kd α} {ok : α → Prop} (h : Opens P f.type d ok) (ho : f.offset = off) : FO P [f] off d ok := by
  intro H enc w sp held n cs xs hl hx hf hz
  have h0 := hf 0 f rfl
  match xs, hx with
  | [x], _ =>
    rw [h.1, ho, List.take_of_length_le (by rw [List.length_drop]; omega)] at h0
    exact h.2 H enc w sp held n _ x h0 (hz 0 f x rfl rfl)
theorem FO.cons {α β : Type} {P : Program} {f : Field} {fs : List Field} {off off' : Nat} {d : Kd α} {d' : Kd β} {ok : α → Prop} {ok' : β → Prop} (h : Opens P f.type d ok) (ho : f.offset = off) (ho' : off' = off + d.sz) (hs : FO P fs off' d' ok') :
    FO P (f :: fs) off (Kd.pair d d') (fun x => ok x.1 ∧ ok' x.2) := by
  intro H enc w sp held n cs xs hl hx hf hz
  have hsz : (Kd.pair d d').sz = d.sz + d'.sz := rfl
  have h0 := hf 0 f rfl
  match xs, hx with
  | x :: xs, hx =>
    rw [h.1, ho] at h0
    obtain ⟨a, ha, hoa⟩ := h.2 H enc w sp held n _ x h0 (hz 0 f x rfl rfl)
    obtain ⟨b, hb, hob⟩ := hs H enc w sp held n cs xs (by omega) (by simpa using hx) (fun i g hg => hf (i + 1) g hg) (fun i g y hg hy => hz (i + 1) g y hg hy)
    refine ⟨(a, b), ⟨_, _, ?_, ha, hb⟩, hoa, hob⟩
    rw [ho', ← List.drop_drop, List.take_append_drop]
theorem opens_struct {α : Type} {P : Program} {t : TypeId} {fs : Array Field} {d : Kd α} {ok : α → Prop} (ht : P.underlying t = some (.struct fs)) (h : FO P fs.toList 0 d ok) (hc : P.cellsOf t = d.sz) : Opens P t d ok :=
  ⟨hc, fun H enc w sp held fuel cs x hx hz => by
    obtain ⟨xs, n, _, rfl, hl, hxl, hf⟩ := DataW.trod_struct ht hx
    obtain ⟨a, ha, ho⟩ := h H enc w sp held n cs xs (by omega) (by simpa using hxl) (fun i f hi => hf i f (by simpa using hi)) (fun i f y hi hy m hm => hz m (by
      simp only [DataW.weights, ht]
      exact DataW.weights_mem_each (j := i) (by rw [List.getElem?_map, hi]; rfl) (by rw [List.getElem?_map, hy]; rfl) m hm))
    exact ⟨a, by simpa using ha, ho⟩⟩

/-- An argument that is a slice. -/
theorem arg_slice {α : Type} {H : Type} {enc : TypeId × Value → H} {P : Program} {W : World} {sp : Nat → Bool} {held : Bool} {r : Reach} {b0 : Nat} {t e : TypeId} {d : Kd α} {ok : List α → Prop} {v : Value} {x : DataW H} {ps : List MemPlace}
    (ht : P.underlying t = some (.slice e)) (ho : Opens P t (Kd.slice e d) ok) (hval : Value.okWide P W r b0 t v) (h : DataW.Trod enc P W 0 sp held t v x ps) (hz : ∀ n ∈ x.weights P t, n ≤ reachBytes) :
    ∃ A c xs, v = .slice A (List.length xs) c ∧ xs.length ≤ c ∧ d.C W A xs.length xs ∧ ok xs := by
  obtain ⟨a0, len, cap, rfl⟩ := okWide_slice ht hval
  obtain ⟨fuel, hf⟩ := h
  obtain ⟨xs, ⟨A, c, e1, hl, hC⟩, hok⟩ := ho.2 H enc W sp held fuel _ _ hf hz
  refine ⟨A, c, xs, ?_, hl, hC, hok⟩
  simpa [Value.cells] using e1
/-- An argument that is a struct. -/
theorem arg_struct {α : Type} {H : Type} {enc : TypeId × Value → H} {P : Program} {W : World} {sp : Nat → Bool} {held : Bool} {r : Reach} {b0 : Nat} {t : TypeId} {fs : Array Field} {d : Kd α} {ok : α → Prop} {v : Value} {x : DataW H} {ps : List MemPlace}
    (ht : P.underlying t = some (.struct fs)) (ho : Opens P t d ok) (hval : Value.okWide P W r b0 t v) (h : DataW.Trod enc P W 0 sp held t v x ps) (hz : ∀ n ∈ x.weights P t, n ≤ reachBytes) :
    ∃ cs a, v = .agg cs ∧ d.K W a cs.toList ∧ ok a := by
  obtain ⟨cs, rfl, _⟩ := okWide_struct ht hval
  obtain ⟨fuel, hf⟩ := h
  obtain ⟨a, ha, hok⟩ := ho.2 H enc W sp held fuel _ _ hf hz
  exact ⟨cs, a, rfl, ha, hok⟩
theorem weighed {H : Type} {P : Program} {ts : List TypeId} {ds : List (DataW H)} (h : (DataW.weightsEach P ts ds).all (· ≤ reachBytes) = true) (j : Nat) {t : TypeId} {d : DataW H} (ht : ts[j]? = some t) (hd : ds[j]? = some d) : ∀ n ∈ d.weights P t, n ≤ reachBytes := by
  intro n hn
  have := List.all_eq_true.1 h n (DataW.weights_mem_each ht hd n hn)
  simpa using this
end Go.Proofs.YtiakdnoafmojlaaDoor.Opens
