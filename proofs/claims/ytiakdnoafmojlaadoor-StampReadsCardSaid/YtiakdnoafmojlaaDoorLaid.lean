/- What the rows list of package-level variables, as the walks take it; one world that fits; the frame of a row over a listed world. -/
import Derived.Test.YtiakdnoafmojlaaDoorBase
import Derived.Test.YtiakdnoafmojlaaDoorRows
import Derived.Stop.LaidErr
import Derived.ChangeSame
import Derived.ChangeVars
import Derived.ChangeMaps5
import Derived.ChangeOld
import Derived.Carry
import Derived.OpenShut
import Derived.ShutString
import Derived.JoinedOf
import Derived.JoinedAt
import Derived.RowKit3
import Derived.RowKitTokens
import Derived.LaidLaws
import Derived.HandedShaped
import Derived.ProofKit
namespace Go.Proofs.YtiakdnoafmojlaaDoor.Laid
open Go.ChangeShapes Go.WideShapes Go.ChangeAt Go.RowKit Go.Proofs.YtiakdnoafmojlaaDoor.Mem
set_option linter.unusedVariables false

theorem own : ownKnob Tryd.prog.godebug = none := by kernel_rfl
theorem laidOut : laidOutB Tryd.prog = true := by kernel_rfl
theorem gSynT : (Tryd.prog.globals[3]?).map (·.type) = some 75 := by kernel_rfl
theorem gRngT : (Tryd.prog.globals[4]?).map (·.type) = some 75 := by kernel_rfl
theorem gTabT : (Tryd.prog.globals[5]?).map (·.type) = some 110 := by kernel_rfl
theorem gRoot : Tryd.prog.globalNamed "offshoot/api.Root" = some 1 := by kernel_rfl
theorem gTrash : Tryd.prog.globalNamed "offshoot/api.Trash" = some 0 := by kernel_rfl
theorem gRootT : (Tryd.prog.globals[1]?).map (·.type) = some 24 := by kernel_rfl
theorem gTrashT : (Tryd.prog.globals[0]?).map (·.type) = some 24 := by kernel_rfl
theorem gB64 : Tryd.prog.globalNamed "math/bits.deBruijn64tab" = some 7 := by kernel_rfl
theorem gB64T : (Tryd.prog.globals[7]?).map (·.type) = some 123 := by kernel_rfl
theorem star : "*" ++ "errors.errorString" = "*errors.errorString" := by decide
theorem row118 (u : TypeId) (h : Tryd.prog.typeName? 3 u = some "*errors.errorString") : u = 118 :=
  typeName_ptr_named (nm := "errors.errorString") (by rw [star]; kernel_rfl) (by kernel_rfl) (by decide) u (by rw [star]; exact h)
set_option maxRecDepth 100000 in
/-- A variable that is a pair of numbers. -/
theorem pair_of_head {W : World} {name : String} {x y : Int} {rest : List (String × DataW Unit)} {g : Nat} (hg : Tryd.prog.globalNamed name = some g) (hty : (Tryd.prog.globals[g]?).map (·.type) = some 24)
    (h : laidMet Tryd.prog ((name, .agg [.lit (.int .i64 x), .lit (.int .i64 y)]) :: rest) W) : W.cell? ⟨g, 0, none⟩ = some (.int .i64 x) ∧ W.cell? ⟨g, 1, none⟩ = some (.int .i64 y) := by
  obtain ⟨ps, ⟨g', t', cs, fuel, p, q, hg', ht', hvar, hd, _, _⟩, _⟩ := h
  obtain rfl := Option.some.inj (hg.symm.trans hg')
  obtain rfl := Option.some.inj (hty.symm.trans ht')
  obtain ⟨y0, y1, n, e, hl, h0, h1⟩ := trod_struct2 Tryd.underlying24 hd
  obtain ⟨a, ha, hx, _⟩ := DataW.trod_int Tryd.underlying3 h0
  obtain ⟨b, hb, hy, _⟩ := DataW.trod_int Tryd.underlying3 h1
  rw [show Tryd.prog.cellsOf 24 = 2 by kernel_rfl] at hl
  have c3 : Tryd.prog.cellsOf 3 = 1 := by kernel_rfl
  simp only [c3] at ha hb
  subst hx hy
  simp only [Prod.mk.injEq, DataW.agg.injEq, List.cons.injEq, DataW.lit.injEq, Lit.int.injEq, true_and, and_true] at e
  obtain ⟨⟨rfl, rfl⟩, _⟩ := e
  have k0 := World.var?_cell hg hvar 0
  have k1 := World.var?_cell hg hvar 1
  rw [k0, k1]
  obtain ⟨l⟩ := cs
  match l, hl with
  | [u, v], _ =>
    simp at ha hb
    subst ha hb
    exact ⟨rfl, rfl⟩
/-- What each row lists. -/
def L : List (String × DataW Unit) := Rows.stampReadsRow.laid
set_option maxRecDepth 100000 in
theorem gl_of_laid {W : World} (h : laidMet Tryd.prog L W) (hm : ∃ m, W.cell? ⟨2, 0, none⟩ = some (.int .i64 m)) : Gl W := by
  have h2 := h.tail
  have h3 := h2.tail
  have h4 := h3.tail
  have h5 := h4.tail
  have h6 := h5.tail
  have h7 := h6.tail
  have hr := pair_of_head (x := 0) (y := 0) gRoot gRootT h4
  have ht := pair_of_head (x := 1) (y := 0) gTrash gTrashT h5
  obtain ⟨aR, sR, hvR, _⟩ := laid_sentinel h6 gRng gRngT Tryd.underlying75 row118 Tryd.underlying118 Tryd.underlying120 rfl rfl Tryd.underlying9 (by kernel_rfl) (by kernel_rfl)
  obtain ⟨aS, sS, hvS, _⟩ := laid_sentinel h7 gSyn gSynT Tryd.underlying75 row118 Tryd.underlying118 Tryd.underlying120 rfl rfl Tryd.underlying9 (by kernel_rfl) (by kernel_rfl)
  have htab : Lib.TabIs Tryd.prog W "internal/strconv.uint64pow10" .u64 Lib.pow10Tab := Lib.tabIs_of_head gTab gTabT Tryd.underlying110 Tryd.underlying95 (by kernel_rfl) (by kernel_rfl) h3
  have hbig : 8 ≤ W.heap.size := by
    obtain ⟨ps, ⟨g', t', cs, fuel, p, q, hg', ht', hvar, hd, _, _⟩, _⟩ := h2
    obtain rfl := Option.some.inj (gB64.symm.trans hg')
    unfold World.var? at hvar
    rw [gB64, Option.bind_some] at hvar
    rcases Nat.lt_or_ge 7 W.heap.size with hlt | hge
    · omega
    · rw [Array.getElem?_eq_none hge] at hvar; simp at hvar
  exact ⟨hbig, hr.1, hr.2, ht.1, ht.2, hm, ⟨_, _, hvS⟩, ⟨_, _, hvR⟩, htab⟩
theorem maxl_of_shaped {W : World} (h : W.ShapedOpen Tryd.prog) : ∃ m, W.cell? ⟨2, 0, none⟩ = some (.int .i64 m) := Tryd.laysM145.s1_3 W h

variable {H : Type} {enc : TypeId × Value → H}
/-- The frame of a law's row: the listed variables, the world's shape and the arguments' sizes at hand. -/
theorem returns_laid {a : Assume} {C : Checked} {os : Os} {f : FuncId} {fn : Func} {s : ChangeSpec} {conds : List PathCond} {apart fresh handsOn again : Bool} {X : World → Array Value → Prop}
    (hX : ∀ (w w' : World) (args : Array Value), w.heap = w'.heap → X w args → X w' args)
    (own : ownKnob C.prog.godebug = none) (started : os.Started) (noInit : C.prog.inits.idxOf? f = none) (hfn : C.prog.funcs[f]? = some fn)
    (witness : ∃ (w : World) (tape : Tape) (i : Input), w.os = os ∧ (w.forCall tape i).Shaped C.prog ∧ i.vars = [] ∧ Input.okWide C.prog (w.forCall tape i) .any w.heap.size f i ∧
      ((s.pre enc C.prog fn conds apart (w.forCall tape i).memory i.args ∧ X (w.forCall tape i).memory i.args) ∧ sizedMet enc C.prog fn (OpenSpec.ofChange s) apart (w.forCall tape i).memory i.args) ∧ a.holds C.prog (lone (Frame.enter C.prog f i.args .normal) [] (w.forCall tape i)))
    (contract : ∀ (W : World) (base : Nat) (args : Array Value) (ds gs : List (DataW H)) (before : List MemPlace),
      (∀ (j : Nat) t v, fn.params[j]? = some t → args[j]? = some v → Value.okWide C.prog W .any base t v) →
      DataW.Whole enc C.prog fn.params.toList s.vars apart W args.toList ds gs before →
      conds.all (PathCond.test C.prog ⟨fn.params.toList, ds, s.plain.varTypes C.prog, gs⟩) = true →
      (DataW.weightsEach C.prog (fn.params.toList ++ s.plain.varTypes C.prog) (ds ++ gs)).all (· ≤ reachBytes) = true → X W args → W.ShapedOpen C.prog →
      a.holds C.prog (lone (Frame.enter C.prog f args .normal) [] W) →
      Calls C.prog f args W fun e W' => ∃ v, e = .returned v ∧ s.post enc C.prog fn apart fresh handsOn again W args v W') :
    ReturnsInHanded a C os f .any (fun w args => (s.pre enc C.prog fn conds apart w args ∧ X w args) ∧ sizedMet enc C.prog fn (OpenSpec.ofChange s) apart w args) (s.post enc C.prog fn apart fresh handsOn again) := by
  refine returnsInHanded_of_calls own started noInit witness ?_
  intro w tape i _ hsh _ hok hpre hholds
  obtain ⟨_, _, _, fn', hfn', _, _, _, _, hval⟩ := hok
  have e : fn' = fn := Option.some.inj (hfn'.symm.trans hfn)
  subst e
  obtain ⟨⟨⟨ds, gs, before, hw, hc⟩, hx⟩, hz⟩ := hpre
  have hw' := DataW.Whole.of_heap (w' := w.forCall tape i) (by rfl) hw
  refine (contract (w.forCall tape i) w.heap.size i.args ds gs before hval hw' hc (hz.weights hw) (hX _ _ _ (by rfl) hx) hsh hholds).mono fun e W' ⟨v, he, hp⟩ => ?_
  subst he
  exact ChangeSpec.post_blind hp

abbrev synS : ByteArray := { data := #[105, 110, 118, 97, 108, 105, 100, 32, 115, 121, 110, 116, 97, 120] }
abbrev rngS : ByteArray := { data := #[118, 97, 108, 117, 101, 32, 111, 117, 116, 32, 111, 102, 32, 114, 97, 110, 103, 101] }
noncomputable def low : Nat := (World.holding Tryd.prog default ⟨#[], #[], []⟩).heap.size
def put (h : Array Obj) (g : Nat) (cs : Array Value) : Array Obj := h.modify g fun
  | .cells _ t frozen => .cells cs t frozen
  | o => o
def b32 : Array Value := #[0, 1, 28, 2, 29, 14, 24, 3, 30, 22, 20, 15, 25, 17, 4, 8, 31, 27, 13, 23, 21, 19, 16, 7, 26, 12, 18, 6, 11, 5, 10, 9].map (Value.int .u8)
def b64 : Array Value := #[0, 1, 56, 2, 57, 49, 28, 3, 61, 58, 42, 50, 38, 29, 17, 4, 62, 47, 59, 36, 45, 43, 51, 22, 53, 39, 33, 30, 24, 18, 12, 5, 63, 55, 48, 27, 60, 41, 37, 16, 46, 35, 44, 21, 52, 32, 23, 11, 54, 26, 40, 15, 34, 20, 31, 10, 25, 14, 19, 9, 13, 8, 7, 6].map (Value.int .u8)
/-- The settled world with the two errors' texts behind it and the variables as they are listed. -/
noncomputable def laidWorld (os : Os) : World :=
  let w0 := World.holding Tryd.prog os ⟨#[.cells #[.string synS] 120, .cells #[.string rngS] 120], #[], []⟩
  let h1 := put w0.heap 0 #[.int .i64 1, .int .i64 0]
  let h2 := put h1 1 #[.int .i64 0, .int .i64 0]
  let h3 := put h2 3 #[.iface 118 (.pointer (some ⟨low, 0, none⟩))]
  let h4 := put h3 4 #[.iface 118 (.pointer (some ⟨low + 1, 0, none⟩))]
  let h5 := put h4 5 (Lib.pow10Tab.map (Value.int .u64)).toArray
  let h6 := put h5 6 b32
  let h7 := put h6 7 b64
  { w0 with heap := h7 }
set_option maxRecDepth 1000000 in
theorem laid_met (os : Os) (args : Array Value) : laidMet Tryd.prog L ((laidWorld os).forCall (fun _ _ => 0) ⟨#[], args, []⟩).memory :=
  laidMet_of_run' 8 (by kernel_rfl) (by kernel_rfl)
end Go.Proofs.YtiakdnoafmojlaaDoor.Laid
