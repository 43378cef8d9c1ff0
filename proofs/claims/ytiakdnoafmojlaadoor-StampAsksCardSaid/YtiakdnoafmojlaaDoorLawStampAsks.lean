/- StampAsks, for any two names, two stamps and one character: every Right, Order and Show of the program answers what the reference answers. No condition beyond the card's own (package variables as they are laid). -/
import Derived.Test.YtiakdnoafmojlaaDoorCards
import Derived.Test.YtiakdnoafmojlaaDoorTie
import Derived.Test.YtiakdnoafmojlaaDoorLaid
import Derived.Test.YtiakdnoafmojlaaDoorOpens
import Derived.Test.YtiakdnoafmojlaaDoorAsksW
import Derived.WalkKit
import Derived.Below
import Derived.SizedLaws
import Derived.SevenTiedAt
namespace Go.Proofs.YtiakdnoafmojlaaDoor.stampAsks
open Go Go.ChangeShapes Go.WideShapes Go.ChangeAt Go.RowKit Go.Proofs.YtiakdnoafmojlaaDoor.Laid
open Go.ChangeMaps (open_string shut_string)
set_option linter.unusedVariables false
set_option maxRecDepth 100000 in
theorem lifted (os : Os) (started : os.Started) (H : Type) (enc : TypeId × Value → H) :
    ReturnsInHanded {} Tryd.checked os 8 .any (fun w args => (Rows.stampAsksSpec.pre enc Tryd.prog Tryd.f8 Rows.stampAsksRow.domain false w args ∧ laidMet Tryd.prog Rows.stampAsksRow.laid w) ∧ sizedMet enc Tryd.prog Tryd.f8 (OpenSpec.ofChange Rows.stampAsksSpec) false w args) (Rows.stampAsksSpec.post enc Tryd.prog Tryd.f8 false true false false) := by
  refine returns_laid (C := Tryd.checked) (X := fun w _ => laidMet Tryd.prog L w) (fun _ _ _ hh h => h.of_heap hh) own started (by kernel_rfl) Tryd.func8
    (ChangeSpec.witness_at (enc := enc) (C := Tryd.checked) (os := os) (X := fun w _ => laidMet Tryd.prog L w) false (laidWorld os) #[.agg #[.int .i64 0, .int .i64 0], .agg #[.int .i64 0, .int .i64 0], .agg #[.int .i64 0, .int .i64 0], .agg #[.int .i64 0, .int .i64 0], .agg #[.int .i64 0, .int .i64 0, .int .i64 0]] 8 rfl (by kernel_rfl) (by kernel_rfl) (by kernel_rfl) (by kernel_rfl) (by kernel_rfl) (laid_met os _)) ?_
  intro W base args ds gs before hval0 hW hcnd hsz0 hL hsh _
  have hsz : (DataW.weightsEach Tryd.prog (Tryd.f8.params.toList ++ Rows.stampAsksSpec.plain.varTypes Tryd.prog) (ds ++ gs)).all (· ≤ reachBytes) = true := hsz0
  have hval : ∀ (j : Nat) t v, Tryd.f8.params[j]? = some t → args[j]? = some v → Value.okWide Tryd.prog W .any base t v := hval0
  have hG := gl_of_laid hL (maxl_of_shaped hsh)
  have hW' := hW
  obtain ⟨p, q, hA0, hV, rfl, hfz, hnd⟩ := hW
  have hA : DataW.TrodAll enc Tryd.prog W 0 (fun _ => true) true Tryd.f8.params.toList args.toList ds p := hA0
  rw [Tryd.params8] at hA hval hsz
  obtain ⟨v0, vs0, d0, ds0, p0, q0, hargs, rfl, rfl, h0, r0⟩ := trodAll_cons hA
  obtain ⟨v1, vs1, d1, ds1, p1, q1, rfl, rfl, rfl, h1, r1⟩ := trodAll_cons r0
  obtain ⟨v2, vs2, d2, ds2, p2, q2, rfl, rfl, rfl, h2, r2⟩ := trodAll_cons r1
  obtain ⟨v3, vs3, d3, ds3, p3, q3, rfl, rfl, rfl, h3, r3⟩ := trodAll_cons r2
  obtain ⟨v4, vs4, d4, ds4, p4, q4, rfl, rfl, rfl, h4, r4⟩ := trodAll_cons r3
  obtain ⟨rfl, rfl, rfl⟩ := trodAll_nil r4
  obtain rfl : args = #[v0, v1, v2, v3, v4] := by cases args; simp_all
  obtain ⟨rfl, rfl⟩ := trodVars_none hV
  have k0 := h0
  have lt0 : ∀ x ∈ p0, x.block < W.heap.size := by obtain ⟨m, hm⟩ := k0; exact DataW.trod_lt m _ _ _ hm
  have k1 := h1
  have lt1 : ∀ x ∈ p1, x.block < W.heap.size := by obtain ⟨m, hm⟩ := k1; exact DataW.trod_lt m _ _ _ hm
  have k2 := h2
  have lt2 : ∀ x ∈ p2, x.block < W.heap.size := by obtain ⟨m, hm⟩ := k2; exact DataW.trod_lt m _ _ _ hm
  have k3 := h3
  have lt3 : ∀ x ∈ p3, x.block < W.heap.size := by obtain ⟨m, hm⟩ := k3; exact DataW.trod_lt m _ _ _ hm
  have k4 := h4
  have lt4 : ∀ x ∈ p4, x.block < W.heap.size := by obtain ⟨m, hm⟩ := k4; exact DataW.trod_lt m _ _ _ hm
  obtain ⟨cs0, a0, e0, hK0, ok0⟩ := Opens.arg_struct Tryd.underlying24 Q.opens24p (hval 0 24 v0 rfl rfl) h0 (Opens.weighed hsz 0 rfl rfl)
  subst e0
  obtain ⟨cs1, a1, e1, hK1, ok1⟩ := Opens.arg_struct Tryd.underlying24 Q.opens24p (hval 1 24 v1 rfl rfl) h1 (Opens.weighed hsz 1 rfl rfl)
  subst e1
  obtain ⟨cs2, a2, e2, hK2, ok2⟩ := Opens.arg_struct Tryd.underlying48 Q.opens48p (hval 2 48 v2 rfl rfl) h2 (Opens.weighed hsz 2 rfl rfl)
  subst e2
  obtain ⟨cs3, a3, e3, hK3, ok3⟩ := Opens.arg_struct Tryd.underlying48 Q.opens48p (hval 3 48 v3 rfl rfl) h3 (Opens.weighed hsz 3 rfl rfl)
  subst e3
  obtain ⟨cs4, a4, e4, hK4, ok4⟩ := Opens.arg_struct Tryd.underlying53 Q.opens53 (hval 4 53 v4 rfl rfl) h4 (Opens.weighed hsz 4 rfl rfl)
  subst e4
  clear hA0 hval0 hsz0 hsz
  refine (Q.asks_walk W hG cs0 a0 hK0 ok0 cs1 a1 hK1 ok1 cs2 a2 hK2 ok2 cs3 a3 hK3 ok3 cs4 a4 hK4 ok4).mono fun e W' ⟨he, bel⟩ => ?_
  subst he
  exact ⟨_, rfl, _, _, _, [], _, [], hW', trodAll_mk1 (shut_bool Tryd.underlying4 _), (trodAll_cons_mk (Below.trod laidOut (by kernel_rfl) (of_decide_eq_true (by kernel_rfl)) k0 bel lt0) (trodAll_cons_mk (Below.trod laidOut (by kernel_rfl) (of_decide_eq_true (by kernel_rfl)) k1 bel lt1) (trodAll_cons_mk (Below.trod laidOut (by kernel_rfl) (of_decide_eq_true (by kernel_rfl)) k2 bel lt2) (trodAll_cons_mk (Below.trod laidOut (by kernel_rfl) (of_decide_eq_true (by kernel_rfl)) k3 bel lt3) (trodAll_cons_mk (Below.trod laidOut (by kernel_rfl) (of_decide_eq_true (by kernel_rfl)) k4 bel lt4) trodAll_mk0))))), rfl, bel.frame _, fun h => by cases h⟩
theorem over : Rows.stampAsksRow.holds Tryd.pinned (OpenSpec.ofChange Rows.stampAsksSpec) :=
  OpenClaim.holds_of_wide 8 Tryd.f8 rfl rfl rfl rfl rfl rfl rfl ⟨rfl, rfl, rfl, rfl, rfl⟩ rfl rfl rfl rfl rfl (by kernel_rfl) Tryd.func8 (by kernel_rfl)
    (of_decide_eq_true (by kernel_rfl)) (by unfold Func.isWrapper; first | (rw [if_pos (by decide +kernel)]; kernel_rfl) | (rw [if_neg (by decide +kernel)]; exact ⟨rfl, rfl⟩))
    (fun os started H enc _ => lifted os started H enc)
theorem named : Tryd.prog.funcNamed "offshoot/offshootlaw03.StampAsks" = some 8 := by kernel_rfl
theorem noStand : ([24, 24, 48, 48, 53].all fun u => !Tryd.prog.wantsStandIn u) = true := by kernel_rfl
theorem proved : Rows.StampAsksCardSaid :=
  Claim7.holds_tied_plain_at .later [] [.data, .data, .data, .data, .data, .sentinel, .sentinel] true (true, "4ee430e30eeb10a942b9a3262a11ca3a09717c018b16e7b8627fe377c6771f18") true
    over (fun _ h => by cases h) (by kernel_rfl) (fun _ h => by cases h) stampAsks_row_tie rfl ⟨rfl, rfl⟩ (by kernel_rfl) rfl
    (fun f fn hf hfn => by
      obtain rfl : f = 8 := Option.some.inj (named.symm.trans hf) |>.symm
      obtain rfl : fn = Tryd.f8 := (Option.some.inj (Tryd.func8.symm.trans hfn)).symm
      exact ⟨by kernel_rfl, fun j t ht => by
        rw [Tryd.params8] at ht
        have hm : t ∈ [24, 24, 48, 48, 53] := by simpa using Array.mem_of_getElem? ht
        exact (show Tryd.prog.wantsStandIn t = false by simpa using List.all_eq_true.1 noStand t hm)⟩)
    (by kernel_rfl)
end Go.Proofs.YtiakdnoafmojlaaDoor.stampAsks
namespace Go.Proofs.YtiakdnoafmojlaaDoor
/-- The card, under a short name, for the claim. -/
theorem stampAsks_holds : Rows.StampAsksCardSaid := stampAsks.proved
#print axioms stampAsks_holds
end Go.Proofs.YtiakdnoafmojlaaDoor
