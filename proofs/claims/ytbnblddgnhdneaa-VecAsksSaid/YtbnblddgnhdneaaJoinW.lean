/- VecJoin, the walk: a join covers both, is the same either way, and is the least one that covers both. -/
import Derived.Test.YtbnblddgnhdneaaMissW
import Derived.Test.YtbnblddgnhdneaaPVecJoinx1
namespace Go.Proofs.Ytbnblddgnhdneaa.Vec
open Go.RowKit Go.Proofs.YtbnblddgnhdneaaW.PrintWords Go.Proofs.YtbnblddgnhdneaaW.PrintLast Go.Proofs.YtbnblddgnhdneaaW.PrintMore Go.Proofs.Ytbnblddgnhdneaa.Mem Go.Proofs.Ytbnblddgnhdneaa.PVecJoin
attribute [local go_sem] max2_int min2_int max_two min_two
set_option linter.unusedVariables false
set_option linter.unusedSimpArgs false

/-- An append that is asked for, by what it makes. -/
theorem wpList_append {P : Program} {ops : Array Oper} {rest : List Oper} {o : Oper} {a : Act} {Q : Exit → Act → World → Prop} {W w1 : World} {v xv v1 : Value} (hw : Region.wanted o (yielded ops a.tmps) = true) (s x : Operand) (t ti : TypeId)
    (ho : o.op = .call { callee := .builtin .append, args := #[s, x], argTypes := #[t, ti] }) (hs : a.eval s = v) (hx : a.eval x = xv) (hrun : (Builtin.append_ #[t, ti] o.type #[v, xv]).run P W = .ok v1 w1)
    (h : wpList P ops Q rest (a.put o.dst v1) w1) : wpList P ops Q (o :: rest) a W := by
  refine wpList_step fun K hK => ?_
  refine event_step hw (w1 := w1) (v := v1) ?_ (hK _ _ h)
  unfold execOp
  simp only [ho, resolve, invoke, builtin, Sem.run_bind, Sem.run_pure, Result.andThen_ok, List.map_toArray, List.map_cons, List.map_nil, hs, hx, hrun]
theorem w64 {x : Int} (_ : -9223372036854775808 ≤ x) (_ : x ≤ 9223372036854775807) : wrap64 x = x := by unfold wrap64; omega
theorem same_loop (l : List Int) (hl : l.length ≤ 140737488351232) : ∀ (d k i : Nat), i + d = l.length → d + 1 ≤ k → offshootref00_SameInts.l0 k l l i = some true
  | 0, k, i, hd, hk => by
    obtain ⟨k, rfl⟩ : ∃ m, k = m + 1 := ⟨k - 1, by omega⟩
    simp only [offshootref00_SameInts.l0]
    rw [if_neg (by omega)]
  | d + 1, k, i, hd, hk => by
    obtain ⟨k, rfl⟩ : ∃ m, k = m + 1 := ⟨k - 1, by omega⟩
    simp only [offshootref00_SameInts.l0]
    rw [if_pos (by omega), if_pos (by omega)]
    simp only [if_true]
    rw [show wrap64 ((i : Int) + 1) = ((i + 1 : Nat) : Int) from by rw [w64] <;> omega]
    try rw [if_pos (by omega)]
    exact same_loop l hl d k (i + 1) (by omega) (by omega)
theorem same_f (l : List Int) (hl : l.length ≤ 140737488351232) : offshootref00_SameInts.f (l.length + 1) l l = some true := by
  unfold offshootref00_SameInts.f
  rw [if_pos rfl]
  exact same_loop l hl l.length _ 0 (by omega) (by omega)
theorem copy_f (l : List Int) (hl : l.length ≤ 16) : offshootref00_CopyInts.f l = some l := by
  unfold offshootref00_CopyInts.f
  simp
  omega
/-- Two rows of the same numbers are the same. -/
theorem same_ok {w : World} {A B : Option Addr} {c d : Nat} {l : List Int} (hA : (Kd.int .i64).C w A l.length l) (hc : l.length ≤ c) (hB : (Kd.int .i64).C w B l.length l) (hd : l.length ≤ d) (hl : l.length ≤ 140737488351232) :
    Calls Try.prog 18 #[.slice A l.length c, .slice B l.length d] w fun e w' => e = .returned (.bool true) ∧ ∃ k, w' = w.drewN k := by
  refine (offshootref00_SameInts.calls (l.length + 1) A c l B d l true w hA hc hB hd (same_f l hl)).mono ?_
  rintro e w' ⟨rfl, ⟨k, rfl⟩⟩
  exact ⟨rfl, k, rfl⟩

theorem join_get {xs ys : List Int} (hx : Sixteen xs) (hy : Sixteen ys) (r : Nat) : (joinV xs ys).getD r 0 = max (xs.getD r 0) (ys.getD r 0) := by
  unfold joinV
  have h1 := hx.len
  have h2 := hy.len
  simp only [List.getD_eq_getElem?_getD, List.getElem?_zipWith]
  by_cases c : r < 16
  · rw [List.getElem?_eq_getElem (by omega), List.getElem?_eq_getElem (by omega)]; rfl
  · rw [List.getElem?_eq_none (by omega), List.getElem?_eq_none (by omega)]; rfl
theorem join_comm (xs ys : List Int) : joinV ys xs = joinV xs ys := by
  unfold joinV
  rw [List.zipWith_comm]
  congr 1
  funext a b
  omega
theorem covers_iff {zs ys : List Int} : coversB zs ys = true ↔ ∀ r : Nat, r < 16 → ys.getD r 0 ≤ zs.getD r 0 := by
  refine ⟨fun h r hr => ?_, miss_nil⟩
  unfold coversB at h
  have h0 : missV zs ys 16 = [] := List.eq_nil_of_length_eq_zero (by simpa using h)
  by_cases c : zs.getD r 0 < ys.getD r 0
  · have := miss_has (m := 16) hr c
    rw [h0] at this
    cases this
  · omega
theorem join_left {xs ys : List Int} (hx : Sixteen xs) (hy : Sixteen ys) : coversB (joinV xs ys) xs = true := covers_iff.2 fun r _ => by rw [join_get hx hy]; omega
theorem join_right {xs ys : List Int} (hx : Sixteen xs) (hy : Sixteen ys) : coversB (joinV xs ys) ys = true := covers_iff.2 fun r _ => by rw [join_get hx hy]; omega
theorem join_least {xs ys zs : List Int} (hx : Sixteen xs) (hy : Sixteen ys) (h1 : coversB zs xs = true) (h2 : coversB zs ys = true) : coversB zs (joinV xs ys) = true := covers_iff.2 fun r hr => by
  have := covers_iff.1 h1 r hr
  have := covers_iff.1 h2 r hr
  rw [join_get hx hy]
  omega
theorem ofV_rep {ys : List Int} (h : ys.length ≤ 16) : ofV ys = ys ++ List.replicate (16 - (ys.length : Int)).toNat 0 := by
  unfold ofV zeros16
  rw [List.drop_replicate, show (16 - (ys.length : Int)).toNat = 16 - ys.length from by omega]

set_option maxHeartbeats 1000000 in
set_option maxRecDepth 100000 in
theorem join_walk (w : World) (A B C : Option Addr) (c d e' : Nat) (xs0 ys0 zs0 : List Int) (hA : (Kd.int .i64).C w A xs0.length xs0) (hc : xs0.length ≤ c) (hB : (Kd.int .i64).C w B ys0.length ys0) (hC : (Kd.int .i64).C w C zs0.length zs0) :
    Calls Try.prog 7 #[.slice A xs0.length c, .slice B ys0.length d, .slice C zs0.length e'] w fun e w' => e = .returned (.bool true) ∧ Below w.heap.size w w' := by
  have HA := Lib.hid hA; have HBB := Lib.hid hB; have HC := Lib.hid hC; have Hc := Lib.hid hc
  clear hA hB hC hc
  go_enter Try.func7, Try.ntmps7
  go_wp2_with fail
  refine (alive_ok _).mono ?_
  rintro e w1 ⟨rfl, b1⟩
  have B1 := Lib.hid b1; clear b1
  go_wp2_with fail
  refine (of_any (Kd.C_below HA.out B1.out)).mono ?_
  rintro e w2 ⟨p, rfl, b2, y2, n2⟩
  have B2 := Lib.hid (B1.out.trans (b2.mono B1.out.size)); have Y2 := Lib.hid y2; clear b2 y2 n2
  go_wp2_with fail
  refine (of_any (Kd.C_below HBB.out B2.out)).mono ?_
  rintro e w3 ⟨q, rfl, b3, y3, n3⟩
  have B3' := Lib.hid b3; have B3 := Lib.hid (B2.out.trans (b3.mono B2.out.size)); have Y3 := Lib.hid y3; clear b3 y3 n3
  go_wp2_with fail
  refine (of_any (Kd.C_below HC.out B3.out)).mono ?_
  rintro e w4 ⟨s, rfl, b4, y4, n4⟩
  have B4' := Lib.hid b4; have B4 := Lib.hid (B3.out.trans (b4.mono B3.out.size)); have Y4 := Lib.hid y4; clear b4 y4 n4
  cases ha : ofOk xs0 with
  | false =>
    clear ha
    go_wp2_with fail
    go_ret
    exact ⟨rfl, B4.out⟩
  | true =>
    cases hb : ofOk ys0 with
    | false =>
      clear ha hb
      go_wp2_with fail
      go_ret
      exact ⟨rfl, B4.out⟩
    | true =>
      cases hz : ofOk zs0 with
      | false =>
        clear ha hb hz
        go_wp2_with fail
        go_ret
        exact ⟨rfl, B4.out⟩
      | true =>
        have hl16 := (ofOk_small ha).1
        have ofx := ofV_rep hl16
        obtain ⟨bx, rfl, vx, lx⟩ := Y2.out ha
        obtain ⟨by', rfl, vy, ly⟩ := Y3.out hb
        obtain ⟨bz, rfl, vz, lz⟩ := Y4.out hz
        have vx := (vx.below B3'.out vx.lt)
        have vy := (vy.below B4'.out vy.lt)
        have vx := (vx.below B4'.out vx.lt)
        have hbx : bx < w4.heap.size := vx.lt
        have hby : by' < w4.heap.size := vy.lt
        have hbz : bz < w4.heap.size := vz.lt
        obtain ⟨xs, exs⟩ : ∃ xs, xs = ofV xs0 := ⟨_, rfl⟩
        obtain ⟨ys, eys⟩ : ∃ ys, ys = ofV ys0 := ⟨_, rfl⟩
        obtain ⟨zs, ezs⟩ : ∃ zs, zs = ofV zs0 := ⟨_, rfl⟩
        rw [← exs] at vx ofx
        rw [← eys] at vy
        rw [← ezs] at vz
        have LL := Lib.hid (And.intro hbx (And.intro hby hbz))
        have VX := Lib.hid vx; have VY := Lib.hid vy; have VZ := Lib.hid vz; have OFX := Lib.hid ofx; have HL := Lib.hid hl16
        clear ha hb hz Y2 Y3 Y4 vx vy vz lx ly lz exs eys ezs ofx hl16 hbx hby hbz B3' B4' B1 B2 B3
        go_wp2_with fail
        refine (clone_ok VX.out).mono ?_
        rintro e w5 ⟨bp, rfl, vp, lp, b5⟩
        have VP := Lib.hid vp; have VX := Lib.hid (VX.out.below b5 VX.out.lt); have VY := Lib.hid (VY.out.below b5 VY.out.lt); have VZ := Lib.hid (VZ.out.below b5 VZ.out.lt); have B5 := Lib.hid (B4.out.trans (b5.mono B4.out.size)); have LP := Lib.hid lp; have S5 := Lib.hid b5.size
        clear vp b5 lp
        go_wp2_with fail
        refine (clone_ok VY.out).mono ?_
        rintro e w6 ⟨bq, rfl, vq, lq, b6⟩
        have LPQ := Lib.hid (Nat.lt_of_lt_of_le VP.out.lt lq)
        have VQ := Lib.hid vq; have VP := Lib.hid (VP.out.below b6 VP.out.lt); have VX := Lib.hid (VX.out.below b6 VX.out.lt); have VY := Lib.hid (VY.out.below b6 VY.out.lt); have VZ := Lib.hid (VZ.out.below b6 VZ.out.lt); have B6 := Lib.hid (B5.out.trans (b6.mono B5.out.size))
        clear vq b6 lq
        go_wp2_with fail
        refine (join_ok VP.out VY.out).mono ?_
        rintro e w7 ⟨rfl, vp, k7⟩
        have VP := Lib.hid vp
        have VQ := Lib.hid (VQ.out.kept k7 (fun h => by have := LPQ.out; omega)); have VX := Lib.hid (VX.out.kept k7 (fun h => by have := LL.out; have := LP.out; omega)); have VY := Lib.hid (VY.out.kept k7 (fun h => by have := LL.out; have := LP.out; omega)); have VZ := Lib.hid (VZ.out.kept k7 (fun h => by have := LL.out; have := LP.out; omega))
        have B7 := Lib.hid (B6.out.trans (k7.below (fun i hi h => by have := LP.out; have := B4.out.size; omega) B6.out.size))
        clear vp k7
        go_wp2_with fail
        refine (join_ok VQ.out VX.out).mono ?_
        rintro e w8 ⟨rfl, vq, k8⟩
        rw [join_comm xs ys] at vq
        have VQ := Lib.hid vq
        have VP := Lib.hid (VP.out.kept k8 (fun h => by have := LPQ.out; omega)); have VX := Lib.hid (VX.out.kept k8 (fun h => by have := LL.out; have := LP.out; have := LPQ.out; omega)); have VY := Lib.hid (VY.out.kept k8 (fun h => by have := LL.out; have := LP.out; have := LPQ.out; omega)); have VZ := Lib.hid (VZ.out.kept k8 (fun h => by have := LL.out; have := LP.out; have := LPQ.out; omega))
        have B8 := Lib.hid (B7.out.trans (k8.below (fun i hi h => by have := LP.out; have := LPQ.out; have := B4.out.size; omega) B7.out.size))
        have CL := Lib.hid (join_left VX.out.six VY.out.six); have CR := Lib.hid (join_right VX.out.six VY.out.six); have CM := Lib.hid (fun zs h1 h2 => join_least (zs := zs) VX.out.six VY.out.six h1 h2)
        obtain ⟨js, ejs⟩ : ∃ js, js = joinV xs ys := ⟨_, rfl⟩
        rw [← ejs] at VQ VP CL CR CM
        clear vq k8 ejs LPQ LP
        go_wp2_with fail
        refine (covers_ok VP.out VX.out).mono ?_
        rw [CL.out]
        rintro e w9 ⟨rfl, b9⟩
        have VQ := Lib.hid (VQ.out.below b9 VQ.out.lt); have VP := Lib.hid (VP.out.below b9 VP.out.lt); have VX := Lib.hid (VX.out.below b9 VX.out.lt); have VY := Lib.hid (VY.out.below b9 VY.out.lt); have VZ := Lib.hid (VZ.out.below b9 VZ.out.lt); have B9 := Lib.hid (B8.out.trans (b9.mono B8.out.size))
        clear b9
        go_wp2_with fail
        refine (covers_ok VP.out VY.out).mono ?_
        rw [CR.out]
        rintro e w10 ⟨rfl, b10⟩
        have VQ := Lib.hid (VQ.out.below b10 VQ.out.lt); have VP := Lib.hid (VP.out.below b10 VP.out.lt); have VX := Lib.hid (VX.out.below b10 VX.out.lt); have VY := Lib.hid (VY.out.below b10 VY.out.lt); have VZ := Lib.hid (VZ.out.below b10 VZ.out.lt); have B10 := Lib.hid (B9.out.trans (b10.mono B9.out.size))
        clear b10
        go_wp2_with fail
        refine (have_ok VP.out).mono ?_
        rintro e w11 ⟨v11, rfl, r11, b11⟩
        obtain ⟨A11, c11, ev⟩ := Kd.R_slice r11
        subst ev
        have R11 := Lib.hid r11; have VQ := Lib.hid (VQ.out.below b11 VQ.out.lt); have VP := Lib.hid (VP.out.below b11 VP.out.lt); have VX := Lib.hid (VX.out.below b11 VX.out.lt); have VY := Lib.hid (VY.out.below b11 VY.out.lt); have VZ := Lib.hid (VZ.out.below b11 VZ.out.lt); have B11 := Lib.hid (B10.out.trans (b11.mono B10.out.size))
        clear b11 r11
        go_wp2_with fail
        refine (have_ok VQ.out).mono ?_
        rintro e w12 ⟨v12, rfl, r12, b12⟩
        obtain ⟨A12, c12, ev⟩ := Kd.R_slice r12
        subst ev
        have R12 := Lib.hid r12; have R11 := Lib.hid (Kd.R_below R11.out b12); have VQ := Lib.hid (VQ.out.below b12 VQ.out.lt); have VP := Lib.hid (VP.out.below b12 VP.out.lt); have VX := Lib.hid (VX.out.below b12 VX.out.lt); have VY := Lib.hid (VY.out.below b12 VY.out.lt); have VZ := Lib.hid (VZ.out.below b12 VZ.out.lt); have B12 := Lib.hid (B11.out.trans (b12.mono B11.out.size))
        clear b12 r12
        go_wp2_with fail
        refine (same_ok (Kd.R_reads' R11.out).2.2 (Kd.R_reads' R11.out).2.1 (Kd.R_reads' R12.out).2.2 (Kd.R_reads' R12.out).2.1 (by rw [VP.out.six.len]; omega)).mono ?_
        rintro e w13 ⟨rfl, k13, ew13⟩
        have k13' : Keep (fun _ => False) w12 w13 := ew13 ▸ Keep.drewN _ _ _
        have VQ := Lib.hid (VQ.out.kept k13' (fun h => h)); have VP := Lib.hid (VP.out.kept k13' (fun h => h)); have VX := Lib.hid (VX.out.kept k13' (fun h => h)); have VY := Lib.hid (VY.out.kept k13' (fun h => h)); have VZ := Lib.hid (VZ.out.kept k13' (fun h => h)); have B13 := Lib.hid (B12.out.trans (k13'.below (fun _ _ h => h) B12.out.size))
        clear ew13 k13' R11 R12
        go_wp2_with fail
        refine (have_ok VX.out).mono ?_
        rintro e w14 ⟨v14, rfl, r14, b14⟩
        obtain ⟨A14, c14, ev⟩ := Kd.R_slice r14
        subst ev
        have R14 := Lib.hid r14; have VQ := Lib.hid (VQ.out.below b14 VQ.out.lt); have VP := Lib.hid (VP.out.below b14 VP.out.lt); have VX := Lib.hid (VX.out.below b14 VX.out.lt); have VY := Lib.hid (VY.out.below b14 VY.out.lt); have VZ := Lib.hid (VZ.out.below b14 VZ.out.lt); have B14 := Lib.hid (B13.out.trans (b14.mono B13.out.size))
        clear b14 r14
        go_wp2_with fail
        refine (offshootref00_CopyInts.calls A c xs0 xs0 w14 (Kd.C_below HA.out B14.out) Hc.out (copy_f _ HL.out)).mono ?_
        rintro e w15 ⟨v15, rfl, r15, b15⟩
        obtain ⟨v16, w16, hrun, r16, g16, _⟩ := Kd.R_zeros_run (P := Try.prog) (Kd.int .i64) w14.heap.size 22 3 22 3 (.int .i64 0) 8 Try.underlying22 Try.underlying3 info3 rfl (by decide) (by decide) v15 xs0 (0 : Int) (ok := fun _ => True) rfl (fun _ _ => trivial) r15 .i64 (16 - (xs0.length : Int)) (by have := HL.out; omega) (by have := HL.out; omega) b15.size
        rw [← OFX.out] at r16
        have hl16 := HL.out
        have b16 : Below w14.heap.size w14 w16 := b15.grown g16 b15.size (Kd.R_base r15)
        obtain ⟨A15, c15, ev⟩ := Kd.R_slice r15
        subst ev
        obtain ⟨A16, c16, ev⟩ := Kd.R_slice r16
        subst ev
        have R16 := Lib.hid r16; have R14 := Lib.hid (Kd.R_below R14.out b16); have VQ := Lib.hid (VQ.out.below b16 VQ.out.lt); have VP := Lib.hid (VP.out.below b16 VP.out.lt); have VX := Lib.hid (VX.out.below b16 VX.out.lt); have VY := Lib.hid (VY.out.below b16 VY.out.lt); have VZ := Lib.hid (VZ.out.below b16 VZ.out.lt); have B16 := Lib.hid (B14.out.trans (b16.mono B14.out.size))
        clear r15 r16 g16 b15 b16
        have HR := Lib.hid hrun
        clear hrun
        go_wp2_with ((with_reducible refine gate_dst (N := 96) rfl ?_); go_loud (refine wpList_append (by rfl) (.tmp 92) (.tmp 95) 22 3 rfl rfl rfl HR.out ?_))
        refine (same_ok (Kd.R_reads' R14.out).2.2 (Kd.R_reads' R14.out).2.1 (Kd.R_reads' R16.out).2.2 (Kd.R_reads' R16.out).2.1 (by rw [VX.out.six.len]; omega)).mono ?_
        rintro e w17 ⟨rfl, k17, ew17⟩
        have k17' : Keep (fun _ => False) w16 w17 := ew17 ▸ Keep.drewN _ _ _
        have VP := Lib.hid (VP.out.kept k17' (fun h => h)); have VX := Lib.hid (VX.out.kept k17' (fun h => h)); have VY := Lib.hid (VY.out.kept k17' (fun h => h)); have VZ := Lib.hid (VZ.out.kept k17' (fun h => h)); have B17 := Lib.hid (B16.out.trans (k17'.below (fun _ _ h => h) B16.out.size))
        clear ew17 k17' R14 R16 HR
        go_wp2_with fail
        refine (covers_ok VZ.out VX.out).mono ?_
        rintro e w18 ⟨rfl, b18⟩
        have VP := Lib.hid (VP.out.below b18 VP.out.lt); have VY := Lib.hid (VY.out.below b18 VY.out.lt); have VZ := Lib.hid (VZ.out.below b18 VZ.out.lt); have B18 := Lib.hid (B17.out.trans (b18.mono B17.out.size))
        clear b18
        cases h1 : coversB zs xs with
        | false =>
          clear h1
          go_wp2_with fail
          go_ret
          exact ⟨rfl, B18.out⟩
        | true =>
          have H1 := Lib.hid h1
          clear h1
          go_wp2_with fail
          refine (covers_ok VZ.out VY.out).mono ?_
          rintro e w19 ⟨rfl, b19⟩
          have VP := Lib.hid (VP.out.below b19 VP.out.lt); have VZ := Lib.hid (VZ.out.below b19 VZ.out.lt); have B19 := Lib.hid (B18.out.trans (b19.mono B18.out.size))
          clear b19
          cases h2 : coversB zs ys with
          | false =>
            clear h2
            go_wp2_with fail
            go_ret
            exact ⟨rfl, B19.out⟩
          | true =>
            have h3 := CM.out zs H1.out h2
            have H3 := Lib.hid h3
            clear h2 h3
            go_wp2_with fail
            refine (covers_ok VZ.out VP.out).mono ?_
            rw [H3.out]
            rintro e w20 ⟨rfl, b20⟩
            have B20 := Lib.hid (B19.out.trans (b20.mono B19.out.size))
            clear b20
            go_wp2_with fail
            go_ret
            exact ⟨rfl, B20.out⟩
theorem join_row (w : World) (A : Option Addr) (c : Nat) (xs : List Int) (hC : (Kd.int .i64).C w A xs.length xs) (hc : xs.length ≤ c) (ok : OkInts xs) (B : Option Addr) (d : Nat) (ys : List Int) (hD : (Kd.int .i64).C w B ys.length ys) (hd : ys.length ≤ d) (ok' : OkInts ys)
    (C : Option Addr) (e : Nat) (zs : List Int) (hE : (Kd.int .i64).C w C zs.length zs) (he : zs.length ≤ e) (ok'' : OkInts zs) :
    Calls Try.prog 7 #[.slice A xs.length c, .slice B ys.length d, .slice C zs.length e] w fun e w' => e = .returned (.bool true) ∧ Below w.heap.size w w' := join_walk w A B C c d e xs ys zs hC hc hD hE
end Go.Proofs.Ytbnblddgnhdneaa.Vec
