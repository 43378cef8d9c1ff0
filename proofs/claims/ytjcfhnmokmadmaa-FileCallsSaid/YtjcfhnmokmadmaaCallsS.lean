/- FileCalls: both files and the call's own copy, side by side, through a round. -/
import Derived.Test.YtjcfhnmokmadmaaCallsW
namespace Go.Proofs.Ytjcfhnmokmadmaa.Crash
set_option linter.unusedVariables false
set_option linter.unusedSimpArgs false
set_option linter.unnecessarySimpa false
open Go.RowKit Go.Proofs.YtjcfhnmokmadmaaW.PrintWords Go.Proofs.YtjcfhnmokmadmaaW.PrintLast Go.Proofs.YtjcfhnmokmadmaaW.PrintMore Go.Proofs.Ytjcfhnmokmadmaa.Mem Go.Proofs.Ytjcfhnmokmadmaa.File Go.Proofs.Ytjcfhnmokmadmaa.PFileCalls

/-- Both files, and beside them a call and its own copy. -/
structure St (w W : World) (b b' : Nat) (ds : List Int) (sy : Int) (s l : List Int) (room : Int) (lo hi cb g : Nat) (pw pn : Int) (A0 : Option Addr) (n0 c0 : Nat) (A1 : Option Addr) (c1 : Nat) (qd : List Int) : Prop where
  two : Two w W b b' ds sy s l room (fun k => lo ≤ k ∧ k < hi)
  atc : W.heap[cb]? = some (.cells #[.int .i64 pw, .int .i64 pn, .slice A0 n0 c0] 41 (0, 0))
  atg : W.heap[g]? = some (.cells #[.int .i64 pw, .int .i64 pn, .slice A1 qd.length c1] 41 (0, 0))
  row : (Kd.int .u8).R 5 W 0 (fun k => lo ≤ k ∧ k < hi ∧ k ≠ cb ∧ k ≠ g) (.slice A1 qd.length c1) qd
  oc : lo ≤ cb ∧ cb < hi
  og : lo ≤ g ∧ g < hi
section
variable {w W W' : World} {b b' : Nat} {ds ds' : List Int} {sy sy' : Int} {s l s' l' : List Int} {room : Int} {lo hi cb g : Nat} {pw pn : Int} {A0 : Option Addr} {n0 c0 : Nat} {A1 : Option Addr} {c1 : Nat} {qd : List Int}
theorem St.step (h : St w W b b' ds sy s l room lo hi cb g pw pn A0 n0 c0 A1 c1 qd) {F : Nat → Prop} (hk : Keep F W W') (hF : ∀ k, F k → ¬ (lo ≤ k ∧ k < hi)) (two : Two w W' b b' ds' sy' s' l' room (fun k => lo ≤ k ∧ k < hi)) :
    St w W' b b' ds' sy' s' l' room lo hi cb g pw pn A0 n0 c0 A1 c1 qd :=
  ⟨two, hk.at_ h.atc (fun h' => hF _ h' h.oc), hk.at_ h.atg (fun h' => hF _ h' h.og), R_kept h.row hk (fun k ho _ h' => hF k h' ⟨ho.1, ho.2.1⟩), h.oc, h.og⟩
theorem St.below (h : St w W b b' ds sy s l room lo hi cb g pw pn A0 n0 c0 A1 c1 qd) (hB : Below W.heap.size W W') : St w W' b b' ds sy s l room lo hi cb g pw pn A0 n0 c0 A1 c1 qd := by
  have hk : Keep (fun _ => False) W W' := Keep.of_below hB (fun i h1 h2 => by omega)
  exact h.step hk (fun _ h _ => h) (h.two.kept (hk.mono (fun _ _ h => h.elim)))
theorem St.bel (h : St w W b b' ds sy s l room lo hi cb g pw pn A0 n0 c0 A1 c1 qd) : Below w.heap.size w W := by
  obtain ⟨_, _, _, _, _, _, h, _⟩ := h.two; exact h
theorem St.free (h : St w W b b' ds sy s l room lo hi cb g pw pn A0 n0 c0 A1 c1 qd) : Two w W b b' ds sy s l room (fun _ => False) := h.two.free (fun _ h => h)
theorem St.file (h : St w W b b' ds sy s l room lo hi cb g pw pn A0 n0 c0 A1 c1 qd) : ∃ F, FileAt W F b ds sy room := by
  obtain ⟨F1, _, h, _⟩ := h.two; exact ⟨F1, h⟩
theorem St.ref (h : St w W b b' ds sy s l room lo hi cb g pw pn A0 n0 c0 A1 c1 qd) : ∃ F, RefAt W F b' s l room := by
  obtain ⟨_, F2, _, h, _⟩ := h.two; exact ⟨F2, h⟩
theorem st_do (h : St w W b b' ds sy s l room lo hi cb g pw pn A0 n0 c0 A1 c1 qd) (hy : Byte qd) :
    Calls Try.prog 18 #[.pointer (some ⟨b, 0, none⟩), .agg #[.int .i64 pw, .int .i64 pn, .slice A1 qd.length c1]] W fun e W' => e = .returned (.int .i64 (doE pw pn qd ds room)) ∧ St w W' b b' (doD pw pn qd ds sy room).1 (doD pw pn qd ds sy room).2 s l room lo hi cb g pw pn A0 n0 c0 A1 c1 qd := by
  obtain ⟨F1, F2, hf, hr, h1, h2, hB, hO⟩ := h.two
  refine (do_ok hf pw pn A1 c1 qd hy (Kd.R_reads' h.row).2.2).mono ?_
  rintro e W' ⟨rfl, f, k⟩
  exact ⟨rfl, h.step k (fun k h' => (h1 k h').2.2.2) (Two.file hr h1 h2 hB hO f k)⟩
theorem st_ref (h : St w W b b' ds sy s l room lo hi cb g pw pn A0 n0 c0 A1 c1 qd) {F2 : Nat → Prop} {W' : World} {F1 : Nat → Prop} (hf : FileAt W F1 b ds sy room) (h1 : ∀ k, F1 k → w.heap.size ≤ k ∧ k < W.heap.size ∧ ¬ F2 k ∧ ¬ (lo ≤ k ∧ k < hi)) (h2 : ∀ k, F2 k → w.heap.size ≤ k ∧ k < W.heap.size ∧ ¬ (lo ≤ k ∧ k < hi)) (hB : Below w.heap.size w W) (hO : ∀ k, (lo ≤ k ∧ k < hi) → w.heap.size ≤ k ∧ k < W.heap.size)
    (hr : RefAt W' (fun k => F2 k ∨ W.heap.size ≤ k) b' s' l' room) (hk : Keep F2 W W') : St w W' b b' ds sy s' l' room lo hi cb g pw pn A0 n0 c0 A1 c1 qd :=
  h.step hk (fun k h' => (h2 k h').2.2) (Two.ref hf h1 h2 hB hO hr hk)
theorem st_append (h : St w W b b' ds sy s l room lo hi cb g 0 pn A0 n0 c0 A1 c1 qd) (A : Option Addr) (c : Nat) (hC : (Kd.int .u8).C W A qd.length qd) :
    Calls Try.prog 19 #[.pointer (some ⟨b', 0, none⟩), .slice A qd.length c] W fun e W' => e = .returned (.int .i64 (doE 0 pn qd (s ++ l) room)) ∧ St w W' b b' ds sy (doS 0 pn qd s l room).1 (doS 0 pn qd s l room).2 room lo hi cb g 0 pn A0 n0 c0 A1 c1 qd := by
  obtain ⟨F1, F2, hf, hr, h1, h2, hB, hO⟩ := h.two
  refine (refappend_any hr pn A c qd hC).mono ?_
  rintro e W' ⟨rfl, f, k⟩
  exact ⟨rfl, st_ref h hf h1 h2 hB hO f k⟩
theorem st_sync (h : St w W b b' ds sy s l room lo hi cb g 1 pn A0 n0 c0 A1 c1 qd) :
    Calls Try.prog 20 #[.pointer (some ⟨b', 0, none⟩)] W fun e W' => e = .returned (.tuple #[]) ∧ St w W' b b' ds sy (doS 1 pn qd s l room).1 (doS 1 pn qd s l room).2 room lo hi cb g 1 pn A0 n0 c0 A1 c1 qd := by
  obtain ⟨F1, F2, hf, hr, h1, h2, hB, hO⟩ := h.two
  refine (refsync_any hr pn qd).mono ?_
  rintro e W' ⟨rfl, f, k⟩
  exact ⟨rfl, st_ref h hf h1 h2 hB hO f k⟩
theorem st_replace (h : St w W b b' ds sy s l room lo hi cb g 2 pn A0 n0 c0 A1 c1 qd) (A : Option Addr) (c : Nat) (hC : (Kd.int .u8).C W A qd.length qd) (hc : qd.length ≤ c) :
    Calls Try.prog 21 #[.pointer (some ⟨b', 0, none⟩), .slice A qd.length c] W fun e W' => e = .returned (.int .i64 (doE 2 pn qd (s ++ l) room)) ∧ St w W' b b' ds sy (doS 2 pn qd s l room).1 (doS 2 pn qd s l room).2 room lo hi cb g 2 pn A0 n0 c0 A1 c1 qd := by
  obtain ⟨F1, F2, hf, hr, h1, h2, hB, hO⟩ := h.two
  refine (refreplace_any hr pn A c qd hC hc).mono ?_
  rintro e W' ⟨rfl, f, k⟩
  exact ⟨rfl, st_ref h hf h1 h2 hB hO f k⟩
theorem st_trim (h : St w W b b' ds sy s l room lo hi cb g 3 pn A0 n0 c0 A1 c1 qd) :
    Calls Try.prog 22 #[.pointer (some ⟨b', 0, none⟩), .int .i64 pn] W fun e W' => e = .returned (.int .i64 (doE 3 pn qd (s ++ l) room)) ∧ St w W' b b' ds sy (doS 3 pn qd s l room).1 (doS 3 pn qd s l room).2 room lo hi cb g 3 pn A0 n0 c0 A1 c1 qd := by
  obtain ⟨F1, F2, hf, hr, h1, h2, hB, hO⟩ := h.two
  refine (reftrim_any hr pn qd).mono ?_
  rintro e W' ⟨rfl, f, k⟩
  exact ⟨rfl, st_ref h hf h1 h2 hB hO f k⟩
theorem st_crash (h : St w W b b' ds sy s l room lo hi cb g 4 pn A0 n0 c0 A1 c1 qd) :
    Calls Try.prog 23 #[.pointer (some ⟨b', 0, none⟩), .int .i64 pn] W fun e W' => e = .returned (.tuple #[]) ∧ St w W' b b' ds sy (doS 4 pn qd s l room).1 (doS 4 pn qd s l room).2 room lo hi cb g 4 pn A0 n0 c0 A1 c1 qd := by
  obtain ⟨F1, F2, hf, hr, h1, h2, hB, hO⟩ := h.two
  refine (refcrash_any hr pn qd).mono ?_
  rintro e W' ⟨rfl, f, k⟩
  exact ⟨rfl, st_ref h hf h1 h2 hB hO f k⟩
theorem doE_none {what : Int} (h0 : what ≠ 0) (h2 : what ≠ 2) (h3 : what ≠ 3) (n : Int) (data ds : List Int) (lim : Int) : doE what n data ds lim = 0 := by
  unfold doE; rw [if_neg h0, if_neg h2, if_neg h3]
theorem doS_none {what : Int} (h0 : what ≠ 0) (h1 : what ≠ 1) (h2 : what ≠ 2) (h3 : what ≠ 3) (h4 : what ≠ 4) (n : Int) (data s l : List Int) (lim : Int) : doS what n data s l lim = (s, l) := by
  unfold doS; rw [if_neg h0, if_neg h1, if_neg h2, if_neg h3, if_neg h4]
/-- A store into the own copy. -/
theorem St.put (h : St w W b b' ds sy s l room lo hi cb g pw pn A0 n0 c0 A1 c1 qd) (i : Nat) (hi' : i < qd.length) :
    ∃ r, A1 = some ⟨r, 0, none⟩ ∧ W.cell? ⟨r, i, none⟩ = some (.int .u8 (qd.getD i 0)) ∧ W.frozen? ⟨r, i, none⟩ = false ∧ ∀ x, ∃ q', q'.length = qd.length ∧ St w (W.setCell ⟨r, i, none⟩ (.int .u8 x)) b b' ds sy s l room lo hi cb g pw pn A0 n0 c0 A1 c1 q' := by
  obtain ⟨r, cap, ev, hg, _, _, hcell, hfr⟩ := own_open h.row i hi'
  injection ev with e1 e2 e3
  subst e1
  refine ⟨r, rfl, hcell, hfr, fun x => ⟨qd.set i x, by simp, ?_⟩⟩
  have hk : Keep (fun k => k = r) W (W.setCell ⟨r, i, none⟩ (.int .u8 x)) := Keep.setCell (F := fun k => k = r) W (p := ⟨r, i, none⟩) rfl _
  refine ⟨h.two.kept (hk.mono (fun k _ h' => by subst h'; exact ⟨hg.1, hg.2.1⟩)), hk.at_ h.atc (fun h' => hg.2.2.1 h'.symm), ?_, ?_, h.oc, h.og⟩
  · rw [List.length_set]
    exact hk.at_ h.atg (fun h' => hg.2.2.2 h'.symm)
  · have := (Kd.R_putg h.row (i : Int) x).1
    rw [List.length_set]
    exact this
/-- The state behind the own copy's making. -/
theorem St.start (ht : Two w W b b' ds sy s l room (fun _ => False)) (hB : Below W.heap.size W W') (hc : W'.heap[cb]? = some (.cells #[.int .i64 pw, .int .i64 pn, .slice A0 n0 c0] 41 (0, 0))) (hg : W'.heap[g]? = some (.cells #[.int .i64 pw, .int .i64 pn, .slice A1 qd.length c1] 41 (0, 0)))
    (hr : (Kd.int .u8).R 5 W' W.heap.size (fun k => k ≠ cb ∧ k ≠ g) (.slice A1 qd.length c1) qd) (oc : W.heap.size ≤ cb) (og : W.heap.size ≤ g) : St w W' b b' ds sy s l room W.heap.size W'.heap.size cb g pw pn A0 n0 c0 A1 c1 qd :=
  ⟨ht.newer hB, hc, hg, Kd.R_lower (Kd.R_mono (Kd.R_bound hr) (fun k hk => ⟨hk.2.1, hk.2.2.1, hk.1.1, hk.1.2⟩)) (Nat.zero_le _), ⟨oc, lt_of_blk hc⟩, ⟨og, lt_of_blk hg⟩⟩
/-- The two files level with each other. -/
def StX (w W : World) (b b' : Nat) (s l : List Int) (room : Int) (lo hi cb g : Nat) (pw pn : Int) (A0 : Option Addr) (n0 c0 : Nat) (A1 : Option Addr) (c1 : Nat) (n1 : Nat) : Prop :=
  ∃ qd : List Int, n1 = qd.length ∧ St w W b b' (s ++ l) s.length s l room lo hi cb g pw pn A0 n0 c0 A1 c1 qd
/-- Behind the own copy's making: slot 11. -/
def Own (w W wr : World) (b b' : Nat) (s l : List Int) (room : Int) (pw pn : Int) (A0 : Option Addr) (c0 : Nat) (pd : List Int) (v : Value) : Prop :=
  ∃ g A1 c1, v = .pointer (some ⟨g, 0, none⟩) ∧ St w W b b' (s ++ l) s.length s l room wr.heap.size W.heap.size wr.heap.size g pw pn A0 pd.length c0 A1 c1 pd
/-- Behind the reference's call: slot 13. -/
def Both (w W : World) (b b' : Nat) (s l : List Int) (room : Int) (lo hi cb g : Nat) (pw pn : Int) (A0 : Option Addr) (c0 : Nat) (A1 : Option Addr) (c1 : Nat) (pd : List Int) (v : Value) : Prop :=
  v = .int .i64 (doE pw pn pd (s ++ l) room) ∧ ∃ s' l', St w W b b' (s' ++ l') s'.length s' l' room lo hi cb g pw pn A0 pd.length c0 A1 c1 pd
theorem Own.of (ht : Two w W b b' (s ++ l) s.length s l room (fun _ => False)) (hB : Below W.heap.size W W') (hc : W'.heap[W.heap.size]? = some (.cells #[.int .i64 pw, .int .i64 pn, .slice A0 qd.length c0] 41 (0, 0))) (hg : W'.heap[g]? = some (.cells #[.int .i64 pw, .int .i64 pn, .slice A1 qd.length c1] 41 (0, 0)))
    (hr : (Kd.int .u8).R 5 W' W.heap.size (fun k => k ≠ W.heap.size ∧ k ≠ g) (.slice A1 qd.length c1) qd) (og : W.heap.size ≤ g) : Own w W' W b b' s l room pw pn A0 c0 qd (.pointer (some ⟨g, 0, none⟩)) :=
  ⟨g, A1, c1, rfl, St.start ht hB hc hg hr (Nat.le_refl _) og⟩
theorem Both.of {A0 : Option Addr} {x : Int} (h : St w W b b' (doD pw pn qd (s ++ l) s.length room).1 (doD pw pn qd (s ++ l) s.length room).2 (doS pw pn qd s l room).1 (doS pw pn qd s l room).2 room lo hi cb g pw pn A0 qd.length c0 A1 c1 qd) (hx : x = doE pw pn qd (s ++ l) room) :
    Both w W b b' s l room lo hi cb g pw pn A0 c0 A1 c1 qd (.int .i64 x) := by
  rw [doS_doD] at h
  exact ⟨by rw [hx], _, _, h⟩
/-- In the loop that turns the own copy's bytes about: slot 14. -/
def Xor (w W : World) (b b' : Nat) (s l : List Int) (room : Int) (lo hi cb g : Nat) (pw pn : Int) (A0 : Option Addr) (n0 c0 : Nat) (A1 : Option Addr) (c1 : Nat) (v : Value) : Prop :=
  ∃ j : Nat, j ≤ n0 ∧ v = .int .i64 j ∧ ∃ qd : List Int, qd.length = n0 ∧ St w W b b' (s ++ l) s.length s l room lo hi cb g pw pn A0 n0 c0 A1 c1 qd
theorem st_bytes (h : St w W b b' ds sy s l room lo hi cb g pw pn A0 n0 c0 A1 c1 qd) :
    Calls Try.prog 13 #[.pointer (some ⟨b, 0, none⟩)] W fun e W' => ∃ A c, e = .returned (.slice A ds.length c) ∧ ds.length ≤ c ∧ (Kd.int .u8).R 5 W' W.heap.size (fun _ => True) (.slice A ds.length c) ds ∧ Below W.heap.size W W' := by
  obtain ⟨F, hf⟩ := h.file
  refine (bytes_ok hf).mono ?_
  rintro e W' ⟨v, rfl, r, bel⟩
  obtain ⟨A, c, ev⟩ := Kd.R_slice r
  subst ev
  exact ⟨A, c, rfl, (Kd.R_reads' r).2.1, r, bel⟩
theorem st_refbytes (h : St w W b b' ds sy s l room lo hi cb g pw pn A0 n0 c0 A1 c1 qd) (e0 : ds = s ++ l) :
    Calls Try.prog 24 #[.pointer (some ⟨b', 0, none⟩)] W fun e W' => ∃ A c, e = .returned (.slice A ds.length c) ∧ ds.length ≤ c ∧ (Kd.int .u8).R 5 W' W.heap.size (fun _ => True) (.slice A ds.length c) ds ∧ Below W.heap.size W W' := by
  obtain ⟨F, hf⟩ := h.ref
  refine (refbytes_ok hf).mono ?_
  rintro e W' ⟨v, rfl, r, bel⟩
  rw [← e0] at r
  obtain ⟨A, c, ev⟩ := Kd.R_slice r
  subst ev
  exact ⟨A, c, rfl, (Kd.R_reads' r).2.1, r, bel⟩
theorem st_size (h : St w W b b' ds sy s l room lo hi cb g pw pn A0 n0 c0 A1 c1 qd) :
    Calls Try.prog 14 #[.pointer (some ⟨b, 0, none⟩)] W fun e W' => e = .returned (.int .i64 ds.length) ∧ W' = W := by
  obtain ⟨F, hf⟩ := h.file
  exact size_ok hf
theorem st_synced (h : St w W b b' ds sy s l room lo hi cb g pw pn A0 n0 c0 A1 c1 qd) :
    Calls Try.prog 25 #[.pointer (some ⟨b, 0, none⟩)] W fun e W' => e = .returned (.int .i64 sy) ∧ W' = W := by
  obtain ⟨F, hf⟩ := h.file
  exact synced_ok hf
theorem st_room (h : St w W b b' ds sy s l room lo hi cb g pw pn A0 n0 c0 A1 c1 qd) :
    Calls Try.prog 26 #[.pointer (some ⟨b, 0, none⟩)] W fun e W' => e = .returned (.int .i64 (room - ds.length)) ∧ ∃ k, W' = W.drewN k := by
  obtain ⟨F, hf⟩ := h.file
  exact room_ok hf
theorem st_refroom (h : St w W b b' ds sy s l room lo hi cb g pw pn A0 n0 c0 A1 c1 qd) (e0 : ds = s ++ l) :
    Calls Try.prog 27 #[.pointer (some ⟨b', 0, none⟩)] W fun e W' => e = .returned (.int .i64 (room - ds.length)) ∧ ∃ k, W' = W.drewN k := by
  obtain ⟨F, hf⟩ := h.ref
  refine (refroom_ok hf).mono ?_
  rintro e W' ⟨rfl, h⟩
  refine ⟨?_, h⟩
  rw [show room - (s.length : Int) - (l.length : Int) = room - (ds.length : Int) from by rw [e0, List.length_append]; omega]
theorem St.len (h : St w W b b' ds sy s l room lo hi cb g pw pn A0 n0 c0 A1 c1 qd) : ds.length ≤ 1048576 := by
  obtain ⟨F, hf⟩ := h.file
  have := hf.l0; have := hf.l1; omega
theorem St.safe (h : St w W b b' ds sy s l room lo hi cb g pw pn A0 n0 c0 A1 c1 qd) : ∃ A c, W.cell? ⟨b', 0, none⟩ = some (.slice A s.length c) := by
  obtain ⟨F, hf⟩ := h.ref
  obtain ⟨A1, c1, A2, c2, hb, _⟩ := hf.mem
  have := blk_cell hb 0
  simp at this
  exact ⟨A1, c1, this⟩
theorem st_three {W : World} {cb : Nat} {v0 v1 v2 x0 x1 x2 : Value} (h : W.heap[cb]? = some (.cells #[v0, v1, v2] 41 (0, 0))) :
    (((W.setCell ⟨cb, 0, none⟩ x0).setCell ⟨cb, 1, none⟩ x1).setCell ⟨cb, 2, none⟩ x2).heap[cb]? = some (.cells #[x0, x1, x2] 41 (0, 0)) := by
  simpa using blk_set (blk_set (blk_set h 0 x0) 1 x1) 2 x2
end
end Go.Proofs.Ytjcfhnmokmadmaa.Crash
