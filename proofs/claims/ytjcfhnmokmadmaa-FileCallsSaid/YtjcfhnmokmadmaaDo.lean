/- A call on a file, as the statements make it: do, in a few words of Lean. -/
import Derived.Test.YtjcfhnmokmadmaaAlive
namespace Go.Proofs.Ytjcfhnmokmadmaa.File
open Go.RowKit Go.Proofs.YtjcfhnmokmadmaaW.PrintWords Go.Proofs.YtjcfhnmokmadmaaW.PrintLast Go.Proofs.YtjcfhnmokmadmaaW.PrintMore Go.Proofs.Ytjcfhnmokmadmaa.Mem
attribute [local go_sem] max2_int min2_int max_two min_two
set_option linter.unusedVariables false
set_option linter.unusedSimpArgs false

/-- How many bytes a crash leaves. -/
def left (l : Nat) (sy keep : Int) : Nat := (sy + min (max keep 0) (l - sy)).toNat
/-- A call's answer, and the file behind it. -/
def doE (what n : Int) (data : List Int) (ds : List Int) (lim : Int) : Int :=
  if what = 0 then (if lim - ds.length < data.length then 14 else 0)
  else if what = 2 then (if lim < data.length then 14 else 0)
  else if what = 3 then (if n < 0 ∨ (ds.length : Int) < n then 11 else 0)
  else 0
def doD (what n : Int) (data : List Int) (ds : List Int) (sy lim : Int) : List Int × Int :=
  if what = 0 then (if lim - ds.length < data.length then (ds, sy) else (ds ++ data, sy))
  else if what = 1 then (ds, ds.length)
  else if what = 2 then (if lim < data.length then (ds, sy) else (data, data.length))
  else if what = 3 then (if n < 0 ∨ (ds.length : Int) < n then (ds, sy) else (ds.take n.toNat, min sy n))
  else if what = 4 then (ds.take (left ds.length sy n), left ds.length sy n)
  else (ds, sy)
set_option maxHeartbeats 1000000 in
theorem do_ok {w : World} {F : Nat → Prop} {b : Nat} {ds : List Int} {sy lim : Int} (hf : FileAt w F b ds sy lim) (what n : Int) (A : Option Addr) (c : Nat) (data : List Int) (hy : Byte data) (hC : (Kd.int .u8).C w A data.length data) :
    Calls Try.prog 18 #[.pointer (some ⟨b, 0, none⟩), .agg #[.int .i64 what, .int .i64 n, .slice A data.length c]] w fun e w' => e = .returned (.int .i64 (doE what n data ds lim)) ∧ FileAt w' (fun k => F k ∨ w.heap.size ≤ k) b (doD what n data ds sy lim).1 (doD what n data ds sy lim).2 lim ∧ Keep F w w' := by
  obtain ⟨w0, ew⟩ : ∃ w0, w0 = w.alloc (.cells #[.int .i64 what, .int .i64 n, .slice A data.length c] 41) := ⟨_, rfl⟩
  have ba : Below w.heap.size w w0 := by rw [ew]; exact below_alloc (Below.refl _ _) _
  have hf1 := hf.kept (G := fun _ => False) (Keep.of_below ba (fun i h1 h2 => by omega)) (fun _ _ _ h => h)
  have hC1 := Kd.C_below hC ba
  have hs : w0.heap.size = w.heap.size + 1 := by rw [ew]; simp
  have fin : ∀ w1 ds' sy', FileAt w1 (fun k => F k ∨ w0.heap.size ≤ k) b ds' sy' lim → Keep F w0 w1 → FileAt w1 (fun k => F k ∨ w.heap.size ≤ k) b ds' sy' lim ∧ Keep F w w1 := fun w1 ds' sy' h1 h2 =>
    ⟨h1.mono (fun k h _ => h.elim .inl (fun h => .inr (by omega))), (Keep.of_below (F := F) ba (fun i h1 h2 => by omega)).trans h2 (fun _ _ h => h)⟩
  have fin' : ∀ w1 ds' sy', FileAt w1 F b ds' sy' lim → Keep F w0 w1 → FileAt w1 (fun k => F k ∨ w.heap.size ≤ k) b ds' sy' lim ∧ Keep F w w1 := fun w1 ds' sy' h1 h2 => fin w1 ds' sy' (h1.mono (fun _ h _ => .inl h)) h2
  have same : ∀ w1, (∃ k, w1 = w0.drewN k) → FileAt w1 (fun k => F k ∨ w.heap.size ≤ k) b ds sy lim ∧ Keep F w w1 := fun w1 h => by
    obtain ⟨k, rfl⟩ := h
    exact fin' _ _ _ (hf1.kept (G := fun _ => False) (Keep.drewN _ _ _) (fun _ _ _ h => h)) (Keep.drewN _ _ _)
  have c0 : w0.cell? ⟨w.heap.size, 0, none⟩ = some (.int .i64 what) := by rw [ew]; go_simp
  have c1 : w0.cell? ⟨w.heap.size, 1, none⟩ = some (.int .i64 n) := by rw [ew]; go_simp
  have c2 : w0.cell? ⟨w.heap.size, 2, none⟩ = some (.slice A data.length c) := by rw [ew]; go_simp
  have HY := Lib.hid hy; have HF1 := Lib.hid hf1; have HC1 := Lib.hid hC1; have FIN := Lib.hid fin; have FIN' := Lib.hid fin'; have SAME := Lib.hid same
  clear hf hy hC ba hf1 hC1 fin fin' same hs
  unfold doE doD
  by_cases h0 : what = 0
  · subst h0
    simp only [if_true]
    by_cases c0 : lim - ds.length < data.length
    · rw [if_pos c0, if_pos c0]
      have C0 := Lib.hid c0
      clear c0
      go_enter Try.func18, Try.ntmps18
      go_wp2_with fail
      simp only [← ew]
      go_wp2_with fail
      refine (append_full HF1.out A _ c C0.out).mono ?_
      rintro e w1 ⟨rfl, hk⟩
      have HK := Lib.hid hk; clear hk
      go_wp2_with fail
      go_ret
      exact ⟨rfl, SAME.out _ HK.out⟩
    · rw [if_neg c0, if_neg c0]
      have C0 := Lib.hid c0
      clear c0
      go_enter Try.func18, Try.ntmps18
      go_wp2_with fail
      simp only [← ew]
      go_wp2_with fail
      refine (append_ok HF1.out A _ c data HY.out HC1.out (by have := C0.out; omega)).mono ?_
      rintro e w1 ⟨rfl, f1, k1⟩
      have F1 := Lib.hid f1; have K1 := Lib.hid k1; clear f1 k1
      go_wp2_with fail
      go_ret
      exact ⟨rfl, FIN.out _ _ _ F1.out K1.out⟩
  · have g0 : (what == 0) = false := by simpa using h0
    rw [if_neg h0, if_neg h0]
    by_cases h1 : what = 1
    · subst h1
      rw [if_neg (by omega), if_neg (by omega), if_pos rfl]
      go_enter Try.func18, Try.ntmps18
      go_wp2_with fail
      simp only [← ew]
      go_wp2_with fail
      refine (sync_ok HF1.out).mono ?_
      rintro e w1 ⟨rfl, f1, k1⟩
      have F1 := Lib.hid f1; have K1 := Lib.hid k1; clear f1 k1
      go_wp2_with fail
      go_ret
      exact ⟨rfl, FIN'.out _ _ _ F1.out K1.out⟩
    · have g1 : (what == 1) = false := by simpa using h1
      rw [if_neg h1]
      by_cases h2 : what = 2
      · subst h2
        simp only [if_true]
        by_cases c0 : lim < data.length
        · rw [if_pos c0, if_pos c0]
          have C0 := Lib.hid c0
          clear c0
          go_enter Try.func18, Try.ntmps18
          go_wp2_with fail
          simp only [← ew]
          go_wp2_with fail
          refine (replace_full HF1.out A _ c C0.out).mono ?_
          rintro e w1 ⟨rfl, e1⟩
          have E1 := Lib.hid e1; clear e1
          go_wp2_with fail
          go_ret
          exact ⟨rfl, SAME.out _ ⟨0, E1.out⟩⟩
        · rw [if_neg c0, if_neg c0]
          have C0 := Lib.hid c0
          clear c0
          go_enter Try.func18, Try.ntmps18
          go_wp2_with fail
          simp only [← ew]
          go_wp2_with fail
          refine (replace_ok HF1.out A _ c data HY.out HC1.out (by have := C0.out; omega)).mono ?_
          rintro e w1 ⟨rfl, f1, k1⟩
          have F1 := Lib.hid f1; have K1 := Lib.hid k1; clear f1 k1
          go_wp2_with fail
          go_ret
          exact ⟨rfl, FIN.out _ _ _ F1.out K1.out⟩
      · have g2 : (what == 2) = false := by simpa using h2
        rw [if_neg h2, if_neg h2]
        by_cases h3 : what = 3
        · subst h3
          simp only [if_true]
          by_cases c0 : n < 0 ∨ (ds.length : Int) < n
          · rw [if_pos c0, if_pos c0]
            have C0 := Lib.hid c0
            clear c0
            go_enter Try.func18, Try.ntmps18
            go_wp2_with fail
            simp only [← ew]
            go_wp2_with fail
            refine (trim_bad HF1.out n C0.out).mono ?_
            rintro e w1 ⟨rfl, hk⟩
            have HK := Lib.hid hk; clear hk
            go_wp2_with fail
            go_ret
            exact ⟨rfl, SAME.out _ HK.out⟩
          · rw [if_neg c0, if_neg c0]
            obtain ⟨m, rfl⟩ := Int.eq_ofNat_of_zero_le (by omega : 0 ≤ n)
            have C0 := Lib.hid (by omega : m ≤ ds.length)
            clear c0
            rw [Int.toNat_natCast]
            go_enter Try.func18, Try.ntmps18
            go_wp2_with fail
            simp only [← ew]
            go_wp2_with fail
            refine (trim_ok HF1.out m C0.out).mono ?_
            rintro e w1 ⟨rfl, f1, k1⟩
            have F1 := Lib.hid f1; have K1 := Lib.hid k1; clear f1 k1
            go_wp2_with fail
            go_ret
            exact ⟨rfl, FIN'.out _ _ _ F1.out K1.out⟩
        · have g3 : (what == 3) = false := by simpa using h3
          rw [if_neg h3, if_neg h3]
          by_cases h4 : what = 4
          · subst h4
            rw [if_pos rfl]
            go_enter Try.func18, Try.ntmps18
            go_wp2_with fail
            simp only [← ew]
            go_wp2_with fail
            refine (crash_ok HF1.out n).mono ?_
            rintro e w1 ⟨rfl, m, em, f1, k1⟩
            have el : left ds.length sy n = m := by unfold left; omega
            have F1 := Lib.hid f1; have K1 := Lib.hid k1; have EL := Lib.hid el; clear f1 k1 em el
            go_wp2_with fail
            go_ret
            rw [EL.out]
            exact ⟨rfl, FIN'.out _ _ _ F1.out K1.out⟩
          · have g4 : (what == 4) = false := by simpa using h4
            rw [if_neg h4]
            go_enter Try.func18, Try.ntmps18
            go_wp2_with fail
            simp only [← ew]
            go_wp2_with fail
            go_ret
            exact ⟨rfl, SAME.out _ ⟨0, rfl⟩⟩
end Go.Proofs.Ytjcfhnmokmadmaa.File
