/- Names as texts: what they are shown as, and read as; no program in sight. -/
import Derived.Test.YtiakdnoafmojlaaDoorSee
import Derived.Lib.AtoiTie
import Derived.Lib.IndexMore
import Derived.Lib.IndexBytes
namespace Go.Proofs.YtiakdnoafmojlaaDoor.Q
set_option linter.unusedVariables false
open Go.Lib (decDigits decFrom decNat atoi atoiAll digitVal)
theorem dig_byte (d : Nat) (h : d < 10) : digitVal (UInt8.ofNat (48 + d)) = some d := by
  unfold digitVal
  have e : (UInt8.ofNat (48 + d)).toNat = 48 + d := by rw [UInt8.toNat_ofNat']; omega
  rw [e, if_pos (by omega)]
  congr 1
  omega
theorem decFrom_app : ∀ (x y : List UInt8) (acc : Nat), decFrom acc (x ++ y) = (decFrom acc x).bind fun m => decFrom m y
  | [], y, acc => rfl
  | b :: x, y, acc => by
    rw [List.cons_append, decFrom, decFrom]
    cases digitVal b with
    | none => rfl
    | some d => exact decFrom_app x y _
theorem dec_parse : ∀ (n u : Nat), u ≤ n → decFrom 0 (decDigits u) = some u
  | n, u, h => by
    rw [decDigits]
    by_cases hu : u < 10
    · rw [dif_pos hu, decFrom, dig_byte u hu]
      simp [decFrom]
    · rw [dif_neg hu, decFrom_app]
      match n, h with
      | n + 1, h =>
        rw [dec_parse n (u / 10) (by omega), Option.bind_some, decFrom, dig_byte _ (by omega)]
        simp only [decFrom, Option.some.injEq]
        omega
      | 0, h => omega
theorem dec_ne (u : Nat) : decDigits u ≠ [] := by
  rw [decDigits]
  split <;> simp
/-- Every byte of a number is a digit. -/
theorem dec_all (u : Nat) : ∀ b ∈ decDigits u, 48 ≤ b.toNat ∧ b.toNat ≤ 57 := by
  intro b hb
  obtain ⟨k, hk⟩ := List.mem_iff_getElem?.1 hb
  obtain ⟨d, hd⟩ := Lib.digit_of_decFrom _ _ _ (dec_parse u u (Nat.le_refl _)) k b hk
  have := Lib.digitVal_eq hd
  omega
theorem dec_len : ∀ (k u : Nat), u < 10 ^ (k + 1) → (decDigits u).length ≤ k + 1
  | k, u, h => by
    rw [decDigits]
    by_cases hu : u < 10
    · rw [dif_pos hu]; simp
    · rw [dif_neg hu, List.length_append, List.length_singleton]
      match k, h with
      | 0, h => omega
      | k + 1, h =>
        have := dec_len k (u / 10) (by rw [Nat.pow_succ] at h; omega)
        omega
theorem atoi_dec (u : Nat) : atoi (decDigits u) = some (u : Int) := by
  have hp := dec_parse u u (Nat.le_refl _)
  have ha := dec_all u
  cases hd : decDigits u with
  | nil => exact absurd hd (dec_ne u)
  | cons b r =>
    rw [hd] at hp ha
    have hb := ha b List.mem_cons_self
    unfold atoi
    have n1 : (b == 45) = false := by
      rw [beq_eq_false_iff_ne]; intro e; rw [e] at hb; exact absurd hb.1 (by decide)
    have n2 : (b == 43) = false := by
      rw [beq_eq_false_iff_ne]; intro e; rw [e] at hb; exact absurd hb.1 (by decide)
    simp only [n1, n2, if_false, Bool.false_eq_true]
    unfold decNat
    simp [hp]
theorem atoiAll_dec (u : Nat) (h : u ≤ 1048576) : atoiAll (decDigits u) = .ok (u : Int) := by
  rw [Lib.atoiAll_short _ (Nat.le_trans (dec_len 6 u (by omega)) (by omega)), atoi_dec]
  rfl
/-- A name as text. -/
def shwL (R N : Int) : List UInt8 :=
  if R = 0 ∧ N = 0 then [114, 111, 111, 116] else if R = 1 ∧ N = 0 then [116, 114, 97, 115, 104] else if rop R N = true then decDigits R.toNat ++ ([46] ++ decDigits N.toNat) else [63]
/-- Is it a block's name? -/
def rbl (R N : Int) : Bool := decide (R = 0 ∧ N = 0) || (decide (R = 1 ∧ N = 0) || rop R N)
theorem rop_iff {R N : Int} : rop R N = true ↔ 0 ≤ R ∧ R < 16 ∧ 1 ≤ N ∧ N ≤ 1048576 := by unfold rop; simp
theorem shw_rop {R N : Int} (h : rop R N = true) : shwL R N = decDigits R.toNat ++ ([46] ++ decDigits N.toNat) := by
  have := rop_iff.1 h
  unfold shwL
  rw [if_neg (by omega), if_neg (by omega), if_pos h]
/-- The op's name that a text may mean. -/
def opL (l : List UInt8) : Int × Int :=
  match atoiAll (Lib.cut l [46]).1 with
  | .ok r => match atoiAll (Lib.cut l [46]).2.1 with
    | .ok n => (r, n)
    | _ => (0, 0)
  | _ => (0, 0)
/-- What a text is read as. -/
def rdWith (f : List UInt8 → Int × Int) (l : List UInt8) : (Int × Int) × Bool :=
  if l = [114, 111, 111, 116] then ((0, 0), true) else if l = [116, 114, 97, 115, 104] then ((1, 0), true)
  else if rop (f l).1 (f l).2 = true ∧ shwL (f l).1 (f l).2 = l then (f l, true) else ((0, 0), false)
/-- Two ways to read that both read what is shown, read alike. -/
theorem rd_same {f g : List UInt8 → Int × Int} (hf : ∀ R N, rop R N = true → f (shwL R N) = (R, N)) (hg : ∀ R N, rop R N = true → g (shwL R N) = (R, N)) (l : List UInt8) : rdWith f l = rdWith g l := by
  unfold rdWith
  by_cases h1 : l = [114, 111, 111, 116]
  · rw [if_pos h1, if_pos h1]
  · rw [if_neg h1, if_neg h1]
    by_cases h2 : l = [116, 114, 97, 115, 104]
    · rw [if_pos h2, if_pos h2]
    · rw [if_neg h2, if_neg h2]
      by_cases h3 : rop (f l).1 (f l).2 = true ∧ shwL (f l).1 (f l).2 = l
      · have e := hg _ _ h3.1
        rw [h3.2] at e
        rw [if_pos h3, e, if_pos ⟨h3.1, h3.2⟩]
      · rw [if_neg h3]
        by_cases h4 : rop (g l).1 (g l).2 = true ∧ shwL (g l).1 (g l).2 = l
        · have e := hf _ _ h4.1
          rw [h4.2] at e
          rw [e] at h3
          exact absurd h4 h3
        · rw [if_neg h4]
theorem index_dot : ∀ (x y : List UInt8), (∀ b ∈ x, b.toNat ≠ 46) → Lib.index (x ++ ([46] ++ y)) [46] = (x.length : Int)
  | [], y, _ => by
    rw [List.nil_append, List.singleton_append, Lib.index]
    rw [if_pos (by rfl)]
    rfl
  | b :: x, y, h => by
    have hb := h b List.mem_cons_self
    have ih := index_dot x y (fun c hc => h c (List.mem_cons_of_mem _ hc))
    rw [List.cons_append, Lib.index, ih]
    have n1 : ([46] : List UInt8).isPrefixOf (b :: (x ++ ([46] ++ y))) = false := by
      simp only [List.isPrefixOf, Bool.and_eq_false_iff, beq_eq_false_iff_ne]
      left
      intro e
      exact hb (by rw [← e]; rfl)
    rw [n1]
    have n2 : ((x.length : Int) == -1) = false := by rw [beq_eq_false_iff_ne]; omega
    rw [n2]
    simp
theorem op_shw (R N : Int) (h : rop R N = true) : opL (shwL R N) = (R, N) := by
  obtain ⟨h1, h2, h3, h4⟩ := rop_iff.1 h
  rw [shw_rop h]
  have hi := index_dot (decDigits R.toNat) (decDigits N.toNat) (fun b hb => by have := dec_all _ b hb; omega)
  have hc : Lib.cut (decDigits R.toNat ++ ([46] ++ decDigits N.toNat)) [46] = (decDigits R.toNat, decDigits N.toNat, true) := by
    unfold Lib.cut
    rw [hi, if_pos (by omega), Int.toNat_natCast, List.take_left]
    rw [← List.append_assoc, show (decDigits R.toNat).length + ([46] : List UInt8).length = (decDigits R.toNat ++ [46]).length by simp, List.drop_left]
  unfold opL
  rw [hc]
  simp only [atoiAll_dec R.toNat (by omega), atoiAll_dec N.toNat (by omega)]
  rw [Int.toNat_of_nonneg h1, Int.toNat_of_nonneg (by omega)]
/-- An op's name begins with a digit. -/
theorem shw_head {R N : Int} (h : rop R N = true) : ∃ b r, shwL R N = b :: r ∧ 48 ≤ b.toNat ∧ b.toNat ≤ 57 := by
  rw [shw_rop h]
  cases hd : decDigits R.toNat with
  | nil => exact absurd hd (dec_ne _)
  | cons b r => exact ⟨b, r ++ ([46] ++ decDigits N.toNat), rfl, dec_all R.toNat b (by rw [hd]; exact List.mem_cons_self)⟩
theorem rd_shw {f : List UInt8 → Int × Int} (hf : ∀ R N, rop R N = true → f (shwL R N) = (R, N)) {R N : Int} (h : rbl R N = true) : rdWith f (shwL R N) = ((R, N), true) := by
  unfold rbl at h
  simp only [Bool.or_eq_true, decide_eq_true_eq] at h
  unfold rdWith
  rcases h with ⟨rfl, rfl⟩ | ⟨rfl, rfl⟩ | h
  · rfl
  · rfl
  · obtain ⟨b, r, e, b1, b2⟩ := shw_head h
    rw [if_neg (by rw [e]; intro q; injection q with q1 _; rw [q1] at b2; exact absurd b2 (by decide)), if_neg (by rw [e]; intro q; injection q with q1 _; rw [q1] at b2; exact absurd b2 (by decide)), hf R N h, if_pos ⟨h, rfl⟩]
theorem shw_none {R N : Int} (h : rbl R N = false) : shwL R N = [63] := by
  unfold rbl at h
  simp only [Bool.or_eq_false_iff, decide_eq_false_iff_not] at h
  unfold shwL
  rw [if_neg h.1, if_neg h.2.1, if_neg (by rw [h.2.2]; decide)]
theorem rd_none {f : List UInt8 → Int × Int} {R N : Int} (h : rbl R N = false) : rdWith f (shwL R N) = ((0, 0), false) := by
  rw [shw_none h]
  unfold rdWith
  rw [if_neg (by decide), if_neg (by decide), if_neg]
  rintro ⟨h1, h2⟩
  obtain ⟨b, r, e, b1, b2⟩ := shw_head h1
  rw [e] at h2
  injection h2 with q1 _
  rw [q1] at b2
  exact absurd b2 (by decide)
theorem shw_inj {R N R' N' : Int} (h : rbl R N = true) (h' : rbl R' N' = true) (e : shwL R N = shwL R' N') : R = R' ∧ N = N' := by
  have h1 := rd_shw op_shw h
  have h2 := rd_shw op_shw h'
  rw [e, h2] at h1
  simp only [Prod.mk.injEq, and_true] at h1
  exact ⟨h1.1.symm, h1.2.symm⟩
end Go.Proofs.YtiakdnoafmojlaaDoor.Q
