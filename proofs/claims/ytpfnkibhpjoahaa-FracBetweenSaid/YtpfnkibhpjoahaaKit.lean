/- What the printed functions of layer 4 compute, in the words of the plain mathematics. -/
import Derived.Test.YtpfnkibhpjoahaaQx3
import Derived.Test.YtpfnkibhpjoahaaQx4
import Derived.Test.YtpfnkibhpjoahaaMath
namespace Go.Proofs.Ytpfnkibhpjoahaa.Kit
open Go.RowKit Go.Proofs.Ytpfnkibhpjoahaa.Q Go.Proofs.Ytpfnkibhpjoahaa.Math Go.Proofs.YtpfnkibhpjoahaaW.PrintWords Go.Proofs.YtpfnkibhpjoahaaW.PrintLast Go.Proofs.YtpfnkibhpjoahaaW.PrintMore

def big (a : ByteArray) : Prop := a.size ≤ 140737488351232
theorem w64 {x : Int} (_ : -9223372036854775808 ≤ x) (_ : x ≤ 9223372036854775807) : wrap64 x = x := by unfold wrap64; omega
theorem getD_last (l : List Int) : l.getD (l.length - 1) 0 = l.getLastD 0 := by
  rw [List.getLastD_eq_getLast?, List.getLast?_eq_getElem?, List.getD_eq_getElem?_getD]
theorem empty_nm : nm (⟨#[]⟩ : ByteArray) = [] := rfl

theorem right_f (a : ByteArray) (h : big a) : frac_Right.f a = some (right (nm a)) := by
  unfold big at h
  unfold frac_Right.f
  by_cases e : a.toList = []
  · rw [if_pos e, (nm_nil a).1 e]; rfl
  · have e' : nm a ≠ [] := fun x => e ((nm_nil a).2 x)
    have hp : 0 < a.size := by rw [← nm_len]; exact List.length_pos_iff.2 e'
    rw [if_neg e]
    have hr : right (nm a) = (decide (a.size ≤ 32) && ((nm a).getLastD 0 != 0)) := by
      unfold right; rw [nm_len]; cases hn : nm a with
      | nil => exact absurd hn e'
      | cons => rfl
    by_cases c : (a.size : Int) ≤ 32
    · rw [if_pos c, w64 (by omega) (by omega), if_pos (by omega), if_pos (by omega)]
      have := bt_nm a (a.size - 1)
      rw [show ((a.size - 1 : Nat) : Int) = (a.size : Int) - 1 from by omega] at this
      rw [this, hr, ← nm_len, getD_last, decide_eq_true (by rw [nm_len]; omega)]
      simp
    · rw [if_neg c, hr, decide_eq_false (by omega)]; rfl
theorem ref_right_f (a : ByteArray) (h : big a) : offshootref04_Right.f a = some (right (nm a)) := by
  rw [← right_f a h]
  unfold offshootref04_Right.f frac_Right.f
  by_cases e : a.toList = []
  · have : a.size = 0 := by rw [← nm_len, (nm_nil a).1 e]; rfl
    rw [if_pos e, if_neg (by omega)]
  · have e' : nm a ≠ [] := fun x => e ((nm_nil a).2 x)
    have hp : 0 < a.size := by rw [← nm_len]; exact List.length_pos_iff.2 e'
    rw [if_neg e, if_pos (by omega)]
theorem endFine_f (a : ByteArray) (h : big a) : frac_end_fine.f a = some (fine (nm a)) := by
  unfold frac_end_fine.f
  by_cases e : a.toList = []
  · rw [if_pos e, (nm_nil a).1 e]; rfl
  · have e' : nm a ≠ [] := fun x => e ((nm_nil a).2 x)
    rw [if_neg e, right_f a h]
    unfold fine
    cases hn : nm a with
    | nil => exact absurd hn e'
    | cons => rfl
theorem spanFine_f (a b : ByteArray) (h : big a) (h' : big b) : frac_span_fine.f a b = some (spanFine (nm a) (nm b)) := by
  unfold frac_span_fine.f
  rw [endFine_f a h, endFine_f b h']
  simp only [Option.bind_some]
  unfold spanFine
  cases fine (nm a)
  · rfl
  · cases fine (nm b)
    · rfl
    · simp only [if_true, Bool.and_self, Bool.true_and]
      by_cases e : a.toList = []
      · rw [if_pos e, (nm_nil a).1 e]; rfl
      · rw [if_neg e]
        have e1 : (nm a).isEmpty = false := by simpa using fun x => e ((nm_nil a).2 x)
        rw [e1]
        by_cases e : b.toList = []
        · rw [if_pos e, (nm_nil b).1 e]; rfl
        · rw [if_neg e]
          have e2 : (nm b).isEmpty = false := by simpa using fun x => e ((nm_nil b).2 x)
          rw [e2, less_nm]; rfl
theorem endAt_f (a : ByteArray) (i : Nat) (z : Int) : frac_end_at.f a i z = some (if i < (nm a).length then (nm a).getD i 0 else z) := by
  unfold frac_end_at.f
  rw [nm_len]
  by_cases c : i < a.size
  · rw [if_pos (by omega), if_pos (by omega), if_pos c, bt_nm, w64]
    all_goals
      have := bt_range a i
      rw [bt_nm] at this
      omega
  · rw [if_neg (by omega), if_neg c]

def res (o : List Int) : Option (List Int) → ByteArray × Bool
  | some r => (strOfNums (o ++ r), true)
  | none => (⟨#[]⟩, false)
theorem res_cons (o : List Int) (x : Int) (r : Option (List Int)) : res o (r.map (x :: ·)) = res (o ++ [x]) r := by
  cases r <;> simp [res]
theorem drop_head (l : List Int) (i : Nat) : (l.drop i).headD 0 = l.getD i 0 := by
  rw [List.headD_eq_head?_getD, List.head?_drop, List.getD_eq_getElem?_getD]
theorem drop_tail (l : List Int) (i : Nat) : (l.drop i).tail = l.drop (i + 1) := by rw [List.tail_drop]
theorem getD_rng {l : List Int} (h : Rng l) (i : Nat) : 0 ≤ l.getD i 0 ∧ l.getD i 0 < 256 := by
  rw [← drop_head]
  exact Rng.head (fun x hx => h x (List.mem_of_mem_drop hx))
theorem ite_getD (l : List Int) (i : Nat) : (if i < l.length then l.getD i 0 else 0) = l.getD i 0 := by
  split
  · rfl
  · rename_i h; rw [List.getD_eq_getElem?_getD, List.getElem?_eq_none (by omega)]; rfl
theorem key_irr (d : Nat) (lo hi : List Int) : key d lo hi false = key d lo [] false := by
  cases d <;> rfl

theorem key_loop (lo hi : ByteArray) : ∀ (d k i : Nat) (t : Bool) (out : List Int), i + d = 32 → 2 * d + 1 ≤ k → out.length ≤ i →
    frac_span_key.l0 k out (if t then 0 else 256) i lo hi = some (res out (key d ((nm lo).drop i) ((nm hi).drop i) t))
  | 0, k, i, t, out, hi', hk, _ => by
    obtain ⟨k, rfl⟩ : ∃ m, k = m + 1 := ⟨k - 1, by omega⟩
    simp only [frac_span_key.l0]
    rw [if_neg (by omega)]
    rfl
  | d + 1, k, i, t, out, hi', hk, ho => by
    obtain ⟨k, rfl⟩ : ∃ m, k = m + 2 := ⟨k - 2, by omega⟩
    have hx := getD_rng (nm_range lo) i
    have hy := getD_rng (nm_range hi) i
    have hw : wrap64 ((i : Int) + 1) = ((i + 1 : Nat) : Int) := by rw [w64] <;> omega
    have ih := fun t out ho => key_loop lo hi d k (i + 1) t out (by omega) (by omega) ho
    simp only [frac_span_key.l0]
    rw [if_pos (by omega), endAt_f, endAt_f, ite_getD]
    simp only [Option.bind_some]
    cases t with
    | false =>
      simp only [Bool.false_eq_true, if_false, if_true, frac_span_key.j2, key, drop_head, drop_tail]
      rw [if_pos (by have : ([] : List Int).length ≤ 1 := by simp
                     omega)]
      simp only [Option.bind_some]
      have e1 : wrap64 (256 - (nm lo).getD i 0) = 256 - (nm lo).getD i 0 := by rw [w64] <;> omega
      have e2 : wrap64 (Int.tdiv (256 - (nm lo).getD i 0) 2) = (256 - (nm lo).getD i 0) / 2 := by rw [Int.tdiv_eq_ediv_of_nonneg (by omega), w64] <;> omega
      have e3 : mn ((256 - (nm lo).getD i 0) / 2) 8 = min ((256 - (nm lo).getD i 0) / 2) 8 := by unfold mn; omega
      have e4 : (wrap64 ((nm lo).getD i 0 + min ((256 - (nm lo).getD i 0) / 2) 8)) = (nm lo).getD i 0 + min ((256 - (nm lo).getD i 0) / 2) 8 := by rw [w64] <;> omega
      rw [e1, e2, e3, e4]
      by_cases c : (nm lo).getD i 0 < 255
      · rw [if_pos c, if_pos (by omega)]
        simp only [res]
        rw [show ((nm lo).getD i 0 + min ((256 - (nm lo).getD i 0) / 2) 8) % 256 = (nm lo).getD i 0 + min ((256 - (nm lo).getD i 0) / 2) 8 from by omega]
      · rw [if_neg c, if_neg (by omega), hw]
        have e5 : ((nm lo).getD i 0 + min ((256 - (nm lo).getD i 0) / 2) 8) % 256 = (nm lo).getD i 0 := by omega
        rw [e5]
        have := ih false (out ++ [(nm lo).getD i 0]) (by simp; omega)
        simp only [Bool.false_eq_true, if_false] at this
        rw [this, res_cons, key_irr]
    | true =>
      simp only [if_true, ite_getD]
      rw [if_neg (by omega)]
      simp only [frac_span_key.j2, key, drop_head, drop_tail]
      have hol : out.length < 140737488355328 := by omega
      have e1 : wrap64 ((nm hi).getD i 0 - (nm lo).getD i 0) = (nm hi).getD i 0 - (nm lo).getD i 0 := by rw [w64] <;> omega
      rw [if_neg (by omega), w64 (x := (nm lo).getD i 0 + 1) (by omega) (by omega), e1, hw]
      simp only [if_pos hol, Option.bind_some]
      by_cases c : (nm lo).getD i 0 + 1 < (nm hi).getD i 0
      · have e2 : wrap64 (Int.tdiv ((nm hi).getD i 0 - (nm lo).getD i 0) 2) = ((nm hi).getD i 0 - (nm lo).getD i 0) / 2 := by rw [Int.tdiv_eq_ediv_of_nonneg (by omega), w64] <;> omega
        rw [if_pos c]
        try rw [if_pos (show (nm hi).getD i 0 > (nm lo).getD i 0 + 1 from c)]
        rw [e2, w64 (by omega) (by omega)]
        simp only [res]
        rw [show ((nm lo).getD i 0 + ((nm hi).getD i 0 - (nm lo).getD i 0) / 2) % 256 = (nm lo).getD i 0 + ((nm hi).getD i 0 - (nm lo).getD i 0) / 2 from by omega]
      · rw [if_neg c]
        try rw [if_neg (show ¬ (nm hi).getD i 0 > (nm lo).getD i 0 + 1 from c)]
        rw [show ((nm lo).getD i 0) % 256 = (nm lo).getD i 0 from by omega]
        by_cases c' : (nm hi).getD i 0 ≤ (nm lo).getD i 0
        · have := ih true (out ++ [(nm lo).getD i 0]) (by simp; omega)
          simp only [if_true] at this
          rw [if_neg (by omega), decide_eq_true c', this, res_cons]
        · have := ih false (out ++ [(nm lo).getD i 0]) (by simp; omega)
          simp only [Bool.false_eq_true, if_false] at this
          rw [if_pos (by omega), decide_eq_false c', this, res_cons]

/-! ### Between -/
def ans : Option (List Int) → ByteArray × Int
  | some r => (strOfNums r, 0)
  | none => (⟨#[]⟩, 15)
theorem key_f (k : Nat) (lo hi : ByteArray) : frac_span_key.f (k + 100) lo hi = some (res [] (key 32 (nm lo) (nm hi) (!(nm hi).isEmpty))) := by
  unfold frac_span_key.f
  by_cases e : hi.toList = []
  · rw [if_pos e, (nm_nil hi).1 e]
    have := key_loop lo hi 32 (k + 99) 0 false [] rfl (by omega) (by simp)
    simp only [Bool.false_eq_true, if_false, List.drop_zero] at this
    simp only [frac_span_key.j0, List.isEmpty_nil, Bool.not_true]
    rw [(nm_nil hi).1 e] at this
    exact this
  · have e2 : (nm hi).isEmpty = false := by simpa using fun x => e ((nm_nil hi).2 x)
    have := key_loop lo hi 32 (k + 99) 0 true [] rfl (by omega) (by simp)
    simp only [if_true, List.drop_zero] at this
    rw [if_neg e, e2]
    simp only [frac_span_key.j0, Bool.not_false]
    exact this
theorem between_f (k : Nat) (lo hi : ByteArray) (h : big lo) (h' : big hi) : frac_Between.f (k + 100) lo hi = some (ans (betw (nm lo) (nm hi))) := by
  unfold frac_Between.f
  rw [spanFine_f lo hi h h']
  simp only [Option.bind_some]
  unfold betw
  cases spanFine (nm lo) (nm hi)
  · rfl
  · simp only [if_true]
    rw [key_f]
    simp only [Option.bind_some]
    cases key 32 (nm lo) (nm hi) (!(nm hi).isEmpty) <;> simp [res, ans]
theorem order_f (a b : ByteArray) : frac_Order.f a b = some (if lt (nm a) (nm b) = true then -1 else if lt (nm b) (nm a) = true then 1 else 0) := by
  unfold frac_Order.f strings_Compare.f
  rw [less_nm, less_nm]
  cases lt (nm a) (nm b) <;> cases lt (nm b) (nm a) <;> rfl
theorem order_neg (a b : ByteArray) : ∃ t, frac_Order.f a b = some t ∧ (t < 0 ↔ lt (nm a) (nm b) = true) := by
  refine ⟨_, order_f a b, ?_⟩
  cases lt (nm a) (nm b) <;> cases lt (nm b) (nm a) <;> simp

/-! ### What alive asks -/
theorem ev_true {α : Type} {a b : α} (h : a = b) : some a = some b := by rw [h]
theorem nm8 : nm (⟨#[8]⟩ : ByteArray) = [8] := rfl
theorem nm9 : nm (⟨#[9]⟩ : ByteArray) = [9] := rfl
theorem nm97 : nm (⟨#[97]⟩ : ByteArray) = [97] := rfl
theorem nm98 : nm (⟨#[98]⟩ : ByteArray) = [98] := rfl
theorem big_lit (l : Array UInt8) (h : l.size ≤ 100) : big ⟨l⟩ := by show l.size ≤ _; omega
theorem between_at {k : Nat} (hk : 100 ≤ k) (lo hi : ByteArray) (h : big lo) (h' : big hi) : frac_Between.f k lo hi = some (ans (betw (nm lo) (nm hi))) := by
  obtain ⟨m, rfl⟩ : ∃ m, k = m + 100 := ⟨k - 100, by omega⟩
  exact between_f m lo hi h h'

theorem chk_less : ∀ (n : Nat) (l : List Int), chk (n + 1) l = true → chk n l = true
  | 0, _, _ => rfl
  | n + 1, l, h => by
    rw [chk] at h
    rw [chk]
    cases hb : betw l [] with
    | none => rw [hb] at h; cases h
    | some r =>
      rw [hb] at h
      simp only [Bool.and_eq_true] at h ⊢
      exact ⟨h.1, chk_less n r h.2⟩
theorem chk_at : ∀ (d n : Nat), n + d = 400 → chk n [] = true
  | 0, n, h => by obtain rfl : n = 400 := by omega
                  exact chk_row
  | d + 1, n, h => chk_less n [] (chk_at d (n + 1) (by omega))
theorem chk_step {d : Nat} {l : List Int} (hl : Rng l) (h : chk (d + 1) l = true) : betw l [] = some (nxt l) ∧ Rng (nxt l) ∧ (nxt l).length ≤ 31 ∧ chk d (nxt l) = true := by
  rw [chk] at h
  cases hb : betw l [] with
  | none => rw [hb] at h; cases h
  | some r =>
    rw [hb] at h
    simp only [Bool.and_eq_true, decide_eq_true_eq] at h
    have e : nxt l = r := by unfold nxt; rw [hb]; rfl
    rw [e]
    exact ⟨rfl, (betw_some hl (fun _ h => by cases h) hb).1, h⟩
theorem big_str {l : List Int} (h : l.length ≤ 1000) (hr : Rng l) : big (strOfNums l) := by
  unfold big
  rw [← nm_len, nm_str l hr]
  omega

theorem row_loop (n : Nat) (hn : n ≤ 400) : ∀ (d k i : Nat) (out : List ByteArray) (last : List Int), Rng last → last.length ≤ 31 → chk d last = true → i + d = n → d + 101 ≤ k → out.length ≤ i →
    frac_Row.l0 k out (strOfNums last) n i = some (out ++ (rowk d last).map strOfNums)
  | 0, k, i, out, last, _, _, _, hi, hk, ho => by
    obtain ⟨k, rfl⟩ : ∃ m, k = m + 1 := ⟨k - 1, by omega⟩
    simp only [frac_Row.l0]
    rw [if_neg (by omega)]
    simp [rowk]
  | d + 1, k, i, out, last, hr, hl, hc, hi, hk, ho => by
    obtain ⟨k, rfl⟩ : ∃ m, k = m + 1 := ⟨k - 1, by omega⟩
    obtain ⟨b1, b2, b3, b4⟩ := chk_step hr hc
    simp only [frac_Row.l0]
    rw [if_pos (by omega), between_at (by omega) _ _ (big_str (by omega) hr) (big_lit _ (by simp)), nm_str last hr, empty_nm, b1]
    simp only [Option.bind_some, ans]
    rw [if_pos (by omega), show wrap64 ((i : Int) + 1) = ((i + 1 : Nat) : Int) from by rw [w64] <;> omega]
    rw [row_loop n hn d k (i + 1) _ (nxt last) b2 b3 b4 (by omega) (by omega) (by simp; omega)]
    simp [rowk]
def rows (n : Int) : List (List Int) := if 0 ≤ n ∧ n ≤ 400 then rowk n.toNat [] else []
theorem row_at {k : Nat} (hk : 600 ≤ k) (n : Int) : frac_Row.f k n = some ((rows n).map strOfNums) := by
  obtain ⟨k, rfl⟩ : ∃ m, k = m + 1 := ⟨k - 1, by omega⟩
  unfold frac_Row.f rows
  by_cases c : n < 0
  · rw [if_pos c, if_neg (by omega)]
    simp [frac_Row.j0]
  · rw [if_neg c]
    by_cases c' : n > 400
    · rw [if_neg (by omega)]
      simp [frac_Row.j0, c']
    · rw [if_pos (by omega), decide_eq_false c']
      simp only [frac_Row.j0, Bool.false_eq_true, if_false]
      have := row_loop n.toNat (by omega) n.toNat k 0 [] [] (fun _ h => by cases h) (by simp) (chk_at (400 - n.toNat) _ (by omega)) (by omega) (by omega) (by simp)
      rw [show ((n.toNat : Nat) : Int) = n from by omega] at this
      rw [show strOfNums [] = (⟨#[]⟩ : ByteArray) from rfl] at this
      simpa using this

theorem betw00 : betw [] [] = some [8] := by decide +kernel
theorem betw89 : betw [8] [9] = some [8, 8] := by decide +kernel
theorem betw_ba : betw [98] [97] = none := by decide +kernel
theorem alive_at {k : Nat} (hk : 600 ≤ k) : offshootlaw04_alive.f k = some true := by
  unfold offshootlaw04_alive.f
  rw [between_at (by omega) _ _ (big_lit _ (by simp)) (big_lit _ (by simp)), between_at (by omega) _ _ (big_lit _ (by simp)) (big_lit _ (by simp)), between_at (by omega) _ _ (big_lit _ (by simp)) (big_lit _ (by simp)),
    row_at hk, empty_nm, nm8, nm9, nm98, nm97, betw00, betw89, betw_ba]
  simp only [Option.bind_some, ans]
  have e1 : (strOfNums [8]).toList = [8] := by rw [Lib.strOfNums_toList]; rfl
  have e2 : (strOfNums [8, 8]).toList = [8, 8] := by rw [Lib.strOfNums_toList]; rfl
  have hb : big (strOfNums [8]) := big_str (by simp) (fun x hx => by simp at hx; omega)
  have e3 : right (nm (strOfNums [8])) = true := by rw [nm_str [8] (fun x hx => by simp at hx; omega)]; rfl
  have e4 : ((rows 3).map strOfNums).length = 3 := by rw [List.length_map]; rfl
  simp only [if_true]
  rw [if_pos e1, if_pos e2, right_f _ hb, e3]
  simp only [Option.bind_some, if_true, e4]
  rfl

/-! ### The reference's Texts, Between and Row -/
def cmpv (a b : List Int) : Int := if lt a b = true then -1 else if lt b a = true then 1 else 0
theorem drop_cons (s : List Int) (i : Nat) (h : i < s.length) : s.drop i = s.getD i 0 :: s.drop (i + 1) := by
  rw [List.drop_eq_getElem_cons h, List.getD_eq_getElem?_getD, List.getElem?_eq_getElem h]; rfl
theorem cmpv_cons (a b : Int) (x y : List Int) : cmpv (a :: x) (b :: y) = if a = b then cmpv x y else if a < b then -1 else 1 := by
  unfold cmpv
  simp only [lt, Bool.or_eq_true, decide_eq_true_eq, Bool.and_eq_true, beq_iff_eq]
  by_cases e : a = b
  · subst e; simp
  · rw [if_neg e]
    by_cases c : a < b
    · simp [c]
    · have : b < a := by omega
      have e' : ¬ b = a := fun h => e h.symm
      simp [c, e, this]
theorem texts_loop (a b : ByteArray) (ha : big a) : ∀ (d k i : Nat), i + d = a.size → 2 * d + 3 ≤ k → i ≤ b.size → offshootref00_Texts.l0 k a b i = some (cmpv ((nm a).drop i) ((nm b).drop i))
  | 0, k, i, hd, hk, hb => by
    obtain ⟨k, rfl⟩ : ∃ m, k = m + 2 := ⟨k - 2, by omega⟩
    simp only [offshootref00_Texts.l0]
    rw [if_neg (by omega)]
    simp only [offshootref00_Texts.j1, Bool.false_eq_true, if_false]
    rw [List.drop_eq_nil_of_le («as» := nm a) (by rw [nm_len]; omega)]
    by_cases c : i < b.size
    · rw [drop_cons (nm b) i (by rw [nm_len]; omega), if_pos (by omega)]; rfl
    · rw [List.drop_eq_nil_of_le («as» := nm b) (by rw [nm_len]; omega), if_neg (by omega), if_neg (by omega)]; rfl
  | d + 1, k, i, hd, hk, hb => by
    obtain ⟨k, rfl⟩ : ∃ m, k = m + 2 := ⟨k - 2, by omega⟩
    unfold big at ha
    simp only [offshootref00_Texts.l0]
    rw [if_pos (by omega), drop_cons (nm a) i (by rw [nm_len]; omega)]
    by_cases c : i < b.size
    · rw [drop_cons (nm b) i (by rw [nm_len]; omega), decide_eq_true (by omega), cmpv_cons]
      simp only [offshootref00_Texts.j1, if_true]
      rw [if_pos (by omega), if_pos (by omega), if_pos (by omega), bt_nm, bt_nm]
      have ih := texts_loop a b ha d k (i + 1) (by omega) (by omega) (by omega)
      rw [show wrap64 ((i : Int) + 1) = ((i + 1 : Nat) : Int) from by rw [w64] <;> omega, ih]
      by_cases e : (nm a).getD i 0 = (nm b).getD i 0
      · rw [if_pos e, if_pos e]
      · rw [if_neg e, if_neg e]; by_cases l : (nm a).getD i 0 < (nm b).getD i 0
        · rw [if_pos l, if_pos l]
        · rw [if_neg l, if_neg l]
    · rw [List.drop_eq_nil_of_le («as» := nm b) (by rw [nm_len]; omega), decide_eq_false (by omega)]
      simp only [offshootref00_Texts.j1, Bool.false_eq_true, if_false]
      rw [if_neg (by omega), if_pos (by omega)]; rfl
theorem texts_at {k : Nat} (a b : ByteArray) (ha : a.size ≤ 1000) (hk : 2100 ≤ k) : offshootref00_Texts.f k a b = some (cmpv (nm a) (nm b)) := by
  have := texts_loop a b (by unfold big; omega) a.size k 0 (by omega) (by omega) (by omega)
  exact this

def ans' (o : List Int) : Option (List Int) → ByteArray × Int
  | some r => (strOfNums (o ++ r), 0)
  | none => (⟨#[]⟩, 15)
theorem ans'_cons (o : List Int) (x : Int) (r : Option (List Int)) : ans' o (r.map (x :: ·)) = ans' (o ++ [x]) r := by
  cases r <;> simp [ans']
theorem ref_loop (lo hi : ByteArray) : ∀ (d k i : Nat) (t : Bool) (out : List Int), i + d = 32 → 4 * d + 1 ≤ k → out.length ≤ i →
    (t = true → Tip ((nm hi).drop i) ∧ lt ((nm lo).drop i) ((nm hi).drop i) = true) →
    offshootref04_Between.l0 k lo hi out t i = some (ans' out (key d ((nm lo).drop i) ((nm hi).drop i) t))
  | 0, k, i, t, out, hi', hk, _, _ => by
    obtain ⟨k, rfl⟩ : ∃ m, k = m + 1 := ⟨k - 1, by omega⟩
    simp only [offshootref04_Between.l0]
    rw [if_neg (by omega)]
    rfl
  | d + 1, k, i, t, out, hi', hk, ho, ht => by
    obtain ⟨k, rfl⟩ : ∃ m, k = m + 4 := ⟨k - 4, by omega⟩
    have hx := getD_rng (nm_range lo) i
    have hy := getD_rng (nm_range hi) i
    have hol : out.length < 140737488355328 := by omega
    have hw : wrap64 ((i : Int) + 1) = ((i + 1 : Nat) : Int) := by rw [w64] <;> omega
    have ih := fun t out ho => ref_loop lo hi d k (i + 1) t out (by omega) (by omega) ho
    have e0 : (if (i : Int) < (lo.size : Int) then (if 0 ≤ (i : Int) then (offshootref04_Between.j2 (k + 3) lo hi out t i (wrap64 (bt lo i))) else (none)) else (offshootref04_Between.j2 (k + 3) lo hi out t i 0)) =
        offshootref04_Between.j2 (k + 3) lo hi out t i ((nm lo).getD i 0) := by
      split
      · rw [if_pos (by omega), bt_nm, w64 (by omega) (by omega)]
      · rw [← ite_getD, nm_len, if_neg (by omega)]
    simp only [offshootref04_Between.l0]
    rw [if_pos (by omega), e0]
    have main : ∀ y : Int, 0 ≤ y → y ≤ 256 → (t = true → y = (nm hi).getD i 0) → (t = false → y = 256) → offshootref04_Between.j4 (k + 1) lo hi out t i ((nm lo).getD i 0) y = some (ans' out (key (d + 1) ((nm lo).drop i) ((nm hi).drop i) t)) := by
      intro y hy0 hy1 hy2 hy3
      simp only [offshootref04_Between.j4]
      have e1 : wrap64 (y - (nm lo).getD i 0) = y - (nm lo).getD i 0 := by rw [w64] <;> omega
      rw [w64 (x := (nm lo).getD i 0 + 1) (by omega) (by omega), e1, hw]
      simp only [if_pos hol]
      cases t with
      | false =>
        obtain rfl := hy3 rfl
        simp only [key, drop_head, drop_tail]
        by_cases c : (nm lo).getD i 0 < 255
        · have e2 : wrap64 (Int.tdiv (256 - (nm lo).getD i 0) 2) = (256 - (nm lo).getD i 0) / 2 := by rw [Int.tdiv_eq_ediv_of_nonneg (by omega), w64] <;> omega
          have e3 : mn ((256 - (nm lo).getD i 0) / 2) 8 = min ((256 - (nm lo).getD i 0) / 2) 8 := by unfold mn; omega
          rw [if_pos (by omega)]
          simp only [if_true]
          rw [if_pos c, e2, e3, w64 (by omega) (by omega)]
          simp only [ans']
          rw [show ((nm lo).getD i 0 + min ((256 - (nm lo).getD i 0) / 2) 8) % 256 = (nm lo).getD i 0 + min ((256 - (nm lo).getD i 0) / 2) 8 from by omega]
        · have := ih false (out ++ [(nm lo).getD i 0]) (by simp; omega) (fun h => by cases h)
          rw [if_neg (by omega), if_pos (by omega), if_neg c, show ((nm lo).getD i 0) % 256 = (nm lo).getD i 0 from by omega, this, ans'_cons, key_irr]
      | true =>
        obtain rfl := hy2 rfl
        obtain ⟨t1, t2⟩ := ht rfl
        have hd := heads (fun x hx => nm_range lo x (List.mem_of_mem_drop hx)) (fun x hx => nm_range hi x (List.mem_of_mem_drop hx)) t1 t2
        rw [drop_head, drop_head, drop_tail, drop_tail] at hd
        simp only [key, drop_head, drop_tail]
        by_cases c : (nm lo).getD i 0 + 1 < (nm hi).getD i 0
        · have e2 : wrap64 (Int.tdiv ((nm hi).getD i 0 - (nm lo).getD i 0) 2) = ((nm hi).getD i 0 - (nm lo).getD i 0) / 2 := by rw [Int.tdiv_eq_ediv_of_nonneg (by omega), w64] <;> omega
          rw [if_pos c]
          try rw [if_pos (show (nm hi).getD i 0 > (nm lo).getD i 0 + 1 from c)]
          rw [if_neg (by omega), e2, w64 (by omega) (by omega)]
          simp only [ans']
          rw [show ((nm lo).getD i 0 + ((nm hi).getD i 0 - (nm lo).getD i 0) / 2) % 256 = (nm lo).getD i 0 + ((nm hi).getD i 0 - (nm lo).getD i 0) / 2 from by omega]
        · rw [if_neg c]
          try rw [if_neg (show ¬ (nm hi).getD i 0 > (nm lo).getD i 0 + 1 from c)]
          rw [show ((nm lo).getD i 0) % 256 = (nm lo).getD i 0 from by omega]
          by_cases c' : (nm hi).getD i 0 ≤ (nm lo).getD i 0
          · have := ih true (out ++ [(nm lo).getD i 0]) (by simp; omega) (fun _ => hd.2 (by omega))
            rw [if_neg (by omega), decide_eq_true c', this, ans'_cons]
          · have := ih false (out ++ [(nm lo).getD i 0]) (by simp; omega) (fun h => by cases h)
            rw [if_pos (by omega), decide_eq_false c', this, ans'_cons]
    cases t with
    | false =>
      simp only [offshootref04_Between.j2, Bool.false_eq_true, if_false, offshootref04_Between.j3]
      exact main 256 (by omega) (by omega) (fun h => by cases h) (fun _ => rfl)
    | true =>
      have hlen : i < hi.size := by
        have := List.length_pos_iff.2 (ht rfl).1.ne
        rw [List.length_drop, nm_len] at this
        omega
      simp only [offshootref04_Between.j2, if_true, offshootref04_Between.j3]
      rw [decide_eq_true (by omega), if_pos rfl, if_pos (by omega), if_pos (by omega), bt_nm, w64 (by omega) (by omega)]
      exact main _ (by omega) (by omega) (fun _ => rfl) (fun h => by cases h)
theorem ref_j0 {k : Nat} (hk : 200 ≤ k) (lo hi : ByteArray) (h : spanFine (nm lo) (nm hi) = true) : offshootref04_Between.j0 k lo hi false = some (ans (betw (nm lo) (nm hi))) := by
  obtain ⟨k, rfl⟩ : ∃ m, k = m + 1 := ⟨k - 1, by omega⟩
  simp only [offshootref04_Between.j0, Bool.false_eq_true, if_false]
  have e : (hi.toList != []) = !(nm hi).isEmpty := by
    rw [Bool.eq_iff_iff]; simp only [bne_iff_ne, ne_eq, nm_nil, Bool.not_eq_true', List.isEmpty_eq_false_iff]
  have := ref_loop lo hi 32 k 0 (!(nm hi).isEmpty) [] rfl (by omega) (by simp) (fun h' => by
    have hne : nm hi ≠ [] := by simpa using h'
    exact ⟨ends_of_span h hne, lt_of_span h hne⟩)
  rw [e]
  refine this.trans ?_
  unfold betw
  rw [if_pos h]
  rfl
theorem ref_j0' {k : Nat} (hk : 200 ≤ k) (lo hi : ByteArray) (h : spanFine (nm lo) (nm hi) = false) : offshootref04_Between.j0 k lo hi true = some (ans (betw (nm lo) (nm hi))) := by
  obtain ⟨k, rfl⟩ : ∃ m, k = m + 1 := ⟨k - 1, by omega⟩
  simp only [offshootref04_Between.j0, if_true]
  unfold betw
  rw [h]
  rfl
theorem ref_between_at {k : Nat} (hk : 2100 ≤ k) (lo hi : ByteArray) (h : lo.size ≤ 1000) (h' : hi.size ≤ 1000) : offshootref04_Between.f k lo hi = some (ans (betw (nm lo) (nm hi))) := by
  unfold offshootref04_Between.f
  rw [ref_right_f lo (by unfold big; omega), ref_right_f hi (by unfold big; omega), texts_at lo hi h hk]
  simp only [Option.bind_some]
  by_cases a0 : lo.toList = []
  · have a1 := (nm_nil lo).1 a0
    rw [if_pos a0]
    by_cases b0 : hi.toList = []
    · have b1 := (nm_nil hi).1 b0
      rw [if_pos b0, ref_j0 (by omega) lo hi (by rw [a1, b1]; rfl)]
    · rw [if_neg b0]
      cases hr : right (nm hi) with
      | true => simp only [if_true]; rw [ref_j0 (by omega) lo hi (by rw [a1]; simp [spanFine, fine, hr])]
      | false =>
        have : (nm hi) ≠ [] := fun e => b0 ((nm_nil hi).2 e)
        simp only [Bool.false_eq_true, if_false]; rw [ref_j0' (by omega) lo hi (by rw [a1]; simp [spanFine, fine, hr, this])]
  · have a1 : nm lo ≠ [] := fun e => a0 ((nm_nil lo).2 e)
    rw [if_neg a0]
    cases hl : right (nm lo) with
    | false => simp only [Bool.false_eq_true, if_false]; rw [ref_j0' (by omega) lo hi (by simp [spanFine, fine, hl, a1])]
    | true =>
      simp only [if_true]
      by_cases b0 : hi.toList = []
      · have b1 := (nm_nil hi).1 b0
        rw [if_pos b0, ref_j0 (by omega) lo hi (by rw [b1]; simp [spanFine, fine, hl])]
      · have b1 : (nm hi) ≠ [] := fun e => b0 ((nm_nil hi).2 e)
        rw [if_neg b0]
        cases hr : right (nm hi) with
        | false => simp only [Bool.false_eq_true, if_false]; rw [ref_j0' (by omega) lo hi (by simp [spanFine, fine, hr, b1])]
        | true =>
          simp only [if_true]
          cases hlt : lt (nm lo) (nm hi) with
          | true => rw [show cmpv (nm lo) (nm hi) = -1 from by unfold cmpv; rw [hlt]; rfl, decide_eq_false (by omega), ref_j0 (by omega) lo hi (by simp [spanFine, fine, hl, hr, hlt])]
          | false => rw [decide_eq_true (by unfold cmpv; rw [hlt]; simp only [Bool.false_eq_true, if_false]; split <;> omega), ref_j0' (by omega) lo hi (by simp [spanFine, fine, hl, hr, hlt, a1, b1])]
theorem ref_row_loop (n : Nat) (hn : n ≤ 400) : ∀ (d k i : Nat) (out : List ByteArray) (last : List Int), Rng last → last.length ≤ 31 → chk d last = true → i + d = n → 2 * d + 2101 ≤ k → out.length ≤ i →
    offshootref04_Row.l0 k n out (strOfNums last) i = some (out ++ (rowk d last).map strOfNums)
  | 0, k, i, out, last, _, _, _, hi, hk, ho => by
    obtain ⟨k, rfl⟩ : ∃ m, k = m + 2 := ⟨k - 2, by omega⟩
    simp only [offshootref04_Row.l0]
    rw [if_neg (by omega)]
    simp [rowk, offshootref04_Row.j1]
  | d + 1, k, i, out, last, hr, hl, hc, hi, hk, ho => by
    obtain ⟨k, rfl⟩ : ∃ m, k = m + 2 := ⟨k - 2, by omega⟩
    obtain ⟨b1, b2, b3, b4⟩ := chk_step hr hc
    simp only [offshootref04_Row.l0]
    rw [if_pos (by omega), decide_eq_true (by omega)]
    simp only [offshootref04_Row.j1, if_true]
    have hs : (strOfNums last).size ≤ 1000 := by rw [← nm_len, nm_str last hr]; omega
    rw [ref_between_at (by omega) _ _ hs (by show (0 : Nat) ≤ _; omega), nm_str last hr, empty_nm, b1]
    simp only [Option.bind_some, ans, if_true]
    rw [if_pos (by omega), show wrap64 ((i : Int) + 1) = ((i + 1 : Nat) : Int) from by rw [w64] <;> omega]
    rw [ref_row_loop n hn d k (i + 1) _ (nxt last) b2 b3 b4 (by omega) (by omega) (by simp; omega)]
    simp [rowk]
theorem ref_row_at {k : Nat} (hk : 3000 ≤ k) (n : Int) : offshootref04_Row.f k n = some ((rows n).map strOfNums) := by
  unfold offshootref04_Row.f rows
  by_cases c : 0 ≤ n ∧ n ≤ 400
  · rw [if_pos c]
    have := ref_row_loop n.toNat (by omega) n.toNat k 0 [] [] (fun _ h => by cases h) (by simp) (chk_at (400 - n.toNat) _ (by omega)) (by omega) (by omega) (by simp)
    rw [show ((n.toNat : Nat) : Int) = n from by omega, show strOfNums [] = (⟨#[]⟩ : ByteArray) from rfl] at this
    simpa using this
  · obtain ⟨k, rfl⟩ : ∃ m, k = m + 2 := ⟨k - 2, by omega⟩
    rw [if_neg c]
    simp only [offshootref04_Row.l0]
    by_cases c' : 0 < n
    · rw [if_pos c', decide_eq_false (by omega)]
      simp [offshootref04_Row.j1]
    · rw [if_neg c']
      simp [offshootref04_Row.j1]
end Go.Proofs.Ytpfnkibhpjoahaa.Kit
