/- The plain mathematics of layer 4 (frac): keys as lists of numbers, their order, and the key that is made between two. -/
import Derived.Test.YtpfnkibhpjoahaaWMore
import Derived.Lib.Bytes
namespace Go.Proofs.Ytpfnkibhpjoahaa.Math
open Go.RowKit Go.Proofs.YtpfnkibhpjoahaaW.PrintWords Go.Proofs.YtpfnkibhpjoahaaW.PrintMore

/-! ### A text as its bytes' numbers -/
def nm (s : ByteArray) : List Int := s.data.toList.map fun b => (b.toNat : Int)
theorem toList_data (s : ByteArray) : s.toList = s.data.toList := ByteArray.toList_eq s
theorem nm_len (s : ByteArray) : (nm s).length = s.size := by
  simp only [nm, List.length_map, Array.length_toList]
  rfl
theorem nm_range (s : ByteArray) : ∀ x ∈ nm s, 0 ≤ x ∧ x < 256 := by
  intro x hx
  obtain ⟨b, _, rfl⟩ := List.mem_map.1 hx
  have := b.toNat_lt
  omega
theorem str_nm (s : ByteArray) : strOfNums (nm s) = s := by
  have := Lib.strOfNums_toList (nm s)
  apply ByteArray.ext
  apply Array.ext'
  rw [toList_data] at this
  rw [this]
  unfold Lib.bytesOf nm
  rw [List.map_map]
  conv => rhs; rw [← List.map_id s.data.toList]
  apply List.map_congr_left
  intro b _
  simp
theorem nm_str (l : List Int) (h : ∀ x ∈ l, 0 ≤ x ∧ x < 256) : nm (strOfNums l) = l := by
  have := Lib.strOfNums_toList l
  rw [toList_data] at this
  unfold nm
  rw [this]
  unfold Lib.bytesOf
  rw [List.map_map]
  conv => rhs; rw [← List.map_id l]
  apply List.map_congr_left
  intro x hx
  have := h x hx
  simp
  omega
theorem nm_inj {s t : ByteArray} (h : nm s = nm t) : s = t := by rw [← str_nm s, h, str_nm]
theorem nm_nil (s : ByteArray) : s.toList = [] ↔ nm s = [] := by rw [toList_data]; simp [nm]
theorem bt_nm (s : ByteArray) (i : Nat) : bt s (i : Int) = (nm s).getD i 0 := by
  unfold bt nm
  simp only [Int.toNat_natCast]
  split
  · rename_i h
    have h' : i < s.data.size := h
    rw [List.getD_eq_getElem?_getD, List.getElem?_map]
    rw [Array.getElem?_toList, Array.getElem?_eq_getElem h']
    rfl
  · rename_i h
    have h' : ¬ i < s.data.size := h
    rw [List.getD_eq_getElem?_getD, List.getElem?_map, Array.getElem?_toList, Array.getElem?_eq_none (by omega)]
    rfl

/-! ### The order -/
def lt : List Int → List Int → Bool
  | _, [] => false
  | [], _ :: _ => true
  | a :: x, b :: y => decide (a < b) || (a == b && lt x y)
theorem less_map : ∀ a b : List UInt8, Op.bytesLess a b = lt (a.map fun b => (b.toNat : Int)) (b.map fun b => (b.toNat : Int))
  | [], [] => rfl
  | [], _ :: _ => rfl
  | _ :: _, [] => rfl
  | a :: x, b :: y => by
    simp only [Op.bytesLess, List.map_cons, lt, less_map x y]
    congr 1
    · apply decide_eq_decide.2; exact ⟨fun h => by have : a.toNat < b.toNat := h; omega, fun h => by have : a.toNat < b.toNat := by omega
                                                                                                     exact this⟩
    · congr 1
      rw [Bool.eq_iff_iff]
      simp only [beq_iff_eq]
      exact ⟨fun h => by rw [h], fun h => UInt8.toNat_inj.mp (by omega)⟩
theorem less_nm (s t : ByteArray) : Op.bytesLess s.toList t.toList = lt (nm s) (nm t) := by rw [toList_data, toList_data]; exact less_map _ _
theorem lt_irrefl : ∀ a, lt a a = false
  | [] => rfl
  | a :: x => by simp [lt, lt_irrefl x]
theorem lt_trans : ∀ {a b c}, lt a b = true → lt b c = true → lt a c = true
  | _, _, [], _, h => by simp [lt] at h
  | _, [], _ :: _, h, _ => by cases ‹List Int› <;> simp [lt] at h
  | [], _ :: _, _ :: _, _, _ => rfl
  | a :: x, b :: y, c :: z, h, k => by
    simp only [lt, Bool.or_eq_true, decide_eq_true_eq, Bool.and_eq_true, beq_iff_eq] at h k ⊢
    rcases h with h | ⟨rfl, h⟩
    · rcases k with k | ⟨rfl, k⟩
      · left; omega
      · left; exact h
    · rcases k with k | ⟨rfl, k⟩
      · left; exact k
      · right; exact ⟨rfl, lt_trans h k⟩
theorem lt_asymm {a b : List Int} (h : lt a b = true) : lt b a = false := by
  cases h' : lt b a
  · rfl
  · have := lt_trans h h'; rw [lt_irrefl] at this; cases this
theorem lt_total : ∀ {a b}, lt a b = false → lt b a = false → a = b
  | [], [], _, _ => rfl
  | [], _ :: _, h, _ => by simp [lt] at h
  | _ :: _, [], _, h => by simp [lt] at h
  | a :: x, b :: y, h, k => by
    simp only [lt, Bool.or_eq_false_iff, decide_eq_false_iff_not, Bool.and_eq_false_iff, beq_eq_false_iff_ne] at h k
    have e : a = b := by omega
    subst e
    rw [lt_total (h.2.resolve_left (by simp)) (k.2.resolve_left (by simp))]

/-! ### The key -/
def key : Nat → List Int → List Int → Bool → Option (List Int)
  | 0, _, _, _ => none
  | d + 1, lo, _, false => if lo.headD 0 < 255 then some [lo.headD 0 + min ((256 - lo.headD 0) / 2) 8] else (key d lo.tail [] false).map (lo.headD 0 :: ·)
  | d + 1, lo, hi, true => if lo.headD 0 + 1 < hi.headD 0 then some [lo.headD 0 + (hi.headD 0 - lo.headD 0) / 2] else (key d lo.tail hi.tail (decide (hi.headD 0 ≤ lo.headD 0))).map (lo.headD 0 :: ·)

def Rng (l : List Int) : Prop := ∀ x ∈ l, 0 ≤ x ∧ x < 256
theorem Rng.tail {l : List Int} (h : Rng l) : Rng l.tail := fun x hx => h x (List.mem_of_mem_tail hx)
theorem Rng.head {l : List Int} (h : Rng l) : 0 ≤ l.headD 0 ∧ l.headD 0 < 256 := by
  cases l with
  | nil => simp
  | cons a l => simpa using h a (by simp)
/-- Not empty, the last one not nought. -/
def Tip (l : List Int) : Prop := ∃ a c, l = a ++ [c] ∧ c ≠ 0
theorem Tip.one {c : Int} (h : c ≠ 0) : Tip [c] := ⟨[], c, rfl, h⟩
theorem Tip.cons {l : List Int} (h : Tip l) (x : Int) : Tip (x :: l) := by
  obtain ⟨a, c, rfl, hc⟩ := h
  exact ⟨x :: a, c, rfl, hc⟩
theorem Tip.ne {l : List Int} (h : Tip l) : l ≠ [] := by obtain ⟨a, c, rfl, _⟩ := h; simp
theorem Tip.tail {x : Int} {l : List Int} (h : Tip (x :: l)) (hx : x = 0) : Tip l := by
  obtain ⟨a, c, e, hc⟩ := h
  cases a with
  | nil => simp at e; omega
  | cons b a => simp at e; exact ⟨a, c, e.2, hc⟩
theorem Tip.tail' {x : Int} {l : List Int} (h : Tip (x :: l)) (hl : l ≠ []) : Tip l := by
  obtain ⟨a, c, e, hc⟩ := h
  cases a with
  | nil => simp at e; exact absurd e.2 hl
  | cons b a => simp at e; exact ⟨a, c, e.2, hc⟩

theorem key_good : ∀ (d : Nat) (lo hi : List Int) (t : Bool) (r : List Int), Rng lo → Rng hi → key d lo hi t = some r → Rng r ∧ Tip r ∧ r.length ≤ d ∧ lt lo r = true
  | 0, _, _, _, _, _, _, h => by simp [key] at h
  | d + 1, lo, hi, false, r, hl, hh, h => by
    have h0 := hl.head
    simp only [key] at h
    split at h
    · rename_i c
      obtain rfl := Option.some.inj h
      refine ⟨fun x hx => ?_, Tip.one (by omega), by simp, ?_⟩
      · obtain rfl := List.mem_singleton.1 hx; omega
      · cases lo with
        | nil => rfl
        | cons a lo => simp [lt] at c h0 ⊢; omega
    · obtain ⟨r', hr, rfl⟩ := Option.map_eq_some_iff.1 h
      obtain ⟨g1, g2, g3, g4⟩ := key_good d lo.tail [] false r' hl.tail (fun _ hx => by cases hx) hr
      refine ⟨fun x hx => ?_, g2.cons _, by simp; omega, ?_⟩
      · rcases List.mem_cons.1 hx with rfl | hx
        · exact h0
        · exact g1 x hx
      · cases lo with
        | nil => rfl
        | cons a lo => simp [lt]; exact g4
  | d + 1, lo, hi, true, r, hl, hh, h => by
    have h0 := hl.head
    have h1 := hh.head
    simp only [key] at h
    split at h
    · rename_i c
      obtain rfl := Option.some.inj h
      refine ⟨fun x hx => ?_, Tip.one (by omega), by simp, ?_⟩
      · obtain rfl := List.mem_singleton.1 hx; omega
      · cases lo with
        | nil => rfl
        | cons a lo => simp [lt] at c h0 ⊢; omega
    · obtain ⟨r', hr, rfl⟩ := Option.map_eq_some_iff.1 h
      obtain ⟨g1, g2, g3, g4⟩ := key_good d lo.tail hi.tail _ r' hl.tail hh.tail hr
      refine ⟨fun x hx => ?_, g2.cons _, by simp; omega, ?_⟩
      · rcases List.mem_cons.1 hx with rfl | hx
        · exact h0
        · exact g1 x hx
      · cases lo with
        | nil => rfl
        | cons a lo => simp [lt]; exact g4

/-- What is known of the two heads while both ends hold. -/
theorem heads {lo hi : List Int} (hl : Rng lo) (hh : Rng hi) (he : Tip hi) (h : lt lo hi = true) : lo.headD 0 ≤ hi.headD 0 ∧ (lo.headD 0 = hi.headD 0 → Tip hi.tail ∧ lt lo.tail hi.tail = true) := by
  cases hi with
  | nil => exact absurd rfl he.ne
  | cons b hi =>
    have hb := hh.head
    cases lo with
    | nil =>
      simp at hb ⊢
      refine ⟨by omega, fun e => ?_⟩
      have := he.tail e.symm
      refine ⟨this, ?_⟩
      cases hi with
      | nil => exact absurd rfl this.ne
      | cons => rfl
    | cons a lo =>
      simp only [lt, Bool.or_eq_true, decide_eq_true_eq, Bool.and_eq_true, beq_iff_eq] at h
      simp
      refine ⟨by omega, fun e => ?_⟩
      have h2 := (h.resolve_left (by omega)).2
      refine ⟨he.tail' ?_, h2⟩
      rintro rfl
      cases lo <;> simp [lt] at h2

theorem key_below : ∀ (d : Nat) (lo hi r : List Int), Rng lo → Rng hi → Tip hi → lt lo hi = true → key d lo hi true = some r → lt r hi = true
  | 0, _, _, _, _, _, _, _, h => by simp [key] at h
  | d + 1, lo, hi, r, hl, hh, he, hlt, h => by
    have hd := heads hl hh he hlt
    have h0 := hl.head
    simp only [key] at h
    split at h
    · rename_i c
      obtain rfl := Option.some.inj h
      cases hi with
      | nil => exact absurd rfl he.ne
      | cons b hi => simp only [List.headD_cons] at c ⊢; simp only [lt, Bool.or_eq_true, decide_eq_true_eq]; left; omega
    · obtain ⟨r', hr, rfl⟩ := Option.map_eq_some_iff.1 h
      cases hi with
      | nil => exact absurd rfl he.ne
      | cons b hi =>
        have hd' : lo.headD 0 ≤ b ∧ (lo.headD 0 = b → Tip hi ∧ lt lo.tail hi = true) := hd
        clear hd
        have hd := hd'
        by_cases e : lo.headD 0 = b
        · obtain ⟨e1, e2⟩ := hd.2 e
          have z : decide ((b :: hi).headD 0 ≤ lo.headD 0) = true := decide_eq_true (by show b ≤ _; omega)
          rw [z] at hr
          have := key_below d lo.tail hi r' hl.tail hh.tail e1 e2 hr
          simp only [lt, Bool.or_eq_true, decide_eq_true_eq, Bool.and_eq_true, beq_iff_eq]; exact Or.inr ⟨e, this⟩
        · simp only [lt, Bool.or_eq_true, decide_eq_true_eq]; left; omega

theorem key_made : ∀ (d : Nat) (lo hi : List Int), lo.length < d → (∃ r, key d lo hi false = some r)
  | 0, _, _, h => by omega
  | d + 1, lo, hi, h => by
    simp only [key]
    split
    · exact ⟨_, rfl⟩
    · rename_i c
      obtain ⟨r, hr⟩ := key_made d lo.tail [] (by cases lo <;> simp at h c ⊢; omega)
      rw [hr]
      exact ⟨_, rfl⟩
theorem key_made2 : ∀ (d : Nat) (lo hi : List Int), Rng lo → Rng hi → Tip hi → lt lo hi = true → lo.length < d → hi.length < d → (∃ r, key d lo hi true = some r)
  | 0, _, _, _, _, _, _, h, _ => by omega
  | d + 1, lo, hi, hl, hh, he, hlt, h, h' => by
    have hd := heads hl hh he hlt
    have hn := List.length_pos_iff.2 he.ne
    simp only [key]
    split
    · exact ⟨_, rfl⟩
    · rename_i c
      have ht : lo.tail.length < d := by rw [List.length_tail]; omega
      have ht' : hi.tail.length < d := by rw [List.length_tail]; omega
      by_cases e : lo.headD 0 = hi.headD 0
      · obtain ⟨e1, e2⟩ := hd.2 e
        obtain ⟨r, hr⟩ := key_made2 d lo.tail hi.tail hl.tail hh.tail e1 e2 ht ht'
        rw [decide_eq_true (by omega), hr]
        exact ⟨_, rfl⟩
      · obtain ⟨r, hr⟩ := key_made d lo.tail hi.tail ht
        rw [decide_eq_false (by omega), hr]
        exact ⟨_, rfl⟩

/-! ### Right keys, and the key between two -/
def right (l : List Int) : Bool := !l.isEmpty && decide (l.length ≤ 32) && (l.getLastD 0 != 0)
def fine (l : List Int) : Bool := l.isEmpty || right l
def spanFine (lo hi : List Int) : Bool := fine lo && fine hi && (lo.isEmpty || hi.isEmpty || lt lo hi)
def betw (lo hi : List Int) : Option (List Int) := if spanFine lo hi = true then key 32 lo hi (!hi.isEmpty) else none
theorem right_ends {l : List Int} (h : right l = true) : Tip l ∧ l.length ≤ 32 := by
  simp only [right, Bool.and_eq_true, decide_eq_true_eq, bne_iff_ne, Bool.not_eq_true', List.isEmpty_eq_false_iff] at h
  obtain ⟨⟨h1, h2⟩, h3⟩ := h
  refine ⟨⟨l.dropLast, l.getLast h1, (List.dropLast_concat_getLast h1).symm, ?_⟩, h2⟩
  rwa [List.getLastD_eq_getLast?, List.getLast?_eq_some_getLast h1] at h3
theorem right_of {l : List Int} (h : Tip l) (h' : l.length ≤ 32) : right l = true := by
  obtain ⟨a, c, rfl, hc⟩ := h
  simp [right] at h' ⊢
  exact ⟨by omega, hc⟩
theorem lt_of_span {lo hi : List Int} (h : spanFine lo hi = true) (hh : hi ≠ []) : lt lo hi = true := by
  simp only [spanFine, Bool.and_eq_true, Bool.or_eq_true, List.isEmpty_iff] at h
  rcases h.2 with (rfl | h2) | h2
  · cases hi with
    | nil => exact absurd rfl hh
    | cons => rfl
  · exact absurd h2 hh
  · exact h2
theorem ends_of_span {lo hi : List Int} (h : spanFine lo hi = true) (hh : hi ≠ []) : Tip hi := by
  simp only [spanFine, fine, Bool.and_eq_true, Bool.or_eq_true, List.isEmpty_iff] at h
  exact (right_ends (h.1.2.resolve_left hh)).1
theorem betw_some {lo hi r : List Int} (hl : Rng lo) (hh : Rng hi) (h : betw lo hi = some r) : Rng r ∧ right r = true ∧ lt lo r = true ∧ (hi ≠ [] → lt r hi = true) := by
  unfold betw at h
  split at h
  · rename_i c
    obtain ⟨g1, g2, g3, g4⟩ := key_good 32 lo hi _ r hl hh h
    refine ⟨g1, right_of g2 g3, g4, fun hne => ?_⟩
    have : (!hi.isEmpty) = true := by simpa using hne
    rw [this] at h
    exact key_below 32 lo hi r hl hh (ends_of_span c hne) (lt_of_span c hne) h
  · cases h
theorem betw_none {lo hi : List Int} (hl : Rng lo) (hh : Rng hi) (hs : spanFine lo hi = true) (h : betw lo hi = none) : 32 ≤ lo.length ∨ 32 ≤ hi.length := by
  unfold betw at h
  rw [if_pos hs] at h
  by_cases c : lo.length < 32 ∧ hi.length < 32
  · by_cases hne : hi = []
    · subst hne
      obtain ⟨r, hr⟩ := key_made 32 lo [] c.1
      rw [show (!([] : List Int).isEmpty) = false from rfl, hr] at h
      cases h
    · have : (!hi.isEmpty) = true := by simpa using hne
      obtain ⟨r, hr⟩ := key_made2 32 lo hi hl hh (ends_of_span hs hne) (lt_of_span hs hne) c.1 c.2
      rw [this, hr] at h
      cases h
  · omega

/-! ### A row of keys -/
def nxt (l : List Int) : List Int := (betw l []).getD []
def rowk : Nat → List Int → List (List Int)
  | 0, _ => []
  | n + 1, l => nxt l :: rowk n (nxt l)
/-- From l on, n more keys can be made, each short. -/
def chk : Nat → List Int → Bool
  | 0, _ => true
  | n + 1, l => match betw l [] with
    | some r => decide (r.length ≤ 31) && chk n r
    | none => false
theorem chk_row : chk 400 [] = true := by decide +kernel
end Go.Proofs.Ytpfnkibhpjoahaa.Math
