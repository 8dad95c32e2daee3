/- This text proves: the step laws and the plain functions that the walks of this claim stand on. No condition beyond those that each theorem names. -/
import Derived.Test.YtgehghoammpiaaaGreatDoorGz5
namespace Go.Gx
/-! ## Texts in the document's words -/
theorem ibF_at {b : UInt8} : ∀ {l : List UInt8} {s : Nat}, (∀ j, j < s → ∀ u, l[j]? = some u → u ≠ b) → l[s]? = some b → ibF l b = s
  | [], s, _, h => by simp at h
  | c :: r, 0, _, h => by
    simp only [List.getElem?_cons_zero, Option.some.injEq] at h
    rw [ibF_cons, if_pos h]; rfl
  | c :: r, s + 1, hI, h => by
    have hc : c ≠ b := hI 0 (by omega) c rfl
    have ih := ibF_at (l := r) (s := s) (fun j hj u hu => hI (j + 1) (by omega) u (by simpa using hu)) (by simpa using h)
    rw [ibF_cons, if_neg hc, ih, if_neg (by omega)]; rfl
theorem ibF_none {b : UInt8} : ∀ {l : List UInt8}, (∀ u ∈ l, u ≠ b) → ibF l b = -1
  | [], _ => by
    have h := ib_range [] b
    simp at h; omega
  | c :: r, hI => by
    have ih := ibF_none (l := r) (fun u hu => hI u (by simp [hu]))
    rw [ibF_cons, if_neg (hI c (by simp)), ih]; rfl
theorem all_get {α : Type} {l : List α} {p : α → Prop} {n : Nat} (h : ∀ j, j < n → ∀ u, l[j]? = some u → p u) (hn : l.length ≤ n) : ∀ u ∈ l, p u := by
  intro u hu
  obtain ⟨i, hi⟩ := List.mem_iff_getElem?.1 hu
  have := (List.getElem?_eq_some_iff.1 hi).1
  exact h i (by omega) u hi
theorem bad_iff {c : UInt8} : badB c = true ↔ ((c.toNat : Int) ≤ 8 ∨ ((c.toNat : Int) ≥ 10 ∧ (c.toNat : Int) ≤ 31) ∨ (c.toNat : Int) = 127) := by
  unfold badB; rw [decide_eq_true_eq]; omega
theorem partsB_none {b : UInt8} : ∀ {l : List UInt8}, (∀ u ∈ l, u ≠ b) → partsB b l = [l]
  | [], _ => rfl
  | c :: r, h => by
    have ih := partsB_none (l := r) (fun u hu => h u (by simp [hu]))
    unfold partsB
    rw [if_neg (h c (by simp)), ih]
theorem partsB_last {b : UInt8} : ∀ {l : List UInt8} {i : Nat}, l[i]? = some b → (∀ u ∈ l.drop (i + 1), u ≠ b) → partsB b l = partsB b (l.take i) ++ [l.drop (i + 1)]
  | [], i, h, _ => by simp at h
  | c :: r, 0, h, hn => by
    simp only [List.getElem?_cons_zero, Option.some.injEq] at h
    subst h
    have := partsB_none (l := r) (b := c) (by simpa using hn)
    unfold partsB
    rw [if_pos rfl, this]; rfl
  | c :: r, i + 1, h, hn => by
    have ih := partsB_last (l := r) (i := i) (by simpa using h) (by simpa using hn)
    have hne := partsB_ne b (r.take i)
    rw [List.take_succ_cons]
    unfold partsB
    rw [ih]
    split
    · rfl
    · cases hp : partsB b (r.take i) with
      | nil => exact absurd hp hne
      | cons p ps => simp
theorem outB_iff {c : UInt8} : outB c = true ↔ ¬(97 ≤ c.toNat ∧ c.toNat ≤ 122) ∧ ¬(48 ≤ c.toNat ∧ c.toNat ≤ 57) ∧ c.toNat ≠ 45 := by
  unfold outB outer
  rw [Bool.and_eq_true, decide_eq_true_eq, Bool.not_eq_true', decide_eq_false_iff_not]
  omega
theorem labelF_bad {l : List UInt8} (h : (l.length : Int) < 1 ∨ (l.length : Int) > 63 ∨ ((l.getD (0 : Int).toNat 0).toNat : Int) = 45 ∨ ((l.getD ((l.length : Int) - 1).toNat 0).toNat : Int) = 45) : labelF l = false := by
  unfold labelF
  split
  · rfl
  · rename_i h0
    have hl : 0 < l.length := List.length_pos_iff.2 h0
    split
    · rfl
    · split
      · rfl
      · rename_i h2
        split
        · rfl
        · rename_i h3
          exfalso
          have o : ∀ c : UInt8, ¬((!outer c) = true) → c.toNat ≠ 45 := by
            intro c hc e
            apply hc
            unfold outer
            rw [Bool.not_eq_true', decide_eq_false_iff_not]; omega
          have o2 := o _ h2
          have o3 := o _ h3
          omega
theorem labelF_out {l : List UInt8} {v : UInt8} {s : Nat} (hv : l[s]? = some v) (h : outB v = true) : labelF l = false := by
  have ha : l.any outB = true := List.any_eq_true.2 ⟨v, List.mem_of_getElem? hv, h⟩
  unfold labelF
  repeat' split
  all_goals first | rfl | (rw [ha]; rfl)
theorem labelF_ok {l : List UInt8} (h1 : ¬(l.length : Int) < 1) (h2 : ¬(l.length : Int) > 63) (h3 : ¬((l.getD (0 : Int).toNat 0).toNat : Int) = 45) (h4 : ¬((l.getD ((l.length : Int) - 1).toNat 0).toNat : Int) = 45) (hI : ∀ u ∈ l, outB u = false) : labelF l = true := by
  have hl : 0 < l.length := by omega
  have mem : ∀ i, i < l.length → l.getD i 0 ∈ l := by
    intro i hi
    obtain ⟨v, hv⟩ := get_lt hi
    rw [getD_of_get hv]; exact List.mem_of_getElem? hv
  have o : ∀ c : UInt8, c ∈ l → c.toNat ≠ 45 → ¬((!outer c) = true) := by
    intro c hc hn ho
    have := hI c hc
    unfold outB at this
    rw [ho, Bool.true_and, decide_eq_false_iff_not] at this
    omega
  unfold labelF
  have o1 := o (l.getD (0 : Int).toNat 0) (mem 0 hl) (fun e => h3 (by rw [e]; rfl))
  have o2 := o _ (mem ((l.length : Int) - 1).toNat (by omega)) (fun e => h4 (by rw [e]; rfl))
  rw [if_neg (by intro e; rw [e] at hl; simp at hl), if_neg h2, if_neg o1, if_neg o2]
  rw [Bool.not_eq_true', List.any_eq_false]
  intro c hc
  rw [hI c hc]; simp
theorem suf_drop {h d : List UInt8} {n : Nat} (hn : n ≤ h.length) (hd : h.drop n = d) : h.take n ++ d = h := by rw [← hd, List.take_append_drop]
theorem matchF_short {ad : List UInt8 → Bool} {h d : List UInt8} (hn : (h.length : Int) - (d.length : Int) < 0) : matchF ad h d = false := by
  unfold matchF
  have h1 : h ≠ d := by intro e; rw [e] at hn; omega
  have h2 : ¬ ((46 :: d) <:+ h) := by intro e; have := e.length_le; simp at this; omega
  rw [decide_eq_false h1, decide_eq_false h2]; simp
theorem matchF_other {ad : List UInt8 → Bool} {h d : List UInt8} (hn : ¬(h.length : Int) - (d.length : Int) < 0) (hd : h.drop ((h.length : Int) - (d.length : Int)).toNat ≠ d) : matchF ad h d = false := by
  unfold matchF
  have h1 : h ≠ d := by intro e; apply hd; rw [e]; simp
  have h2 : ¬ ((46 :: d) <:+ h) := by
    rintro ⟨t, ht⟩
    apply hd
    have hl : h.length = t.length + (d.length + 1) := by rw [← ht]; simp
    rw [show ((h.length : Int) - (d.length : Int)).toNat = t.length + 1 by omega, ← ht, List.drop_append]
    simp
  rw [decide_eq_false h1, decide_eq_false h2]; simp
theorem matchF_same {ad : List UInt8 → Bool} {h d : List UInt8} (hd : h.drop ((h.length : Int) - (d.length : Int)).toNat = d) (h0 : (h.length : Int) - (d.length : Int) = 0) : matchF ad h d = true := by
  rw [h0] at hd
  have : h = d := hd
  unfold matchF; rw [decide_eq_true this, Bool.true_or]
theorem matchF_more {ad : List UInt8 → Bool} {h d : List UInt8} (hn : ¬(h.length : Int) - (d.length : Int) < 0) (hd : h.drop ((h.length : Int) - (d.length : Int)).toNat = d) (h0 : ¬(h.length : Int) - (d.length : Int) = 0) : matchF ad h d = (!(ad h) && decide (((h.getD ((h.length : Int) - (d.length : Int) - 1).toNat 0).toNat : Int) = 46)) := by
  have h1 : h ≠ d := by intro e; apply h0; rw [e]; omega
  unfold matchF; rw [decide_eq_false h1, Bool.false_or]
  congr 1
  apply decide_eq_decide.2
  have hlt : ((h.length : Int) - (d.length : Int) - 1).toNat < h.length := by omega
  obtain ⟨v, hv⟩ := get_lt hlt
  rw [getD_of_get hv]
  have e : h = h.take ((h.length : Int) - (d.length : Int) - 1).toNat ++ v :: d := by
    have hx := List.drop_eq_getElem_cons hlt
    rw [(List.getElem?_eq_some_iff.1 hv).2, show ((h.length : Int) - (d.length : Int) - 1).toNat + 1 = ((h.length : Int) - (d.length : Int)).toNat by omega, hd] at hx
    rw [← hx, List.take_append_drop]
  constructor
  · rintro ⟨t, ht⟩
    have hl : h.length = t.length + (d.length + 1) := by rw [← ht]; simp
    have h2 : ((h.length : Int) - (d.length : Int) - 1).toNat = t.length := by omega
    rw [h2, ← ht] at hv
    simp at hv
    rw [← hv]; rfl
  · intro h2
    have : v = 46 := UInt8.toNat.inj (by have : (46 : UInt8).toNat = 46 := rfl; omega)
    subst this
    exact ⟨_, e.symm⟩
theorem pathF_long {p q : List UInt8} (h : (q.length : Int) > (p.length : Int)) : pathF p q = false := by
  unfold pathF; rw [if_neg (fun k => by have := k.length_le; omega)]
theorem pre_take {p q : List UInt8} (h : p.take q.length = q) : q <+: p := by
  have e := List.take_append_drop q.length p
  rw [h] at e
  exact ⟨p.drop q.length, e⟩
theorem pathF_other {p q : List UInt8} (h : p.take q.length ≠ q) : pathF p q = false := by
  unfold pathF
  rw [if_neg (fun k => by obtain ⟨t, rfl⟩ := k; exact h (by simp))]
theorem pathF_same {p q : List UInt8} (h : p.take q.length = q) (he : (q.length : Int) = (p.length : Int)) : pathF p q = true := by
  unfold pathF
  rw [if_pos (pre_take h), if_pos (List.drop_eq_nil_of_le (by omega))]
theorem pathF_more {p q : List UInt8} (hl : ¬(q.length : Int) > (p.length : Int)) (h : p.take q.length = q) (he : ¬(q.length : Int) = (p.length : Int)) : pathF p q = ((decide ((q.length : Int) > 0) && decide (((q.getD ((q.length : Int) - 1).toNat 0).toNat : Int) = 47)) || decide (((p.getD (q.length : Int).toNat 0).toNat : Int) = 47)) := by
  unfold pathF
  have hd : p.drop q.length ≠ [] := by
    intro e; have := congrArg List.length e; rw [List.length_drop] at this; simp at this; omega
  rw [if_pos (pre_take h), if_neg hd]
  congr 1
  · rw [← Bool.decide_and]
    apply decide_eq_decide.2
    constructor
    · rintro ⟨t, rfl⟩
      refine ⟨by rw [List.length_append]; simp, ?_⟩
      have e1 : (((t ++ [47]).length : Int) - 1).toNat = t.length := by simp
      have e2 : (t ++ [47])[t.length]? = some (47 : UInt8) := by simp
      rw [e1, getD_of_get e2]; rfl
    · rintro ⟨h1, h2⟩
      obtain ⟨v, hv⟩ := get_lt (l := q) (i := ((q.length : Int) - 1).toNat) (by omega)
      rw [getD_of_get hv] at h2
      have : v = 47 := UInt8.toNat.inj (by have : (47 : UInt8).toNat = 47 := rfl; omega)
      subst this
      have hx := List.drop_eq_getElem_cons (List.getElem?_eq_some_iff.1 hv).1
      rw [(List.getElem?_eq_some_iff.1 hv).2, List.drop_eq_nil_of_le (show q.length ≤ ((q.length : Int) - 1).toNat + 1 by omega)] at hx
      exact ⟨q.take ((q.length : Int) - 1).toNat, by rw [← hx, List.take_append_drop]⟩
  · apply decide_eq_decide.2
    rw [show ((q.length : Int)).toNat = q.length from rfl]
    obtain ⟨v, hv⟩ := get_lt (l := p) (i := q.length) (by omega)
    have e1 : (p.drop q.length)[0]? = some v := by rw [List.getElem?_drop]; exact hv
    rw [getD_of_get hv, getD_of_get e1]
    constructor
    · rintro rfl; rfl
    · intro h2; exact UInt8.toNat.inj (by have : (47 : UInt8).toNat = 47 := rfl; omega)
/-! ## Sorting in the document's words -/
def aheadB (a b : Ck) (i k : Int) : Bool := decide (cmpS a b < 0 ∨ (cmpS a b = 0 ∧ i < k))
section
variable {α : Type} (f : α → α → Int) (d : α)
/-- How many of the first n stand ahead of the one at place i. -/
def rankL (l : List α) (n i : Nat) : Nat := ((List.range n).filter (fun k => decide (k ≠ i) && decide (f (l.getD k d) (l.getD i d) < 0 ∨ (f (l.getD k d) (l.getD i d) = 0 ∧ (k : Int) < (i : Int))))).length
structure Ord : Prop where
  neg : ∀ a b, f a b < 0 ↔ f b a > 0
  tr : ∀ a b c, ¬ f a b < 0 → ¬ f b c < 0 → ¬ f a c < 0
variable {f} {d}
def SortedL (f : α → α → Int) (p : List α) : Prop := ∀ (i j : Nat) (x y : α), i ≤ j → p[i]? = some x → p[j]? = some y → ¬ f y x < 0
theorem posI_spec (h : Ord f) {p : List α} (hs : SortedL f p) (x : α) : ∀ j, j ≤ p.length → (∀ i y, i < posI f d p x j → p[i]? = some y → ¬ f x y < 0) ∧ (∀ i y, posI f d p x j ≤ i → i < j → p[i]? = some y → f x y < 0)
  | 0, _ => ⟨fun i y hi => by simp [posI] at hi, fun i y _ hi => by omega⟩
  | j + 1, hj => by
    obtain ⟨v, hv⟩ := get_lt (l := p) (i := j) (by omega)
    unfold posI
    rw [getD_of_get hv]
    split
    · rename_i hlt
      obtain ⟨h1, h2⟩ := posI_spec h hs x j (by omega)
      refine ⟨h1, fun i y hi hij hy => ?_⟩
      rcases Nat.lt_or_ge i j with h3 | h3
      · exact h2 i y hi h3 hy
      · have : i = j := by omega
        subst this; rw [hv] at hy; cases hy; exact hlt
    · rename_i hge
      refine ⟨fun i y hi hy => ?_, fun i y hi hij => by omega⟩
      exact h.tr x v y hge (hs i j y v (by omega) hy hv)
theorem insI_at {p : List α} {x : α} {n : Nat} (hn : n = posI f d p x p.length) : (insI f d p x)[n]? = some x ∧ (∀ i, i < n → (insI f d p x)[i]? = p[i]?) ∧ ∀ i, n ≤ i → (insI f d p x)[i + 1]? = p[i]? := by
  have hle := posI_le f d p x p.length
  unfold insI
  rw [← hn] at hle ⊢
  have h1 : (p.take n).length = n := by rw [List.length_take]; omega
  refine ⟨?_, fun i hi => ?_, fun i hi => ?_⟩
  · rw [List.getElem?_append_right (by omega), h1]; simp
  · rw [List.getElem?_append_left (by omega), List.getElem?_take_of_lt hi]
  · rw [List.getElem?_append_right (by omega), h1, show i + 1 - n = (i - n) + 1 by omega, List.getElem?_cons_succ, List.getElem?_drop, show n + (i - n) = i by omega]
theorem insI_sorted (h : Ord f) {p : List α} (hs : SortedL f p) (x : α) : SortedL f (insI f d p x) := by
  obtain ⟨g1, g2⟩ := posI_spec (d := d) h hs x p.length (Nat.le_refl _)
  obtain ⟨e1, e2, e3⟩ := insI_at (f := f) (d := d) (p := p) (x := x) rfl
  have irr : ∀ a, ¬ f a a < 0 := fun a ha => by have := (h.neg a a).1 ha; omega
  intro i j a b hij ha hb
  rcases Nat.lt_trichotomy i (posI f d p x p.length) with hi | hi | hi
  · rw [e2 i hi] at ha
    rcases Nat.lt_trichotomy j (posI f d p x p.length) with hj | hj | hj
    · rw [e2 j hj] at hb; exact hs i j a b hij ha hb
    · rw [hj, e1] at hb; cases hb; exact g1 i a hi ha
    · obtain ⟨k, rfl⟩ : ∃ k, j = k + 1 := ⟨j - 1, by omega⟩
      rw [e3 k (by omega)] at hb; exact hs i k a b (by omega) ha hb
  · rw [hi, e1] at ha; cases ha
    rcases Nat.lt_trichotomy j (posI f d p x p.length) with hj | hj | hj
    · omega
    · rw [hj, e1] at hb; cases hb; exact irr _
    · obtain ⟨k, rfl⟩ : ∃ k, j = k + 1 := ⟨j - 1, by omega⟩
      rw [e3 k (by omega)] at hb
      have := g2 k b (by omega) (List.getElem?_eq_some_iff.1 hb).1 hb
      intro hba
      have := (h.neg _ _).1 hba; omega
  · obtain ⟨k, rfl⟩ : ∃ k, i = k + 1 := ⟨i - 1, by omega⟩
    obtain ⟨k2, rfl⟩ : ∃ k2, j = k2 + 1 := ⟨j - 1, by omega⟩
    rw [e3 k (by omega)] at ha
    rw [e3 k2 (by omega)] at hb
    exact hs k k2 a b (by omega) ha hb
theorem rank_self {l : List α} {s : Nat} : rankL f d l (s + 1) s = rankL f d l s s := by
  unfold rankL; rw [List.range_succ, List.filter_append]; simp
theorem rank_step {l : List α} {s i : Nat} (hi : i < s) : rankL f d l (s + 1) i = rankL f d l s i + (if f (l.getD s d) (l.getD i d) < 0 then 1 else 0) := by
  unfold rankL; rw [List.range_succ, List.filter_append, List.length_append]
  congr 1
  have h1 : ¬ ((s : Int) < (i : Int)) := by omega
  have h2 : s ≠ i := by omega
  simp only [List.filter_cons, List.filter_nil, h1, and_false, or_false, decide_eq_true h2, Bool.true_and]
  by_cases h3 : f (l.getD s d) (l.getD i d) < 0
  · rw [if_pos h3, decide_eq_true h3]; rfl
  · rw [if_neg h3, decide_eq_false h3]; rfl
theorem range_take {l : List α} : ∀ {s : Nat}, s ≤ l.length → (List.range s).map (fun k => l.getD k d) = l.take s
  | 0, _ => rfl
  | s + 1, h => by
    obtain ⟨v, hv⟩ := get_lt (l := l) (i := s) (by omega)
    rw [List.range_succ, List.map_append, range_take (s := s) (by omega), take_snoc hv, List.map_cons, getD_of_get hv]; rfl
theorem sortT_perm {l : List α} : ∀ {s : Nat}, s ≤ l.length → (sortT f d l s).Perm (l.take s)
  | 0, _ => by simp [sortT]
  | s + 1, h => by
    obtain ⟨v, hv⟩ := get_lt (l := l) (i := s) (by omega)
    have ih := sortT_perm (l := l) (s := s) (by omega)
    rw [take_snoc hv, sortT, getD_of_get hv]
    unfold insI
    refine List.perm_middle.trans ?_
    rw [List.take_append_drop]
    exact ((List.perm_append_singleton v _).trans (List.Perm.cons v ih.symm)).symm
theorem rank_own (h : Ord f) {l : List α} {s : Nat} (hs : s ≤ l.length) : rankL f d l s s = ((l.take s).filter (fun y => decide (¬ f (l.getD s d) y < 0))).length := by
  rw [← range_take (d := d) hs, List.filter_map, List.length_map]
  unfold rankL
  congr 1
  apply List.filter_congr
  intro k hk
  have hk := List.mem_range.1 hk
  have h1 : k ≠ s := by omega
  have h2 : (k : Int) < (s : Int) := by omega
  simp only [Function.comp, decide_eq_true h1, Bool.true_and, h2, and_true]
  apply decide_eq_decide.2
  have := h.neg (l.getD s d) (l.getD k d)
  omega
theorem pos_count {p : List α} {x : α} {n : Nat} (hn : n ≤ p.length) (h1 : ∀ i y, i < n → p[i]? = some y → ¬ f x y < 0) (h2 : ∀ i y, n ≤ i → p[i]? = some y → f x y < 0) : (p.filter (fun y => decide (¬ f x y < 0))).length = n := by
  have e := List.take_append_drop n p
  conv => lhs; rw [← e]
  rw [List.filter_append, List.length_append]
  have g1 : (p.take n).filter (fun y => decide (¬ f x y < 0)) = p.take n := List.filter_eq_self.2 (fun y hy => by
    obtain ⟨i, hi⟩ := List.mem_iff_getElem?.1 hy
    have hlt := (List.getElem?_eq_some_iff.1 hi).1
    rw [List.length_take] at hlt
    rw [List.getElem?_take_of_lt (by omega)] at hi
    exact decide_eq_true (h1 i y (by omega) hi))
  have g2 : (p.drop n).filter (fun y => decide (¬ f x y < 0)) = [] := List.filter_eq_nil_iff.2 (fun y hy => by
    obtain ⟨i, hi⟩ := List.mem_iff_getElem?.1 hy
    rw [List.getElem?_drop] at hi
    simp [h2 (n + i) y (by omega) hi])
  rw [g1, g2, List.length_take]; simp; omega
/-- What is sorted: each one stands where as many stand ahead of it. -/
theorem sortT_rank (h : Ord f) {l : List α} : ∀ s, s ≤ l.length → SortedL f (sortT f d l s) ∧ (∀ i, i < s → (sortT f d l s)[rankL f d l s i]? = some (l.getD i d)) ∧ ∀ j, j < s → ∃ i, i < s ∧ rankL f d l s i = j
  | 0, _ => ⟨fun i j x y _ hx => by simp [sortT] at hx, fun i hi => by omega, fun j hj => by omega⟩
  | s + 1, hs => by
    obtain ⟨ih1, ih2, ih3⟩ := sortT_rank h (l := l) s (by omega)
    have hlen := sortT_len f d l s
    have g := posI_spec (d := d) h ih1 (l.getD s d) (sortT f d l s).length (Nat.le_refl _)
    obtain ⟨e1, e2, e3⟩ := insI_at (f := f) (d := d) (p := sortT f d l s) (x := l.getD s d) rfl
    have hle := posI_le f d (sortT f d l s) (l.getD s d) (sortT f d l s).length
    have hown : rankL f d l (s + 1) s = posI f d (sortT f d l s) (l.getD s d) (sortT f d l s).length := by
      rw [rank_self, rank_own h (by omega), ← (sortT_perm (f := f) (d := d) (l := l) (s := s) (by omega)).filter _ |>.length_eq]
      exact pos_count hle g.1 (fun i y hi hy => g.2 i y hi (List.getElem?_eq_some_iff.1 hy).1 hy)
    generalize posI f d (sortT f d l s) (l.getD s d) (sortT f d l s).length = pos at *
    have hin : ∀ i, i < s → (rankL f d l s i < pos ↔ ¬ f (l.getD s d) (l.getD i d) < 0) := by
      intro i hi
      have hx := ih2 i hi
      have hlt := (List.getElem?_eq_some_iff.1 hx).1
      constructor
      · exact fun h1 => g.1 _ _ h1 hx
      · intro h1
        rcases Nat.lt_or_ge (rankL f d l s i) pos with h2 | h2
        · exact h2
        · exact absurd (g.2 _ _ h2 hlt hx) h1
    have hst : ∀ i, i < s → f (l.getD s d) (l.getD i d) < 0 → rankL f d l (s + 1) i = rankL f d l s i + 1 ∧ pos ≤ rankL f d l s i := by
      intro i hi hf
      refine ⟨by rw [rank_step hi, if_pos hf], ?_⟩
      have := hin i hi
      omega
    have hst2 : ∀ i, i < s → ¬ f (l.getD s d) (l.getD i d) < 0 → rankL f d l (s + 1) i = rankL f d l s i ∧ rankL f d l s i < pos := by
      intro i hi hf
      exact ⟨by rw [rank_step hi, if_neg hf]; rfl, (hin i hi).2 hf⟩
    refine ⟨insI_sorted h ih1 _, ?_, ?_⟩
    · intro i hi
      rw [sortT]
      rcases Nat.lt_or_ge i s with h1 | h1
      · by_cases hf : f (l.getD s d) (l.getD i d) < 0
        · obtain ⟨h2, h3⟩ := hst i h1 hf
          rw [h2, e3 _ h3]; exact ih2 i h1
        · obtain ⟨h2, h3⟩ := hst2 i h1 hf
          rw [h2, e2 _ h3]; exact ih2 i h1
      · have : i = s := by omega
        subst this
        rw [hown]; exact e1
    · intro j hj
      rcases Nat.lt_trichotomy j pos with h1 | h1 | h1
      · obtain ⟨i, hi, hr⟩ := ih3 j (by omega)
        have hf : ¬ f (l.getD s d) (l.getD i d) < 0 := (hin i hi).1 (by omega)
        exact ⟨i, by omega, by rw [(hst2 i hi hf).1]; exact hr⟩
      · exact ⟨s, by omega, by rw [hown]; exact h1.symm⟩
      · obtain ⟨i, hi, hr⟩ := ih3 (j - 1) (by omega)
        have hf : f (l.getD s d) (l.getD i d) < 0 := by
          have := hin i hi
          refine Classical.byContradiction fun hc => ?_
          have := this.2 hc; omega
        exact ⟨i, by omega, by rw [(hst i hi hf).1]; omega⟩
end
theorem or3_neg (p q r s t u : Int) : orF [cmpF p q, cmpF r s, cmpF t u] < 0 ↔ p < q ∨ (p = q ∧ (r < s ∨ (r = s ∧ t < u))) := by
  simp only [orF, cmpF]
  repeat' split
  all_goals omega
theorem or3_pos (p q r s t u : Int) : orF [cmpF p q, cmpF r s, cmpF t u] > 0 ↔ q < p ∨ (q = p ∧ (s < r ∨ (s = r ∧ u < t))) := by
  simp only [orF, cmpF]
  repeat' split
  all_goals omega
theorem cmpS_ord : Ord cmpS := by
  constructor
  · intro a b
    unfold cmpS
    rw [or3_neg, or3_pos]
  · intro a b c
    unfold cmpS
    rw [or3_neg, or3_neg, or3_neg]
    omega
def outS (l : List Ck) : Nat → List Ck
  | 0 => l
  | s + 1 => (outS l s).set (rankL cmpS .none_ l l.length s) (l.getD s .none_)
theorem outS_len (l : List Ck) : ∀ s, (outS l s).length = l.length
  | 0 => rfl
  | s + 1 => by rw [outS, List.length_set, outS_len l s]
theorem rank_lt {l : List Ck} {i : Nat} (hi : i < l.length) : rankL cmpS .none_ l l.length i < l.length := by
  have h := (sortT_rank (d := Ck.none_) cmpS_ord (l := l) l.length (Nat.le_refl _)).2.1 i hi
  have := (List.getElem?_eq_some_iff.1 h).1
  rwa [sortT_len] at this
theorem outS_at {l : List Ck} : ∀ s, s ≤ l.length → ∀ i, i < s → (outS l s)[rankL cmpS .none_ l l.length i]? = some (l.getD i .none_)
  | 0, _, i, hi => by omega
  | s + 1, hs, i, hi => by
    have hr := (sortT_rank (d := Ck.none_) cmpS_ord (l := l) l.length (Nat.le_refl _)).2.1
    have hl := outS_len l s
    rw [outS]
    by_cases he : rankL cmpS .none_ l l.length s = rankL cmpS .none_ l l.length i
    · have h1 := hr s (by omega)
      have h2 := hr i (by omega)
      rw [he, h2] at h1
      rw [he, List.getElem?_set_self (by rw [hl]; exact rank_lt (by omega))]
      exact h1.symm
    · rw [List.getElem?_set_ne he]
      have : i ≠ s := by intro e; subst e; exact he rfl
      exact outS_at s (by omega) i (by omega)
theorem outS_end (l : List Ck) : outS l l.length = sortC l := by
  obtain ⟨_, h2, h3⟩ := sortT_rank (d := Ck.none_) cmpS_ord (l := l) l.length (Nat.le_refl _)
  have hl := outS_len l l.length
  have hl2 := sortL_len cmpS Ck.none_ l
  apply List.ext_getElem?
  intro j
  rcases Nat.lt_or_ge j l.length with hj | hj
  · obtain ⟨i, hi, hr⟩ := h3 j hj
    rw [← hr, outS_at l.length (Nat.le_refl _) i hi]
    exact (h2 i hi).symm
  · rw [List.getElem?_eq_none (by omega), List.getElem?_eq_none (by unfold sortC; omega)]
end Go.Gx
