/- This text proves: the step laws and the plain functions that the walks of this claim stand on. No condition beyond those that each theorem names. -/
import Derived.Test.YtgehghoammpiaaaGreatDoorGy9
namespace Go.Gx
/-! ## JarRight: the plain law -/
def wellL (l : List Ck) (next : Int) : Prop := (∀ c ∈ l, (isM c.created ∧ isM c.used) ∧ 0 ≤ c.no ∧ c.no < next) ∧ l.Pairwise (fun a c => keyEq a c = false ∧ a.no ≠ c.no)
theorem wellL.sub {l m : List Ck} {next : Int} (h : wellL l next) (hs : m.Sublist l) : wellL m next := ⟨fun c hc => h.1 c (hs.subset hc), h.2.sublist hs⟩
theorem wellL.le {l : List Ck} {n m : Int} (h : wellL l n) (hn : n ≤ m) : wellL l m := ⟨fun c hc => ⟨(h.1 c hc).1, (h.1 c hc).2.1, Int.lt_of_lt_of_le (h.1 c hc).2.2 hn⟩, h.2⟩
theorem evictN_sub (most : Int) (q : Ck → Bool) : ∀ (n : Nat) (l : List Ck), (evictN most q n l).Sublist l
  | 0, l => List.Sublist.refl l
  | n + 1, l => by
    unfold evictN
    split
    · exact List.Sublist.refl l
    · exact (evictN_sub most q n _).trans (List.eraseIdx_sublist ..)
theorem evictL_sub (most : Int) (q : Ck → Bool) (l : List Ck) : (evictL most q l).Sublist l := evictN_sub most q _ l
theorem idxT_count (q : Ck → Bool) (l : List Ck) : ∀ s, s ≤ l.length → (idxT q l s).length = ((l.take s).filter q).length
  | 0, _ => by simp [idxT]
  | s + 1, h => by
    obtain ⟨v, hv⟩ := get_lt (l := l) (i := s) (by omega)
    have ih := idxT_count q l s (by omega)
    rw [take_snoc hv, List.filter_append, List.length_append]
    simp only [idxT, addL, getD_of_get hv]
    cases hq : q v
    · simp [hq, ih]
    · simp [hq, ih]
theorem idxL_count (q : Ck → Bool) (l : List Ck) : (idxL q l).length = (l.filter q).length := by
  have h := idxT_count q l l.length (Nat.le_refl _)
  rw [List.take_length] at h; exact h
theorem evictL_le {most : Int} {q : Ck → Bool} (h0 : 0 ≤ most) : ∀ (n : Nat) (l : List Ck), l.length ≤ n → ((idxL q (evictL most q l)).length : Int) ≤ most
  | 0, l, h => by
    have : l = [] := List.length_eq_zero_iff.1 (by omega)
    subst this
    exact h0
  | n + 1, l, h => by
    by_cases hm : ((idxL q l).length : Int) ≤ most
    · rw [evictL_stop hm]; exact hm
    · have hlt := leastI_lt h0 hm
      rw [evictL_step h0 hm]
      exact evictL_le h0 n _ (by rw [List.length_eraseIdx_of_lt (by omega)]; omega)
theorem keyEq_iff {a b : Ck} : keyEq a b = true ↔ a.name = b.name ∧ a.domain = b.domain ∧ a.path = b.path := by simp [keyEq]
theorem fidx_spec {α : Type} {p : α → Bool} {l : List α} (h : fidx p l ≥ 0) : ∃ (i : Nat) (v : α), fidx p l = i ∧ l[i]? = some v ∧ p v = true := by
  unfold fidx at h ⊢
  cases hf : l.findIdx? p with
  | none => rw [hf] at h; simp at h
  | some i =>
    rw [List.findIdx?_eq_some_iff_getElem] at hf
    obtain ⟨hlt, h1, _⟩ := hf
    exact ⟨i, l[i], rfl, List.getElem?_eq_getElem hlt, h1⟩
theorem fidx_neg {α : Type} {p : α → Bool} {l : List α} (h : ¬ fidx p l ≥ 0) : ∀ v ∈ l, p v = false := by
  have h1 := fidx_any p l
  rw [decide_eq_false h] at h1
  intro v hv
  cases hp : p v with
  | false => rfl
  | true => exact absurd (List.any_eq_true.2 ⟨v, hv, hp⟩) (by rw [← h1]; simp)
/-- A cookie is laid in the place of one with its key. -/
theorem wellL.set {l : List Ck} {next : Int} {i : Nat} {v u : Ck} (h : wellL l next) (hv : l[i]? = some v) (hk : keyEq v u = true) (hn : u.no = v.no) (hm : isM u.created ∧ isM u.used) : wellL (l.set i u) next := by
  obtain ⟨h1, h2⟩ := h
  have hvm := List.mem_of_getElem? hv
  refine ⟨?_, ?_⟩
  · intro c hc
    rcases List.mem_or_eq_of_mem_set hc with hc | rfl
    · exact h1 c hc
    · exact ⟨hm, by rw [hn]; exact (h1 v hvm).2⟩
  · rw [List.pairwise_iff_getElem] at h2 ⊢
    have hlt := (List.getElem?_eq_some_iff.1 hv).1
    have hvi : l[i] = v := (List.getElem?_eq_some_iff.1 hv).2
    have k1 : ∀ a, keyEq a v = keyEq a u := by
      intro a; obtain ⟨e1, e2, e3⟩ := keyEq_iff.1 hk; simp [keyEq, e1, e2, e3]
    have k2 : ∀ a, keyEq v a = keyEq u a := by
      intro a; obtain ⟨e1, e2, e3⟩ := keyEq_iff.1 hk; simp [keyEq, e1, e2, e3]
    intro a b ha hb hab
    rw [List.length_set] at ha hb
    have h3 := h2 a b ha hb hab
    rw [List.getElem_set, List.getElem_set]
    split
    · rename_i e; subst e
      split
      · omega
      · rw [hvi] at h3; rw [← k2, hn]; exact h3
    · split
      · rename_i e; subst e
        rw [hvi] at h3; rw [← k1, hn]; exact h3
      · exact h3
theorem wellL.snoc {l : List Ck} {next : Int} {c : Ck} (h : wellL l next) (h0 : 0 ≤ next) (hk : ∀ v ∈ l, keyEq v c = false) (hm : isM c.created ∧ isM c.used) : wellL (l ++ [{ c with no := next }]) (next + 1) := by
  obtain ⟨h1, h2⟩ := h
  refine ⟨?_, ?_⟩
  · intro a ha
    rcases List.mem_append.1 ha with ha | ha
    · exact (wellL.le ⟨h1, h2⟩ (by omega)).1 a ha
    · simp at ha; subst ha; exact ⟨hm, h0, by show next < next + 1; omega⟩
  · rw [List.pairwise_append]
    refine ⟨h2, by simp, fun a ha b hb => ?_⟩
    simp at hb; subst hb
    exact ⟨hk a ha, by have := (h1 a ha).2.2; simp only; omega⟩
theorem layL_well {l : List Ck} {next : Int} {c : Ck} (h : wellL l next) (h0 : 0 ≤ next) (hm : isM c.created ∧ isM c.used) : wellL (layL l next c) (layN l next c) := by
  unfold layL layN
  split
  · rename_i hi
    obtain ⟨i, v, e, hv, hk⟩ := fidx_spec hi
    have e1 : (atI c l).toNat = i := by unfold atI; rw [e]; rfl
    rw [e1, getD_of_get hv]
    exact h.set hv (by rw [keyEq_iff] at hk ⊢; exact hk) rfl ⟨(h.1 v (List.mem_of_getElem? hv)).1.1, hm.2⟩
  · rename_i hi
    exact h.snoc h0 (fidx_neg hi) hm
theorem filter_set_other {q : Ck → Bool} : ∀ {l : List Ck} {i : Nat} {v u : Ck}, l[i]? = some v → q v = false → q u = false → ((l.set i u).filter q).length = (l.filter q).length
  | a :: l, 0, v, u, hv, h1, h2 => by
    simp only [List.getElem?_cons_zero, Option.some.injEq] at hv
    subst hv
    simp [h1, h2]
  | a :: l, i + 1, v, u, hv, h1, h2 => by
    have ih := filter_set_other (l := l) (i := i) (v := v) (u := u) (by simpa using hv) h1 h2
    simp only [List.set_cons_succ, List.filter_cons]
    split <;> simp [ih]
  | [], i, v, u, hv, h1, h2 => by simp at hv
theorem layL_other {l : List Ck} {next : Int} {c : Ck} {d : List UInt8} (hd : c.domain ≠ d) : ((layL l next c).filter (fun a => decide (a.domain = d))).length = (l.filter (fun a => decide (a.domain = d))).length := by
  unfold layL
  split
  · rename_i hi
    obtain ⟨i, v, e, hv, hk⟩ := fidx_spec hi
    have e1 : (atI c l).toNat = i := by unfold atI; rw [e]; rfl
    rw [e1, getD_of_get hv]
    exact filter_set_other hv (decide_eq_false (by rw [(keyEq_iff.1 hk).2.1]; exact hd)) (decide_eq_false hd)
  · rw [List.filter_append]; simp [hd]
theorem putL_well {j : Ja} {c : Ck} {now : Int} (h : jarErr j = 0) (hm : isM c.created ∧ isM c.used) : wellL (putL j c now) (layN (liveL now j.cks) j.next c) ∧ (∀ x ∈ putL j c now, x.expiry > now) ∧ (putL j c now).length ≤ 12 ∧ ∀ d, ((putL j c now).filter (fun a => decide (a.domain = d))).length ≤ 4 := by
  obtain ⟨h1, ⟨h2, h3, h4⟩, h5, h6⟩ := jarErr_iff.1 h
  have w1 : wellL (liveL now j.cks) j.next := wellL.sub ⟨h2, h3⟩ List.filter_sublist
  have w2 := layL_well w1 h5 hm
  have s3 : (liveL now (layL (liveL now j.cks) j.next c)).Sublist (layL (liveL now j.cks) j.next c) := List.filter_sublist
  have s4 := evictL_sub 4 (fun x => decide (x.domain = c.domain)) (liveL now (layL (liveL now j.cks) j.next c))
  have s5 := evictL_sub 12 (fun _ => true) (evictL 4 (fun x => decide (x.domain = c.domain)) (liveL now (layL (liveL now j.cks) j.next c)))
  have s : (putL j c now).Sublist (layL (liveL now j.cks) j.next c) := s5.trans (s4.trans s3)
  refine ⟨w2.sub s, ?_, ?_, ?_⟩
  · intro x hx
    have := (s5.trans s4).subset hx
    unfold liveL at this
    have := (List.mem_filter.1 this).2
    simpa using this
  · have h7 := evictL_le (most := 12) (q := fun _ => true) (by decide) _ (evictL 4 (fun x => decide (x.domain = c.domain)) (liveL now (layL (liveL now j.cks) j.next c))) (Nat.le_refl _)
    rw [idxL_count, List.filter_eq_self.2 (fun _ _ => rfl)] at h7
    have : ((putL j c now).length : Int) ≤ 12 := h7
    omega
  · intro d
    by_cases hd : c.domain = d
    · subst hd
      have h7 := evictL_le (most := 4) (q := fun x => decide (x.domain = c.domain)) (by decide) _ (liveL now (layL (liveL now j.cks) j.next c)) (Nat.le_refl _)
      rw [idxL_count] at h7
      have := (s5.filter (fun x => decide (x.domain = c.domain))).length_le
      unfold putL
      omega
    · have e := layL_other (l := liveL now j.cks) (next := j.next) hd
      have a1 := (s.filter (fun x => decide (x.domain = d))).length_le
      have a2 := ((List.filter_sublist (p := fun v => !(!decide (v.expiry > now))) (l := j.cks)).filter (fun x => decide (x.domain = d))).length_le
      have a3 := h4 d
      unfold liveL at e a1
      omega
theorem layN_next (l : List Ck) (n : Int) (c : Ck) : n ≤ layN l n c ∧ layN l n c ≤ n + 1 := by unfold layN; split <;> omega
theorem putJ_right {j : Ja} {c : Ck} {now : Int} (h : putE j c now = 0) : jarErr (putJ j c now) = 0 ∧ (∀ x ∈ (putJ j c now).cks, x.expiry > now) ∧ j.next ≤ (putJ j c now).next ∧ (putJ j c now).next ≤ j.next + 1 := by
  have e : putJ j c now = ⟨putL j c now, layN (liveL now j.cks) j.next c⟩ := if_neg (by rw [h]; simp)
  rw [e]
  have h0 : jarErr j = 0 := by
    unfold putE at h
    split at h
    · exact h
    · rename_i h1; exact Decidable.not_not.1 h1
  have hm : (isM c.created ∧ isM c.used) ∧ j.next ≠ 1099511627776 := by
    unfold putE at h
    rw [if_neg (fun k => k h0)] at h
    split at h
    · omega
    · rename_i h1
      split at h
      · omega
      · rename_i h2
        rw [not_or] at h1
        exact ⟨Decidable.not_not.1 h1.2, h2⟩
  obtain ⟨w1, w2, w3, w4⟩ := putL_well (now := now) h0 hm.1
  obtain ⟨h1, _, h5, h6⟩ := jarErr_iff.1 h0
  have hn := layN_next (liveL now j.cks) j.next c
  refine ⟨jarErr_iff.2 ⟨w3, ⟨w1.1, w1.2, w4⟩, by simp only; omega, by simp only; omega⟩, w2, hn⟩
theorem putJ_bad {j : Ja} {c : Ck} {now : Int} (h : putE j c now ≠ 0) : putJ j c now = ⟨[], 0⟩ := if_pos h
def Ck.fits (c : Ck) : Prop := c.ok ∧ c.path.length ≤ 1073741824
theorem layL_fits {l : List Ck} {next : Int} {c : Ck} (h : ∀ x ∈ l, x.fits) (hc : c.fits) : ∀ x ∈ layL l next c, x.fits := by
  intro x hx
  unfold layL at hx
  split at hx
  · rcases List.mem_or_eq_of_mem_set hx with hx | rfl
    · exact h x hx
    · exact hc
  · rcases List.mem_append.1 hx with hx | hx
    · exact h x hx
    · simp at hx; subst hx; exact hc
theorem putJ_ok {j : Ja} {c : Ck} {now : Int} (hj : j.ok) (hc : c.fits) : (putJ j c now).ok := by
  by_cases h : putE j c now = 0
  · have hr := putJ_right h
    obtain ⟨h1, ⟨h2, _⟩, h5, h6⟩ := jarErr_iff.1 hr.1
    refine ⟨by omega, ?_⟩
    have e : (putJ j c now).cks = putL j c now := by unfold putJ; rw [if_neg (by rw [h]; simp)]
    have hf : ∀ x ∈ (putJ j c now).cks, x.fits := by
      intro x hx
      rw [e] at hx
      have hs : (putL j c now).Sublist (layL (liveL now j.cks) j.next c) := (evictL_sub 12 _ _).trans ((evictL_sub 4 _ _).trans List.filter_sublist)
      exact layL_fits (fun y hy => ⟨hj.2.1 y (List.mem_filter.1 hy).1, (hj.2.2 y (List.mem_filter.1 hy).1).1⟩) hc x (hs.subset hx)
    exact ⟨fun x hx => (hf x hx).1, fun x hx => ⟨(hf x hx).2, by have := (h2 x hx).2; omega, by have := (h2 x hx).2; omega⟩⟩
  · rw [putJ_bad h]
    exact ⟨by simp, by simp, by simp⟩
end Go.Gx
