/- This text proves: the step laws and the plain functions that the walks of this claim stand on. No condition beyond those that each theorem names. -/
import Derived.Test.YtgehghoammpiaaaGreatDoorGz2
namespace Go.Gx
/-! ## JarOnly: the plain law -/
theorem insI_mem {α : Type} {f : α → α → Int} {d : α} {p : List α} {y x : α} : x ∈ insI f d p y ↔ x = y ∨ x ∈ p := by
  unfold insI
  rw [List.mem_append, List.mem_cons]
  constructor
  · rintro (h | rfl | h)
    · exact .inr (List.mem_of_mem_take h)
    · exact .inl rfl
    · exact .inr (List.mem_of_mem_drop h)
  · rintro (rfl | h)
    · exact .inr (.inl rfl)
    · rw [← List.take_append_drop (posI f d p y p.length) p, List.mem_append] at h
      rcases h with h | h
      · exact .inl h
      · exact .inr (.inr h)
theorem sortT_mem {α : Type} {f : α → α → Int} {d : α} {l : List α} {x : α} : ∀ {s : Nat}, s ≤ l.length → (x ∈ sortT f d l s ↔ x ∈ l.take s)
  | 0, _ => by simp [sortT]
  | s + 1, h => by
    obtain ⟨v, hv⟩ := get_lt (l := l) (i := s) (by omega)
    rw [sortT, insI_mem, sortT_mem (s := s) (by omega), take_snoc hv, getD_of_get hv, List.mem_append, List.mem_singleton]
    exact Or.comm
theorem sortC_mem {l : List Ck} {x : Ck} : x ∈ sortC l ↔ x ∈ l := by
  unfold sortC sortL
  rw [sortT_mem (Nat.le_refl _), List.take_length]
section
variable {ad : List UInt8 → Bool} {j : Ja} {f : Fr} {now : Int}
theorem goesF_used (c : Ck) : goesF ad f now { c with used := now } = goesF ad f now c := rfl
theorem goesF_usedC (c : Ck) : goesF ad f now (usedC ad f now c) = goesF ad f now c := by unfold usedC; split <;> rfl
theorem usedC_usedC (c : Ck) : usedC ad f now (usedC ad f now c) = usedC ad f now c := by
  have h := goesF_usedC (ad := ad) (f := f) (now := now) c
  conv => lhs; unfold usedC
  rw [show goesF ad f now (if goesF ad f now c = true then { c with used := now } else c) = goesF ad f now c from h]
  unfold usedC
  by_cases hc : goesF ad f now c = true
  · rw [if_pos hc, if_pos hc]
  · rw [if_neg hc, if_neg hc]
theorem usedL_usedL (l : List Ck) : usedL ad f now (usedL ad f now l) = usedL ad f now l := by
  unfold usedL
  rw [List.map_map]
  exact List.map_congr_left (fun c _ => usedC_usedC c)
theorem toldL_usedL : ∀ l : List Ck, toldL ad f now (usedL ad f now l) = toldL ad f now l
  | [] => rfl
  | c :: l => by
    have ih := toldL_usedL l
    unfold toldL usedL at ih ⊢
    simp only [List.map_cons, List.filter_cons, goesF_usedC]
    by_cases hc : goesF ad f now c = true
    · rw [if_pos hc, if_pos hc, List.map_cons, List.map_cons, ih]
      congr 1
      unfold usedC; rw [if_pos hc]
    · rw [if_neg hc, if_neg hc, ih]
theorem rightL_used {l : List Ck} {next : Int} (hn : isM now) (h : rightL l next) : rightL (usedL ad f now l) next := by
  obtain ⟨h1, h2, h3⟩ := h
  have k : ∀ c, (usedC ad f now c).name = c.name ∧ (usedC ad f now c).domain = c.domain ∧ (usedC ad f now c).path = c.path ∧ (usedC ad f now c).no = c.no ∧ (usedC ad f now c).created = c.created := by
    intro c; unfold usedC; split <;> exact ⟨rfl, rfl, rfl, rfl, rfl⟩
  refine ⟨?_, ?_, ?_⟩
  · intro c hc
    obtain ⟨a, ha, rfl⟩ := List.mem_map.1 hc
    obtain ⟨⟨g1, g2⟩, g3⟩ := h1 a ha
    rw [(k a).2.2.2.1, (k a).2.2.2.2]
    refine ⟨⟨g1, ?_⟩, g3⟩
    unfold usedC; split
    · exact hn
    · exact g2
  · unfold usedL
    rw [List.pairwise_map]
    refine h2.imp (fun {a b} hab => ?_)
    unfold keyEq at hab ⊢
    rw [(k a).1, (k a).2.1, (k a).2.2.1, (k a).2.2.2.1, (k b).1, (k b).2.1, (k b).2.2.1, (k b).2.2.2.1]
    exact hab
  · intro d
    unfold usedL
    rw [List.filter_map, List.length_map]
    have : ((fun a => decide (a.domain = d)) ∘ usedC ad f now) = (fun a => decide (a.domain = d)) := by
      funext a; simp only [Function.comp, (k a).2.1]
    rw [this]
    exact h3 d
theorem getE_ok (h : getE j f now = 0) : jarErr j = 0 ∧ readyE f now = 0 ∧ getJ ad j f now = ⟨usedL ad f now j.cks, j.next⟩ ∧ getL ad j f now = sortC (toldL ad f now j.cks) := by
  refine ⟨?_, ?_, if_neg (by rw [h]; simp), if_neg (by rw [h]; simp)⟩
  · unfold getE at h; split at h
    · exact h
    · rename_i h1; exact Decidable.not_not.1 h1
  · unfold getE at h; split at h
    · rename_i h1; exact absurd h h1
    · exact h
theorem ready_isM (h : readyE f now = 0) : isM now := by
  unfold readyE at h
  refine Classical.byContradiction fun hn => ?_
  simp [hn] at h
  split at h <;> omega
theorem getJ_right (h : getE j f now = 0) : jarErr (getJ ad j f now) = 0 := by
  obtain ⟨h0, hr, e, _⟩ := getE_ok (ad := ad) h
  rw [e, jarErr_iff]
  obtain ⟨g1, g2, g3⟩ := jarErr_iff.1 h0
  exact ⟨by simp only [usedL, List.length_map]; exact g1, rightL_used (ready_isM hr) g2, g3⟩
theorem get_again (h : getE j f now = 0) : getE (getJ ad j f now) f now = 0 ∧ getJ ad (getJ ad j f now) f now = getJ ad j f now ∧ getL ad (getJ ad j f now) f now = getL ad j f now := by
  obtain ⟨h0, hr, e, el⟩ := getE_ok (ad := ad) h
  have h1 : getE (getJ ad j f now) f now = 0 := by
    unfold getE; rw [if_neg (fun k => k (getJ_right h))]; exact hr
  obtain ⟨_, _, e2, el2⟩ := getE_ok (ad := ad) h1
  refine ⟨h1, ?_, ?_⟩
  · rw [e2, e]; simp only [usedL_usedL]
  · rw [el2, el, e]; simp only [toldL_usedL]
theorem get_len (h : getE j f now = 0) : (getJ ad j f now).cks.length = j.cks.length := by
  rw [(getE_ok (ad := ad) h).2.2.1]; simp [usedL]
theorem get_at (h : getE j f now = 0) {i : Nat} {v : Ck} (hv : j.cks[i]? = some v) : (getJ ad j f now).cks[i]? = some (usedC ad f now v) := by
  rw [(getE_ok (ad := ad) h).2.2.1]; simp [usedL, hv]
theorem get_told (h : getE j f now = 0) {i : Nat} {v : Ck} (hv : j.cks[i]? = some v) : ((getL ad j f now).any (fun x => keyEq x v)) = goesF ad f now v := by
  obtain ⟨h0, hr, _, el⟩ := getE_ok (ad := ad) h
  rw [el]
  cases hg : goesF ad f now v with
  | true =>
    rw [List.any_eq_true]
    refine ⟨{ v with used := now }, sortC_mem.2 ?_, by simp [keyEq]⟩
    unfold toldL
    exact List.mem_map.2 ⟨v, List.mem_filter.2 ⟨List.mem_of_getElem? hv, hg⟩, rfl⟩
  | false =>
    rw [List.any_eq_false]
    intro x hx hk
    have hx := sortC_mem.1 hx
    unfold toldL at hx
    obtain ⟨u, hu, rfl⟩ := List.mem_map.1 hx
    obtain ⟨hu1, hu2⟩ := List.mem_filter.1 hu
    obtain ⟨k, hk2⟩ := List.mem_iff_getElem?.1 hu1
    obtain ⟨_, ⟨g2, g3, _⟩, _⟩ := jarErr_iff.1 h0
    have hk' : keyEq u v = true := hk
    have := wellL.key ⟨g2, g3⟩ hk2 hv hk'
    subst this
    rw [hv] at hk2
    have := Option.some.inj hk2
    subst this
    rw [hg] at hu2; cases hu2
theorem usedC_back (v : Ck) : { usedC ad f now v with used := v.used } = v := by
  unfold usedC; split <;> rfl
theorem usedC_same {v : Ck} (h : goesF ad f now v = false) : usedC ad f now v = v := by
  unfold usedC; rw [if_neg (by rw [h]; simp)]
theorem getJ_ok (hj : j.ok) : (getJ ad j f now).ok := by
  by_cases h : getE j f now = 0
  · rw [(getE_ok (ad := ad) h).2.2.1]
    have k : ∀ c, (usedC ad f now c).name = c.name ∧ (usedC ad f now c).domain = c.domain ∧ (usedC ad f now c).path = c.path ∧ (usedC ad f now c).no = c.no := by
      intro c; unfold usedC; split <;> exact ⟨rfl, rfl, rfl, rfl⟩
    refine ⟨by simp only [usedL, List.length_map]; exact hj.1, ?_, ?_⟩
    · intro c hc
      obtain ⟨a, ha, rfl⟩ := List.mem_map.1 hc
      unfold Ck.ok
      rw [(k a).1, (k a).2.1]; exact hj.2.1 a ha
    · intro c hc
      obtain ⟨a, ha, rfl⟩ := List.mem_map.1 hc
      rw [(k a).2.2.1, (k a).2.2.2]; exact hj.2.2 a ha
  · rw [show getJ ad j f now = ⟨[], 0⟩ from if_pos h]
    exact ⟨by simp, by simp, by simp⟩
theorem get_bad (h : getE j f now ≠ 0) : getJ ad j f now = ⟨[], 0⟩ ∧ getL ad j f now = [] := ⟨if_pos h, if_pos h⟩
end
end Go.Gx
