/- This text proves: the step laws and the plain functions that the walks of this claim stand on. No condition beyond those that each theorem names. -/
import Derived.Test.YtgehghoammpiaaaGreatDoorGz3
namespace Go.Gx
section
variable {P : Program} {W0 : World} {N : Nat} {E : List (Nat × Value)} {H : List Res} {d ty : Nat} {pos : String} {aft : Array Edge} {x : Operand}
/-- l[:j] of a slice that is only read. -/
theorem y_slinTo {α : Type} {l : List α} {t e : TypeId} {ad : Addr} {c sz : Nat} {j : Int} {kk : IntKind} {u : Operand} (hT : elemT P t e = true) (hs : sizeT P e sz = true) (hx : ev E x = some (.slice (some ad) l.length c)) (hu : ev E u = some (.int kk j)) (h0 : 0 ≤ j) (h1 : j ≤ l.length) (hc : l.length ≤ c) :
    Yl P W0 N E H ⟨some d, .slice t x none (some u) none, ty, pos, aft, none⟩ (.slice (some ad) (l.take j.toNat).length c) := by
  intro a w ha
  have hut := run_underlying (w := w) (under_of_elemT hT)
  have hadd : ad.add 0 = ad := by simp [Addr.add]
  have h2 : j ≤ c := by omega
  have h3 : (l.take j.toNat).length = j.toNat := by rw [List.length_take]; omega
  rw [h3]
  simp only [execOp, ha.eval hx]
  simp [Instr.sliceAt, Instr.slice, hut, run_sizeOf hs, Instr.sliceBounds, Instr.sliceBound, asIntOf, ha.eval hu, h0, h2, hadd]
/-- l[i:] of a slice that is only read. -/
theorem y_slinFrom {α : Type} {l : List α} {t e : TypeId} {ad : Addr} {c sz : Nat} {i : Int} {kk : IntKind} {u : Operand} (hT : elemT P t e = true) (hs : sizeT P e sz = true) (hx : ev E x = some (.slice (some ad) l.length c)) (hu : ev E u = some (.int kk i)) (h0 : 0 ≤ i) (h1 : i ≤ l.length) (hc : l.length ≤ c) :
    Yl P W0 N E H ⟨some d, .slice t x (some u) none none, ty, pos, aft, none⟩ (.slice (some (if c = i.toNat then ad else ad.add (i.toNat * sz))) (l.drop i.toNat).length (c - i.toNat)) := by
  intro a w ha
  have hut := run_underlying (w := w) (under_of_elemT hT)
  have h3 : (l.drop i.toNat).length = l.length - i.toNat := List.length_drop ..
  rw [h3]
  have hadd : ad.add 0 = ad := by simp [Addr.add]
  simp only [execOp, ha.eval hx]
  by_cases hne : c = i.toNat
  · simp [Instr.sliceAt, Instr.slice, hut, run_sizeOf hs, Instr.sliceBounds, Instr.sliceBound, asIntOf, ha.eval hu, h0, h1, hne, hadd]
  · simp [Instr.sliceAt, Instr.slice, hut, run_sizeOf hs, Instr.sliceBounds, Instr.sliceBound, asIntOf, ha.eval hu, h0, h1, hne, hadd]
end
theorem Sl.take {α : Type} {f : α → List Value} {sz n : Nat} {W : World} {A : Option Addr} {l : List α} (h : Sl f sz W A l) : Sl f sz W A (l.take n) := by
  intro i x hi
  have hlt := (List.getElem?_eq_some_iff.1 hi).1
  rw [List.length_take] at hlt
  rw [List.getElem?_take_of_lt (by omega)] at hi
  exact h i x hi
theorem Sl.drop {α : Type} {f : α → List Value} {sz n c : Nat} {W : World} {ad : Addr} {l : List α} (h : Sl f sz W (some ad) l) (hc : l.length ≤ c) : Sl f sz W (some (if c = n then ad else ad.add (n * sz))) (l.drop n) := by
  intro i x hi
  rw [List.getElem?_drop] at hi
  have hlt := (List.getElem?_eq_some_iff.1 hi).1
  obtain ⟨ad', e, hel⟩ := h (n + i) x hi
  cases e
  refine ⟨_, rfl, ?_⟩
  rw [if_neg (by omega), add_add, ← Nat.add_mul]
  exact hel
theorem row_cap {W0 w : World} {H : List Res} {k n c sz : Nat} {A : Option Addr} {e : TypeId} {xs : List Value} (hm : Mem W0 H w) (hk : H[k]? = some (.row (.slice A n c) e sz n xs)) : n ≤ c := by
  have hrow : w.ownsRow W0.heap.size e sz (.slice A n c) n xs := hm.res _ (mem_of_get hk)
  rcases hrow.2 with ⟨hv, _⟩ | ⟨g, cap, cur, hv, h⟩
  · cases hv; exact Nat.le_refl _
  · cases hv
    obtain ⟨h1, h2⟩ := h
    first | omega | (have := h2.1; omega) | (simp at h1; omega)
/-! ## The jar's laws in the document's words: what they answer -/
section
variable {j : Ja} {l : List Ck} {s : Nat} {v c : Ck} {now : Int} {q : Ck → Bool}
theorem chk_3 (hv : j.cks[s]? = some v) (h : ¬(isM v.created ∧ isM v.used)) : ckAt j s = 3 := by
  unfold ckAt; rw [getD_of_get hv]; exact if_pos h
theorem chk_4 (hv : j.cks[s]? = some v) (hm : isM v.created ∧ isM v.used) (h : v.no < 0 ∨ v.no ≥ j.next) : ckAt j s = 4 := by
  unfold ckAt; rw [getD_of_get hv]; exact ckE_4 hm h
theorem chk_6 {i : Nat} {u : Ck} (hv : j.cks[s]? = some v) (hm : isM v.created ∧ isM v.used) (h : ¬(v.no < 0 ∨ v.no ≥ j.next)) (hi : i < s) (hu : j.cks[i]? = some u) (hk : keyEq u v = true ∨ u.no = v.no) : ckAt j s = 6 := by
  unfold ckAt; rw [getD_of_get hv]
  have hmem : u ∈ j.cks.take s := List.mem_of_getElem? (i := i) (by rw [List.getElem?_take_of_lt hi]; exact hu)
  refine ckE_6 hm h ?_
  rcases hk with hk | hk
  · exact .inl (List.any_eq_true.2 ⟨u, hmem, hk⟩)
  · exact .inr (List.any_eq_true.2 ⟨u, hmem, decide_eq_true hk⟩)
theorem chk_per (hI : ∀ i, i < s → ckAt j i = 0) (hs : s ≤ j.cks.length) (d : List UInt8) : ((j.cks.take s).filter (fun a => decide (a.domain = d))).length ≤ 4 := ((rightL_take (l := j.cks) (next := j.next) s hs).1 hI).2.2 d
theorem chk_2 {n : Nat} (hv : j.cks[s]? = some v) (hm : isM v.created ∧ isM v.used) (h : ¬(v.no < 0 ∨ v.no ≥ j.next)) (hall : ∀ i, i < s → ∀ u, j.cks[i]? = some u → keyEq u v = false ∧ u.no ≠ v.no) (hn : n = 1 + ((j.cks.take s).filter (fun a => decide (a.domain = v.domain))).length) (h4 : (n : Int) > 4) (hI : ∀ i, i < s → ckAt j i = 0) : ckAt j s = 2 := by
  have hlt := (List.getElem?_eq_some_iff.1 hv).1
  have hp := chk_per hI (by omega) v.domain
  unfold ckAt; rw [getD_of_get hv]
  have hno : ¬ (((j.cks.take s).any (fun a => keyEq a v) = true) ∨ ((j.cks.take s).any (fun a => decide (a.no = v.no)) = true)) := by
    rintro (h1 | h1)
    · obtain ⟨u, hu, hk⟩ := List.any_eq_true.1 h1
      obtain ⟨i, hi⟩ := List.mem_iff_getElem?.1 hu
      have hi2 := (List.getElem?_eq_some_iff.1 hi).1
      rw [List.length_take] at hi2
      rw [List.getElem?_take_of_lt (by omega)] at hi
      rw [(hall i (by omega) u hi).1] at hk; cases hk
    · obtain ⟨u, hu, hk⟩ := List.any_eq_true.1 h1
      obtain ⟨i, hi⟩ := List.mem_iff_getElem?.1 hu
      have hi2 := (List.getElem?_eq_some_iff.1 hi).1
      rw [List.length_take] at hi2
      rw [List.getElem?_take_of_lt (by omega)] at hi
      exact (hall i (by omega) u hi).2 (of_decide_eq_true hk)
  unfold ckE
  rw [if_neg (fun k => k hm), if_neg h, if_neg hno, if_pos (by omega)]
theorem chk_0 {n : Nat} (hv : j.cks[s]? = some v) (hm : isM v.created ∧ isM v.used) (h : ¬(v.no < 0 ∨ v.no ≥ j.next)) (hall : ∀ i, i < s → ∀ u, j.cks[i]? = some u → keyEq u v = false ∧ u.no ≠ v.no) (hn : n = 1 + ((j.cks.take s).filter (fun a => decide (a.domain = v.domain))).length) (h4 : ¬(n : Int) > 4) : ckAt j s = 0 := by
  unfold ckAt; rw [getD_of_get hv]
  refine ckE_iff.2 ⟨hm, by omega, ?_, by omega⟩
  intro u hu
  obtain ⟨i, hi⟩ := List.mem_iff_getElem?.1 hu
  have hi2 := (List.getElem?_eq_some_iff.1 hi).1
  rw [List.length_take] at hi2
  rw [List.getElem?_take_of_lt (by omega)] at hi
  exact hall i (by omega) u hi
theorem jarErr_ck {x : Int} (h12 : ¬(j.cks.length : Int) > 12) (hI : ∀ i, i < s → ckAt j i = 0) (hlt : s < j.cks.length) (h : ckAt j s = x) (hx : x ≠ 0) : jarErr j = x := by
  have h1 : firstE (ckAt j) j.cks.length = x := by rw [firstE_at hI (by rw [h]; exact hx) hlt, h]
  unfold jarErr
  rw [if_neg h12, h1, if_pos hx]
theorem liveL_yes (hv : l[s]? = some v) (h : v.expiry > now) : liveL now (l.take (s + 1)) = liveL now (l.take s) ++ [v] := by
  rw [take_snoc hv]; simp [liveL, h]
theorem liveL_no (hv : l[s]? = some v) (h : ¬ v.expiry > now) : liveL now (l.take (s + 1)) = liveL now (l.take s) := by
  rw [take_snoc hv]; simp [liveL]; omega
/-! ### Who was used least -/
def qU (b : Bool) (d : List UInt8) : Ck → Bool := fun x => b || decide (x.domain = d)
def atT (q : Ck → Bool) (l : List Ck) (s : Nat) : Int := if idxT q l s = [] then -1 else minF (useF l) (idxT q l s)
def atU (q : Ck → Bool) (l : List Ck) : Int := atT q l l.length
theorem idxT_no (hv : l[s]? = some v) (hq : q v = false) : idxT q l (s + 1) = idxT q l s := by
  simp only [idxT, addL, getD_of_get hv, hq]; rfl
theorem idxT_yes (hv : l[s]? = some v) (hq : q v = true) : idxT q l (s + 1) = idxT q l s ++ [(s : Int)] := by
  simp only [idxT, addL, getD_of_get hv, hq]; rfl
theorem atT_no (hv : l[s]? = some v) (hq : q v = false) : atT q l (s + 1) = atT q l s := by unfold atT; rw [idxT_no hv hq]
theorem atT_spec (h : ¬ atT q l s < 0) (hs : s ≤ l.length) : ∃ u, l[(atT q l s).toNat]? = some u := by
  unfold atT at h ⊢
  split at h
  · omega
  · rename_i hne
    rw [if_neg hne]
    obtain ⟨i, h1, h2, _⟩ := idxT_mem.1 (minF_mem (f := useF l) hne)
    rw [h2]
    exact get_lt (show i < l.length by omega)
theorem atT_neg (h : atT q l s < 0) (hs : s ≤ l.length) : idxT q l s = [] := by
  refine Classical.byContradiction fun hne => ?_
  unfold atT at h
  rw [if_neg hne] at h
  obtain ⟨i, h1, h2, _⟩ := idxT_mem.1 (minF_mem (f := useF l) hne)
  omega
theorem atT_take (hv : l[s]? = some v) (hq : q v = true) (h : atT q l s < 0 ∨ ∃ u, l[(atT q l s).toNat]? = some u ∧ uLt v u) : atT q l (s + 1) = s := by
  have hlt := (List.getElem?_eq_some_iff.1 hv).1
  have e := idxT_yes hv hq
  have hne : idxT q l (s + 1) ≠ [] := by rw [e]; simp
  unfold atT; rw [if_neg hne, e]
  by_cases h0 : idxT q l s = []
  · rw [h0]; rfl
  · rw [minF_snoc h0]
    rcases h with h | ⟨u, hu, h⟩
    · exact absurd (atT_neg h (by omega)) h0
    · have e2 : atT q l s = minF (useF l) (idxT q l s) := if_neg h0
      rw [e2] at hu
      rw [if_pos ((useF_lt l s _).2 (by rw [show ((s : Int)).toNat = s from rfl, getD_of_get hv, getD_of_get hu]; exact h))]
theorem atT_stay {u : Ck} (hv : l[s]? = some v) (hq : q v = true) (h : ¬ atT q l s < 0) (hu : l[(atT q l s).toNat]? = some u) (hn : ¬ uLt v u) : atT q l (s + 1) = atT q l s := by
  have e := idxT_yes hv hq
  have hne : idxT q l (s + 1) ≠ [] := by rw [e]; simp
  have h0 : idxT q l s ≠ [] := by
    intro h0; unfold atT at h; rw [if_pos h0] at h; omega
  have e2 : atT q l s = minF (useF l) (idxT q l s) := if_neg h0
  rw [e2] at hu ⊢
  unfold atT; rw [if_neg hne, e, minF_snoc h0]
  rw [if_neg (fun k => hn (by have := (useF_lt l s _).1 k; rw [show ((s : Int)).toNat = s from rfl, getD_of_get hv, getD_of_get hu] at this; exact this))]
theorem atU_least {most : Int} (h0 : 0 ≤ most) (h : ¬ ((idxL q l).length : Int) ≤ most) : atU q l = leastI q l := by
  unfold atU atT leastI idxL
  rw [if_neg]
  intro e
  unfold idxL at h
  rw [e] at h
  simp at h; omega
/-! ### Put, in the document's words -/
def PutI (L1 : List Ck) (n : Int) (c : Ck) (s : Nat) (b : Bool) (u : Ck) (L : List Ck) : Prop :=
  (b = false ∧ u = c ∧ L = L1 ∧ ∀ i, i < s → ∀ x, L1[i]? = some x → keyEq x c = false) ∨ (b = true ∧ u = laidC L1 n c ∧ L = layL L1 n c ∧ ∃ (i : Nat) (x : Ck), i < s ∧ L1[i]? = some x ∧ keyEq x c = true)
end
section
variable {L1 L : List Ck} {n n2 : Int} {c u v : Ck} {s : Nat} {b : Bool}
theorem PutI.start : PutI L1 n c 0 false c L1 := .inl ⟨rfl, rfl, rfl, fun i hi => by omega⟩
theorem atI_at {i : Nat} {x : Ck} (h : wellL L1 n2) (hx : L1[i]? = some x) (hk : keyEq x c = true) : atI c L1 = i := by
  obtain ⟨k, y, e, hy, hky⟩ := fidx_spec (atI_ge (List.mem_of_getElem? hx) hk)
  have := h.key hy hx (keyEq_trans hky (by rw [keyEq_comm]; exact hk))
  subst this; exact e
theorem PutI.len (h : PutI L1 n c s b u L) : L.length = L1.length := by
  rcases h with ⟨_, _, rfl, _⟩ | ⟨_, _, rfl, i, x, _, hx, hk⟩
  · rfl
  · unfold layL; rw [if_pos (atI_ge (List.mem_of_getElem? hx) hk), List.length_set]
theorem PutI.dom (h : PutI L1 n c s b u L) : u.domain = c.domain := by
  rcases h with ⟨_, rfl, _⟩ | ⟨_, rfl, _⟩
  · rfl
  · unfold laidC; split <;> rfl
theorem PutI.key (h : PutI L1 n c s b u L) (x : Ck) : keyEq x u = keyEq x c := by
  rcases h with ⟨_, rfl, _⟩ | ⟨_, rfl, _⟩
  · rfl
  · unfold laidC; split <;> rfl
theorem PutI.no (h : PutI L1 n c s b u L) (hv : L[s]? = some v) (hk : keyEq v u = false) : PutI L1 n c (s + 1) b u L := by
  have hk2 := h.key v
  rw [hk] at hk2
  rcases h with ⟨h1, h2, h3, h4⟩ | ⟨h1, h2, h3, i, x, hi, hx, hkx⟩
  · refine .inl ⟨h1, h2, h3, fun i hi x hx => ?_⟩
    rcases Nat.lt_or_ge i s with h5 | h5
    · exact h4 i h5 x hx
    · have : i = s := by omega
      subst this
      subst h3
      rw [hv] at hx; cases hx; exact hk2.symm
  · exact .inr ⟨h1, h2, h3, i, x, by omega, hx, hkx⟩
theorem PutI.yes (hw : wellL L1 n2) (h : PutI L1 n c s b u L) (hv : L[s]? = some v) (hk : keyEq v u = true) : PutI L1 n c (s + 1) true { u with created := v.created, no := v.no } (L.set s { u with created := v.created, no := v.no }) := by
  have hk2 := h.key v
  rw [hk] at hk2
  rcases h with ⟨h1, h2, h3, h4⟩ | ⟨h1, h2, h3, i, x, hi, hx, hkx⟩
  · subst h2; subst h3
    have e := atI_at hw hv hk
    have hg : atI u L ≥ 0 := by rw [e]; omega
    have e2 : (atI u L).toNat = s := by rw [e]; rfl
    refine .inr ⟨rfl, ?_, ?_, s, v, by omega, hv, hk⟩
    · unfold laidC; rw [if_pos hg, e2, getD_of_get hv]
    · unfold layL; rw [if_pos hg, e2, getD_of_get hv]
  · exfalso
    subst h3
    have e := atI_at hw hx hkx
    have hg : atI c L1 ≥ 0 := by rw [e]; omega
    have e2 : (atI c L1).toNat = i := by rw [e]; rfl
    unfold layL at hv
    rw [if_pos hg, e2, List.getElem?_set_ne (by omega)] at hv
    have := hw.key hx hv (keyEq_trans hkx (by rw [keyEq_comm]; exact hk2.symm))
    omega
theorem PutI.end_yes (h : PutI L1 n c s true u L) : L = layL L1 n c ∧ layN L1 n c = n := by
  rcases h with ⟨h1, _⟩ | ⟨_, h2, h3, i, x, hi, hx, hkx⟩
  · cases h1
  · refine ⟨h3, ?_⟩
    unfold layN; rw [if_pos (atI_ge (List.mem_of_getElem? hx) hkx)]
theorem PutI.end_no (h : PutI L1 n c s false u L) (hs : L1.length ≤ s) : L ++ [{ u with no := n }] = layL L1 n c ∧ layN L1 n c = n + 1 := by
  rcases h with ⟨_, rfl, rfl, h4⟩ | ⟨h1, _⟩
  · have hg : ¬ atI u L ≥ 0 := by
      intro hg
      obtain ⟨i, x, _, hx, hk⟩ := fidx_spec hg
      have hlt := (List.getElem?_eq_some_iff.1 hx).1
      have := h4 i (by omega) x hx
      have hk : keyEq x u = true := hk
      rw [this] at hk; cases hk
    unfold layL layN
    rw [if_neg hg, if_neg hg]
    exact ⟨rfl, rfl⟩
  · cases h1
theorem atU_stop {most : Int} {q : Ck → Bool} {L3 : List Ck} (hI : evictL most q L = evictL most q L3) (h : ¬ ((idxL q L).length : Int) > most) : L = evictL most q L3 := by
  rw [← hI, evictL_stop (by omega)]
end
end Go.Gx
