/- This text proves: the step laws and the plain functions that the walks of this claim stand on. No condition beyond those that each theorem names. -/
import Derived.Test.YtgehghoammpiaaaGreatDoorGy6
namespace Go.Gx
def getE (j : Ja) (f : Fr) (now : Int) : Int := if jarErr j ≠ 0 then jarErr j else readyE f now
def usedC (ad : List UInt8 → Bool) (f : Fr) (now : Int) (c : Ck) : Ck := if goesF ad f now c = true then { c with used := now } else c
def usedT (ad : List UInt8 → Bool) (f : Fr) (now : Int) (l : List Ck) (s : Nat) : List Ck := (l.take s).map (usedC ad f now) ++ l.drop s
def usedL (ad : List UInt8 → Bool) (f : Fr) (now : Int) (l : List Ck) : List Ck := l.map (usedC ad f now)
def toldL (ad : List UInt8 → Bool) (f : Fr) (now : Int) (l : List Ck) : List Ck := (l.filter (goesF ad f now)).map (fun c => { c with used := now })
def getJ (ad : List UInt8 → Bool) (j : Ja) (f : Fr) (now : Int) : Ja := if getE j f now ≠ 0 then ⟨[], 0⟩ else ⟨usedL ad f now j.cks, j.next⟩
def getL (ad : List UInt8 → Bool) (j : Ja) (f : Fr) (now : Int) : List Ck := if getE j f now ≠ 0 then [] else sortC (toldL ad f now j.cks)
section
variable {ad : List UInt8 → Bool} {f : Fr} {now : Int} {l : List Ck} {s : Nat} {v : Ck}
theorem usedT_len (hs : s ≤ l.length) : (usedT ad f now l s).length = l.length := by
  simp [usedT]; omega
theorem usedT_0 : usedT ad f now l 0 = l := by simp [usedT]
theorem usedT_end (hs : l.length ≤ s) : usedT ad f now l s = usedL ad f now l := by
  rw [usedT, List.take_of_length_le hs, List.drop_eq_nil_of_le hs, List.append_nil]; rfl
theorem usedT_at (hv : l[s]? = some v) : (usedT ad f now l s)[s]? = some v := by
  have hlt := (List.getElem?_eq_some_iff.1 hv).1
  have h1 : ((l.take s).map (usedC ad f now)).length = s := by simp; omega
  rw [usedT, List.getElem?_append_right (by rw [h1]; exact Nat.le_refl _), h1, Nat.sub_self, List.getElem?_drop]
  simpa using hv
theorem usedT_step (hv : l[s]? = some v) : (usedT ad f now l s).set s (usedC ad f now v) = usedT ad f now l (s + 1) := by
  obtain ⟨hlt, he⟩ := List.getElem?_eq_some_iff.1 hv
  have h1 : ((l.take s).map (usedC ad f now)).length = s := by simp; omega
  rw [usedT, usedT, List.set_append_right _ _ (by rw [h1]; exact Nat.le_refl _), h1, Nat.sub_self, List.drop_eq_getElem_cons hlt, List.set_cons_zero, List.take_succ_eq_append_getElem hlt, List.map_append, he]
  simp
theorem usedT_yes (hv : l[s]? = some v) (h : goesF ad f now v = true) : (usedT ad f now l s).set s { v with used := now } = usedT ad f now l (s + 1) := by
  rw [← usedT_step hv, usedC, if_pos h]
theorem usedT_no (hv : l[s]? = some v) (h : goesF ad f now v = false) : usedT ad f now l s = usedT ad f now l (s + 1) := by
  rw [← usedT_step hv, usedC, if_neg (by rw [h]; simp)]
  have h2 := usedT_at (ad := ad) (f := f) (now := now) hv
  apply List.ext_getElem?
  intro i
  rw [List.getElem?_set]
  split
  · rename_i e; subst e; rw [if_pos (List.getElem?_eq_some_iff.1 h2).1]; exact h2
  · rfl
theorem toldL_yes (hv : l[s]? = some v) (h : goesF ad f now v = true) : toldL ad f now (l.take (s + 1)) = toldL ad f now (l.take s) ++ [{ v with used := now }] := by
  rw [take_snoc hv]; simp [toldL, h]
theorem toldL_no (hv : l[s]? = some v) (h : goesF ad f now v = false) : toldL ad f now (l.take (s + 1)) = toldL ad f now (l.take s) := by
  rw [take_snoc hv]; simp [toldL, h]
theorem toldL_len (l : List Ck) : (toldL ad f now l).length ≤ l.length := by
  rw [toldL, List.length_map]; exact List.length_filter_le _ _
end
/-- One cell of one element is written. -/
theorem rowF_cell {l : List Ck} {R : List Value} {s o : Nat} {v v' : Ck} {u : Value} (hv : l[s]? = some v) (ho : o < 13) (hu : v.cells.set o u = v'.cells) : (rowF Ck.cells l R).setIfInBounds (s * 13 + o) u = rowF Ck.cells (l.set s v') R := by
  obtain ⟨hlt, he⟩ := List.getElem?_eq_some_iff.1 hv
  rw [← rowF_set Ck.len13 hlt]
  apply Array.toList_inj.1
  have h1 : s * 13 ≤ (l.flatMap Ck.cells).length := by rw [flat_len Ck.len13]; omega
  have h2 : s * 13 + 13 ≤ (l.flatMap Ck.cells).length := by rw [flat_len Ck.len13]; omega
  have e1 : (rowF Ck.cells l R).toList = (rowF Ck.cells l R).toList.take (s * 13) ++ v.cells ++ (rowF Ck.cells l R).toList.drop (s * 13 + 13) := by
    have h3 := rowF_get Ck.len13 (R := R) hv
    conv => lhs; rw [← List.take_append_drop (s * 13) (rowF Ck.cells l R).toList, ← List.take_append_drop 13 ((rowF Ck.cells l R).toList.drop (s * 13)), h3, List.drop_drop]
    rw [List.append_assoc]
  have h4 : ((rowF Ck.cells l R).toList.take (s * 13)).length = s * 13 := by
    rw [List.length_take]; have := rowF_len Ck.len13 l R; rw [Array.length_toList, this]; omega
  rw [Array.toList_setIfInBounds]
  simp only [List.toList_toArray]
  conv => lhs; rw [e1]
  rw [List.append_assoc, List.set_append_right _ _ (by rw [h4]; omega), h4, Nat.add_sub_cancel_left, List.set_append_left _ _ (by rw [Ck.len13]; exact ho), hu, List.append_assoc]
end Go.Gx
