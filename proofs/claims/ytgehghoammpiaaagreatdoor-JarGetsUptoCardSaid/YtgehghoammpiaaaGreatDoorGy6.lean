/- This text proves: the step laws and the plain functions that the walks of this claim stand on. No condition beyond those that each theorem names. -/
import Derived.Test.YtgehghoammpiaaaGreatDoorGy5
namespace Go.Gx
section
variable {α : Type} {f : α → α → Int} {d : α}
def stL (f : α → α → Int) (d : α) (l : List α) (s : Nat) : List α := sortT f d l (min s l.length) ++ l.drop s
theorem stL_len (l : List α) (s : Nat) : (stL f d l s).length = l.length := by
  rw [stL, List.length_append, sortT_len, List.length_drop]; omega
theorem stL_start (l : List α) : stL f d l 1 = l := by
  cases l with
  | nil => rfl
  | cons a l => rw [stL, show min 1 (a :: l).length = 1 by simp]; rfl
theorem stL_end {l : List α} {s : Nat} (h : l.length ≤ s) : stL f d l s = sortL f d l := by
  rw [stL, Nat.min_eq_right h, List.drop_eq_nil_of_le h, List.append_nil]; rfl
theorem stL_mid {l : List α} {s : Nat} {v : α} (hv : l[s]? = some v) : stL f d l s = midL (sortT f d l s) v (l.drop (s + 1)) s := by
  obtain ⟨hlt, he⟩ := List.getElem?_eq_some_iff.1 hv
  have h1 := sortT_len f d l s
  conv => rhs; rw [show s = (sortT f d l s).length by rw [h1]]
  rw [h1, stL, Nat.min_eq_left (Nat.le_of_lt hlt), List.drop_eq_getElem_cons hlt, he]
  have := midL_start (p := sortT f d l s) (x := v) (r := l.drop (s + 1))
  rw [h1] at this
  exact this.symm
theorem mid_stop {l : List α} {s j : Nat} {v : α} (hv : l[s]? = some v) (hI : posI f d (sortT f d l s) v j = posI f d (sortT f d l s) v s) (hj : posI f d (sortT f d l s) v j = j) : midL (sortT f d l s) v (l.drop (s + 1)) j = stL f d l (s + 1) := by
  obtain ⟨hlt, he⟩ := List.getElem?_eq_some_iff.1 hv
  rw [stL, Nat.min_eq_left (by omega : s + 1 ≤ l.length), sortT, insI, sortT_len, getD_of_get hv, ← hI, hj]
  rfl
theorem posI_0 (p : List α) (x : α) : posI f d p x 0 = 0 := rfl
theorem posI_no {p : List α} {x y : α} {i : Nat} (hy : p[i]? = some y) (h : ¬ f x y < 0) : posI f d p x (i + 1) = i + 1 := by
  show (if f x (p.getD i d) < 0 then posI f d p x i else i + 1) = i + 1
  rw [getD_of_get hy, if_neg h]
theorem posI_yes {p : List α} {x y : α} {i : Nat} (hy : p[i]? = some y) (h : f x y < 0) : posI f d p x (i + 1) = posI f d p x i := by
  show (if f x (p.getD i d) < 0 then posI f d p x i else i + 1) = posI f d p x i
  rw [getD_of_get hy, if_pos h]
end
theorem sortL_len {α : Type} (f : α → α → Int) (d : α) (l : List α) : (sortL f d l).length = l.length := sortT_len f d l _
end Go.Gx
