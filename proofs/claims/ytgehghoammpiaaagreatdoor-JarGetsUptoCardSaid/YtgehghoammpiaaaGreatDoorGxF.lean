/- This text proves: the step laws and the plain functions that the walks of this claim stand on. No condition beyond those that each theorem names. -/
import Derived.Test.YtgehghoammpiaaaGreatDoorGxE
import Derived.ArgAppend
namespace Go.Gx
open Go.RowKit
/-! ## Rows of structs, opened to blocks -/
def rowF {α : Type} (f : α → List Value) (l : List α) (R : List Value) : Array Value := (l.flatMap f ++ R).toArray
section
variable {α : Type} {f : α → List Value} {sz : Nat}
theorem flat_len (hf : ∀ x, (f x).length = sz) (l : List α) : (l.flatMap f).length = l.length * sz := by
  induction l with
  | nil => simp
  | cons a l ih => simp [ih, hf, Nat.add_mul, Nat.add_comm]
theorem flat_take (hf : ∀ x, (f x).length = sz) : ∀ (l : List α) (i : Nat), (l.flatMap f).take (i * sz) = (l.take i).flatMap f
  | [], i => by simp
  | a :: l, 0 => by simp
  | a :: l, i + 1 => by
    rw [List.flatMap_cons, List.take_succ_cons, List.flatMap_cons, List.take_append, hf, Nat.add_mul, Nat.one_mul, Nat.add_sub_cancel, List.take_of_length_le (by rw [hf]; omega), flat_take hf l i]
theorem flat_drop (hf : ∀ x, (f x).length = sz) (l : List α) (i : Nat) : (l.flatMap f).drop (i * sz) = (l.drop i).flatMap f := by
  have h1 : l.flatMap f = (l.take i).flatMap f ++ (l.drop i).flatMap f := by rw [← List.flatMap_append, List.take_append_drop]
  by_cases hi : i ≤ l.length
  · have h2 : ((l.take i).flatMap f).length = i * sz := by rw [flat_len hf, List.length_take, Nat.min_eq_left hi]
    conv => lhs; rw [h1]
    rw [← h2, List.drop_left]
  · rw [List.drop_eq_nil_of_le (by omega : l.length ≤ i), List.drop_eq_nil_of_le]
    · rfl
    · rw [flat_len hf]; exact Nat.mul_le_mul_right _ (by omega)
theorem rowF_len (hf : ∀ x, (f x).length = sz) (l : List α) (R : List Value) : (rowF f l R).size = l.length * sz + R.length := by simp [rowF, ← flat_len hf l]
theorem rowF_get (hf : ∀ x, (f x).length = sz) {l : List α} {R : List Value} {i : Nat} {v : α} (hv : l[i]? = some v) : ((rowF f l R).toList.drop (i * sz)).take sz = f v := by
  obtain ⟨hlt, he⟩ := List.getElem?_eq_some_iff.1 hv
  have h1 : i * sz ≤ (l.flatMap f).length := by rw [flat_len hf]; exact Nat.mul_le_mul_right _ (by omega)
  simp only [rowF]
  rw [List.drop_append_of_le_length h1, flat_drop hf, List.drop_eq_getElem_cons hlt, he, List.flatMap_cons, List.append_assoc, List.take_append_of_le_length (by rw [hf]; exact Nat.le_refl _), List.take_of_length_le (by rw [hf]; exact Nat.le_refl _)]
theorem rowF_set (hf : ∀ x, (f x).length = sz) {l : List α} {R : List Value} {i : Nat} {v : α} (h : i < l.length) : ((rowF f l R).toList.take (i * sz) ++ f v ++ (rowF f l R).toList.drop (i * sz + sz)).toArray = rowF f (l.set i v) R := by
  have h1 : i * sz ≤ (l.flatMap f).length := by rw [flat_len hf]; exact Nat.mul_le_mul_right _ (by omega)
  have h2 : (i + 1) * sz ≤ (l.flatMap f).length := by rw [flat_len hf]; exact Nat.mul_le_mul_right _ (by omega)
  have h3 : i * sz + sz = (i + 1) * sz := by rw [Nat.add_mul, Nat.one_mul]
  apply Array.toList_inj.1
  simp only [rowF]
  rw [h3, List.take_append_of_le_length h1, List.drop_append_of_le_length h2, flat_take hf, flat_drop hf, List.set_eq_take_append_cons_drop, if_pos h, List.flatMap_append, List.flatMap_cons]
  simp only [List.append_assoc]
theorem rowF_app (l m : List α) (R : List Value) : rowF f (l ++ m) R = rowF f l (m.flatMap f ++ R) := by simp [rowF]
theorem rowF_take (hf : ∀ x, (f x).length = sz) {l : List α} {R : List Value} {i : Nat} (h : i ≤ l.length) : (rowF f l R).toList.take (i * sz) = (l.take i).flatMap f := by
  have h1 : i * sz ≤ (l.flatMap f).length := by rw [flat_len hf]; exact Nat.mul_le_mul_right _ (by omega)
  simp only [rowF]
  rw [List.take_append_of_le_length h1, flat_take hf]
end
end Go.Gx
