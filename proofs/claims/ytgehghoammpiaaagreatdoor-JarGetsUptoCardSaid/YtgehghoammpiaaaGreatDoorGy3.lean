/- This text proves: the step laws and the plain functions that the walks of this claim stand on. No condition beyond those that each theorem names. -/
import Derived.Test.YtgehghoammpiaaaGreatDoorGy2
import Derived.Test.YtgehghoammpiaaaGreatDoorGxF
namespace Go.Gx
/-! ## The parts of a text, cut by cut -/
theorem B_get0 (c : UInt8) (r : List UInt8) : (B (c :: r))[0]! = c := by
  rw [getElem!_pos (B (c :: r)) 0 (by rw [B_size]; simp)]; rfl
theorem B_getS (c : UInt8) (r : List UInt8) {i : Nat} (hi : i < r.length) : (B (c :: r))[i + 1]! = (B r)[i]! := by
  rw [getElem!_pos (B (c :: r)) (i + 1) (by rw [B_size]; simp; exact hi), getElem!_pos (B r) i (by rw [B_size]; exact hi)]; rfl
theorem find_congr {α : Type} {p q : α → Bool} : ∀ {l : List α}, (∀ x ∈ l, p x = q x) → l.find? p = l.find? q
  | [], _ => rfl
  | a :: l, h => by
    rw [List.find?_cons, List.find?_cons, h a List.mem_cons_self, find_congr (l := l) (fun x hx => h x (List.mem_cons_of_mem _ hx))]
theorem ibF_cons (c : UInt8) (r : List UInt8) (b : UInt8) : ibF (c :: r) b = if c = b then 0 else if ibF r b < 0 then -1 else ibF r b + 1 := by
  unfold ibF firstIdx
  rw [B_size, B_size, List.length_cons, List.range_succ_eq_map, List.find?_cons, B_get0]
  by_cases h : c = b
  · simp [h]
  · have h' : (c == b) = false := by simpa using h
    rw [h', if_neg h]
    simp only []
    rw [List.find?_map]
    have e : (List.range r.length).find? ((fun i => (B (c :: r))[i]! == b) ∘ Nat.succ) = (List.range r.length).find? (fun i => (B r)[i]! == b) :=
      find_congr (fun i hi => by
        have := B_getS c r (List.mem_range.1 hi)
        simp only [Function.comp_apply, Nat.succ_eq_add_one, this])
    rw [e]
    cases (List.range r.length).find? (fun i => (B r)[i]! == b) with
    | none => simp
    | some i => simp; omega
theorem partsB_ne (b : UInt8) : ∀ l, partsB b l ≠ []
  | [] => by simp [partsB]
  | c :: r => by
    unfold partsB
    split
    · simp
    · split <;> simp
theorem partsB_step (b : UInt8) : ∀ l, partsB b l = (cutF b l).1 :: (if (cutF b l).2.2 = true then partsB b (cutF b l).2.1 else [])
  | [] => by
    have : cutF b [] = ([], [], false) := rfl
    rw [this]; rfl
  | c :: r => by
    have ih := partsB_step b r
    by_cases h : c = b
    · have e : ibF (c :: r) b = 0 := by rw [ibF_cons, if_pos h]
      have e2 : cutF b (c :: r) = ([], r, true) := by unfold cutF; rw [e]; rfl
      rw [e2]
      show partsB b (c :: r) = _
      rw [partsB, if_pos h]
      first | rfl | simp
    · rw [partsB, if_neg h]
      by_cases h2 : ibF r b < 0
      · have e : ibF (c :: r) b = -1 := by rw [ibF_cons, if_neg h, if_pos h2]
        have e2 : cutF b (c :: r) = (c :: r, [], false) := by unfold cutF; rw [e]; rfl
        have e3 : cutF b r = (r, [], false) := if_pos h2
        rw [e3] at ih
        rw [e2, ih]
        first | done | rfl
      · have e : ibF (c :: r) b = ibF r b + 1 := by rw [ibF_cons, if_neg h, if_neg h2]
        have e3 : cutF b r = (r.take (ibF r b).toNat, r.drop (ibF r b + 1).toNat, true) := if_neg h2
        have e2 : cutF b (c :: r) = (c :: r.take (ibF r b).toNat, r.drop (ibF r b + 1).toNat, true) := by
          unfold cutF
          rw [e, if_neg (by omega), show (ibF r b + 1).toNat = (ibF r b).toNat + 1 by omega, show (ibF r b + 1 + 1).toNat = ((ibF r b).toNat + 1) + 1 by omega, List.take_succ_cons, List.drop_succ_cons]
        rw [e3] at ih
        rw [e2, ih]
theorem cutF_len (b : UInt8) (l : List UInt8) (h : (cutF b l).2.2 = true) : (cutF b l).2.1.length < l.length := by
  have hr := ib_range l b
  unfold cutF at h ⊢
  split at h
  · cases h
  · rename_i h2
    rw [if_neg h2]
    simp
    omega
theorem cutF_le (b : UInt8) (l : List UInt8) : (cutF b l).2.1.length ≤ l.length ∧ (cutF b l).1.length ≤ l.length := by
  unfold cutF
  split
  · simp
  · simp; omega
end Go.Gx
