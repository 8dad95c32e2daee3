/- This text proves: the step laws and the plain functions that the walks of this claim stand on. No condition beyond those that each theorem names. -/
import Derived.Test.YtgehghoammpiaaaGreatDoorGz6
namespace Go.Gx
theorem letF_no {l : List UInt8} {s : Nat} {v : UInt8} (hI : ∀ j, j < s → ∀ u, l[j]? = some u → badB u = false) (hv : l[s]? = some v) (hb : badB v = true) : letF l = false := by
  unfold letF; rw [fidx_at hI hv hb]; exact decide_eq_false (by omega)
theorem letF_yes {l : List UInt8} {s : Nat} (hI : ∀ j, j < s → ∀ u, l[j]? = some u → badB u = false) (hs : l.length ≤ s) : letF l = true := by
  unfold letF; rw [fidx_none hI hs]; rfl
theorem or3_zero (p q r s t u : Int) : orF [cmpF p q, cmpF r s, cmpF t u] = 0 ↔ p = q ∧ r = s ∧ t = u := by
  simp only [orF, cmpF]
  repeat' split
  all_goals omega
theorem ahead_iff {a b : Ck} {i k : Int} : (cmpS a b < 0 ∨ (cmpS a b = 0 ∧ i < k)) ↔ (b.path.length : Int) < a.path.length ∨ ((b.path.length : Int) = a.path.length ∧ (a.created < b.created ∨ (a.created = b.created ∧ (a.no < b.no ∨ (a.no = b.no ∧ i < k))))) := by
  unfold cmpS
  rw [or3_neg, or3_zero]
  omega
theorem rank_succ {l : List Ck} {r i : Nat} {v u : Ck} (hv : l[r]? = some v) (hu : l[i]? = some u) : rankL cmpS .none_ l (r + 1) i = rankL cmpS .none_ l r i + (if r ≠ i ∧ aheadB v u r i = true then 1 else 0) := by
  unfold rankL
  rw [List.range_succ, List.filter_append, List.length_append]
  congr 1
  rw [List.filter_cons, List.filter_nil, getD_of_get hv, getD_of_get hu]
  have e : (decide (r ≠ i) && decide (cmpS v u < 0 ∨ (cmpS v u = 0 ∧ (r : Int) < (i : Int)))) = true ↔ r ≠ i ∧ aheadB v u r i = true := by
    rw [Bool.and_eq_true, decide_eq_true_eq]; rfl
  by_cases h : r ≠ i ∧ aheadB v u r i = true
  · rw [if_pos (e.2 h), if_pos h]; rfl
  · rw [if_neg (fun k => h (e.1 k)), if_neg h]; rfl
theorem rank_0 (l : List Ck) (i : Nat) : rankL cmpS .none_ l 0 i = 0 := rfl
theorem rank_le (l : List Ck) (r i : Nat) : rankL cmpS .none_ l r i ≤ r := by
  unfold rankL
  have := List.length_filter_le (fun k => decide (k ≠ i) && decide (cmpS (l.getD k .none_) (l.getD i .none_) < 0 ∨ (cmpS (l.getD k .none_) (l.getD i .none_) = 0 ∧ (k : Int) < (i : Int)))) (List.range r)
  simpa using this
theorem low_snoc {l : List UInt8} {s : Nat} {v : UInt8} (hv : l[s]? = some v) : (l.take (s + 1)).map lowB = (l.take s).map lowB ++ [lowB v] := by rw [take_snoc hv]; simp
theorem lowB_up {c : UInt8} (h1 : 65 ≤ (c.toNat : Int)) (h2 : (c.toNat : Int) ≤ 90) : (c.toNat : Int) + 32 = ((lowB c).toNat : Int) := by
  unfold lowB
  rw [if_pos ⟨by omega, by omega⟩, UInt8.toNat_add]
  have : (32 : UInt8).toNat = 32 := rfl
  rw [this, Nat.mod_eq_of_lt (by omega)]; omega
theorem lowB_same {c : UInt8} (h : ¬(65 ≤ (c.toNat : Int) ∧ (c.toNat : Int) ≤ 90)) : (c.toNat : Int) = ((lowB c).toNat : Int) := by
  unfold lowB
  rw [if_neg (fun k => h ⟨by omega, by omega⟩)]
def pw : Nat → Int
  | 0 => 1
  | k + 1 => pw k * 10
theorem pw_pos : ∀ k, 1 ≤ pw k
  | 0 => by decide
  | k + 1 => by have := pw_pos k; simp only [pw]; omega
theorem pw_le {s : Nat} (h : s ≤ 5) : pw s ≤ 100000 := by
  match s, h with
  | 0, _ | 1, _ | 2, _ | 3, _ | 4, _ | 5, _ => decide
theorem numT_snoc : ∀ (p : List UInt8) (n : Int) (c : UInt8), numT n (p ++ [c]) = numT n p * 10 + (c.toNat : Int) - 48
  | [], n, c => rfl
  | a :: p, n, c => by rw [List.cons_append, numT, numT, numT_snoc p]
theorem tw_stop {l : List UInt8} {s : Nat} (hI : ∀ i, i < s → ∀ u, l[i]? = some u → digB u = true) (h : l.length ≤ s ∨ ∃ v, l[s]? = some v ∧ digB v = false) : l.takeWhile digB = l.take s := by
  induction l generalizing s with
  | nil => simp
  | cons a r ih =>
    cases s with
    | zero =>
      rcases h with h | ⟨v, hv, hd⟩
      · simp at h
      · simp only [List.getElem?_cons_zero, Option.some.injEq] at hv
        subst hv
        rw [List.takeWhile_cons, if_neg (by rw [hd]; simp)]; rfl
    | succ s =>
      rw [List.takeWhile_cons, if_pos (hI 0 (by omega) a rfl), List.take_succ_cons]
      rw [ih (s := s) (fun i hi u hu => hI (i + 1) (by omega) u (by simpa using hu)) (by
        rcases h with h | ⟨v, hv, hd⟩
        · left; simp at h; omega
        · right; exact ⟨v, by simpa using hv, hd⟩)]
theorem ld_end {l : List UInt8} {s : Nat} {n : Int} (hI : ∀ i, i < s → ∀ u, l[i]? = some u → digB u = true) (hs : s ≤ l.length) (hn : n = numT 0 ((l.take s).take 5)) (h : l.length ≤ s ∨ ∃ v, l[s]? = some v ∧ digB v = false) : (s : Int) = (ldK l : Int) ∧ n = ldN l := by
  have e := tw_stop hI h
  unfold ldK ldN
  rw [e, List.length_take]
  exact ⟨by omega, hn⟩
theorem ld_more {l : List UInt8} {s : Nat} {v : UInt8} (hv : l[s]? = some v) (h : s < 5) : numT 0 ((l.take (s + 1)).take 5) = numT 0 ((l.take s).take 5) * 10 + (v.toNat : Int) - 48 := by
  have hlt := (List.getElem?_eq_some_iff.1 hv).1
  have e1 : (l.take s ++ [v]).take 5 = l.take s ++ [v] := List.take_of_length_le (by rw [List.length_append, List.length_take]; simp; omega)
  have e2 : (l.take s).take 5 = l.take s := List.take_of_length_le (by rw [List.length_take]; omega)
  rw [take_snoc hv, e1, e2, numT_snoc]
theorem ld_same {l : List UInt8} {s : Nat} {v : UInt8} (hv : l[s]? = some v) (h : ¬ s < 5) : numT 0 ((l.take (s + 1)).take 5) = numT 0 ((l.take s).take 5) := by
  rw [List.take_take, List.take_take, Nat.min_eq_left (by omega), Nat.min_eq_left (by omega)]
theorem refP_f {v : List UInt8} (h : (ldK v : Int) < 1 ∨ (ldK v : Int) > 3 ∨ (ldK v : Int) ≠ v.length ∨ ldN v > 255 ∨ ((ldK v : Int) > 1 ∧ ((v.getD (0 : Int).toNat 0).toNat : Int) = 48)) : partA v = false := by
  rw [partA_ref]; unfold refP
  refine decide_eq_false (fun k => k ?_)
  rcases h with h | h | h | h | ⟨h, h2⟩
  · exact .inl h
  · exact .inr (.inl h)
  · exact .inr (.inr (.inl h))
  · exact .inr (.inr (.inr (.inl h)))
  · refine .inr (.inr (.inr (.inr ⟨h, ?_⟩)))
    exact UInt8.toNat.inj (by have : (48 : UInt8).toNat = 48 := rfl; rw [show (0 : Int).toNat = 0 from rfl] at h2; omega)
theorem refP_t {v : List UInt8} (h1 : ¬(ldK v : Int) < 1) (h2 : ¬(ldK v : Int) > 3) (h3 : ¬(ldK v : Int) ≠ v.length) (h4 : ¬ldN v > 255) (h5 : ¬((ldK v : Int) > 1 ∧ ((v.getD (0 : Int).toNat 0).toNat : Int) = 48)) : partA v = true := by
  rw [partA_ref]; unfold refP
  refine decide_eq_true ?_
  rintro (h | h | h | h | ⟨h, h6⟩)
  · exact h1 h
  · exact h2 h
  · exact h3 h
  · exact h4 h
  · exact h5 ⟨h, by rw [show (0 : Int).toNat = 0 from rfl, h6]; rfl⟩
theorem pre47 {p : List UInt8} : [47] <+: p ↔ ¬(p.length : Int) = 0 ∧ ((p.getD (0 : Int).toNat 0).toNat : Int) = 47 := by
  cases p with
  | nil => simp
  | cons a r =>
    rw [show (0 : Int).toNat = 0 from rfl]
    constructor
    · rintro ⟨t, ht⟩
      rw [List.singleton_append] at ht
      cases ht
      exact ⟨by simp; omega, rfl⟩
    · rintro ⟨_, h⟩
      have : a = 47 := UInt8.toNat.inj (by have : (47 : UInt8).toNat = 47 := rfl; have h : (a.toNat : Int) = 47 := h; omega)
      subst this
      exact ⟨r, rfl⟩
section
variable {f : Fr} {now : Int}
theorem ready_1 (h : hostF f.host = false ∨ (f.path.length : Int) = 0 ∨ (f.path.length : Int) > 400 ∨ ((f.path.getD (0 : Int).toNat 0).toNat : Int) ≠ 47 ∨ letF f.path = false ∨ ibF f.path 59 ≥ 0) : readyE f now = 1 := by
  unfold readyE
  refine if_pos ?_
  rcases h with h | h | h | h | h | h
  · left; rw [h]; rfl
  · right; left; rw [pre47]; exact fun k => k.1 h
  · right; right; right; right; exact h
  · right; left; rw [pre47]; exact fun k => h k.2
  · right; right; left; rw [h]; rfl
  · right; right; right; left; exact h
theorem ready_not (h1 : hostF f.host = true) (h2 : ¬(f.path.length : Int) = 0) (h3 : ¬(f.path.length : Int) > 400) (h4 : ¬((f.path.getD (0 : Int).toNat 0).toNat : Int) ≠ 47) (h5 : letF f.path = true) (h6 : ¬ibF f.path 59 ≥ 0) : readyE f now = if ¬ isM now then 3 else 0 := by
  unfold readyE
  refine if_neg ?_
  rintro (h | h | h | h | h)
  · rw [h1] at h; cases h
  · exact h (pre47.2 ⟨h2, Decidable.not_not.1 h4⟩)
  · rw [h5] at h; cases h
  · exact h6 h
  · exact h3 h
end
end Go.Gx
