/- This text proves: the step laws and the plain functions that the walks of this claim stand on. No condition beyond those that each theorem names. -/
import Derived.Test.YtgehghoammpiaaaGreatDoorGz7
namespace Go.Gx
section
variable {P : Program} {W0 : World} {N : Nat} {E : List (Nat × Value)} {H : List Res} {ops : Array Oper} {Q : Exit → Act → World → Prop} {rest : List Oper} {d ty : Nat} {pos : String} {aft : Array Edge} {x y : Operand}
theorem set_same {α : Type} {H : List α} {k : Nat} {r : α} (hk : H[k]? = some r) : H.set k r = H := by
  apply List.ext_getElem?
  intro i
  by_cases h : k = i
  · subst h; rw [List.getElem?_set_self (List.getElem?_eq_some_iff.1 hk).1, hk]
  · rw [List.getElem?_set_ne h]
/-- append of nothing to a row of one's own. -/
theorem y_append_nil {t e : TypeId} {sz by_ n c k : Nat} {A : Option Addr} {xs : List Value} (hT : elemT P t e = true) (ha0 : apT P e sz by_ = true) (hx : ev E x = some (.slice A n c)) (hy : ev E y = some (.slice none 0 0)) (hk : H[k]? = some (.row (.slice A n c) e sz n xs)) :
    Yl P W0 N E H ⟨some d, .call ⟨.builtin .append, #[x, y], #[t, t]⟩, ty, pos, aft, none⟩ (.slice A n c) := by
  intro a w ha
  obtain ⟨i, z, hi, hz, hsz, hbz, hzc, hpos⟩ := apT_spec ha0
  have hut := run_underlying (w := w) (under_of_elemT hT)
  have hc := row_cap ha.mem hk
  have hf := run_firstCells_none (P := P) (w := w) i.size 0 0 0
  simp only [execOp, resolve, invoke, builtin, List.map_toArray, List.map_cons, List.map_nil, ha.eval hx, ha.eval hy, Sem.run_bind, Sem.run_pure, Result.andThen_ok]
  cases A with
  | none => simp [Builtin.append_, hut, sizeOf, typeInfo, hi, Builtin.lenOf, hc, hf]
  | some ad => simp [Builtin.append_, hut, sizeOf, typeInfo, hi, Builtin.lenOf, hc, hf, storeCells]
theorem l_append_any {α : Type} {f : α → List Value} {t e : TypeId} {sz by_ n c0 c' : Nat} {A0 A : Option Addr} {xs zs : List Value} {l : List α} {k : Nat} (hd : Nat.blt d N = true) (hT : elemT P t e = true) (ha : apT P e sz by_ = true)
    (hA : Sl f sz W0 A l) (hk0 : A = none → c' = 0) (hf : ∀ x, (f x).length = sz) (hx : ev E x = some (.slice A0 n c0)) (hy : ev E y = some (.slice A l.length c')) (hk : H[k]? = some (.row (.slice A0 n c0) e sz n xs))
    (h1 : ∀ x, (f x).all Value.oneCell' = true) (h63 : n + l.length ≤ 9223372036854775807) (hby : (n + l.length) * by_ ≤ 140737488355328) (hzs : xs ++ l.flatMap f = zs)
    (h : ∀ A c, GL P W0 N ops ((d, .slice A (n + l.length) c) :: E) (H.set k (.row (.slice A (n + l.length) c) e sz (n + l.length) zs)) rest Q) :
    GL P W0 N ops E H (⟨some d, .call ⟨.builtin .append, #[x, y], #[t, t]⟩, ty, pos, aft, none⟩ :: rest) Q := by
  cases A with
  | some ad => exact l_append_old hd hT ha hA hf hx hy hk h1 h63 hby hzs h
  | none =>
    have hl : l = [] := by
      cases l with
      | nil => rfl
      | cons a l => obtain ⟨ad, he, _⟩ := hA 0 a rfl; cases he
    subst hl
    have hc := hk0 rfl
    subst hc
    have hz : xs = zs := by simpa using hzs
    subst hz
    refine gv hd (y_append_nil hT ha hx hy hk) ?_
    have h2 := h A0 c0
    rw [show n + ([] : List α).length = n from rfl, set_same hk] at h2
    exact h2
end
section
variable {ad : List UInt8 → Bool} {f : Fr} {now : Int} {l : List Ck} {s : Nat} {v : Ck}
theorem usedL_yes (hv : l[s]? = some v) (h : goesF ad f now v = true) : usedL ad f now (l.take (s + 1)) = usedL ad f now (l.take s) ++ [{ v with used := now }] := by
  rw [take_snoc hv]; simp [usedL, usedC, h]
theorem usedL_no (hv : l[s]? = some v) (h : goesF ad f now v = false) : usedL ad f now (l.take (s + 1)) = usedL ad f now (l.take s) ++ [v] := by
  rw [take_snoc hv]; simp [usedL, usedC, h]
theorem usedL_len (l : List Ck) : (usedL ad f now l).length = l.length := by simp [usedL]
end
end Go.Gx
