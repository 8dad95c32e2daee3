/- This text proves: the step laws and the plain functions that the walks of this claim stand on. No condition beyond those that each theorem names. -/
import Derived.Test.YtgehghoammpiaaaGreatDoorGx6
import Derived.Laws.StructEq
import Derived.ChangeKeysEq
namespace Go.Gx
open Go.RowKit
/-! ## Structs and arrays of plain cells, compared -/
def cellEq : Value → Value → Option Bool
  | .bool a, .bool b => some (a == b)
  | .int k a, .int k' b => if k = k' then some (decide (a = b)) else none
  | .string a, .string b => some (decide (a.toList = b.toList))
  | _, _ => none
def eqCells : List Value → List Value → Option Bool
  | [], [] => some true
  | x :: xs, y :: ys => match cellEq x y, eqCells xs ys with | some b, some c => some (b && c) | _, _ => none
  | _, _ => none
/-- 'A value of such a description': bool 0, int 1, string 2. -/
def fitsD : TypeDesc → Value → Bool
  | .bool, .bool _ => true
  | .int _, .int _ _ => true
  | .string, .string _ => true
  | _, _ => false
def flatF (P : Program) : Nat → List Field → List Value → Bool
  | _, [], [] => true
  | j, f :: fs, v :: vs => (!(f.name == "_")) && Nat.beq f.offset j && sizeT P f.type 1 && oneT P f.type && (match P.underlying f.type with | some D => fitsD D v | none => false) && flatF P (j + 1) fs vs
  | _, _, _ => false
def flatT (P : Program) (t : TypeId) (vs : List Value) : Bool :=
  (match P.underlying t with | some (.struct fs) => flatF P 0 fs.toList vs | _ => false) && !(P.stoodInHeld t) && !(P.eqGuardType P.depth t)
section
variable {P : Program} {w : World}
theorem run_part_one {t : TypeId} {cs : Array Value} {off : Nat} {v : Value} (h1 : oneT P t = true) (hv : cs[off]? = some v) : (part t cs off).run P w = .ok v w := by
  have h := run_isAgg_one (w := w) h1
  simp [part, h, hv]
theorem run_eq_cell {t : TypeId} {D : TypeDesc} {d : Nat} {x y : Value} {b : Bool} (hD : P.underlying t = some D) (hf : fitsD D x = true) (hc : cellEq x y = some b) : (Op.equalIn (d + 1) t x y).run P w = .ok b w := by
  cases D <;> cases x <;> (try cases hf) <;> cases y <;> simp only [cellEq] at hc <;> (try cases hc)
  · simp [Op.equalIn, run_underlying hD]
  · split at hc
    · rename_i h; subst h
      cases hc
      simp only [Op.equalIn, Sem.run_bind, run_underlying hD, Result.andThen_ok, if_true, Sem.run_pure]
      congr 1
    · cases hc
  · rename_i a b
    simp only [Op.equalIn, Sem.run_bind, run_underlying hD, Result.andThen_ok, Sem.run_pure, beq_toListBytes]
    congr 1
    exact Bool.eq_iff_iff.2 (by simp)
theorem run_eqFields_flat {d : Nat} {xs ys : Array Value} : ∀ (fs : List Field) (j : Nat) (us vs : List Value) (b : Bool), (∀ i u, us[i]? = some u → xs[j + i]? = some u) → (∀ i u, vs[i]? = some u → ys[j + i]? = some u) →
    flatF P j fs us = true → eqCells us vs = some b → (Op.eqFields (d + 1) xs ys fs).run P w = .ok b w
  | [], j, [], [], b, _, _, _, he => by simp [eqCells] at he; subst he; simp [Op.eqFields]
  | [], _, _ :: _, _, _, _, _, h, _ => by cases h
  | [], _, [], _ :: _, _, _, _, _, he => by cases he
  | _ :: _, _, [], _, _, _, _, h, _ => by cases h
  | f :: fs, j, u :: us, [], b, _, _, _, he => by cases he
  | f :: fs, j, u :: us, v :: vs, b, hx, hy, h, he => by
    simp only [flatF, Bool.and_eq_true, Bool.not_eq_true'] at h
    obtain ⟨⟨⟨⟨⟨h1, h2⟩, h3⟩, h4⟩, h5⟩, h6⟩ := h
    have h2' := Nat.eq_of_beq_eq_true h2
    have hne : f.name ≠ "_" := by simpa using h1
    cases hD : P.underlying f.type with
    | none => simp [hD] at h5
    | some D =>
      simp only [hD] at h5
      simp only [eqCells] at he
      cases hc : cellEq u v with
      | none => simp [hc] at he
      | some c =>
        cases hr : eqCells us vs with
        | none => simp [hc, hr] at he
        | some r =>
          simp only [hc, hr, Option.some.injEq] at he
          have p1 := run_part_one (w := w) h4 (show xs[f.offset]? = some u by rw [h2']; simpa using hx 0 u rfl)
          have p2 := run_part_one (w := w) h4 (show ys[f.offset]? = some v by rw [h2']; simpa using hy 0 v rfl)
          have p3 := run_eq_cell (w := w) (d := d) hD h5 hc
          have ih := run_eqFields_flat (d := d) fs (j + 1) us vs r (fun i q hq => by rw [show j + 1 + i = j + (i + 1) by omega]; exact hx (i + 1) q (by simpa using hq)) (fun i q hq => by rw [show j + 1 + i = j + (i + 1) by omega]; exact hy (i + 1) q (by simpa using hq)) h6 hr
          rw [Op.eqFields]
          simp only [hne, ne_eq, not_false_eq_true, if_true, Sem.run_bind, p1, p2, p3, Result.andThen_ok]
          subst he
          cases c
          · simp
          · simp [ih]
theorem run_eq_flat {t : TypeId} {xs ys : Array Value} {b : Bool} {d : Nat} (hT : flatT P t xs.toList = true) (he : eqCells xs.toList ys.toList = some b) : (Op.equalIn (d + 2) t (.agg xs) (.agg ys)).run P w = .ok b w := by
  simp only [flatT, Bool.and_eq_true, Bool.not_eq_true'] at hT
  obtain ⟨⟨h1, h2⟩, _⟩ := hT
  cases hu : P.underlying t with
  | none => simp [hu] at h1
  | some D =>
    cases D <;> simp [hu] at h1
    rename_i fs
    have hfo : P.fieldsOf t = fs := by simp [Program.fieldsOf, hu]
    rw [run_equalIn_struct w (d + 1) t xs ys (by rw [hfo]; exact hu) h2, hfo]
    exact run_eqFields_flat fs.toList 0 xs.toList ys.toList b (by simp) (by simp) h1 he
/-- An array of plain cells. -/
def flatA (P : Program) (t : TypeId) (vs : List Value) : Bool :=
  (match P.underlying t with | some (.array n e) => Nat.beq n vs.length && sizeT P e 1 && oneT P e && (match P.underlying e with | some D => vs.all (fitsD D) | none => false) | _ => false) && !(P.eqGuardType P.depth t)
theorem run_eqItems_flat {d : Nat} {e : TypeId} {D : TypeDesc} {xs ys : Array Value} (hD : P.underlying e = some D) (h1 : oneT P e = true) : ∀ (j : Nat) (us vs : List Value) (b : Bool), (∀ i u, us[i]? = some u → xs[j + i]? = some u) → (∀ i u, vs[i]? = some u → ys[j + i]? = some u) →
    us.all (fitsD D) = true → eqCells us vs = some b → (Op.eqItems (d + 1) e 1 xs ys (List.range' j us.length)).run P w = .ok b w
  | j, [], [], b, _, _, _, he => by simp [eqCells] at he; subst he; simp [Op.eqItems]
  | _, [], _ :: _, _, _, _, _, he => by cases he
  | _, _ :: _, [], _, _, _, _, he => by cases he
  | j, u :: us, v :: vs, b, hx, hy, h, he => by
    simp only [List.all_cons, Bool.and_eq_true] at h
    simp only [eqCells] at he
    cases hc : cellEq u v with
    | none => simp [hc] at he
    | some c =>
      cases hr : eqCells us vs with
      | none => simp [hc, hr] at he
      | some r =>
        simp only [hc, hr, Option.some.injEq] at he
        have p1 := run_part_one (w := w) h1 (show xs[j * 1]? = some u by simpa using hx 0 u rfl)
        have p2 := run_part_one (w := w) h1 (show ys[j * 1]? = some v by simpa using hy 0 v rfl)
        have p3 := run_eq_cell (w := w) (d := d) hD h.1 hc
        have ih := run_eqItems_flat (d := d) hD h1 (j + 1) us vs r (fun i q hq => by rw [show j + 1 + i = j + (i + 1) by omega]; exact hx (i + 1) q (by simpa using hq)) (fun i q hq => by rw [show j + 1 + i = j + (i + 1) by omega]; exact hy (i + 1) q (by simpa using hq)) h.2 hr
        rw [List.length_cons, List.range'_succ, Op.eqItems]
        simp only [Sem.run_bind, p1, p2, p3, Result.andThen_ok]
        subst he
        cases c
        · simp
        · simp [ih]
theorem run_eq_array {t : TypeId} {xs ys : Array Value} {b : Bool} {d : Nat} (hT : flatA P t xs.toList = true) (he : eqCells xs.toList ys.toList = some b) : (Op.equalIn (d + 2) t (.agg xs) (.agg ys)).run P w = .ok b w := by
  simp only [flatA, Bool.and_eq_true] at hT
  obtain ⟨h1, _⟩ := hT
  cases hu : P.underlying t with
  | none => simp [hu] at h1
  | some D =>
    cases D <;> simp [hu] at h1
    rename_i n e
    obtain ⟨⟨⟨h1, h2⟩, h3⟩, h4⟩ := h1
    cases hD : P.underlying e with
    | none => simp [hD] at h4
    | some D =>
      simp only [hD] at h4
      have hs := h2
      unfold sizeT at hs
      cases hi : P.info? e with
      | none => simp [hi] at hs
      | some i =>
        simp only [hi] at hs
        rw [run_equalIn_array w (d + 1) xs ys hu hi]
        have hc : P.cellsOf e = 1 := by simp [Program.cellsOf, hi]; exact Nat.eq_of_beq_eq_true hs
        rw [hc, h1, List.range_eq_range']
        exact run_eqItems_flat hD h3 0 xs.toList ys.toList b (by simp) (by simp) (by simpa using h4) he
end
section
variable {P : Program} {W0 : World} {N : Nat} {E : List (Nat × Value)} {H : List Res} {ops : Array Oper} {x y : Operand} {d : Nat} {ty t' : TypeId} {pos : String} {aft : Array Edge}
theorem y_eqS {t : TypeId} {xs ys : Array Value} {b : Bool} (hT : flatT P t xs.toList = true) (hx : ev E x = some (.agg xs)) (hy : ev E y = some (.agg ys)) (he : eqCells xs.toList ys.toList = some b) : Yl P W0 N E H ⟨some d, .binOp .eql t x y t', ty, pos, aft, none⟩ (.bool b) :=
  fun a w ha => by
    have hg : P.eqGuardType P.depth t = false := by simp only [flatT, Bool.and_eq_true, Bool.not_eq_true'] at hT; exact hT.2
    simp only [execOp, ha.eval hx, ha.eval hy, Sem.run_bind, run_eqGuard_agg (P := P) w .eql t x y xs ys hg, Result.andThen_ok, run_eql_struct, run_eq_flat (d := 9998) (w := w) hT he]
    rfl
theorem y_neS {t : TypeId} {xs ys : Array Value} {b : Bool} (hT : flatT P t xs.toList = true) (hx : ev E x = some (.agg xs)) (hy : ev E y = some (.agg ys)) (he : eqCells xs.toList ys.toList = some b) : Yl P W0 N E H ⟨some d, .binOp .neq t x y t', ty, pos, aft, none⟩ (.bool !b) :=
  fun a w ha => by
    have hg : P.eqGuardType P.depth t = false := by simp only [flatT, Bool.and_eq_true, Bool.not_eq_true'] at hT; exact hT.2
    simp only [execOp, ha.eval hx, ha.eval hy, Sem.run_bind, run_eqGuard_agg (P := P) w .neq t x y xs ys hg, Result.andThen_ok, run_neq_struct, run_eq_flat (d := 9998) (w := w) hT he]
    rfl
theorem y_eqA {t : TypeId} {xs ys : Array Value} {b : Bool} (hT : flatA P t xs.toList = true) (hx : ev E x = some (.agg xs)) (hy : ev E y = some (.agg ys)) (he : eqCells xs.toList ys.toList = some b) : Yl P W0 N E H ⟨some d, .binOp .eql t x y t', ty, pos, aft, none⟩ (.bool b) :=
  fun a w ha => by
    have hg : P.eqGuardType P.depth t = false := by simp only [flatA, Bool.and_eq_true, Bool.not_eq_true'] at hT; exact hT.2
    simp only [execOp, ha.eval hx, ha.eval hy, Sem.run_bind, run_eqGuard_agg (P := P) w .eql t x y xs ys hg, Result.andThen_ok, run_eql_struct, run_eq_array (d := 9998) (w := w) hT he]
    rfl
theorem y_neA {t : TypeId} {xs ys : Array Value} {b : Bool} (hT : flatA P t xs.toList = true) (hx : ev E x = some (.agg xs)) (hy : ev E y = some (.agg ys)) (he : eqCells xs.toList ys.toList = some b) : Yl P W0 N E H ⟨some d, .binOp .neq t x y t', ty, pos, aft, none⟩ (.bool !b) :=
  fun a w ha => by
    have hg : P.eqGuardType P.depth t = false := by simp only [flatA, Bool.and_eq_true, Bool.not_eq_true'] at hT; exact hT.2
    simp only [execOp, ha.eval hx, ha.eval hy, Sem.run_bind, run_eqGuard_agg (P := P) w .neq t x y xs ys hg, Result.andThen_ok, run_neq_struct, run_eq_array (d := 9998) (w := w) hT he]
    rfl
end
end Go.Gx
