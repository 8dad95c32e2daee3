/- This text proves: the step laws and the plain functions that the walks of this claim stand on. No condition beyond those that each theorem names. -/
import Derived.Test.YtgehghoammpiaaaGreatDoorGx9
namespace Go.Gx
open Go.RowKit
section
variable {P : Program} {W0 : World} {N : Nat} {E : List (Nat × Value)} {H : List Res} {Q : Exit → Act → World → Prop} {ops : Array Oper} {rest : List Oper} {x y : Operand} {d : Nat} {ty : TypeId} {pos : String} {aft : Array Edge}
/-! ## One's own row, read element by element -/
def rowPtr (A : Option Addr) (off : Nat) : Value := match A with | some ad => .pointer (some (ad.add off)) | none => .pointer none
theorem row_el {α : Type} {f : α → List Value} {sz n c k : Nat} {w : World} {A : Option Addr} {e : TypeId} {l : List α} {i : Nat} {u : α} (hm : Mem W0 H w) (hk : H[k]? = some (.row (.slice A n c) e sz n (l.flatMap f))) (hf : ∀ x, (f x).length = sz) (hsz : Nat.blt 0 sz = true) (hu : l[i]? = some u) :
    ∃ ad, A = some ad ∧ Cs w (ad.add (i * sz)) (f u) := by
  obtain ⟨ad, hA, he⟩ := sl_of_row hm hk hf hsz i u hu
  exact ⟨ad, hA, he.2⟩
theorem y_iaddr_row {α : Type} {f : α → List Value} {t e e' : TypeId} {A : Option Addr} {sz c n k : Nat} {l : List α} {kk : IntKind} {i : Int} {u : α} (hT : elemT P t e = true) (hs : sizeT P e sz = true)
    (hk : H[k]? = some (.row (.slice A n c) e' sz n (l.flatMap f))) (hf : ∀ x, (f x).length = sz) (hsz : Nat.blt 0 sz = true) (hx : ev E x = some (.slice A n c)) (hy : ev E y = some (.int kk i)) (h0 : 0 ≤ i) (hu : l[i.toNat]? = some u) :
    Yl P W0 N E H ⟨some d, .indexAddr t x y, ty, pos, aft, none⟩ (rowPtr A (i.toNat * sz)) := by
  intro a w ha
  obtain ⟨ad, rfl, _⟩ := row_el ha.mem hk hf hsz hu
  have hlen := row_len ha.mem hk hf hsz
  have hlt := (List.getElem?_eq_some_iff.1 hu).1
  have hc : 0 ≤ i ∧ i < (n : Int) := ⟨h0, by omega⟩
  simp only [execOp, ha.eval hx, ha.eval hy]
  simp [Instr.indexAt, asIntOf, run_underlying (under_of_elemT hT), hc, run_sizeOf hs, rowPtr]
theorem y_load_row {α : Type} {f : α → List Value} {t e' : TypeId} {A : Option Addr} {sz c n k i off : Nat} {l : List α} {u : α} {v : Value} (hT : oneT P t = true) (hk : H[k]? = some (.row (.slice A n c) e' sz n (l.flatMap f))) (hf : ∀ x, (f x).length = sz) (hsz : Nat.blt 0 sz = true)
    (o : Nat) (hx : ev E x = some (rowPtr A off)) (hoff : off = i * sz + o) (hu : l[i]? = some u) (hv : (f u)[o]? = some v) : Yl P W0 N E H ⟨some d, .load t x, ty, pos, aft, none⟩ v := by
  intro a w ha
  obtain ⟨ad, rfl, hc⟩ := row_el ha.mem hk hf hsz hu
  subst hoff
  have h1 := hc o v hv
  rw [add_add] at h1
  simp [execOp, Instr.loadAt, Instr.sureAddr, ha.eval hx, rowPtr, run_load_one hT h1]
theorem y_loadA_row {α : Type} {f : α → List Value} {t e' : TypeId} {A : Option Addr} {sz c n k i off m : Nat} {l : List α} {u : α} (hT : aggT P t m = true) (hk : H[k]? = some (.row (.slice A n c) e' sz n (l.flatMap f))) (hf : ∀ x, (f x).length = sz) (hsz : Nat.blt 0 sz = true)
    (hx : ev E x = some (rowPtr A off)) (hoff : off = i * sz) (hu : l[i]? = some u) (hm : (f u).length = m) : Yl P W0 N E H ⟨some d, .load t x, ty, pos, aft, none⟩ (.agg (f u).toArray) := by
  intro a w ha
  obtain ⟨ad, rfl, hc⟩ := row_el ha.mem hk hf hsz hu
  subst hoff hm
  simp [execOp, Instr.loadAt, Instr.sureAddr, ha.eval hx, rowPtr, run_load_agg hT hc]
/-- An array, sliced whole. -/
theorem y_sarr {t e : TypeId} {g off n sz : Nat} (hT : arrT P t n e = true) (hs : sizeT P e sz = true) (hn : Nat.blt 0 n = true) (hx : ev E x = some (.pointer (some ⟨g, off, none⟩))) :
    Yl P W0 N E H ⟨some d, .slice t x none none none, ty, pos, aft, none⟩ (.slice (some ⟨g, off, none⟩) n n) := by
  intro a w ha
  have hu : P.underlying t = some (.array n e) := by
    unfold arrT at hT
    cases hu : P.underlying t with
    | none => simp [hu] at hT
    | some D =>
      cases D <;> simp [hu] at hT
      obtain ⟨rfl, rfl⟩ := hT
      rfl
  have hn : 0 < n := by simpa [Nat.blt, Nat.ble_eq, Nat.succ_le_iff] using hn
  have hadd : (⟨g, off, none⟩ : Addr).add 0 = ⟨g, off, none⟩ := by simp [Addr.add]
  simp only [execOp, ha.eval hx]
  simp [Instr.sliceAt, Instr.sureAddr, run_underlying hu, run_sizeOf hs, Instr.sliceBounds, hadd]
/-- An array value, indexed. -/
theorem arr_under {t n e : Nat} (hT : arrT P t n e = true) : P.underlying t = some (.array n e) := by
  unfold arrT at hT
  cases hu : P.underlying t with
  | none => simp [hu] at hT
  | some D =>
    cases D <;> simp [hu] at hT
    obtain ⟨rfl, rfl⟩ := hT
    rfl
theorem y_aidx1 {t e : TypeId} {n : Nat} {cs : Array Value} {kk : IntKind} {i : Int} {v : Value} (hT : arrT P t n e = true) (hs : sizeT P e 1 = true) (h1 : oneT P e = true) (hx : ev E x = some (.agg cs)) (hy : ev E y = some (.int kk i)) (h0 : 0 ≤ i) (hn : i < n) (hv : cs[i.toNat]? = some v) :
    Yl P W0 N E H ⟨some d, .index t x y, ty, pos, aft, none⟩ v := by
  intro a w ha
  have hc : 0 ≤ i ∧ i < (n : Int) := ⟨h0, hn⟩
  have hp := run_part_one (w := w) h1 hv
  simp only [execOp, ha.eval hx, ha.eval hy]
  simp [Instr.index, asIntOf, run_underlying (arr_under hT), hc, run_sizeOf hs, hp]
theorem y_aidxA {t e : TypeId} {n sz : Nat} {cs cs' : Array Value} {kk : IntKind} {i : Int} (hT : arrT P t n e = true) (hA : aggT P e sz = true) (hx : ev E x = some (.agg cs)) (hy : ev E y = some (.int kk i)) (h0 : 0 ≤ i) (hn : i < n) (hv : cs.extract (i.toNat * sz) (i.toNat * sz + sz) = cs') :
    Yl P W0 N E H ⟨some d, .index t x y, ty, pos, aft, none⟩ (.agg cs') := by
  intro a w ha
  have hc : 0 ≤ i ∧ i < (n : Int) := ⟨h0, hn⟩
  subst hv
  have hag := run_isAgg_agg (w := w) hA
  have hsz := run_sizeOf (w := w) (sizeT_of_agg hA)
  simp only [execOp, ha.eval hx, ha.eval hy]
  simp [Instr.index, asIntOf, run_underlying (arr_under hT), hc, hsz, part, hag]
theorem y_faddr_row {α : Type} {f : α → List Value} {t e' : TypeId} {A : Option Addr} {sz c n k i fd o off r : Nat} {l : List α} {u : α} (hf' : fieldOff P t fd = some o) (hk : H[k]? = some (.row (.slice A n c) e' sz n (l.flatMap f))) (hf : ∀ x, (f x).length = sz) (hsz : Nat.blt 0 sz = true)
    (hx : ev E x = some (rowPtr A off)) (hu : l[i]? = some u) (hr : off + o = r) : Yl P W0 N E H ⟨some d, .fieldAddr t x fd, ty, pos, aft, none⟩ (rowPtr A r) := by
  intro a w ha
  obtain ⟨ad, rfl, _⟩ := row_el ha.mem hk hf hsz hu
  subst hr
  simp [execOp, ha.eval hx, rowPtr, run_fieldAt (w := w) hf', add_add]
end
end Go.Gx
