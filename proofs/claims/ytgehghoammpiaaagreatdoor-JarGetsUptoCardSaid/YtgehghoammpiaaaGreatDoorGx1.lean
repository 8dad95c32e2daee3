/- This text proves: the step laws and the plain functions that the walks of this claim stand on. No condition beyond those that each theorem names. -/
import Derived.Test.YtgehghoammpiaaaGreatDoorGx0
import Derived.WalkKit
namespace Go.Gx
open Go.RowKit

section
variable {P : Program} {W0 : World} {N : Nat} {E : List (Nat × Value)} {H : List Res} {Q : Exit → Act → World → Prop} {ops : Array Oper} {rest : List Oper} {ty : TypeId} {pos : String} {aft : Array Edge}

theorem wpl_val {a : Act} {w w' : World} {o : Oper} {v : Value} (hg : o.guard = none) (hrun : (execOp a.eval o).run P w = .ok (.value v) w') (h : wpList P ops Q rest (a.put o.dst v) w') : wpList P ops Q (o :: rest) a w :=
  wpList_plain hg fun _ hK => by unfold Oper.wp; rw [hrun]; exact hK _ _ h
theorem wpl_skip {a : Act} {w w' : World} {o : Oper} (hg : o.guard = none) (hrun : (execOp a.eval o).run P w = .ok .skip w') (h : wpList P ops Q rest (a.put o.dst undef) w') : wpList P ops Q (o :: rest) a w :=
  wpList_plain hg fun _ hK => by unfold Oper.wp; rw [hrun]; exact hK _ _ h

/-- What an operation leaves in its slot, if it only reckons or reads. -/
def Yl (P : Program) (W0 : World) (N : Nat) (E : List (Nat × Value)) (H : List Res) (o : Oper) (v : Value) : Prop := ∀ a w, At W0 N E H a w → (execOp a.eval o).run P w = .ok (.value v) w
theorem gv {d : Nat} {op : Op} {v : Value} (hd : Nat.blt d N = true) (y : Yl P W0 N E H ⟨some d, op, ty, pos, aft, none⟩ v)
    (h : GL P W0 N ops ((d, v) :: E) H rest Q) : GL P W0 N ops E H (⟨some d, op, ty, pos, aft, none⟩ :: rest) Q :=
  fun a w ha => wpl_val rfl (y a w ha) (h _ _ (ha.put d v hd))
theorem gve {d : Nat} {op : Op} {φ : Value → Prop} (hd : Nat.blt d N = true) (y : ∃ v, φ v ∧ Yl P W0 N E H ⟨some d, op, ty, pos, aft, none⟩ v)
    (h : ∀ v, φ v → GL P W0 N ops ((d, v) :: E) H rest Q) : GL P W0 N ops E H (⟨some d, op, ty, pos, aft, none⟩ :: rest) Q := by
  obtain ⟨v, hv, y⟩ := y
  exact gv hd y (h v hv)

/-- A guard that says yes. -/
theorem g_on {dst : Option Nat} {op : Op} {j t : Nat} {b : Bool} (hj : (ops[j]?).bind (·.dst) = some t) (hb : get? E t = some (.bool b))
    (h : GL P W0 N ops E H (⟨dst, op, ty, pos, aft, none⟩ :: rest) Q) : GL P W0 N ops E H (⟨dst, op, ty, pos, aft, some (j, b)⟩ :: rest) Q := by
  intro a w ha
  have h1 := h a w ha
  have hy : yielded ops a.tmps j = some b := by simp [yielded, hj, ha.env t _ hb]
  have e0 : wpList P ops Q (⟨dst, op, ty, pos, aft, none⟩ :: rest) a w = (Oper.wp P ⟨dst, op, ty, pos, aft, none⟩ a w (wpList P ops Q rest) Q ∨ (Oper.asks P ⟨dst, op, ty, pos, aft, none⟩ a w ∧ LetsOut Q)) := by
    simp [wpList, Region.wanted]
  have e1 : wpList P ops Q (⟨dst, op, ty, pos, aft, some (j, b)⟩ :: rest) a w = (Oper.wp P ⟨dst, op, ty, pos, aft, some (j, b)⟩ a w (wpList P ops Q rest) Q ∨ (Oper.asks P ⟨dst, op, ty, pos, aft, some (j, b)⟩ a w ∧ LetsOut Q)) := by
    simp [wpList, Region.wanted, hy]
  rw [e0] at h1
  rw [e1]
  exact h1

/-- A guard that says no. -/
theorem g_off {d : Nat} {op : Op} {j t : Nat} {b c : Bool} (hd : Nat.blt d N = true) (hj : (ops[j]?).bind (·.dst) = some t) (hb : get? E t = some (.bool b)) (hne : (b == c) = false)
    (h : GL P W0 N ops ((d, undef) :: E) H rest Q) : GL P W0 N ops E H (⟨some d, op, ty, pos, aft, some (j, c)⟩ :: rest) Q := by
  intro a w ha
  have hy : yielded ops a.tmps j = some b := by simp [yielded, hj, ha.env t _ hb]
  refine wpList_skip ?_ (h _ _ (ha.put d _ hd))
  simp only [Region.wanted, hy]
  cases b <;> cases c <;> first | rfl | cases hne

/-- A guard that was itself passed over. -/
theorem g_und {d : Nat} {op : Op} {j t : Nat} {c : Bool} (hd : Nat.blt d N = true) (hj : (ops[j]?).bind (·.dst) = some t) (hb : get? E t = some undef)
    (h : GL P W0 N ops ((d, undef) :: E) H rest Q) : GL P W0 N ops E H (⟨some d, op, ty, pos, aft, some (j, c)⟩ :: rest) Q := by
  intro a w ha
  have hy : yielded ops a.tmps j = none := by simp [yielded, hj, ha.env t _ hb, undef]
  refine wpList_skip ?_ (h _ _ (ha.put d _ hd))
  simp only [Region.wanted, hy]
  rfl

/-- A truth in a slot is one of two. -/
theorem g_bool {l : List Oper} {t : Nat} {b : Bool} (hb : get? E t = some (.bool b)) (h1 : b = true → GL P W0 N ops ((t, .bool true) :: E) H l Q) (h0 : b = false → GL P W0 N ops ((t, .bool false) :: E) H l Q) :
    GL P W0 N ops E H l Q := by
  have key : ∀ c, b = c → ∀ a w, At W0 N E H a w → At W0 N ((t, .bool c) :: E) H a w := by
    intro c hc a w ha
    refine ⟨ha.defers, ha.size, fun u v hu => ?_, ha.mem⟩
    rw [get?_cons] at hu
    split at hu
    · rename_i e; subst e; rw [ha.env _ _ hb, hc]; exact hu
    · exact ha.env u v hu
  intro a w ha
  cases b with
  | true => exact h1 rfl a w (key true rfl a w ha)
  | false => exact h0 rfl a w (key false rfl a w ha)

theorem l_sub {l : List Oper} {E' : List (Nat × Value)} (hs : Sub E' E) (h : GL P W0 N ops E' H l Q) : GL P W0 N ops E H l Q := fun a w ha => h a w (ha.sub hs)
theorem l_drop {l : List Oper} {H' : List Res} (hs : H'.Sublist H) (h : GL P W0 N ops E H' l Q) : GL P W0 N ops E H l Q := fun a w ha => h a w (ha.withMem (ha.mem.sub hs))

/-! ### Moves, picks, arithmetic -/
section
variable {d : Nat} {x y : Operand}
theorem y_move {v : Value} (hx : ev E x = some v) : Yl P W0 N E H ⟨some d, .move x, ty, pos, aft, none⟩ (v) :=
  fun a w ha => by simp [execOp, ha.eval hx]
theorem y_assign {v : Value} (hx : ev E x = some v) : Yl P W0 N E H ⟨some d, .assign x, ty, pos, aft, none⟩ (v) :=
  fun a w ha => by simp [execOp, ha.eval hx]
theorem y_pick_t {c : Operand} {v : Value} (hc : ev E c = some (.bool true)) (hx : ev E x = some v) : Yl P W0 N E H ⟨some d, .pick c x y, ty, pos, aft, none⟩ (v) :=
  fun a w ha => by simp [execOp, asBool, ha.eval hc, ha.eval hx]
theorem y_pick_f {c : Operand} {v : Value} (hc : ev E c = some (.bool false)) (hy : ev E y = some v) : Yl P W0 N E H ⟨some d, .pick c x y, ty, pos, aft, none⟩ (v) :=
  fun a w ha => by simp [execOp, asBool, ha.eval hc, ha.eval hy]
variable {t t' : TypeId} {k : IntKind} {m n z : Int}
theorem y_add (hx : ev E x = some (.int k m)) (hy : ev E y = some (.int k n)) (hz : k.wrap (m + n) = z) : Yl P W0 N E H ⟨some d, .binOp .add t x y t', ty, pos, aft, none⟩ (.int k z) :=
  fun a w ha => by simp [execOp, ha.eval hx, ha.eval hy, eqGuard_add, binOp_add, Op.intArith, hz]
theorem y_sub_ (hx : ev E x = some (.int k m)) (hy : ev E y = some (.int k n)) (hz : k.wrap (m - n) = z) : Yl P W0 N E H ⟨some d, .binOp .sub t x y t', ty, pos, aft, none⟩ (.int k z) :=
  fun a w ha => by simp [execOp, ha.eval hx, ha.eval hy, eqGuard_sub, binOp_sub, Op.intArith, hz]
theorem y_mul (hx : ev E x = some (.int k m)) (hy : ev E y = some (.int k n)) (hz : k.wrap (m * n) = z) : Yl P W0 N E H ⟨some d, .binOp .mul t x y t', ty, pos, aft, none⟩ (.int k z) :=
  fun a w ha => by simp [execOp, ha.eval hx, ha.eval hy, eqGuard_mul, binOp_mul, Op.intArith, hz]
theorem y_quo (hx : ev E x = some (.int k m)) (hy : ev E y = some (.int k n)) (hn : n ≠ 0) (hz : k.wrap (m.tdiv n) = z) : Yl P W0 N E H ⟨some d, .binOp .quo t x y t', ty, pos, aft, none⟩ (.int k z) :=
  fun a w ha => by simp [execOp, ha.eval hx, ha.eval hy, eqGuard_quo, binOp_quo, Op.intDiv, hn, hz]
theorem y_rem (hx : ev E x = some (.int k m)) (hy : ev E y = some (.int k n)) (hn : n ≠ 0) (hz : m.tmod n = z) : Yl P W0 N E H ⟨some d, .binOp .rem t x y t', ty, pos, aft, none⟩ (.int k z) :=
  fun a w ha => by simp [execOp, ha.eval hx, ha.eval hy, eqGuard_rem, binOp_rem, Op.intDiv, hn, hz]
theorem y_lss (hx : ev E x = some (.int k m)) (hy : ev E y = some (.int k n)) : Yl P W0 N E H ⟨some d, .binOp .lss t x y t', ty, pos, aft, none⟩ (.bool (decide (m < n))) :=
  fun a w ha => by simp [execOp, ha.eval hx, ha.eval hy, eqGuard_lss, binOp_lss]
theorem y_leq (hx : ev E x = some (.int k m)) (hy : ev E y = some (.int k n)) : Yl P W0 N E H ⟨some d, .binOp .leq t x y t', ty, pos, aft, none⟩ (.bool (decide (m ≤ n))) :=
  fun a w ha => by simp [execOp, ha.eval hx, ha.eval hy, eqGuard_leq, binOp_leq]
theorem y_gtr (hx : ev E x = some (.int k m)) (hy : ev E y = some (.int k n)) : Yl P W0 N E H ⟨some d, .binOp .gtr t x y t', ty, pos, aft, none⟩ (.bool (decide (m > n))) :=
  fun a w ha => by simp [execOp, ha.eval hx, ha.eval hy, eqGuard_gtr, binOp_gtr]
theorem y_geq (hx : ev E x = some (.int k m)) (hy : ev E y = some (.int k n)) : Yl P W0 N E H ⟨some d, .binOp .geq t x y t', ty, pos, aft, none⟩ (.bool (decide (m ≥ n))) :=
  fun a w ha => by simp [execOp, ha.eval hx, ha.eval hy, eqGuard_geq, binOp_geq]
theorem y_eql (hx : ev E x = some (.int k m)) (hy : ev E y = some (.int k n)) : Yl P W0 N E H ⟨some d, .binOp .eql t x y t', ty, pos, aft, none⟩ (.bool (decide (m = n))) :=
  fun a w ha => by simp [execOp, ha.eval hx, ha.eval hy, eqGuard_at_int, binOp_eql]; by_cases e : m = n <;> simp [e]
theorem y_neq (hx : ev E x = some (.int k m)) (hy : ev E y = some (.int k n)) : Yl P W0 N E H ⟨some d, .binOp .neq t x y t', ty, pos, aft, none⟩ (.bool (decide (m ≠ n))) :=
  fun a w ha => by simp [execOp, ha.eval hx, ha.eval hy, eqGuard_at_int, binOp_neq]; by_cases e : m = n <;> simp [e]
theorem y_not {b c : Bool} (hx : ev E x = some (.bool b)) (hc : (!b) = c) : Yl P W0 N E H ⟨some d, .unOp .not t x, ty, pos, aft, none⟩ (.bool c) :=
  fun a w ha => by simp [execOp, ha.eval hx, unary_not, hc]
theorem y_neg (hx : ev E x = some (.int k m)) (hz : k.wrap (0 - m) = z) : Yl P W0 N E H ⟨some d, .unOp .neg t x, ty, pos, aft, none⟩ (.int k z) :=
  fun a w ha => by simp [execOp, ha.eval hx, unary_neg, Op.intArith]; simpa using hz
/-! ### Strings: told as lists of bytes -/
def B (l : List UInt8) : ByteArray := ⟨l.toArray⟩
theorem B_data (s : ByteArray) : B s.data.toList = s := by simp [B]
theorem B_toList (l : List UInt8) : (B l).toList = l := by rw [ByteArray.toList_eq]; simp [B]
theorem B_size (l : List UInt8) : (B l).size = l.length := by simp [B, ByteArray.size]
theorem B_inj {l m : List UInt8} (h : B l = B m) : l = m := by have := congrArg ByteArray.toList h; rwa [B_toList, B_toList] at this
theorem B_append (l m : List UInt8) : B l ++ B m = B (l ++ m) := by
  have h : (B l ++ B m).data.toList = l ++ m := by simp [B]
  rw [← B_data (B l ++ B m), h]
theorem B_extract (l : List UInt8) (i j : Nat) : (B l).extract i j = B ((l.take j).drop i) := by
  have h : ((B l).extract i j).data.toList = (l.take j).drop i := by
    simp [B, ByteArray.data_extract, List.drop_take]
  rw [← B_data ((B l).extract i j), h]
/-- The byte at a place, as a number. -/
def chr (l : List UInt8) (i : Int) : Int := ((l.getD i.toNat 0).toNat : Int)

variable {l m : List UInt8}
theorem y_seq {t t' : TypeId} (hx : ev E x = some (.string (B l))) (hy : ev E y = some (.string (B m))) : Yl P W0 N E H ⟨some d, .binOp .eql t x y t', ty, pos, aft, none⟩ (.bool (decide (l = m))) :=
  fun a w ha => by simp [execOp, ha.eval hx, ha.eval hy, eqGuard_at_string, binOp_string_eql, B_toList]; by_cases e : l = m <;> simp [e]
theorem y_sne {t t' : TypeId} (hx : ev E x = some (.string (B l))) (hy : ev E y = some (.string (B m))) : Yl P W0 N E H ⟨some d, .binOp .neq t x y t', ty, pos, aft, none⟩ (.bool (decide (l ≠ m))) :=
  fun a w ha => by simp [execOp, ha.eval hx, ha.eval hy, eqGuard_at_string, binOp_string_neq, B_toList]; by_cases e : l = m <;> simp [e]
theorem y_sadd {t t' : TypeId} {r : List UInt8} (hx : ev E x = some (.string (B l))) (hy : ev E y = some (.string (B m))) (hb : l.length + m.length ≤ 9223372036854775807) (hr : l ++ m = r) : Yl P W0 N E H ⟨some d, .binOp .add t x y t', ty, pos, aft, none⟩ (.string (B r)) :=
  fun a w ha => by
    have hb' : ¬ ((l.length : Int) + (m.length : Int) > IntKind.i64.max) := by rw [IntKind.max_i64]; omega
    simp [execOp, ha.eval hx, ha.eval hy, eqGuard_add, binOp_string_add, Op.stringOp, B_size, B_append, ← hr]
    omega
theorem y_slen {t : TypeId} {z : Int} (hT : P.underlying t = some .string) (hx : ev E x = some (.string (B l))) (hz : (l.length : Int) = z) : Yl P W0 N E H ⟨some d, .call ⟨.builtin .len, #[x], #[t]⟩, ty, pos, aft, none⟩ (.int .i64 z) :=
  fun a w ha => by
    subst hz
    have hl := run_len_string w t ty (B l) hT
    simp only [goInt, B_size] at hl
    simp only [execOp, resolve, invoke, builtin, List.map_toArray, List.map_cons, List.map_nil, ha.eval hx, Sem.run_bind, Sem.run_pure, Result.andThen_ok, hl]
theorem y_sidx {t : TypeId} {k : IntKind} {i : Int} (hT : P.underlying t = some .string) (hx : ev E x = some (.string (B l))) (hy : ev E y = some (.int k i)) (h0 : 0 ≤ i) (h1 : i < l.length) : Yl P W0 N E H ⟨some d, .index t x y, ty, pos, aft, none⟩ (.int .u8 (chr l i)) :=
  fun a w ha => by
    have hi : 0 ≤ i ∧ i < ((B l).size : Int) := by rw [B_size]; exact ⟨h0, h1⟩
    have hv : ((B l)[i.toNat]'(by rw [B_size]; omega)).toNat = (l.getD i.toNat 0).toNat := by
      have : (B l)[i.toNat]'(by rw [B_size]; omega) = l[i.toNat]'(by omega) := rfl
      rw [this]; simp [List.getD, List.getElem?_eq_getElem (show i.toNat < l.length by omega)]
    simp only [execOp, ha.eval hx, ha.eval hy, Sem.run_bind, run_index_string w t (B l) k i hT, dif_pos hi, Result.andThen_ok, Sem.run_pure, chr]
    rw [hv]
theorem y_scut {t : TypeId} {k k' : IntKind} {i j : Int} {u v : Operand} {r : List UInt8} (hT : P.underlying t = some .string) (hx : ev E x = some (.string (B l))) (hi : ev E u = some (.int k i)) (hj : ev E v = some (.int k' j))
    (h0 : 0 ≤ i) (h1 : i ≤ j) (h2 : j ≤ l.length) (hr : (l.take j.toNat).drop i.toNat = r) : Yl P W0 N E H ⟨some d, .slice t x (some u) (some v) none, ty, pos, aft, none⟩ (.string (B r)) :=
  fun a w ha => by
    have hs := run_slice_string (P := P) w t (B l) k k' i j hT h0 h1 (by rw [B_size]; exact h2)
    have hsa := run_sliceAt_string (P := P) w t (.string (B l)) (some (.int k i)) (some (.int k' j)) none hT
    simp only [execOp, ha.eval hx, ha.eval hi, ha.eval hj, Option.map_some, Option.map_none, Sem.run_bind, hsa, hs, Result.andThen_ok, Sem.run_pure, B_extract, hr]
theorem y_sfrom {t : TypeId} {k : IntKind} {i : Int} {u : Operand} {r : List UInt8} (hT : P.underlying t = some .string) (hx : ev E x = some (.string (B l))) (hi : ev E u = some (.int k i))
    (h0 : 0 ≤ i) (h1 : i ≤ l.length) (hr : l.drop i.toNat = r) : Yl P W0 N E H ⟨some d, .slice t x (some u) none none, ty, pos, aft, none⟩ (.string (B r)) :=
  fun a w ha => by
    have hs := run_slice_string_from_if (P := P) w t (B l) k i hT
    rw [if_pos ⟨h0, by rw [B_size]; exact h1⟩] at hs
    have hsa := run_sliceAt_string (P := P) w t (.string (B l)) (some (.int k i)) none none hT
    have hc : ((B l).extract i.toNat (B l).size) = B r := by rw [B_extract, B_size, List.take_length, hr]
    simp only [execOp, ha.eval hx, ha.eval hi, Option.map_some, Option.map_none, Sem.run_bind, hsa, hs, Result.andThen_ok, Sem.run_pure, hc]
theorem y_sto {t : TypeId} {k : IntKind} {j : Int} {v : Operand} {r : List UInt8} (hT : P.underlying t = some .string) (hx : ev E x = some (.string (B l))) (hj : ev E v = some (.int k j))
    (h0 : 0 ≤ j) (h1 : j ≤ l.length) (hr : l.take j.toNat = r) : Yl P W0 N E H ⟨some d, .slice t x none (some v) none, ty, pos, aft, none⟩ (.string (B r)) :=
  fun a w ha => by
    have hs := run_slice_string_to_if (P := P) w t (B l) k j hT
    rw [if_pos ⟨h0, by rw [B_size]; exact h1⟩] at hs
    have hsa := run_sliceAt_string (P := P) w t (.string (B l)) none (some (.int k j)) none hT
    have hc : ((B l).extract 0 j.toNat) = B r := by rw [B_extract, List.drop_zero, hr]
    simp only [execOp, ha.eval hx, ha.eval hj, Option.map_some, Option.map_none, Sem.run_bind, hsa, hs, Result.andThen_ok, Sem.run_pure, hc]
theorem y_extract {vs : Array Value} {n : Nat} {v : Value} (hx : ev E x = some (.tuple vs)) (hv : vs[n]? = some v) : Yl P W0 N E H ⟨some d, .extract x n, ty, pos, aft, none⟩ (v) :=
  fun a w ha => by simp [execOp, ha.eval hx, Instr.extract, hv]
theorem y_makeFunc {fn : Fn} {fs cs : Array Operand} {us vs : Array Value} (hf : ∀ a w, At W0 N E H a w → fs.map a.eval = us) (hc : ∀ a w, At W0 N E H a w → cs.map a.eval = vs) : Yl P W0 N E H ⟨some d, .makeFunc fn fs cs, ty, pos, aft, none⟩ (.func fn us vs) :=
  fun a w ha => by simp only [execOp, hf a w ha, hc a w ha, Instr.makeFunc, Sem.run_bind, Sem.run_pure, Result.andThen_ok]
theorem y_makeIface {t : TypeId} {v : Value} (hT : P.concrete t = true) (hx : ev E x = some v) : Yl P W0 N E H ⟨some d, .makeInterface t x, ty, pos, aft, none⟩ (.iface t v) :=
  fun a w ha => by simp [execOp, ha.eval hx, run_makeInterface w t v hT]
end
end
end Go.Gx
