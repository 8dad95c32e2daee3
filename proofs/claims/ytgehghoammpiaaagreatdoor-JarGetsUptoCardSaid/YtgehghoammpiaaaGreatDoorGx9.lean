/- This text proves: the step laws and the plain functions that the walks of this claim stand on. No condition beyond those that each theorem names. -/
import Derived.Test.YtgehghoammpiaaaGreatDoorGx8
import Derived.Laws.IdiomStrings
import Derived.Laws.IdiomCopy
import Derived.Laws.Externs
namespace Go.Gx
open Go.RowKit
section
variable {P : Program} {W0 : World} {N : Nat} {E : List (Nat × Value)} {H : List Res} {Q : Exit → Act → World → Prop} {ops : Array Oper} {rest : List Oper} {x y : Operand} {d : Nat} {ty : TypeId} {pos : String} {aft : Array Edge}
/-! ## Bytes of a string -/
def bV (b : UInt8) : Value := .int .u8 (b.toNat : Int)
def rowB (l : List UInt8) (R : List Value) : Array Value := (l.map bV ++ R).toArray
def bytesT (P : Program) (t e : TypeId) : Bool := (match P.underlying t with | some (.slice e') => Nat.beq e' e | _ => false) && (match P.underlying e with | some (.int .u8) => true | _ => false)
def strT (P : Program) (t : TypeId) : Bool := match P.underlying t with | some .string => true | _ => false
theorem strT_spec {t : TypeId} (h : strT P t = true) : P.underlying t = some .string := by
  unfold strT at h; cases hu : P.underlying t with
  | none => simp [hu] at h
  | some D => cases D <;> simp [hu] at h; rfl
theorem bytesT_spec {t e : TypeId} (h : bytesT P t e = true) : P.underlying t = some (.slice e) ∧ P.underlying e = some (.int .u8) := by
  unfold bytesT at h
  simp only [Bool.and_eq_true] at h
  obtain ⟨h1, h2⟩ := h
  refine ⟨under_of_elemT (by unfold elemT; exact h1), ?_⟩
  cases hu : P.underlying e with
  | none => simp [hu] at h2
  | some D =>
    cases D <;> simp [hu] at h2
    rename_i k
    cases k <;> simp_all
theorem rowB_at {l : List UInt8} {R : List Value} {i : Nat} {b : UInt8} (h : l[i]? = some b) : (rowB l R)[i]? = some (bV b) := by
  simp only [rowB, List.getElem?_toArray]
  rw [List.getElem?_append_left (by simp; exact (List.getElem?_eq_some_iff.1 h).1)]
  simp [h]
theorem l_s2b {s t e : TypeId} {l : List UInt8} (hd : Nat.blt d N = true) (hs : strT P s = true) (hT : bytesT P t e = true) (hx : ev E x = some (.string (B l)))
    (h : ∀ g c R m, l.length ≤ m → GL P W0 N ops ((d, .slice (some ⟨g, 0, none⟩) l.length c) :: E) (.blk g (.cells (rowB l R) e (m, m + 1)) :: H) rest Q) :
    GL P W0 N ops E H (⟨some d, .convert s t x, ty, pos, aft, none⟩ :: rest) Q := by
  intro a w ha
  have hrun := run_bytes_of_string w s t e (B l) (strT_spec hs) (bytesT_spec hT).1 (bytesT_spec hT).2
  have hrow : bytesRow (B l) (grownCap w (B l).size 0 e) = rowB l (List.replicate (grownCap w (B l).size 0 e - (B l).size) (.int .u8 0)) := by
    apply Array.toList_inj.1
    simp [bytesRow, rowB, B, bV]
  rw [hrow] at hrun
  refine wpl_val rfl (v := .slice (some ⟨w.heap.size, 0, none⟩) l.length (grownCap w (B l).size 0 e)) (w' := w.drew.alloc (.cells (rowB l (List.replicate (grownCap w (B l).size 0 e - (B l).size) (.int .u8 0))) e ((rowB l (List.replicate (grownCap w (B l).size 0 e - (B l).size) (.int .u8 0))).size, (rowB l (List.replicate (grownCap w (B l).size 0 e - (B l).size) (.int .u8 0))).size + 1))) ?_ ?_
  · rw [B_size] at hrun
    simp only [execOp, ha.eval hx, Sem.run_bind, hrun, Result.andThen_ok, Sem.run_pure]
    rw [B_size]
  · refine h _ _ _ _ ?_ _ _ ((ha.withMem (ha.mem.drew.alloc _)).put d _ hd)
    simp [rowB]
/-- Back. -/
theorem y_b2s {s t e : TypeId} {l : List UInt8} {R : List Value} {g k n c : Nat} {fr : Nat × Nat} (hT : bytesT P s e = true) (hs : strT P t = true) (hx : ev E x = some (.slice (some ⟨g, 0, none⟩) n c)) (hk : H[k]? = some (.blk g (.cells (rowB l R) e fr))) (hn : l.length = n) :
    Yl P W0 N E H ⟨some d, .convert s t x, ty, pos, aft, none⟩ (.string (B l)) := by
  intro a w ha
  subst hn
  have hb := ha.mem.blk hk
  have hrun := run_convert_bytes_back (P := P) w s t e ⟨g, 0, none⟩ c l (bytesT_spec hT).1 (bytesT_spec hT).2 (strT_spec hs) (fun j hj => by
    have := cs_blk (off := 0) (vs := l.map bV) hb.2 (fun j u hj => by simp only [rowB, Nat.zero_add, List.getElem?_toArray]; rw [List.getElem?_append_left (List.getElem?_eq_some_iff.1 hj).1]; exact hj) j (bV l[j]) (by simp [hj])
    exact this)
  simp only [execOp, ha.eval hx, Sem.run_bind, hrun, Result.andThen_ok, Sem.run_pure]
  rfl
/-- One byte of such a row is written. -/
theorem l_storeB {t e : TypeId} {g i k : Nat} {l l' : List UInt8} {R : List Value} {m q : Nat} {z : Int} {b : UInt8} {H' : List Res} (hT : sizeT P t 1 = true) (hx : ev E x = some (.pointer (some ⟨g, i, none⟩))) (hy : ev E y = some (.int .u8 z))
    (hk : H[k]? = some (.blk g (.cells (rowB l R) e (m, q)))) (hi : i < l.length) (hm : l.length ≤ m) (hb : z = (b.toNat : Int)) (hl : l.set i b = l') (hH : H.set k (.blk g (.cells (rowB l' R) e (m, q))) = H')
    (h : GL P W0 N ops E H' rest Q) : GL P W0 N ops E H (⟨none, .store t x y, ty, pos, aft, none⟩ :: rest) Q := by
  intro a w ha
  subst hb
  have hb := (ha.mem.blk hk).2
  have hsz : i < (rowB l R).size := by simp [rowB]; omega
  have hcell : w.cell? ⟨g, i, none⟩ = some ((rowB l R)[i]) := by simp [World.cell?, hb, hsz]
  have hfz : w.frozen? ⟨g, i, none⟩ = false := by
    simp only [World.frozen?, hb]
    have : ¬ m ≤ i := by omega
    simp [this]
  have hst := run_storeCells_cells (P := P) g i [.int .u8 (b.toNat : Int)] 0 w (by intro j hj; simp at hj; subst hj; simp [hcell]) (by intro j hj; simp at hj; subst hj; simpa using hfz) (by intro v hv; simp at hv; subst hv; rfl)
  have hw : w.setCells g (i + 0) [.int .u8 (b.toNat : Int)] = w.setCell ⟨g, i, none⟩ (bV b) := rfl
  rw [hw] at hst
  refine wpl_skip (w' := w.setCell ⟨g, i, none⟩ (bV b)) rfl ?_ ?_
  · simp only [execOp, Instr.storeAt, Instr.sureAddr, ha.eval hx, ha.eval hy, Sem.run_bind, Sem.run_pure, Result.andThen_ok, storeVar, run_sizeOf hT]
    simp [Value.cells, hst]
  · subst hH
    subst hl
    refine h _ _ (ha.withMem (ha.mem.set (g := g) hk rfl ?_ ⟨(ha.mem.blk hk).1, ?_⟩ (by intro g' h'; simp only [Res.blk?, Option.some.injEq] at h'; exact .inl h'.symm)))
    · refine ⟨rfl, rfl, rfl, by simp [World.setCell], fun j hj hne => ?_⟩
      exact Below.heap_setCell _ _ _ _ (fun e => hne (by rw [e]))
    · simp only [World.setCell, Array.getElem?_modify, if_pos, hb, Option.map_some]
      congr 2
      apply Array.toList_inj.1
      simp [rowB, bV, List.set_append, hi, List.map_set]
/-- An element's address in an own row. -/
theorem y_iaddr_own {t e : TypeId} {g n c sz r : Nat} {kk : IntKind} {i : Int} (hT : elemT P t e = true) (hs : sizeT P e sz = true) (hx : ev E x = some (.slice (some ⟨g, 0, none⟩) n c)) (hy : ev E y = some (.int kk i)) (h0 : 0 ≤ i) (h1 : i < n) (hr : i.toNat * sz = r) :
    Yl P W0 N E H ⟨some d, .indexAddr t x y, ty, pos, aft, none⟩ (.pointer (some ⟨g, r, none⟩)) := by
  intro a w ha
  have hadd : (⟨g, 0, none⟩ : Addr).add (i.toNat * sz) = ⟨g, r, none⟩ := by subst hr; unfold Addr.add; split <;> simp_all
  have hc : 0 ≤ i ∧ i < (n : Int) := ⟨h0, h1⟩
  simp only [execOp, ha.eval hx, ha.eval hy]
  simp [Instr.indexAt, asIntOf, run_underlying (under_of_elemT hT), hc, run_sizeOf hs, hadd]
/-! ## internal/bytealg.IndexByteString -/
def ibF (l : List UInt8) (b : UInt8) : Int := firstIdx (B l) b
/-- 'Function K is the model's entry for IndexByteString.' -/
def IsIB (P : Program) (K : FuncId) : Prop := ∀ args w, (callFunc K args).run P w = ((Extern.BytealgIndexByte.indexByte args).run P w).andThen fun v w' => .ok (.value v) w'
theorem y_ib {K : FuncId} {l : List UInt8} {b : UInt8} {ats : Array TypeId} (hI : IsIB P K) (hx : ev E x = some (.string (B l))) (hy : ev E y = some (.int .u8 (b.toNat : Int))) :
    Yl P W0 N E H ⟨some d, .call ⟨.value (.func K), #[x, y], ats⟩, ty, pos, aft, none⟩ (.int .i64 (ibF l b)) := by
  intro a w ha
  simp only [execOp, resolve, Sem.run_bind, Act.eval, Deferred.ofValue, Sem.run_pure, Result.andThen_ok, Go.invoke]
  have h1 : (callFunc K (#[x, y].map a.eval ++ #[])).run P w = .ok (.value (.int .i64 (ibF l b))) w := by
    rw [hI]
    have : (#[x, y].map a.eval ++ #[]) = #[.string (B l), .int .u8 (b.toNat : Int)] := by simp [ha.eval hx, ha.eval hy]
    rw [this, run_indexByte_string]
    simp [ibF]
  simpa using h1
theorem ib_range (l : List UInt8) (b : UInt8) : -1 ≤ ibF l b ∧ ibF l b < l.length := by
  unfold ibF firstIdx
  split
  · rename_i i hi
    have := List.mem_of_find?_eq_some hi
    rw [List.mem_range, B_size] at this
    omega
  · omega
end
end Go.Gx
