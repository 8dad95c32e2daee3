/- This text proves: the step laws and the plain functions that the walks of this claim stand on. No condition beyond those that each theorem names. -/
import Derived.Test.YtgehghoammpiaaaGreatDoorGx1
namespace Go.Gx
open Go.RowKit

/-! ## Closed facts of a program -/
/-- One cell, no struct, no array. -/
def oneT (P : Program) (t : TypeId) : Bool := match P.underlying t with | some (.struct _) | some (.array _ _) => false | some _ => true | none => false
/-- A struct or an array of n cells. -/
def aggT (P : Program) (t : TypeId) (n : Nat) : Bool :=
  match P.underlying t with
  | some (.struct _) | some (.array _ _) => (match P.info? t with | some i => Nat.beq i.size n | none => false)
  | _ => false
def sizeT (P : Program) (t : TypeId) (n : Nat) : Bool := match P.info? t with | some i => Nat.beq i.size n | none => false
/-- Where a field lies (a field that has cells). -/
def fieldOff (P : Program) (t : TypeId) (f : Nat) : Option Nat :=
  match P.underlying t with
  | some (.struct fs) => (match fs[f]? with
    | some fd => (match P.info? fd.type with | some i => (if i.size = 0 then none else some fd.offset) | none => none)
    | none => none)
  | _ => none
def zeroOf (P : Program) (t : TypeId) : Option Value := (P.info? t).bind (·.zero)
def elemT (P : Program) (t e : TypeId) : Bool := match P.underlying t with | some (.slice e') => Nat.beq e' e | _ => false

section
variable {P : Program} {t : TypeId} {w : World}
theorem run_isAgg_one (h : oneT P t = true) : (isAgg t).run P w = .ok false w := by
  unfold oneT at h
  cases hu : P.underlying t with
  | none => rw [hu] at h; cases h
  | some d =>
    simp only [isAgg, Sem.run_bind, run_underlying hu, Result.andThen_ok]
    rw [hu] at h
    cases d <;> first | rfl | cases h
theorem run_isAgg_agg {n : Nat} (h : aggT P t n = true) : (isAgg t).run P w = .ok true w := by
  unfold aggT at h
  cases hu : P.underlying t with
  | none => rw [hu] at h; cases h
  | some d =>
    simp only [isAgg, Sem.run_bind, run_underlying hu, Result.andThen_ok]
    rw [hu] at h
    cases d <;> first | rfl | cases h
theorem sizeT_of_agg {n : Nat} (h : aggT P t n = true) : sizeT P t n = true := by
  unfold aggT at h
  unfold sizeT
  cases hu : P.underlying t with
  | none => rw [hu] at h; cases h
  | some d => rw [hu] at h; cases d <;> first | exact h | cases h
theorem run_sizeOf {n : Nat} (h : sizeT P t n = true) : (sizeOf t).run P w = .ok n w := by
  unfold sizeT at h
  cases hi : P.info? t with
  | none => rw [hi] at h; cases h
  | some i =>
    rw [hi] at h
    have : i.size = n := Nat.eq_of_beq_eq_true h
    simp [sizeOf, typeInfo, hi, this]
theorem run_zeroValue {z : Value} (h : zeroOf P t = some z) : (zeroValue t).run P w = .ok z w := by
  unfold zeroOf at h
  cases hi : P.info? t with
  | none => rw [hi] at h; cases h
  | some i =>
    rw [hi] at h
    simp only [Option.bind_some] at h
    simp [zeroValue, typeInfo, hi, h]

/-- 'n cells from p on are vs'. -/
def Cs (w : World) (p : Addr) (vs : List Value) : Prop := ∀ j u, vs[j]? = some u → w.cell? (p.add j) = some u

theorem run_load_one {p : Addr} {v : Value} (h1 : oneT P t = true) (hc : w.cell? p = some v) : (loadVar t p).run P w = .ok v w := by
  simp only [loadVar, Sem.run_bind, run_isAgg_one h1, Result.andThen_ok]
  simp [load, Sem.run, hc]
theorem run_load_agg {p : Addr} {vs : List Value} (h1 : aggT P t vs.length = true) (hc : Cs w p vs) : (loadVar t p).run P w = .ok (.agg vs.toArray) w := by
  have hl := run_loadCells_list (P := P) w p vs hc
  simp only [loadVar, Sem.run_bind, run_isAgg_agg h1, Result.andThen_ok]
  simp [run_sizeOf (sizeT_of_agg h1), hl]

theorem cs_blk {g off : Nat} {cs : Array Value} {e : TypeId} {fr : Nat × Nat} {vs : List Value} (h : w.heap[g]? = some (.cells cs e fr)) (hv : ∀ j u, vs[j]? = some u → cs[off + j]? = some u) : Cs w ⟨g, off, none⟩ vs := by
  intro j u hj
  have hadd : (⟨g, off, none⟩ : Addr).add j = ⟨g, off + j, none⟩ := by unfold Addr.add; split <;> simp_all
  rw [hadd, cell_of_row w g (off + j) cs e fr h]
  exact hv j u hj

theorem add_add (a : Addr) (i j : Nat) : (a.add i).add j = a.add (i + j) := by
  unfold Addr.add
  by_cases hi : i = 0 <;> by_cases hj : j = 0 <;> simp [hi, hj, Nat.add_assoc]
theorem add_zero_ (a : Addr) : a.add 0 = a := by simp [Addr.add]
theorem block_add (a : Addr) (n : Nat) : (a.add n).block = a.block := by unfold Addr.add; split <;> rfl
end

section
variable {P : Program} {W0 : World} {N : Nat} {E : List (Nat × Value)} {H : List Res} {Q : Exit → Act → World → Prop} {ops : Array Oper} {rest : List Oper} {ty : TypeId} {pos : String} {aft : Array Edge} {d : Nat} {x y : Operand}

/-! ### New blocks -/
theorem At.newBlk {a : Act} {w : World} (h : At W0 N E H a w) (d : Nat) (o : Obj) (hd : Nat.blt d N = true) :
    At W0 N ((d, .pointer (some ⟨w.heap.size, 0, none⟩)) :: E) (.blk w.heap.size o :: H) (a.put (some d) (.pointer (some ⟨w.heap.size, 0, none⟩))) (w.alloc o) :=
  (h.put d _ hd).withMem (h.mem.alloc o)

theorem l_alloc {t : TypeId} {z : Value} {cs : Array Value} (hd : Nat.blt d N = true) (hz : zeroOf P t = some z) (hc : z.cells = cs)
    (h : ∀ g, GL P W0 N ops ((d, .pointer (some ⟨g, 0, none⟩)) :: E) (.blk g (.cells cs t (0, 0)) :: H) rest Q) : GL P W0 N ops E H (⟨some d, .alloc t, ty, pos, aft, none⟩ :: rest) Q :=
  fun a w ha => wpl_val (v := .pointer (some ⟨w.heap.size, 0, none⟩)) (w' := w.alloc (.cells cs t)) rfl
    (by subst hc; simp [execOp, Instr.alloc, run_zeroValue hz, newVar, newRow]) (h w.heap.size _ _ (ha.newBlk d _ hd))
theorem l_box {t : TypeId} {v : Value} {cs : Array Value} (hd : Nat.blt d N = true) (hx : ev E x = some v) (hc : v.cells = cs)
    (h : ∀ g, GL P W0 N ops ((d, .pointer (some ⟨g, 0, none⟩)) :: E) (.blk g (.cells cs t (0, 0)) :: H) rest Q) : GL P W0 N ops E H (⟨some d, .box t x, ty, pos, aft, none⟩ :: rest) Q :=
  fun a w ha => wpl_val (v := .pointer (some ⟨w.heap.size, 0, none⟩)) (w' := w.alloc (.cells cs t)) rfl
    (by subst hc; simp [execOp, Instr.box, ha.eval hx, newVar, newRow]) (h w.heap.size _ _ (ha.newBlk d _ hd))

theorem l_box1 {t : TypeId} {v : Value} (hd : Nat.blt d N = true) (hx : ev E x = some v) (hc : v.cells = #[v])
    (h : ∀ g, GL P W0 N ops ((d, .pointer (some ⟨g, 0, none⟩)) :: E) (.blk g (.cells #[v] t (0, 0)) :: H) rest Q) : GL P W0 N ops E H (⟨some d, .box t x, ty, pos, aft, none⟩ :: rest) Q := l_box hd hx hc h
theorem l_boxA {t : TypeId} {cs : Array Value} (hd : Nat.blt d N = true) (hx : ev E x = some (.agg cs))
    (h : ∀ g, GL P W0 N ops ((d, .pointer (some ⟨g, 0, none⟩)) :: E) (.blk g (.cells cs t (0, 0)) :: H) rest Q) : GL P W0 N ops E H (⟨some d, .box t x, ty, pos, aft, none⟩ :: rest) Q := l_box hd hx rfl h
theorem l_alloc1 {t : TypeId} {v : Value} (hd : Nat.blt d N = true) (hz : zeroOf P t = some v) (hc : v.cells = #[v])
    (h : ∀ g, GL P W0 N ops ((d, .pointer (some ⟨g, 0, none⟩)) :: E) (.blk g (.cells #[v] t (0, 0)) :: H) rest Q) : GL P W0 N ops E H (⟨some d, .alloc t, ty, pos, aft, none⟩ :: rest) Q := l_alloc hd hz hc h
theorem l_allocA {t : TypeId} {cs : Array Value} (hd : Nat.blt d N = true) (hz : zeroOf P t = some (.agg cs))
    (h : ∀ g, GL P W0 N ops ((d, .pointer (some ⟨g, 0, none⟩)) :: E) (.blk g (.cells cs t (0, 0)) :: H) rest Q) : GL P W0 N ops E H (⟨some d, .alloc t, ty, pos, aft, none⟩ :: rest) Q := l_alloc hd hz rfl h

/-! ### Loads and stores at blocks of one's own -/
theorem y_load {t e : TypeId} {g off k : Nat} {cs : Array Value} {fr : Nat × Nat} {v : Value} (hT : oneT P t = true) (hx : ev E x = some (.pointer (some ⟨g, off, none⟩)))
    (hk : H[k]? = some (.blk g (.cells cs e fr))) (hv : cs[off]? = some v) : Yl P W0 N E H ⟨some d, .load t x, ty, pos, aft, none⟩ (v) :=
  fun a w ha => by
    have hb := (ha.mem.blk hk).2
    have hc : w.cell? ⟨g, off, none⟩ = some v := (cell_of_row w g off cs e fr hb).trans hv
    simp [execOp, Instr.loadAt, Instr.sureAddr, ha.eval hx, run_load_one hT hc]
theorem y_loadA {t e : TypeId} {g off k n : Nat} {cs : Array Value} {fr : Nat × Nat} {vs : List Value} (hT : aggT P t n = true) (hx : ev E x = some (.pointer (some ⟨g, off, none⟩)))
    (hk : H[k]? = some (.blk g (.cells cs e fr))) (hn : vs.length = n) (hv' : (cs.toList.drop off).take n = vs) : Yl P W0 N E H ⟨some d, .load t x, ty, pos, aft, none⟩ (.agg vs.toArray) :=
  fun a w ha => by
    have hv : ∀ j u, vs[j]? = some u → cs[off + j]? = some u := by
      intro j u hj
      rw [← hv', List.getElem?_take] at hj
      split at hj
      · rw [List.getElem?_drop] at hj; simpa using hj
      · cases hj
    subst hn
    have hb := (ha.mem.blk hk).2
    simp [execOp, Instr.loadAt, Instr.sureAddr, ha.eval hx, run_load_agg hT (cs_blk hb hv)]
/-- The whole of a block. -/
theorem y_loadW {t e : TypeId} {g k n : Nat} {cs : Array Value} {fr : Nat × Nat} (hT : aggT P t n = true) (hx : ev E x = some (.pointer (some ⟨g, 0, none⟩)))
    (hk : H[k]? = some (.blk g (.cells cs e fr))) (hn : cs.size = n) : Yl P W0 N E H ⟨some d, .load t x, ty, pos, aft, none⟩ (.agg cs) := by
  have := y_loadA (W0 := W0) (N := N) (ty := ty) (pos := pos) (aft := aft) (d := d) (vs := cs.toList) hT hx hk (by simpa using hn) (by rw [List.drop_zero, ← hn, ← Array.length_toList, List.take_length])
  simpa using this

theorem At.stored {a : Act} {w : World} {g k : Nat} {e : TypeId} {cs cs' : Array Value} (ha : At W0 N E H a w) (hk : H[k]? = some (.blk g (.cells cs e (0, 0)))) :
    At W0 N E (H.set k (.blk g (.cells cs' e (0, 0)))) a (w.setRow g cs') := by
  have hb := ha.mem.blk hk
  refine ha.withMem (ha.mem.set (g := g) hk rfl ?_ ⟨hb.1, ?_⟩ (by intro g' h'; simp only [Res.blk?, Option.some.injEq] at h'; exact .inl h'.symm))
  · refine ⟨rfl, rfl, rfl, by simp [World.setRow], fun j hj hne => ?_⟩
    simp only [World.setRow, Array.getElem?_modify]
    rw [if_neg (fun e => hne (by rw [e]))]
  · exact setRow_heap w g cs cs' e (0, 0) hb.2

theorem l_store {t e : TypeId} {g off k : Nat} {cs cs' : Array Value} {v : Value} {H' : List Res} (hT : sizeT P t 1 = true) (hx : ev E x = some (.pointer (some ⟨g, off, none⟩))) (hy : ev E y = some v) (h1 : v.oneCell' = true)
    (hk : H[k]? = some (.blk g (.cells cs e (0, 0)))) (ho : Nat.blt off cs.size = true) (hcs : cs.setIfInBounds off v = cs') (hH : H.set k (.blk g (.cells cs' e (0, 0))) = H')
    (h : GL P W0 N ops E H' rest Q) : GL P W0 N ops E H (⟨none, .store t x y, ty, pos, aft, none⟩ :: rest) Q := by
  intro a w ha
  have hb := (ha.mem.blk hk).2
  have ho' : off < cs.size := by simpa [Nat.blt, Nat.ble_eq, Nat.succ_le_iff] using ho
  have hcell : v.cells = #[v] := by cases v <;> first | rfl | cases h1
  have hst := run_storeCells_at P g off e [v] 0 cs w hb (by simp; omega) (by intro u hu; simp at hu; subst hu; exact h1)
  have hrow : (cs.toList.take (off + 0) ++ [v] ++ cs.toList.drop (off + 0 + [v].length)).toArray = cs' := by
    subst hcs
    apply Array.toList_inj.1
    simp [Array.toList_setIfInBounds, List.set_eq_take_append_cons_drop, ho']
  rw [hrow] at hst
  refine wpl_skip (w' := w.setRow g cs') rfl ?_ ?_
  · simp only [execOp, Instr.storeAt, Instr.sureAddr, ha.eval hx, ha.eval hy, Sem.run_bind, Sem.run_pure, Result.andThen_ok, storeVar, run_sizeOf hT, hcell]
    simp [hst]
  · subst hH
    exact h _ _ (ha.stored hk)
theorem l_storeA {t e : TypeId} {g off k n : Nat} {cs cs' vs : Array Value} {H' : List Res} (hT : sizeT P t n = true) (hx : ev E x = some (.pointer (some ⟨g, off, none⟩))) (hy : ev E y = some (.agg vs)) (h1 : vs.toList.all Value.oneCell' = true)
    (hn : vs.size = n) (hk : H[k]? = some (.blk g (.cells cs e (0, 0)))) (ho : off + n ≤ cs.size) (hcs : (cs.toList.take off ++ vs.toList ++ cs.toList.drop (off + n)).toArray = cs') (hH : H.set k (.blk g (.cells cs' e (0, 0))) = H')
    (h : GL P W0 N ops E H' rest Q) : GL P W0 N ops E H (⟨none, .store t x y, ty, pos, aft, none⟩ :: rest) Q := by
  intro a w ha
  have hb := (ha.mem.blk hk).2
  have hst := run_storeCells_at P g off e vs.toList 0 cs w hb (by simp; omega) (by intro u hu; exact List.all_eq_true.1 h1 u hu)
  have hrow : (cs.toList.take (off + 0) ++ vs.toList ++ cs.toList.drop (off + 0 + vs.toList.length)).toArray = cs' := by
    rw [← hcs, ← hn]; simp
  rw [hrow] at hst
  refine wpl_skip (w' := w.setRow g cs') rfl ?_ ?_
  · simp only [execOp, Instr.storeAt, Instr.sureAddr, ha.eval hx, ha.eval hy, Sem.run_bind, Sem.run_pure, Result.andThen_ok, storeVar, run_sizeOf hT, Value.cells, hn]
    simp [hst]
  · subst hH
    exact h _ _ (ha.stored hk)
/-- The whole of a block. -/
theorem l_storeW {t e : TypeId} {g k n : Nat} {cs vs : Array Value} {H' : List Res} (hT : sizeT P t n = true) (hx : ev E x = some (.pointer (some ⟨g, 0, none⟩))) (hy : ev E y = some (.agg vs)) (h1 : vs.toList.all Value.oneCell' = true)
    (hn : vs.size = n) (hk : H[k]? = some (.blk g (.cells cs e (0, 0)))) (ho : cs.size = n) (hH : H.set k (.blk g (.cells vs e (0, 0))) = H')
    (h : GL P W0 N ops E H' rest Q) : GL P W0 N ops E H (⟨none, .store t x y, ty, pos, aft, none⟩ :: rest) Q :=
  l_storeA hT hx hy h1 hn hk (by omega) (by
    have : cs.toList.drop (0 + n) = [] := by apply List.drop_eq_nil_of_le; simp; omega
    rw [this]; simp) hH h

theorem run_fieldAt {t : TypeId} {f o : Nat} {p : Addr} {w : World} (hf : fieldOff P t f = some o) : (Instr.fieldAt t (.pointer (some p)) f).run P w = .ok (.pointer (some (p.add o))) w := by
  unfold fieldOff at hf
  cases hu : P.underlying t with
  | none => rw [hu] at hf; cases hf
  | some D =>
    rw [hu] at hf
    cases D with
    | struct fs =>
      simp only at hf
      cases hfd : fs[f]? with
      | none => rw [hfd] at hf; cases hf
      | some fd =>
        rw [hfd] at hf
        simp only at hf
        cases hi : P.info? fd.type with
        | none => rw [hi] at hf; cases hf
        | some i =>
          rw [hi] at hf
          simp only at hf
          split at hf
          · cases hf
          · rename_i hne
            injection hf with hf
            subst hf
            simp [Instr.fieldAt, run_underlying hu, hfd, Instr.sureAddr, fieldPlace, sizeOf, typeInfo, hi, hne]
    | _ => cases hf
theorem y_faddr {t : TypeId} {f o g off r : Nat} (hf : fieldOff P t f = some o) (hx : ev E x = some (.pointer (some ⟨g, off, none⟩))) (hr : off + o = r) : Yl P W0 N E H ⟨some d, .fieldAddr t x f, ty, pos, aft, none⟩ (.pointer (some ⟨g, r, none⟩)) :=
  fun a w ha => by
    have hadd : (⟨g, off, none⟩ : Addr).add o = ⟨g, r, none⟩ := by subst hr; unfold Addr.add; split <;> simp_all
    simp [execOp, ha.eval hx, run_fieldAt (w := w) hf, hadd]
theorem y_faddr_p {t : TypeId} {f o : Nat} {p : Addr} (hf : fieldOff P t f = some o) (hx : ev E x = some (.pointer (some p))) : Yl P W0 N E H ⟨some d, .fieldAddr t x f, ty, pos, aft, none⟩ (.pointer (some (p.add o))) :=
  fun a w ha => by simp [execOp, ha.eval hx, run_fieldAt (w := w) hf]
theorem y_nilCheck {p : Addr} (hx : ev E x = some (.pointer (some p))) : Yl P W0 N E H ⟨some d, .nilCheck x, ty, pos, aft, none⟩ (.pointer (some p)) :=
  fun a w ha => by simp [execOp, ha.eval hx]
/-! ### Slices that are read: what lay there when the call began -/
/-- 'The cells from p on, in blocks that lay there, are vs.' -/
def El (W : World) (p : Addr) (vs : List Value) : Prop := p.block < W.heap.size ∧ Cs W p vs
/-- A slice that reads as a list: element i lies sz cells on, its cells are f x. -/
def Sl {α : Type} (f : α → List Value) (sz : Nat) (W : World) (A : Option Addr) (l : List α) : Prop := ∀ i x, l[i]? = some x → ∃ ad, A = some ad ∧ El W (ad.add (i * sz)) (f x)

theorem El.below {W W' : World} {p : Addr} {vs : List Value} (h : El W p vs) (hb : Below W.heap.size W W') : El W' p vs :=
  ⟨Nat.lt_of_lt_of_le h.1 hb.size, fun j u hj => (hb.cell (p := p.add j) (by rw [block_add]; exact h.1)).trans (h.2 j u hj)⟩
theorem Sl.below {α : Type} {f : α → List Value} {sz : Nat} {W W' : World} {A : Option Addr} {l : List α} (h : Sl f sz W A l) (hb : Below W.heap.size W W') : Sl f sz W' A l := by
  intro i x hi
  obtain ⟨ad, hA, he⟩ := h i x hi
  exact ⟨ad, hA, he.below hb⟩
theorem El.sub {W : World} {p : Addr} {vs us : List Value} {o : Nat} (h : El W p vs) (hs : ∀ j u, us[j]? = some u → vs[o + j]? = some u) : El W (p.add o) us :=
  ⟨by rw [block_add]; exact h.1, fun j u hj => by rw [add_add]; exact h.2 _ u (hs j u hj)⟩

theorem y_load_el {t : TypeId} {p : Addr} {vs : List Value} {o : Nat} {v : Value} (hT : oneT P t = true) (hp : El W0 p vs) (hx : ev E x = some (.pointer (some (p.add o)))) (hv : vs[o]? = some v) : Yl P W0 N E H ⟨some d, .load t x, ty, pos, aft, none⟩ (v) :=
  fun a w ha => by
    have hc : w.cell? (p.add o) = some v := (ha.mem.below.cell (p := p.add o) (by rw [block_add]; exact hp.1)).trans (hp.2 o v hv)
    simp [execOp, Instr.loadAt, Instr.sureAddr, ha.eval hx, run_load_one hT hc]
theorem y_load_el0 {t : TypeId} {p : Addr} {v : Value} (hT : oneT P t = true) (hp : El W0 p [v]) (hx : ev E x = some (.pointer (some p))) : Yl P W0 N E H ⟨some d, .load t x, ty, pos, aft, none⟩ v :=
  y_load_el (o := 0) hT hp (by rw [add_zero_]; exact hx) rfl
theorem y_loadA_el {t : TypeId} {p : Addr} {vs : List Value} {n : Nat} (hT : aggT P t n = true) (hn : vs.length = n) (hp : El W0 p vs) (hx : ev E x = some (.pointer (some p))) : Yl P W0 N E H ⟨some d, .load t x, ty, pos, aft, none⟩ (.agg vs.toArray) :=
  fun a w ha => by
    subst hn
    have hc : Cs w p vs := fun j u hj => (ha.mem.below.cell (p := p.add j) (by rw [block_add]; exact hp.1)).trans (hp.2 j u hj)
    simp [execOp, Instr.loadAt, Instr.sureAddr, ha.eval hx, run_load_agg hT hc]
theorem y_len {t e : TypeId} {A : Option Addr} {n c : Nat} (hT : elemT P t e = true) (hx : ev E x = some (.slice A n c)) : Yl P W0 N E H ⟨some d, .call ⟨.builtin .len, #[x], #[t]⟩, ty, pos, aft, none⟩ (.int .i64 (n : Int)) :=
  fun a w ha => by
    have hu : P.underlying t = some (.slice e) := by
      unfold elemT at hT
      cases hu : P.underlying t with
      | none => rw [hu] at hT; cases hT
      | some D => rw [hu] at hT; cases D <;> first | (rw [Nat.eq_of_beq_eq_true hT]) | cases hT
    simp only [execOp, resolve, invoke, builtin, List.map_toArray, List.map_cons, List.map_nil, ha.eval hx, Sem.run_bind, Sem.run_pure, Result.andThen_ok]
    simp [Builtin.len_, run_underlying hu, goInt]
theorem under_of_elemT {t e : TypeId} (hT : elemT P t e = true) : P.underlying t = some (.slice e) := by
  unfold elemT at hT
  cases hu : P.underlying t with
  | none => rw [hu] at hT; cases hT
  | some D => rw [hu] at hT; cases D <;> first | (rw [Nat.eq_of_beq_eq_true hT]) | cases hT
/-- The address of an element that is there. -/
def AtEl {α : Type} (f : α → List Value) (W : World) (u : α) (v : Value) : Prop := ∃ p, v = .pointer (some p) ∧ El W p (f u)
theorem y_iaddr {α : Type} {f : α → List Value} {t e : TypeId} {A : Option Addr} {sz c n : Nat} {l : List α} {kk : IntKind} {i : Int} {u : α} (hT : elemT P t e = true) (hs : sizeT P e sz = true)
    (hA : Sl f sz W0 A l) (hx : ev E x = some (.slice A n c)) (hn : l.length = n) (hy : ev E y = some (.int kk i)) (h0 : 0 ≤ i) (hu : l[i.toNat]? = some u) :
    ∃ v, AtEl f W0 u v ∧ Yl P W0 N E H ⟨some d, .indexAddr t x y, ty, pos, aft, none⟩ v := by
  obtain ⟨ad, rfl, he⟩ := hA _ _ hu
  have hlt : i.toNat < l.length := (List.getElem?_eq_some_iff.1 hu).1
  refine ⟨.pointer (some (ad.add (i.toNat * sz))), ⟨_, rfl, he⟩, fun a w ha => ?_⟩
  have hc : 0 ≤ i ∧ i < (n : Int) := ⟨h0, by omega⟩
  simp only [execOp, ha.eval hx, ha.eval hy]
  simp [Instr.indexAt, asIntOf, run_underlying (under_of_elemT hT), hc, run_sizeOf hs]
end
end Go.Gx
