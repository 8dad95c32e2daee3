/- This text proves: the step laws and the plain functions that the walks of this claim stand on. No condition beyond those that each theorem names. -/
import Derived.Test.YtgehghoammpiaaaGreatDoorGx3
import Derived.Laws.StructEq
namespace Go.Gx
open Go.RowKit

theorem wrap_i8 {z : Int} (h0 : -128 ≤ z) (h1 : z ≤ 127) : IntKind.i8.wrap z = z := by simp [IntKind.wrap, IntKind.bits, IntKind.signed]; omega
theorem wrap_i32 {z : Int} (h0 : -2147483648 ≤ z) (h1 : z ≤ 2147483647) : IntKind.i32.wrap z = z := by simp [IntKind.wrap, IntKind.bits, IntKind.signed]; omega
theorem wrap_i64 {z : Int} (h0 : -9223372036854775808 ≤ z) (h1 : z ≤ 9223372036854775807) : IntKind.i64.wrap z = z := by simp [IntKind.wrap, IntKind.bits, IntKind.signed]; omega
theorem wrap_in {z : Int} (h0 : -9223372036854775808 ≤ z) (h1 : z ≤ 9223372036854775807) : IntKind.i64.wrap z = z := wrap_i64 h0 h1
theorem wrap_u8 {z : Int} (h0 : 0 ≤ z) (h1 : z ≤ 255) : IntKind.u8.wrap z = z := by simp [IntKind.wrap, IntKind.bits, IntKind.signed]; omega
theorem wrap_u32 {z : Int} (h0 : 0 ≤ z) (h1 : z ≤ 4294967295) : IntKind.u32.wrap z = z := by simp [IntKind.wrap, IntKind.bits, IntKind.signed]; omega
theorem wrap_u64 {z : Int} (h0 : 0 ≤ z) (h1 : z ≤ 18446744073709551615) : IntKind.u64.wrap z = z := by simp [IntKind.wrap, IntKind.bits, IntKind.signed]; omega

theorem bt {p : Prop} [Decidable p] (h : p) : Value.bool true = .bool (decide p) := by simp [h]
theorem bf {p : Prop} [Decidable p] (h : ¬p) : Value.bool false = .bool (decide p) := by simp [h]
theorem bd {p q : Prop} [Decidable p] [Decidable q] (h : p ↔ q) : Value.bool (decide p) = .bool (decide q) := by by_cases hp : p <;> simp [hp, h.symm.mpr, ← h]
theorem bn {p q : Prop} [Decidable p] [Decidable q] (h : ¬p ↔ q) : Value.bool (!decide p) = .bool (decide q) := by by_cases hp : p <;> simp [hp, ← h]

def arrT (P : Program) (t n e : Nat) : Bool := match P.underlying t with | some (.array m e') => Nat.beq m n && Nat.beq e' e | _ => false
def cvT (P : Program) (s t : TypeId) (k : IntKind) : Bool := (P.underlying s).isSome && (match P.underlying t with | some (.int k') => k' == k | _ => false)
def cvsT (P : Program) (s t : TypeId) : Bool := (P.underlying s).isSome && (match P.underlying t with | some .string => true | _ => false)
/-- Where the parts of a struct or an array lie, and how many cells each one has. -/
def placesOf (P : Program) : List Field → Option (List (Nat × Nat))
  | [] => some []
  | f :: r => match P.info? f.type, placesOf P r with | some i, some l => some ((f.offset, i.size) :: l) | _, _ => none
def bldT (P : Program) (t : TypeId) : Option (List (Nat × Nat)) :=
  match P.underlying t with
  | some (.struct fs) => placesOf P fs.toList
  | some (.array n e) => (match P.info? e with | some i => some ((List.range n).map fun j => (j * i.size, i.size)) | none => none)
  | _ => none

section
variable {P : Program} {w : World}
theorem run_mapM_list {α β : Type} (f : α → Sem β) (g : α → β) : ∀ (l : List α), (∀ x ∈ l, (f x).run P w = .ok (g x) w) → (l.mapM f).run P w = .ok (l.map g) w := by
  intro l
  induction l with
  | nil => intro _; simp
  | cons a l ih =>
    intro h
    have h1 := h a List.mem_cons_self
    have h2 := ih (fun x hx => h x (List.mem_cons_of_mem _ hx))
    simp [List.mapM_cons, h1, h2]
theorem run_mapM_array {α β : Type} (f : α → Sem β) (g : α → β) (l : Array α) (h : ∀ x ∈ l.toList, (f x).run P w = .ok (g x) w) : (l.mapM f).run P w = .ok (l.map g) w := by
  rw [Array.mapM_eq_mapM_toList]
  simp only [Sem.run_bind, map_eq_pure_bind, run_mapM_list f g l.toList h, Result.andThen_ok, Sem.run_pure]
  congr 1
  apply Array.toList_inj.1
  simp
theorem placesOf_map : ∀ (l : List Field) (L : List (Nat × Nat)), placesOf P l = some L → (∀ f ∈ l, ∃ i, P.info? f.type = some i) ∧ l.map (fun f => (f.offset, ((P.info? f.type).map (·.size)).getD 0)) = L := by
  intro l
  induction l with
  | nil => intro L h; simp [placesOf] at h; subst h; simp
  | cons f l ih =>
    intro L h
    simp only [placesOf] at h
    cases hi : P.info? f.type with
    | none => simp [hi] at h
    | some i =>
      cases hr : placesOf P l with
      | none => simp [hi, hr] at h
      | some L0 =>
        simp only [hi, hr, Option.some.injEq] at h
        subst h
        obtain ⟨h1, h2⟩ := ih L0 hr
        refine ⟨?_, by simp [hi, h2]⟩
        intro g hg
        rcases List.mem_cons.1 hg with rfl | hg
        · exact ⟨i, hi⟩
        · exact h1 g hg
end

section
variable {P : Program} {W0 : World} {N : Nat} {E E' : List (Nat × Value)} {H H' : List Res} {Q : Exit → Act → World → Prop} {ops : Array Oper} {rest : List Oper} {ty : TypeId} {pos : String} {aft : Array Edge} {d : Nat} {x y : Operand}
theorem fill_eq {p q : Nat → Option (Nat × Nat)} : ∀ (l : List (Nat × Value)) (cs : Array Value), (∀ iv ∈ l, p iv.1 = q iv.1) → Instr.fill p cs l = Instr.fill q cs l := by
  intro l
  induction l with
  | nil => intro cs _; rfl
  | cons iv l ih =>
    obtain ⟨i, v⟩ := iv
    intro cs h
    have h1 : p i = q i := h (i, v) List.mem_cons_self
    simp only [Instr.fill, h1]
    cases q i with
    | none => rfl
    | some r =>
      obtain ⟨off, size⟩ := r
      simp only
      split
      · rfl
      · exact ih _ (fun iv hiv => h iv (List.mem_cons_of_mem _ hiv))
theorem run_build {t : TypeId} {z : Value} {L : List (Nat × Nat)} {parts : List (Nat × Value)} {cs : Array Value} {w : World} (hz : zeroOf P t = some z) (hb : bldT P t = some L) (hf : Instr.fill (L[·]?) z.cells parts = some cs) (hin : parts.all (fun iv => Nat.blt iv.1 L.length) = true) :
    (Instr.build t parts.toArray).run P w = .ok (.agg cs) w := by
  unfold bldT at hb
  cases hu : P.underlying t with
  | none => rw [hu] at hb; cases hb
  | some D =>
    rw [hu] at hb
    cases D with
    | struct fs =>
      obtain ⟨h1, h2⟩ := placesOf_map fs.toList L hb
      have hm := run_mapM_array (P := P) (w := w) (fun f : Field => do pure (f.offset, ← sizeOf f.type)) (fun f => (f.offset, ((P.info? f.type).map (·.size)).getD 0)) fs (by
        intro f hf
        obtain ⟨i, hi⟩ := h1 f hf
        simp [sizeOf, typeInfo, hi, Sem.run_bind])
      have hL : fs.map (fun f => (f.offset, ((P.info? f.type).map (·.size)).getD 0)) = L.toArray := by
        apply Array.toList_inj.1
        rw [← h2, Array.toList_map]
      rw [hL] at hm
      simp only [Instr.build, Sem.run_bind, run_zeroValue hz, Result.andThen_ok, run_underlying hu]
      rw [hm]
      simp [hf]
    | array n e =>
      cases hi : P.info? e with
      | none => simp only [hi] at hb; cases hb
      | some i =>
        simp only [hi, Option.some.injEq] at hb
        have hf' : Instr.fill (fun j => some (j * i.size, i.size)) z.cells parts = some cs := by
          rw [← hf]
          refine fill_eq parts z.cells (fun iv hiv => ?_)
          have hlt := List.all_eq_true.1 hin iv hiv
          have hlt' : iv.1 < L.length := by simpa [Nat.blt, Nat.ble_eq, Nat.succ_le_iff] using hlt
          subst hb
          simp only [List.length_map, List.length_range] at hlt'
          simp [hlt']
        simp only [Instr.build, Sem.run_bind, run_zeroValue hz, Result.andThen_ok, run_underlying hu]
        simp [sizeOf, typeInfo, hi, hf']
    | _ => cases hb
def fillL (L : List (Nat × Nat)) : List Value → List (Nat × Value) → Option (List Value)
  | cs, [] => some cs
  | cs, (i, v) :: r =>
    match L[i]? with
    | none => none
    | some (off, size) => if Nat.beq v.cells.size size && Nat.ble (off + size) cs.length then fillL L (cs.take off ++ v.cells.toList ++ cs.drop (off + size)) r else none
theorem foldl_at (vs : List Value) : ∀ (k : Nat) (off : Nat) (cs : Array Value), off + k + vs.length ≤ cs.size → ∀ j,
    ((vs.zipIdx k).foldl (fun (cs : Array Value) (p : Value × Nat) => cs.setIfInBounds (off + p.2) p.1) cs)[j]? = if off + k ≤ j ∧ j < off + k + vs.length then vs[j - (off + k)]? else cs[j]? := by
  induction vs with
  | nil => intro k off cs _ j; simp; intro h1 h2; omega
  | cons v vs ih =>
    intro k off cs h j
    simp only [List.length_cons] at h
    simp only [List.zipIdx_cons, List.foldl_cons]
    rw [ih (k + 1) off _ (by simp; omega)]
    simp only [List.length_cons, Array.getElem?_setIfInBounds]
    by_cases h1 : off + (k + 1) ≤ j ∧ j < off + (k + 1) + vs.length
    · rw [if_pos h1, if_pos (by omega), show j - (off + k) = (j - (off + (k + 1))) + 1 by omega, List.getElem?_cons_succ]
    · rw [if_neg h1]
      by_cases h2 : off + k = j
      · subst h2
        rw [if_pos rfl, if_pos (by omega), if_pos (by omega)]
        simp
      · rw [if_neg h2, if_neg (by omega)]
theorem foldl_put (vs : List Value) (off : Nat) (cs : Array Value) (h : off + vs.length ≤ cs.size) :
    (vs.zipIdx.foldl (fun (cs : Array Value) (p : Value × Nat) => cs.setIfInBounds (off + p.2) p.1) cs).toList = cs.toList.take off ++ vs ++ cs.toList.drop (off + vs.length) := by
  apply List.ext_getElem?
  intro j
  rw [Array.getElem?_toList, foldl_at vs 0 off cs (by simpa using h) j]
  simp only [Nat.add_zero, List.append_assoc]
  have hl : cs.toList.length = cs.size := by simp
  rcases Nat.lt_or_ge j off with h1 | h1
  · rw [if_neg (by omega), List.getElem?_append_left (by simp; omega), List.getElem?_take, if_pos h1]; simp
  · rw [List.getElem?_append_right (by simp; omega)]
    have e : (cs.toList.take off).length = off := by simp; omega
    rw [e]
    rcases Nat.lt_or_ge j (off + vs.length) with h2 | h2
    · rw [if_pos (by omega), List.getElem?_append_left (by omega)]
    · rw [if_neg (by omega), List.getElem?_append_right (by omega), List.getElem?_drop]
      rw [show off + vs.length + (j - off - vs.length) = j by omega]; simp
theorem fillL_ok (L : List (Nat × Nat)) : ∀ (parts : List (Nat × Value)) (cs cs' : List Value), fillL L cs parts = some cs' → Instr.fill (L[·]?) cs.toArray parts = some cs'.toArray := by
  intro parts
  induction parts with
  | nil => intro cs cs' h; simp [fillL] at h; subst h; rfl
  | cons p r ih =>
    obtain ⟨i, v⟩ := p
    intro cs cs' h
    simp only [fillL] at h
    simp only [Instr.fill]
    cases hL : L[i]? with
    | none => simp [hL] at h
    | some q =>
      obtain ⟨off, size⟩ := q
      simp only [hL] at h ⊢
      split at h
      · rename_i hc
        simp only [Bool.and_eq_true, Nat.ble_eq] at hc
        have hsz : v.cells.size = size := Nat.eq_of_beq_eq_true hc.1
        have hle := hc.2
        have hd : (decide (v.cells.size ≠ size) || decide (off + v.cells.size > cs.toArray.size)) = false := by simp [hsz]; omega
        rw [if_neg (by rw [Bool.not_eq_true]; exact hd)]
        have := ih _ _ h
        rw [← this]
        congr 1
        have hf := foldl_put v.cells.toList off cs.toArray (by simp [hsz]; omega)
        simp only [Array.length_toList, hsz] at hf
        rw [← hf, Array.toArray_toList]
        rw [← Array.foldl_toList, Array.toList_zipIdx]
      · cases h
def evp (E : List (Nat × Value)) : List (Nat × Operand) → Option (List (Nat × Value))
  | [] => some []
  | (i, x) :: r => match ev E x, evp E r with | some v, some vs => some ((i, v) :: vs) | _, _ => none
theorem At.evalp {a : Act} {w : World} (h : At W0 N E H a w) : ∀ {xs : List (Nat × Operand)} {vs : List (Nat × Value)}, evp E xs = some vs → xs.map (fun p => (p.1, a.eval p.2)) = vs := by
  intro xs
  induction xs with
  | nil => intro vs hv; simp [evp] at hv; simp [hv]
  | cons p r ih =>
    obtain ⟨i, x⟩ := p
    intro vs hv
    simp only [evp] at hv
    cases hx : ev E x with
    | none => simp [hx] at hv
    | some v =>
      cases hr : evp E r with
      | none => simp [hx, hr] at hv
      | some us =>
        simp only [hx, hr, Option.some.injEq] at hv
        subst hv
        simp [h.eval hx, ih hr]
theorem y_build {t : TypeId} {z : Value} {zs cl : List Value} {L : List (Nat × Nat)} {parts : List (Nat × Operand)} {pv : List (Nat × Value)} {cs : Array Value} (hz : zeroOf P t = some z) (hb : bldT P t = some L) (hp : evp E parts = some pv)
    (hzc : z.cells.toList = zs) (hf : fillL L zs pv = some cl) (hcl : cl.toArray = cs) (hin : pv.all (fun iv => Nat.blt iv.1 L.length) = true) : Yl P W0 N E H ⟨some d, .build t parts.toArray, ty, pos, aft, none⟩ (.agg cs) :=
  fun a w ha => by
    have hm : (parts.toArray.map fun p => (p.1, a.eval p.2)) = pv.toArray := by rw [← ha.evalp hp]; simp
    have hf' := fillL_ok L pv zs cl hf
    rw [← hzc, Array.toArray_toList, hcl] at hf'
    have hr := run_build (w := w) hz hb hf' hin
    simp only [execOp]
    rw [show (parts.toArray.map fun x => match x with | (i, x) => (i, a.eval x)) = pv.toArray from hm]
    simp [hr]
theorem y_mkfn {fn : Fn} {cs : List Operand} {vs : List Value} (hc : evs E cs = some vs) : Yl P W0 N E H ⟨some d, .makeFunc fn #[] cs.toArray, ty, pos, aft, none⟩ (.func fn [].toArray vs.toArray) :=
  fun a w ha => by
    simp only [execOp, Instr.makeFunc, Sem.run_bind, Sem.run_pure, Result.andThen_ok, List.map_toArray, ha.evals hc]; rfl
theorem y_cvint {s t : TypeId} {k k' : IntKind} {n z : Int} (hT : cvT P s t k = true) (hx : ev E x = some (.int k' n)) (hz : k.wrap n = z) : Yl P W0 N E H ⟨some d, .convert s t x, ty, pos, aft, none⟩ (.int k z) :=
  fun a w ha => by
    unfold cvT at hT
    simp only [Bool.and_eq_true] at hT
    have hu : P.underlying t = some (.int k) := by
      have h2 := hT.2
      cases hu : P.underlying t with
      | none => rw [hu] at h2; cases h2
      | some D => rw [hu] at h2; cases D <;> first | cases h2 | (rw [eq_of_beq h2])
    have hr := run_convert_int (P := P) w s t k' n hT.1
    obtain ⟨ds, hs⟩ := Option.isSome_iff_exists.1 hT.1
    subst hz
    simp only [execOp, ha.eval hx, convert, Sem.run_bind, run_underlying hs, run_underlying hu, Result.andThen_ok]
    cases ds <;> simp [Conv.intToInt]
theorem y_min {m n : Int} {k k' : IntKind} {ts : Array TypeId} {z : Int} (hx : ev E x = some (.int k m)) (hy : ev E y = some (.int k' n)) (hz : (if n < m then n else m) = z) : Yl P W0 N E H ⟨some d, .call ⟨.builtin .min, #[x, y], ts⟩, ty, pos, aft, none⟩ (.int k z) :=
  fun a w ha => by
    subst hz
    simp only [execOp, resolve, invoke, builtin, List.map_toArray, List.map_cons, List.map_nil, ha.eval hx, ha.eval hy, Sem.run_bind, Sem.run_pure, Result.andThen_ok, run_min_int2]
theorem y_max {m n : Int} {k k' : IntKind} {ts : Array TypeId} {z : Int} (hx : ev E x = some (.int k m)) (hy : ev E y = some (.int k' n)) (hz : (if n > m then n else m) = z) : Yl P W0 N E H ⟨some d, .call ⟨.builtin .max, #[x, y], ts⟩, ty, pos, aft, none⟩ (.int k z) :=
  fun a w ha => by
    subst hz
    simp only [execOp, resolve, invoke, builtin, List.map_toArray, List.map_cons, List.map_nil, ha.eval hx, ha.eval hy, Sem.run_bind, Sem.run_pure, Result.andThen_ok, run_max_int2]
end
end Go.Gx
