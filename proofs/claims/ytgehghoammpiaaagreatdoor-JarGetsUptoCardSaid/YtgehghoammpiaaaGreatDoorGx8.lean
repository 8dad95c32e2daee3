/- This text proves: the step laws and the plain functions that the walks of this claim stand on. No condition beyond those that each theorem names. -/
import Derived.Test.YtgehghoammpiaaaGreatDoorGx7
namespace Go.Gx
open Go.RowKit
section
variable {P : Program} {W0 : World} {N : Nat} {E : List (Nat × Value)} {H : List Res} {Q : Exit → Act → World → Prop} {ops : Array Oper} {rest : List Oper} {x y : Operand} {d : Nat} {ty : TypeId} {pos : String} {aft : Array Edge}
/-! ## Function values -/
/-- 'Called by vs, in whatever world that lies above W, the function value answers v, and turns nothing.' -/
def FnV (P : Program) (W : World) (fv : Value) (vs : List Value) (v : Value) : Prop :=
  ∃ K fs cs, fv = .func (.func K) fs.toArray cs.toArray ∧ enters P K = true ∧ ∀ w', Below W.heap.size W w' → Cv P K (fs ++ vs ++ cs).toArray w' v
theorem FnV.mk {W : World} {K : FuncId} {fs cs vs : List Value} {v : Value} (hK : enters P K = true) (h : ∀ w', Below W.heap.size W w' → Cv P K (fs ++ vs ++ cs).toArray w' v) : FnV P W (.func (.func K) fs.toArray cs.toArray) vs v := ⟨K, fs, cs, rfl, hK, h⟩
theorem FnV.named {W : World} {K : FuncId} {vs : List Value} {v : Value} (hK : enters P K = true) (h : ∀ w', Below W.heap.size W w' → Cv P K vs.toArray w' v) : FnV P W (.func (.func K) #[] #[]) vs v := ⟨K, [], [], rfl, hK, by simpa using h⟩
theorem FnV.above {W W' : World} {fv v : Value} {vs : List Value} (h : FnV P W fv vs v) (hb : Below W.heap.size W W') : FnV P W' fv vs v := by
  obtain ⟨K, fs, cs, e, hK, h⟩ := h
  exact ⟨K, fs, cs, e, hK, fun w' hb' => h w' ⟨hb'.os.trans hb.os, hb'.tape.trans hb.tape, hb'.output.trans hb.output, Nat.le_trans hb.size hb'.size, fun k hk => (hb'.block k (Nat.lt_of_lt_of_le hk hb.size)).trans (hb.block k hk)⟩⟩
theorem l_callF {f : Operand} {fv v : Value} {args : List Operand} {vs : List Value} {ats : Array TypeId} (hd : Nat.blt d N = true) (hf : ev E f = some fv) (hvs : evs E args = some vs) (F : FnV P W0 fv vs v)
    (h : GL P W0 N ops ((d, v) :: E) H rest Q) : GL P W0 N ops E H (⟨some d, .call ⟨.value f, args.toArray, ats⟩, ty, pos, aft, none⟩ :: rest) Q := by
  obtain ⟨K, fs, cs, rfl, hK, hF⟩ := F
  exact l_callvU hd hK hf hvs (fun w hm => hF w hm.below) h
/-! ## Methods of a value in an interface -/
def methT (P : Program) (t : TypeId) (name : String) (f : FuncId) : Bool :=
  (match (P.info? t).bind (fun i => i.methods.find? (·.name == name)) with
   | some m => m.path.isEmpty && (match m.func with
     | some (f', p) => Nat.beq f' f && (match P.underlying t with | some (.pointer _) => p | some _ => !p | none => false)
     | none => false)
   | none => false)
theorem run_method {t : TypeId} {name : String} {f : FuncId} {v : Value} {w : World} {n : Nat} (h : methT P t name f = true) : (method (n + 1) t v name).run P w = .ok (f, v) w := by
  unfold methT at h
  cases hi : P.info? t with
  | none => simp [hi] at h
  | some i =>
    simp only [hi, Option.bind_some] at h
    cases hm : i.methods.find? (·.name == name) with
    | none => simp [hm] at h
    | some m =>
      simp only [hm, Bool.and_eq_true] at h
      obtain ⟨h1, h2⟩ := h
      cases hf : m.func with
      | none => simp [hf] at h2
      | some fp =>
        obtain ⟨f', p⟩ := fp
        simp only [hf, Bool.and_eq_true] at h2
        obtain ⟨h2, h3⟩ := h2
        have h2 := Nat.eq_of_beq_eq_true h2
        subst h2
        have hp : m.path.toList = [] := by simpa using h1
        cases hu : P.underlying t with
        | none => simp [hu] at h3
        | some D =>
          simp only [hu] at h3
          have hr : (receiverAt t (.val v) p (if m.path.isEmpty = true then some ((name.splitOn ".").getLastD name) else none)).run P w = .ok v w := by
            cases D <;> simp only [Bool.not_eq_true'] at h3 <;> subst h3 <;> simp [receiverAt, run_underlying hu, Place.get]
          simp only [method, typeInfo, Sem.run_bind, run_program, hi, Result.andThen_ok, Sem.run_pure, hm, hp, follow, hf, hr]
theorem l_invoke {recv : Operand} {t : TypeId} {v0 v : Value} {name : String} {K : FuncId} {args : List Operand} {vs : List Value} {ats : Array TypeId} (hd : Nat.blt d N = true) (hM : methT P t name K = true) (hK : enters P K = true)
    (hf : ev E recv = some (.iface t v0)) (hvs : evs E args = some vs) (hc : ∀ w, Mem W0 H w → Cv P K (v0 :: vs).toArray w v)
    (h : GL P W0 N ops ((d, v) :: E) H rest Q) : GL P W0 N ops E H (⟨some d, .call ⟨.invoke recv name, args.toArray, ats⟩, ty, pos, aft, none⟩ :: rest) Q := by
  intro a w ha
  have hrun : (execOp a.eval ⟨some d, .call ⟨.invoke recv name, args.toArray, ats⟩, ty, pos, aft, none⟩).run P w = .ok (.enter K (v0 :: vs).toArray) w := by
    have hm : ∀ n, (method (n + 1) t v0 name).run P w = .ok (K, v0) w := fun n => run_method hM
    have hfu : P.types.size + Made.depth = (P.types.size + (Made.depth - 1)) + 1 := by simp [Made.depth]
    simp only [execOp, resolve, Sem.run_bind, Sem.run_pure, Result.andThen_ok, Go.invoke, List.map_toArray, ha.evals hvs, ha.eval hf]
    simp only [List.append_toArray, List.singleton_append, List.getElem?_toArray, List.getElem?_cons_zero, callMethod, Sem.run_bind, run_program, Result.andThen_ok]
    rw [hfu, hm]
    simp only [Result.andThen_ok]
    have := run_callFunc_enter (args := (v0 :: vs).toArray) (w := w) hK
    simpa using this
  refine wpl_enter rfl hrun (hc w ha.mem) (fun x w' hx hm => h _ _ ?_)
  exact (ha.put d _ hd).withMem (by simpa using ha.mem.call hm)
/-- 'Called by vs, the method of what the interface value holds answers v.' -/
def InvV (P : Program) (W : World) (recv : Value) (name : String) (vs : List Value) (v : Value) : Prop :=
  ∃ t v0 K, recv = .iface t v0 ∧ methT P t name K = true ∧ enters P K = true ∧ ∀ w', Below W.heap.size W w' → Cv P K (v0 :: vs).toArray w' v
theorem l_invF {recv : Operand} {rv v : Value} {name : String} {args : List Operand} {vs : List Value} {ats : Array TypeId} (hd : Nat.blt d N = true) (hf : ev E recv = some rv) (hvs : evs E args = some vs) (F : InvV P W0 rv name vs v)
    (h : GL P W0 N ops ((d, v) :: E) H rest Q) : GL P W0 N ops E H (⟨some d, .call ⟨.invoke recv name, args.toArray, ats⟩, ty, pos, aft, none⟩ :: rest) Q := by
  obtain ⟨t, v0, K, rfl, hM, hK, hF⟩ := F
  exact l_invoke hd hM hK hf hvs (fun w hm => hF w hm.below) h
theorem Below.trans' {A B C : World} (h : Below A.heap.size A B) (k : Below B.heap.size B C) : Below A.heap.size A C :=
  ⟨k.os.trans h.os, k.tape.trans h.tape, k.output.trans h.output, Nat.le_trans h.size k.size, fun i hi => (k.block i (Nat.lt_of_lt_of_le hi h.size)).trans (h.block i hi)⟩
/-! ## Own blocks, handed on to be read -/
theorem el_of_blk {k g : Nat} {cs : Array Value} {e : TypeId} {fr : Nat × Nat} {w : World} (hm : Mem W0 H w) (hk : H[k]? = some (.blk g (.cells cs e fr))) : El w ⟨g, 0, none⟩ cs.toList := by
  have hb := hm.blk hk
  exact ⟨(Array.getElem?_eq_some_iff.1 hb.2).1, cs_blk (off := 0) hb.2 (fun j u hj => by simpa using hj)⟩
/-- A slice literal's row, read as a list. -/
theorem sl_of_blk {α : Type} {f : α → List Value} {sz k g : Nat} {cs : Array Value} {e : TypeId} {fr : Nat × Nat} {w : World} {l : List α} (hm : Mem W0 H w) (hk : H[k]? = some (.blk g (.cells cs e fr))) (hl : l.flatMap f = cs.toList) (hf : ∀ x, (f x).length = sz) :
    Sl f sz w (some ⟨g, 0, none⟩) l := by
  have he := el_of_blk hm hk
  intro i x hi
  refine ⟨_, rfl, ?_⟩
  refine he.sub (fun j u hj => ?_)
  rw [← hl]
  clear hl he hk hm
  induction l generalizing i with
  | nil => simp at hi
  | cons a l ih =>
    have hjl := (List.getElem?_eq_some_iff.1 hj).1
    rw [hf] at hjl
    cases i with
    | zero =>
      simp only [List.getElem?_cons_zero, Option.some.injEq] at hi
      subst hi
      rw [List.flatMap_cons, List.getElem?_append_left (by simp [hf]; omega)]
      simpa using hj
    | succ i =>
      simp only [List.getElem?_cons_succ] at hi
      rw [List.flatMap_cons, List.getElem?_append_right (by simp [hf, Nat.add_mul]; omega)]
      rw [hf, show (i + 1) * sz + j - sz = i * sz + j by rw [Nat.add_mul]; omega]
      exact ih i hi
/-! ## An array in a block -/
theorem y_iaddr_arr {t e : TypeId} {g off n sz r : Nat} {kk : IntKind} {i : Int} (hT : arrT P t n e = true) (hs : sizeT P e sz = true) (hx : ev E x = some (.pointer (some ⟨g, off, none⟩))) (hy : ev E y = some (.int kk i))
    (h0 : 0 ≤ i) (h1 : i < n) (hr : off + i.toNat * sz = r) : Yl P W0 N E H ⟨some d, .indexAddr t x y, ty, pos, aft, none⟩ (.pointer (some ⟨g, r, none⟩)) := by
  intro a w ha
  have hu : P.underlying t = some (.array n e) := by
    unfold arrT at hT
    cases hu : P.underlying t with
    | none => simp [hu] at hT
    | some D =>
      cases D <;> simp [hu] at hT
      obtain ⟨rfl, rfl⟩ := hT
      rfl
  have hadd : (⟨g, off, none⟩ : Addr).add (i.toNat * sz) = ⟨g, r, none⟩ := by subst hr; unfold Addr.add; split <;> simp_all
  have hc : 0 ≤ i ∧ i < (n : Int) := ⟨h0, h1⟩
  simp only [execOp, ha.eval hx, ha.eval hy]
  simp [Instr.indexAt, Instr.sureAddr, asIntOf, run_underlying hu, hc, run_sizeOf hs, hadd]
/-! ## A closure that writes: its body is walked where it is called -/
def Cm (P : Program) (K : FuncId) (args : Array Value) (W0 : World) (H : List Res) {ξ : Type} (V : ξ → Value) (R : ξ → List Res) (ok : ξ → Prop) : Prop :=
  ∀ w, Mem W0 H w → Calls P K args w fun e w' => ∃ x, ok x ∧ e = .returned (V x) ∧ Mem W0 (R x) w'
theorem enterM {ξ : Type} {K : FuncId} {fn : Func} {c : Code} {args : Array Value} {V : ξ → Value} {R : ξ → List Res} {ok : ξ → Prop} (hf : P.funcs[K]? = some fn) (hb : fn.body = some c) (hn : fn.ntmps = N) (ha : Nat.ble args.size N = true)
    (hE : ∀ p ∈ E, args[p.1]? = some p.2) (h : GC P W0 N E H c (Post P fn W0 V R ok)) : Cm P K args W0 H V R ok := by
  intro w hm
  have hle := Nat.le_of_ble_eq_true ha
  refine calls_of_wp hf hb (h _ _ ⟨rfl, ?_, ct_args (fun p hp => ?_), hm⟩)
  · simp [hn]; omega
  · have h1 := hE p hp
    have hlt := (Array.getElem?_eq_some_iff.1 h1).1
    rw [Array.getElem?_append_left hlt]; exact h1
theorem l_callM {K : FuncId} {f : Operand} {args : List Operand} {fs cs vs : List Value} {ats : Array TypeId} {ξ : Type} {V : ξ → Value} {R : ξ → List Res} {ok : ξ → Prop} (hd : Nat.blt d N = true) (hK : enters P K = true) (hf : ev E f = some (.func (.func K) fs.toArray cs.toArray)) (hvs : evs E args = some vs)
    (hc : Cm P K (fs ++ vs ++ cs).toArray W0 H V R ok) (h : ∀ x, ok x → GL P W0 N ops ((d, V x) :: E) (R x) rest Q) :
    GL P W0 N ops E H (⟨some d, .call ⟨.value f, args.toArray, ats⟩, ty, pos, aft, none⟩ :: rest) Q := by
  intro a w ha
  have hrun := run_call_value (P := P) (ρ := a.eval) (o := ⟨some d, .call ⟨.value f, args.toArray, ats⟩, ty, pos, aft, none⟩) (w := w) rfl (ha.eval hf) (ha.evals hvs) hK
  refine wpList_plain rfl fun K' hK' => ?_
  unfold Oper.wp
  rw [hrun]
  refine Calls.mono (hc w ha.mem) ?_
  rintro e w' ⟨x, hx, rfl, hm⟩
  exact hK' _ _ (h x hx _ _ ((ha.put d _ hd).withMem hm))
/-- What stands behind what a callee turns stays known. -/
theorem hs_app {A B F : List Res} {is : List Nat} (h : pick is B = some A) (hn : nodupB is = true) : HS (A ++ F) (B ++ F) := by
  intro W0 w hm
  have hB : Mem W0 B w := hm.sub (List.sublist_append_left B F)
  have hA := hs_pick h hn W0 w hB
  refine ⟨hm.below, fun r hr => ?_, List.pairwise_append.2 ⟨hA.apart, (hm.sub (List.sublist_append_right B F)).apart, fun r hr s hs => ?_⟩⟩
  · rcases List.mem_append.1 hr with hr | hr
    · exact hA.res r hr
    · exact hm.res r (List.mem_append_right _ hr)
  · obtain ⟨i, _, hi⟩ := pick_mem h r hr
    exact (List.pairwise_append.1 hm.apart).2.2 r (mem_of_get hi) s hs
end
end Go.Gx
