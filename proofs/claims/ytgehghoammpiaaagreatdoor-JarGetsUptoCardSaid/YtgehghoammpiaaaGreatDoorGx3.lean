/- This text proves: the step laws and the plain functions that the walks of this claim stand on. No condition beyond those that each theorem names. -/
import Derived.Test.YtgehghoammpiaaaGreatDoorGx2
namespace Go.Gx
open Go.RowKit

/-! ## Picking among what is known of memory -/
def pick : List Nat → List Res → Option (List Res)
  | [], _ => some []
  | i :: is, H => match H[i]?, pick is H with | some r, some rs => some (r :: rs) | _, _ => none
def nodupB : List Nat → Bool
  | [] => true
  | i :: is => !(is.any (Nat.beq i)) && nodupB is
/-- What is known of H' is known wherever H is. -/
def HS (H' H : List Res) : Prop := ∀ W0 w, Mem W0 H w → Mem W0 H' w
theorem HS.refl (H : List Res) : HS H H := fun _ _ h => h
theorem HS.trans {A B C : List Res} (h : HS A B) (k : HS B C) : HS A C := fun W0 w m => h W0 w (k W0 w m)

theorem far_of_pairwise {H : List Res} (hp : H.Pairwise Res.far) {i j : Nat} {r s : Res} (hi : H[i]? = some r) (hj : H[j]? = some s) (hne : i ≠ j) : r.far s := by
  have key : ∀ (i j : Nat) (r s : Res), i < j → H[i]? = some r → H[j]? = some s → r.far s := by
    intro i j r s hlt hi hj
    have hil := (List.getElem?_eq_some_iff.1 hi)
    have hjl := (List.getElem?_eq_some_iff.1 hj)
    obtain ⟨h1, e1⟩ := hil
    obtain ⟨h2, e2⟩ := hjl
    subst e1; subst e2
    exact List.pairwise_iff_getElem.1 hp i j h1 h2 hlt
  rcases Nat.lt_or_ge i j with h | h
  · exact key i j r s h hi hj
  · exact (key j i s r (by omega) hj hi).symm

theorem pick_mem : ∀ {is : List Nat} {H L : List Res}, pick is H = some L → ∀ r ∈ L, ∃ i ∈ is, H[i]? = some r := by
  intro is
  induction is with
  | nil => intro H L h r hr; simp [pick] at h; subst h; cases hr
  | cons i is ih =>
    intro H L h r hr
    simp only [pick] at h
    cases hi : H[i]? with
    | none => simp [hi] at h
    | some r0 =>
      cases hp : pick is H with
      | none => simp [hi, hp] at h
      | some L0 =>
        simp only [hi, hp, Option.some.injEq] at h
        subst h
        rcases List.mem_cons.1 hr with rfl | hr
        · exact ⟨i, List.mem_cons_self, hi⟩
        · obtain ⟨j, hj, hjr⟩ := ih hp r hr
          exact ⟨j, List.mem_cons_of_mem _ hj, hjr⟩

theorem hs_pick {is : List Nat} {H L : List Res} (h : pick is H = some L) (hn : nodupB is = true) : HS L H := by
  intro W0 w hm
  refine ⟨hm.below, fun r hr => ?_, ?_⟩
  · obtain ⟨i, _, hi⟩ := pick_mem h r hr
    exact hm.res r (mem_of_get hi)
  · have gen : ∀ {is : List Nat} {L : List Res}, pick is H = some L → nodupB is = true → L.Pairwise Res.far := by
      intro is
      induction is with
      | nil => intro L h _; simp [pick] at h; subst h; exact List.Pairwise.nil
      | cons i is ih =>
        intro L h hn
        simp only [pick] at h
        simp only [nodupB, Bool.and_eq_true, Bool.not_eq_true'] at hn
        cases hi : H[i]? with
        | none => simp [hi] at h
        | some r0 =>
          cases hp : pick is H with
          | none => simp [hi, hp] at h
          | some L0 =>
            simp only [hi, hp, Option.some.injEq] at h
            subst h
            refine List.pairwise_cons.2 ⟨fun s hs => ?_, ih hp hn.2⟩
            obtain ⟨j, hj, hjs⟩ := pick_mem hp s hs
            refine far_of_pairwise hm.apart hi hjs (fun e => ?_)
            subst e
            have := hn.1
            rw [List.any_eq_false] at this
            exact this i hj (by simp)
    exact gen h hn

theorem Sub.app {A C E : List (Nat × Value)} (h : Sub A E) (k : Sub C E) : Sub (A ++ C) E := by
  intro t v ht
  have : get? (A ++ C) t = match get? A t with | some u => some u | none => get? C t := by
    clear ht h k
    induction A with
    | nil => simp [get?]
    | cons p r ih =>
      obtain ⟨q, u⟩ := p
      simp only [List.cons_append, get?_cons]
      split
      · rfl
      · exact ih
  rw [this] at ht
  cases hA : get? A t with
  | some u => rw [hA] at ht; simp only at ht; exact h t v (by rw [hA]; exact ht)
  | none => rw [hA] at ht; exact k t v ht
theorem Sub.refl (E : List (Nat × Value)) : Sub E E := fun _ _ h => h

section
variable {P : Program} {W0 : World} {N : Nat} {E E' : List (Nat × Value)} {H H' : List Res} {Q : Exit → Act → World → Prop} {ops : Array Oper} {rest : List Oper} {ty : TypeId} {pos : String} {aft : Array Edge} {d : Nat} {x y : Operand}

theorem c_hs {c : Code} (hs : HS H' H) (h : GC P W0 N E H' c Q) : GC P W0 N E H c Q := fun a w ha => h a w (ha.withMem (hs W0 w ha.mem))
theorem q_hs {e : Exit} (hs : HS H' H) (h : GQ W0 N E H' e Q) : GQ W0 N E H e Q := fun a w ha => h a w (ha.withMem (hs W0 w ha.mem))
theorem l_hs {l : List Oper} (hs : HS H' H) (h : GL P W0 N ops E H' l Q) : GL P W0 N ops E H l Q := fun a w ha => h a w (ha.withMem (hs W0 w ha.mem))

/-- The loop: what turns (Cs, Hs: by the ghost) ahead of what does not (Ef, Hf). -/
theorem loop {c : Code} {σ : Type} {Ef : List (Nat × Value)} {Hf : List Res} (I : σ → Prop) (Cs : σ → List (Nat × Value)) (Hs : σ → List Res) (μ : σ → Nat) (s0 : σ) (h0 : I s0)
    (hC : Sub (Cs s0) E) (hE : Sub Ef E) (hH : HS (Hs s0 ++ Hf) H)
    (round : ∀ s, I s → GC P W0 N (Cs s ++ Ef) (Hs s ++ Hf) c (loopQ W0 N I (fun s => Cs s ++ Ef) (fun s => Hs s ++ Hf) μ s Q)) : GC P W0 N E H (.loop c) Q := by
  refine c_hs hH (c_sub (hC.app hE) ?_)
  exact c_loop I (fun s => Cs s ++ Ef) (fun s => Hs s ++ Hf) μ s0 h0 (Sub.refl _) (List.Sublist.refl _) round
theorem again {σ : Type} {Ef : List (Nat × Value)} {Hf : List Res} {I : σ → Prop} {Cs : σ → List (Nat × Value)} {Hs : σ → List Res} {μ : σ → Nat} {s : σ} (s' : σ) (hI : I s') (hlt : μ s' < μ s)
    (hC : Sub (Cs s') E) (hE : Sub Ef E) (hH : HS (Hs s' ++ Hf) H) : GQ W0 N E H .normal (loopQ W0 N I (fun s => Cs s ++ Ef) (fun s => Hs s ++ Hf) μ s Q) :=
  fun _ _ ha => ⟨s', hI, hlt, (ha.sub (hC.app hE)).withMem (hH _ _ ha.mem)⟩

/-- Ways that meet: what holds where they do (by a ghost), proved on once. -/
def Meet (P : Program) (W0 : World) (N : Nat) {σ : Type} (I : σ → Prop) (Es : σ → List (Nat × Value)) (Hs : σ → List Res) (c : Code) (Q : Exit → Act → World → Prop) : Prop := ∀ s, I s → GC P W0 N (Es s) (Hs s) c Q
theorem q_meet {σ : Type} {I : σ → Prop} {Es : σ → List (Nat × Value)} {Hs : σ → List Res} {c : Code} (m : Meet P W0 N I Es Hs c Q) (s : σ) (hI : I s) (hE : Sub (Es s) E) (hH : HS (Hs s) H) :
    GQ W0 N E H .normal (thenQ P c Q) := fun a w ha => m s hI a w ((ha.sub hE).withMem (hH _ _ ha.mem))

theorem c_cond_d {c : Operand} {x y : Code} {p : Prop} [Decidable p] (hc : ev E c = some (.bool (decide p))) (ht : p → GC P W0 N E H x Q) (hf : ¬p → GC P W0 N E H y Q) : GC P W0 N E H (.cond c x y) Q :=
  c_cond hc (fun e => ht (of_decide_eq_true e)) (fun e => hf (of_decide_eq_false e))
theorem c_cond_nd {c : Operand} {x y : Code} {p : Prop} [Decidable p] (hc : ev E c = some (.bool (!decide p))) (ht : ¬p → GC P W0 N E H x Q) (hf : p → GC P W0 N E H y Q) : GC P W0 N E H (.cond c x y) Q :=
  c_cond hc (fun e => ht (of_decide_eq_false (by simpa using e))) (fun e => hf (of_decide_eq_true (by simpa using e)))
theorem At.know {a : Act} {w : World} {t : Nat} {b c : Bool} (hb : get? E t = some (.bool b)) (hc : b = c) (ha : At W0 N E H a w) : At W0 N ((t, .bool c) :: E) H a w := by
  refine ⟨ha.defers, ha.size, fun u v hu => ?_, ha.mem⟩
  rw [get?_cons] at hu
  split at hu
  · rename_i e; subst e; rw [ha.env _ _ hb, hc]; exact hu
  · exact ha.env u v hu
theorem c_bool {x y : Code} {t : Nat} {b : Bool} (hb : get? E t = some (.bool b)) (h1 : b = true → GC P W0 N ((t, .bool true) :: E) H x Q) (h0 : b = false → GC P W0 N ((t, .bool false) :: E) H y Q) : GC P W0 N E H (.cond (.tmp t) x y) Q :=
  c_cond (b := b) (by simpa [ev] using hb) (fun e a w ha => h1 e a w (ha.know hb e)) (fun e a w ha => h0 e a w (ha.know hb e))
theorem c_dec {x y : Code} {t : Nat} {p : Prop} [Decidable p] (hb : get? E t = some (.bool (decide p))) (h1 : p → GC P W0 N ((t, .bool true) :: E) H x Q) (h0 : ¬p → GC P W0 N ((t, .bool false) :: E) H y Q) : GC P W0 N E H (.cond (.tmp t) x y) Q :=
  c_bool hb (fun e => h1 (of_decide_eq_true e)) (fun e => h0 (of_decide_eq_false e))
theorem c_ndec {x y : Code} {t : Nat} {p : Prop} [Decidable p] (hb : get? E t = some (.bool (!decide p))) (h1 : ¬p → GC P W0 N ((t, .bool true) :: E) H x Q) (h0 : p → GC P W0 N ((t, .bool false) :: E) H y Q) : GC P W0 N E H (.cond (.tmp t) x y) Q :=
  c_bool hb (fun e => h1 (of_decide_eq_false (by simpa using e))) (fun e => h0 (of_decide_eq_true (by simpa using e)))
theorem g_dec {l : List Oper} {t : Nat} {p : Prop} [Decidable p] (hb : get? E t = some (.bool (decide p))) (h1 : p → GL P W0 N ops ((t, .bool true) :: E) H l Q) (h0 : ¬p → GL P W0 N ops ((t, .bool false) :: E) H l Q) :
    GL P W0 N ops E H l Q := g_bool hb (fun e => h1 (of_decide_eq_true e)) (fun e => h0 (of_decide_eq_false e))
theorem g_ndec {l : List Oper} {t : Nat} {p : Prop} [Decidable p] (hb : get? E t = some (.bool (!decide p))) (h1 : ¬p → GL P W0 N ops ((t, .bool true) :: E) H l Q) (h0 : p → GL P W0 N ops ((t, .bool false) :: E) H l Q) :
    GL P W0 N ops E H l Q := g_bool hb (fun e => h1 (of_decide_eq_false (by simpa using e))) (fun e => h0 (of_decide_eq_true (by simpa using e)))

/-! ## Calls -/
def enters (P : Program) (K : FuncId) : Bool := match P.funcs[K]? with | some fn => !(fn.name == "runtime.NumGoroutine") && fn.body.isSome | none => false
theorem run_callFunc_enter {K : FuncId} {args : Array Value} {w : World} (h : enters P K = true) : (callFunc K args).run P w = .ok (.enter K args) w := by
  unfold enters at h
  cases hf : P.funcs[K]? with
  | none => rw [hf] at h; cases h
  | some fn =>
    rw [hf] at h
    simp only [Bool.and_eq_true, Bool.not_eq_true'] at h
    have hb : ¬ fn.body = none := by intro hb; rw [hb] at h; exact absurd h.2 (by simp)
    have hn : ¬ fn.name = "runtime.NumGoroutine" := by simpa using h.1
    simp [callFunc, program, Sem.run, hf, hn, hb]

theorem Res.ok.mono {B B' : Nat} {w : World} {r : Res} (h : r.ok B w) (hB : B' ≤ B) : r.ok B' w := by
  cases r with
  | blk g o => exact ⟨Nat.le_trans hB h.1, h.2⟩
  | obj g φ => exact ⟨Nat.le_trans hB h.1, h.2⟩
  | row v e size n xs =>
    refine ⟨h.1, ?_⟩
    rcases h.2 with h2 | ⟨g, cap, cur, hv, hg, r⟩
    · exact .inl h2
    · exact .inr ⟨g, cap, cur, hv, Nat.le_trans hB hg, r⟩
theorem grownBy_of_below {w w' : World} (h : Below w.heap.size w w') : w.grownBy w' none := ⟨h.os, h.tape, h.output, h.size, fun k hk _ => h.block k hk⟩
/-- What a callee has made lies apart from what was known. -/
theorem Mem.call {w w' : World} {R : List Res} (h : Mem W0 H w) (hr : Mem w R w') : Mem W0 (R ++ H) w' := by
  have hg := grownBy_of_below hr.below
  have h' := h.grown (row := none) hg (by simp) (by simp)
  refine ⟨h'.below, fun r hm => ?_, List.pairwise_append.2 ⟨hr.apart, h'.apart, fun r hm s hs g hrg hsg => ?_⟩⟩
  · rcases List.mem_append.1 hm with hm | hm
    · exact (hr.res r hm).mono h.below.size
    · exact h'.res r hm
  · have h1 := ((hr.res r hm).lt g hrg).1
    have h2 := ((h.res s hs).lt g hsg).2
    omega

def evs (E : List (Nat × Value)) : List Operand → Option (List Value)
  | [] => some []
  | x :: r => match ev E x, evs E r with | some v, some vs => some (v :: vs) | _, _ => none
theorem At.evals {a : Act} {w : World} (h : At W0 N E H a w) : ∀ {xs : List Operand} {vs : List Value}, evs E xs = some vs → xs.map a.eval = vs := by
  intro xs
  induction xs with
  | nil => intro vs hv; simp [evs] at hv; simp [hv]
  | cons x r ih =>
    intro vs hv
    simp only [evs] at hv
    cases hx : ev E x with
    | none => simp [hx] at hv
    | some v =>
      cases hr : evs E r with
      | none => simp [hx, hr] at hv
      | some us =>
        simp only [hx, hr, Option.some.injEq] at hv
        subst hv
        simp [h.eval hx, ih hr]

theorem wpl_enter {a : Act} {w : World} {o : Oper} {K : FuncId} {args : Array Value} {ξ : Type} {V : ξ → Value} {R : ξ → List Res} {ok : ξ → Prop} (hg : o.guard = none) (hrun : (execOp a.eval o).run P w = .ok (.enter K args) w)
    (hc : Ct P K args w V R ok) (h : ∀ x w', ok x → Mem w (R x) w' → wpList P ops Q rest (a.put o.dst (V x)) w') : wpList P ops Q (o :: rest) a w :=
  wpList_plain hg fun K' hK => by
    unfold Oper.wp
    rw [hrun]
    refine Calls.mono hc ?_
    rintro e w' ⟨x, hx, rfl, hm⟩
    exact hK _ _ (h x w' hx hm)

theorem run_call_value {ρ : Operand → Value} {o : Oper} {f : Operand} {args : List Operand} {ats : Array TypeId} {K : FuncId} {fs cs : List Value} {vs : List Value} {w : World} (ho : o.op = .call ⟨.value f, args.toArray, ats⟩)
    (hf : ρ f = .func (.func K) fs.toArray cs.toArray) (ha : args.map ρ = vs) (hK : enters P K = true) : (execOp ρ o).run P w = .ok (.enter K (fs ++ vs ++ cs).toArray) w := by
  simp only [execOp, ho, resolve, Sem.run_bind, hf, Deferred.ofValue, Sem.run_pure, Result.andThen_ok, invoke, List.map_toArray, ha, List.append_toArray]
  exact run_callFunc_enter hK

/-- A call by name: the callee by its contract. -/
theorem l_call {K : FuncId} {args : List Operand} {vs : List Value} {ats : Array TypeId} {ξ : Type} {V : ξ → Value} {R : ξ → List Res} {ok : ξ → Prop} (hd : Nat.blt d N = true) (hK : enters P K = true) (hvs : evs E args = some vs)
    (hc : ∀ w, Mem W0 H w → Ct P K vs.toArray w V R ok) (h : ∀ x, ok x → GL P W0 N ops ((d, V x) :: E) (R x ++ H) rest Q) :
    GL P W0 N ops E H (⟨some d, .call ⟨.value (.func K), args.toArray, ats⟩, ty, pos, aft, none⟩ :: rest) Q := by
  intro a w ha
  have hrun : (execOp a.eval ⟨some d, .call ⟨.value (.func K), args.toArray, ats⟩, ty, pos, aft, none⟩).run P w = .ok (.enter K vs.toArray) w := by
    have := run_call_value (P := P) (ρ := a.eval) (o := ⟨some d, .call ⟨.value (.func K), args.toArray, ats⟩, ty, pos, aft, none⟩) (fs := []) (cs := []) (w := w) rfl rfl (ha.evals hvs) hK
    simpa using this
  refine wpl_enter rfl hrun (hc w ha.mem) (fun x w' hx hm => h x hx _ _ ?_)
  exact (ha.put d _ hd).withMem (ha.mem.call hm)
/-- A call of a function value whose function is known. -/
theorem l_callv {K : FuncId} {f : Operand} {args : List Operand} {fs cs vs : List Value} {ats : Array TypeId} {ξ : Type} {V : ξ → Value} {R : ξ → List Res} {ok : ξ → Prop} (hd : Nat.blt d N = true) (hK : enters P K = true) (hf : ev E f = some (.func (.func K) fs.toArray cs.toArray)) (hvs : evs E args = some vs)
    (hc : ∀ w, Mem W0 H w → Ct P K (fs ++ vs ++ cs).toArray w V R ok) (h : ∀ x, ok x → GL P W0 N ops ((d, V x) :: E) (R x ++ H) rest Q) :
    GL P W0 N ops E H (⟨some d, .call ⟨.value f, args.toArray, ats⟩, ty, pos, aft, none⟩ :: rest) Q := by
  intro a w ha
  have hrun := run_call_value (P := P) (ρ := a.eval) (o := ⟨some d, .call ⟨.value f, args.toArray, ats⟩, ty, pos, aft, none⟩) (w := w) rfl (ha.eval hf) (ha.evals hvs) hK
  refine wpl_enter rfl hrun (hc w ha.mem) (fun x w' hx hm => h x hx _ _ ?_)
  exact (ha.put d _ hd).withMem (ha.mem.call hm)

/-- A call that only answers: what it answers is known. -/
def Cv (P : Program) (K : FuncId) (args : Array Value) (w : World) (v : Value) : Prop := Ct P K args w (fun _ : Unit => v) (fun _ => []) (fun _ => True)
theorem l_callU {K : FuncId} {args : List Operand} {vs : List Value} {ats : Array TypeId} {v : Value} (hd : Nat.blt d N = true) (hK : enters P K = true) (hvs : evs E args = some vs)
    (hc : ∀ w, Mem W0 H w → Cv P K vs.toArray w v) (h : GL P W0 N ops ((d, v) :: E) H rest Q) :
    GL P W0 N ops E H (⟨some d, .call ⟨.value (.func K), args.toArray, ats⟩, ty, pos, aft, none⟩ :: rest) Q := l_call hd hK hvs hc (fun _ _ => h)
theorem l_callvU {K : FuncId} {f : Operand} {args : List Operand} {fs cs vs : List Value} {ats : Array TypeId} {v : Value} (hd : Nat.blt d N = true) (hK : enters P K = true) (hf : ev E f = some (.func (.func K) fs.toArray cs.toArray)) (hvs : evs E args = some vs)
    (hc : ∀ w, Mem W0 H w → Cv P K (fs ++ vs ++ cs).toArray w v) (h : GL P W0 N ops ((d, v) :: E) H rest Q) :
    GL P W0 N ops E H (⟨some d, .call ⟨.value f, args.toArray, ats⟩, ty, pos, aft, none⟩ :: rest) Q := l_callv hd hK hf hvs hc (fun _ _ => h)
theorem hs_nil : HS [] H := fun _ _ h => ⟨h.below, by simp, List.Pairwise.nil⟩

/-! ## The way out -/
def Post (P : Program) (fn : Func) (W0 : World) {ξ : Type} (V : ξ → Value) (R : ξ → List Res) (ok : ξ → Prop) : Exit → Act → World → Prop :=
  bodyPost P fn fun e w' => ∃ x, ok x ∧ e = .returned (V x) ∧ Mem W0 (R x) w'
theorem enter {ξ : Type} {K : FuncId} {fn : Func} {c : Code} {args : Array Value} {V : ξ → Value} {R : ξ → List Res} {ok : ξ → Prop} (hf : P.funcs[K]? = some fn) (hb : fn.body = some c) (hn : fn.ntmps = N) (ha : Nat.ble args.size N = true)
    (hE : ∀ p ∈ E, args[p.1]? = some p.2) (h : GC P W0 N E [] c (Post P fn W0 V R ok)) : Ct P K args W0 V R ok := by
  have ha' : args.size ≤ N := Nat.le_of_ble_eq_true ha
  refine calls_of_wp hf hb (h _ _ ⟨rfl, ?_, ?_, Mem.start W0⟩)
  · simp [hn]; omega
  · intro t v ht
    have := ct_args hE t v ht
    have hlt := (Array.getElem?_eq_some_iff.1 this).1
    rw [Array.getElem?_append_left hlt]
    exact this
section
variable {ξ : Type} {fn : Func} {V : ξ → Value} {R : ξ → List Res} {ok : ξ → Prop}
theorem q_end {e : Exit} {v : Value} (he : e = .ret ∨ e = .normal) (hr : ∀ a w, At W0 N E H a w → (results fn a.tmps).run P w = .ok v w) (x : ξ) (hx : ok x) (hV : v = V x) (hR : HS (R x) H) : GQ W0 N E H e (Post P fn W0 V R ok) := by
  intro a w ha
  have : bodyPost P fn (fun e w' => ∃ x, ok x ∧ e = .returned (V x) ∧ Mem W0 (R x) w') e a w ↔ (a.defers = [] ∧ ∃ v, (results fn a.tmps).run P w = .ok v w ∧ ∃ x, ok x ∧ Ending.returned v = .returned (V x) ∧ Mem W0 (R x) w) := by
    rcases he with rfl | rfl <;> exact Iff.rfl
  exact this.2 ⟨ha.defers, v, hr a w ha, x, hx, by rw [hV], hR _ _ ha.mem⟩
theorem q_ret0 {e : Exit} (he : e = .ret ∨ e = .normal) (hr : fn.results = #[]) (x : ξ) (hx : ok x) (hV : .tuple #[] = V x) (hR : HS (R x) H) : GQ W0 N E H e (Post P fn W0 V R ok) :=
  q_end he (fun a w _ => by simp [results, hr]) x hx hV hR
theorem q_ret1 {t : Nat} {v : Value} (hr : fn.results = #[.tmp t]) (hv : get? E t = some v) (x : ξ) (hx : ok x) (hV : v = V x) (hR : HS (R x) H) : GQ W0 N E H .ret (Post P fn W0 V R ok) :=
  q_end (.inl rfl) (fun a w ha => by simp [results, hr, Array.getD_eq_getD_getElem?, ha.env t v hv]) x hx hV hR
theorem q_ret2 {t u : Nat} {v v' : Value} (hr : fn.results = #[.tmp t, .tmp u]) (hv : get? E t = some v) (hv' : get? E u = some v') (x : ξ) (hx : ok x) (hV : .tuple #[v, v'] = V x) (hR : HS (R x) H) : GQ W0 N E H .ret (Post P fn W0 V R ok) :=
  q_end (.inl rfl) (fun a w ha => by simp [results, hr, Array.getD_eq_getD_getElem?, ha.env t v hv, ha.env u v' hv']) x hx hV hR
theorem q_ret3 {t u s : Nat} {v v' v'' : Value} (hr : fn.results = #[.tmp t, .tmp u, .tmp s]) (hv : get? E t = some v) (hv' : get? E u = some v') (hv'' : get? E s = some v'') (x : ξ) (hx : ok x) (hV : .tuple #[v, v', v''] = V x) (hR : HS (R x) H) : GQ W0 N E H .ret (Post P fn W0 V R ok) :=
  q_end (.inl rfl) (fun a w ha => by simp [results, hr, Array.getD_eq_getD_getElem?, ha.env t v hv, ha.env u v' hv', ha.env s v'' hv'']) x hx hV hR
/-- A struct result that lies in a block of its own. -/
theorem q_retA {t T g k n : Nat} {cs : Array Value} {e : TypeId} {fr : Nat × Nat} (hr : fn.results = #[.cell t T]) (hT : aggT P T n = true) (hv : get? E t = some (.pointer (some ⟨g, 0, none⟩))) (hk : H[k]? = some (.blk g (.cells cs e fr))) (hn : cs.size = n)
    (x : ξ) (hx : ok x) (hV : .agg cs = V x) (hR : HS (R x) H) : GQ W0 N E H .ret (Post P fn W0 V R ok) :=
  q_end (.inl rfl) (fun a w ha => by
    have hl := run_load_agg (P := P) (w := w) (p := ⟨g, 0, none⟩) (vs := cs.toList) (t := T) (by simpa [hn] using hT) (cs_blk (off := 0) (ha.mem.blk hk).2 (by intro j u hj; simpa using hj))
    simp only [Array.toArray_toList] at hl
    simp [results, hr, Array.getD_eq_getD_getElem?, ha.env t _ hv, asAddr, hl]) x hx hV hR
theorem q_retA1 {t T g k n u : Nat} {v' : Value} {cs : Array Value} {e : TypeId} {fr : Nat × Nat} (hr : fn.results = #[.cell t T, .tmp u]) (hT : aggT P T n = true) (hv : get? E t = some (.pointer (some ⟨g, 0, none⟩))) (hv' : get? E u = some v') (hk : H[k]? = some (.blk g (.cells cs e fr))) (hn : cs.size = n)
    (x : ξ) (hx : ok x) (hV : .tuple #[.agg cs, v'] = V x) (hR : HS (R x) H) : GQ W0 N E H .ret (Post P fn W0 V R ok) :=
  q_end (.inl rfl) (fun a w ha => by
    have hl := run_load_agg (P := P) (w := w) (p := ⟨g, 0, none⟩) (vs := cs.toList) (t := T) (by simpa [hn] using hT) (cs_blk (off := 0) (ha.mem.blk hk).2 (by intro j u hj; simpa using hj))
    simp only [Array.toArray_toList] at hl
    simp [results, hr, Array.getD_eq_getD_getElem?, ha.env t _ hv, ha.env u _ hv', asAddr, hl]) x hx hV hR
theorem q_retA2 {t T g k n u s : Nat} {v' v'' : Value} {cs : Array Value} {e : TypeId} {fr : Nat × Nat} (hr : fn.results = #[.cell t T, .tmp u, .tmp s]) (hT : aggT P T n = true) (hv : get? E t = some (.pointer (some ⟨g, 0, none⟩))) (hv' : get? E u = some v') (hv'' : get? E s = some v'') (hk : H[k]? = some (.blk g (.cells cs e fr))) (hn : cs.size = n)
    (x : ξ) (hx : ok x) (hV : .tuple #[.agg cs, v', v''] = V x) (hR : HS (R x) H) : GQ W0 N E H .ret (Post P fn W0 V R ok) :=
  q_end (.inl rfl) (fun a w ha => by
    have hl := run_load_agg (P := P) (w := w) (p := ⟨g, 0, none⟩) (vs := cs.toList) (t := T) (by simpa [hn] using hT) (cs_blk (off := 0) (ha.mem.blk hk).2 (by intro j u hj; simpa using hj))
    simp only [Array.toArray_toList] at hl
    simp [results, hr, Array.getD_eq_getD_getElem?, ha.env t _ hv, ha.env u _ hv', ha.env s _ hv'', asAddr, hl]) x hx hV hR
end
end
end Go.Gx
