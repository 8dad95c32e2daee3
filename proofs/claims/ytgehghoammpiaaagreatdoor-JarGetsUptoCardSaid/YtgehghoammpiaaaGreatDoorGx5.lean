/- This text proves: the step laws and the plain functions that the walks of this claim stand on. No condition beyond those that each theorem names. -/
import Derived.Test.YtgehghoammpiaaaGreatDoorGx4
import Derived.OrdersHeld
import Derived.KernelRfl
namespace Go.Gx
open Go.RowKit

/-! ## Regions that leave their order open: what only reads is taken first -/
section
variable {P : Program} {ops : Array Oper} {Q : Exit → Act → World → Prop} {S : World → Prop} {m : Nat}

def anyT (P : Program) (ops : Array Oper) (Q : Exit → Act → World → Prop) (S : World → Prop) (m : Nat) : Nat → Array Bool → Act → World → Prop
  | 0, listed, a, w => Region.ready .any ops listed = [] ∧ Q .normal a w
  | f + 1, listed, a, w =>
    (Region.ready .any ops listed = [] → Q .normal a w) ∧
    ∀ i ∈ Region.ready .any ops listed, wpOp P ops Q i (fun a' w' => (i < m → S w') ∧ anyT P ops Q S m f (listed.setIfInBounds i true) a' w') a w
theorem wpAny_of_anyT : ∀ (f : Nat) (listed : Array Bool) (a : Act) (w : World), anyT P ops Q S m f listed a w → wpAny P .any ops Q f listed a w
  | 0, _, _, _, h => h
  | f + 1, _, _, _, h => ⟨h.1, fun i hi => wpOp_mono (fun a' w' h' => wpAny_of_anyT f _ a' w' h'.2) (h.2 i hi)⟩

/-- What stands from m on waits for all ahead of m. -/
def tailB (ops : Array Oper) (m : Nat) : Bool :=
  (List.range ops.size).all fun t => Nat.blt t m || (List.range m).all fun i => match ops[t]? with | some o => o.after.any fun e => Region.binds .any e && e.on == i | none => false
theorem tail_waits' (h : tailB ops m = true) {t i : Nat} {listed : Array Bool} (ht : m ≤ t) (hi : i < m) (hun : listed.getD i false = false) (hr : t ∈ Region.ready .any ops listed) : False := by
  obtain ⟨_, o, ho, hall⟩ := mem_ready.1 hr
  have hts : t < ops.size := (Array.getElem?_eq_some_iff.1 ho).1
  have h1 := List.all_eq_true.1 h t (List.mem_range.2 hts)
  simp only [Bool.or_eq_true] at h1
  rcases h1 with h1 | h1
  · have : t < m := by simpa [Nat.blt, Nat.ble_eq, Nat.succ_le_iff] using h1
    omega
  · have h2 := List.all_eq_true.1 h1 i (List.mem_range.2 hi)
    simp only [ho] at h2
    obtain ⟨e, he, hb⟩ := Array.any_eq_true'.1 h2
    simp only [Bool.and_eq_true, beq_iff_eq] at hb
    have h3 := hall e he hb.1
    rw [hb.2, hun] at h3
    cases h3

theorem getD_tf {listed : Array Bool} {i : Nat} (h : listed.getD i true = false) : listed.getD i false = false := by
  rcases Nat.lt_or_ge i listed.size with h' | h'
  · simp [h'] at h ⊢; exact h
  · simp [Array.getElem?_eq_none h'] at h

theorem anyT_first (htail : tailB ops m = true) {i : Nat} {oi : Oper} {v : Value} (hi : ops[i]? = some oi) (him : i < m) (hsel : ∀ (j : Nat) (o : Oper) cs b, ops[j]? = some o → o.op ≠ .select cs b)
    (hQ : ∀ c a w, Q (.panic c) (a.put oi.dst v) w → Q (.panic c) a w) :
    ∀ (f : Nat) (listed : Array Bool) (a : Act) (w : World),
      (∀ j oj, ops[j]? = some oj → j ≠ i → listed.getD j true = false → (∀ e ∈ oj.after, Region.binds .any e = true → e.on ≠ i) → oi.apart ops oj = true) →
      i ∈ Region.ready .any ops listed → S w → YieldsIf P ops S oi v a →
      anyT P ops Q S m f (listed.setIfInBounds i true) (a.put oi.dst v) w → anyT P ops Q S m (f + 1) listed a w := by
  intro f
  induction f with
  | zero =>
    intro listed a w _ hr hS hy H
    refine ⟨fun h => (by rw [h] at hr; cases hr), fun j hj => ?_⟩
    by_cases hji : j = i
    · subst hji; exact hy.wpOp hi hS ⟨fun _ => hS, H⟩
    · have := ready_mono (md := .any) hj hji
      rw [H.1] at this
      cases this
  | succ f ih =>
    intro listed a w hfree hr hS hy H
    have hun := (mem_ready.1 hr).1
    refine ⟨fun h => (by rw [h] at hr; cases hr), fun j hj => ?_⟩
    by_cases hji : j = i
    · subst hji; exact hy.wpOp hi hS ⟨fun _ => hS, H⟩
    · have hjm : j < m := by
        rcases Nat.lt_or_ge j m with h | h
        · exact h
        · exact (tail_waits' htail h him (getD_tf hun) hj).elim
      have h1 := H.2 j (ready_mono hj hji)
      obtain ⟨hjun, oj, hoj, hall⟩ := mem_ready.1 hj
      have hnot : ∀ e ∈ oj.after, Region.binds .any e = true → e.on ≠ i := fun e he hb heq => by
        have h1 := hall e he hb
        rw [heq, getD_tf hun] at h1
        cases h1
      have h2 := wpOp_putIf (S := S) hoj (hfree j oj hoj hji hjun hnot) (fun cs b => hsel i oi cs b hi) (fun cs b => hsel j oj cs b hoj) hQ hy h1
      have hfree' : ∀ k ok, ops[k]? = some ok → k ≠ i → (listed.setIfInBounds j true).getD k true = false →
          (∀ e ∈ ok.after, Region.binds .any e = true → e.on ≠ i) → oi.apart ops ok = true := fun k ok hk hki hun hno => by
        refine hfree k ok hk hki ?_ hno
        by_cases hjk : j = k
        · subst hjk; exact hjun
        · rw [getD_set_ne true hjk] at hun; exact hun
      refine wpOp_mono (fun a' w' h3 => ⟨fun _ => h3.2.1 hjm, ?_⟩) h2
      have h4 := h3.2.2
      rw [Array.setIfInBounds_comm _ _ (Ne.symm hji)] at h4
      exact ih (listed.setIfInBounds j true) a' w' hfree' (ready_mono hr (Ne.symm hji)) (h3.2.1 hjm) h3.1 h4
end

section
variable {P : Program} {W0 : World} {N : Nat} {E E' : List (Nat × Value)} {H H' Hs : List Res} {Q : Exit → Act → World → Prop} {ops : Array Oper} {m f : Nat} {listed : Array Bool}
/-- Nothing is promised of a panic. -/
def NoPanic (Q : Exit → Act → World → Prop) : Prop := ∀ c a w, ¬ Q (.panic c) a w
theorem np_then {c : Code} (h : NoPanic Q) : NoPanic (thenQ P c Q) := fun ch a w hq => h ch a w hq
theorem np_block {id : Nat} (h : NoPanic Q) : NoPanic (Exit.inBlock id Q) := fun ch a w hq => h ch a w hq
theorem np_loop {σ : Type} {I : σ → Prop} {Es : σ → List (Nat × Value)} {Hs : σ → List Res} {μ : σ → Nat} {s : σ} (h : NoPanic Q) : NoPanic (loopQ W0 N I Es Hs μ s Q) := fun ch a w hq => h ch a w hq
theorem np_post {ξ : Type} {fn : Func} {V : ξ → Value} {R : ξ → List Res} {ok : ξ → Prop} : NoPanic (Post P fn W0 V R ok) := by
  rintro ch a w ⟨_, x, _, h, _⟩
  cases h

/-- The walk of such a region: f operations are left. -/
def GH (P : Program) (W0 : World) (N : Nat) (ops : Array Oper) (m f : Nat) (listed : Array Bool) (Hs : List Res) (E : List (Nat × Value)) (H : List Res) (Q : Exit → Act → World → Prop) : Prop :=
  ∀ a w, At W0 N E H a w → anyT P ops Q (Mem W0 Hs) m f listed a w
theorem c_draw {id n : Nat} {l : Array Bool} (m : Nat) (Hs : List Res) (hm : P.follows .mixedOrders = true) (hn : ops.size = n) (hl : Array.replicate n false = l) (h : GH P W0 N ops m n l Hs E H Q) : GC P W0 N E H (.region id ops true) Q := by
  intro a w ha
  subst hn
  subst hl
  refine wp_region_any hm (wpAny_of_anyT _ _ _ _ (h a _ ?_))
  exact ha.withMem ha.mem.drew
theorem c_drawp {id n : Nat} {l : Array Bool} (m : Nat) {is : List Nat} (hm : P.follows .mixedOrders = true) (hn : ops.size = n) (hl : Array.replicate n false = l) (_hp : pick is H = some Hs) (h : GH P W0 N ops m n l Hs E H Q) : GC P W0 N E H (.region id ops true) Q :=
  c_draw m Hs hm hn hl h
theorem h_done (hr : Region.ready .any ops listed = []) (h : GQ W0 N E H .normal Q) : GH P W0 N ops m f listed Hs E H Q := by
  intro a w ha
  cases f with
  | zero => exact ⟨hr, h a w ha⟩
  | succ f => exact ⟨fun _ => h a w ha, by rw [hr]; simp⟩
/-- Operation i, that only reckons or reads what nothing in the region turns, comes first. -/
theorem h_take {d : Nat} {op : Op} {ty : TypeId} {pos : String} {aft : Array Edge} {v : Value} {l' : Array Bool} (i : Nat) (hi : ops[i]? = some ⟨some d, op, ty, pos, aft, none⟩) (hc : (Region.noSelect ops && Region.free .any ops listed i && (Region.ready .any ops listed).contains i && tailB ops m && Nat.blt i m) = true)
    (hl : listed.setIfInBounds i true = l') (hd : Nat.blt d N = true) (hnp : NoPanic Q) (hHs : HS Hs H) (y : Yl P W0 N E Hs ⟨some d, op, ty, pos, aft, none⟩ v) (h : GH P W0 N ops m f l' Hs ((d, v) :: E) H Q) : GH P W0 N ops m (f + 1) listed Hs E H Q := by
  intro a w ha
  simp only [Bool.and_eq_true] at hc
  obtain ⟨⟨⟨⟨c1, c2⟩, c3⟩, c4⟩, c5⟩ := hc
  subst hl
  refine anyT_first (S := Mem W0 Hs) (v := v) c4 hi (by simpa [Nat.blt, Nat.ble_eq, Nat.succ_le_iff] using c5) (Region.noSelect_spec c1) (fun c a w hq => (hnp _ _ _ hq).elim) f listed a w (Region.free_spec hi c2) (by simpa using c3) (hHs _ _ ha.mem) (.inl ⟨by simp [Region.wanted], fun w' hS => ?_⟩) ?_
  · exact y a w' (ha.withMem hS)
  · exact h _ _ (ha.put d v hd)
theorem h_takee {d : Nat} {op : Op} {ty : TypeId} {pos : String} {aft : Array Edge} {φ : Value → Prop} {l' : Array Bool} (i : Nat) (hi : ops[i]? = some ⟨some d, op, ty, pos, aft, none⟩) (hc : (Region.noSelect ops && Region.free .any ops listed i && (Region.ready .any ops listed).contains i && tailB ops m && Nat.blt i m) = true)
    (hl : listed.setIfInBounds i true = l') (hd : Nat.blt d N = true) (hnp : NoPanic Q) (hHs : HS Hs H) (y : ∃ v, φ v ∧ Yl P W0 N E Hs ⟨some d, op, ty, pos, aft, none⟩ v) (h : ∀ v, φ v → GH P W0 N ops m f l' Hs ((d, v) :: E) H Q) : GH P W0 N ops m (f + 1) listed Hs E H Q := by
  obtain ⟨v, hv, y⟩ := y
  exact h_take i hi hc hl hd hnp hHs y (h v hv)
/-- The same under a guard that says yes. -/
theorem h_takeg {d j t : Nat} {b : Bool} {op : Op} {ty : TypeId} {pos : String} {aft : Array Edge} {v : Value} {l' : Array Bool} (i : Nat) (hi : ops[i]? = some ⟨some d, op, ty, pos, aft, some (j, b)⟩) (hc : (Region.noSelect ops && Region.free .any ops listed i && (Region.ready .any ops listed).contains i && tailB ops m && Nat.blt i m) = true)
    (hl : listed.setIfInBounds i true = l') (hd : Nat.blt d N = true) (hnp : NoPanic Q) (hHs : HS Hs H) (hj : (ops[j]?).bind (·.dst) = some t) (hb : get? E t = some (.bool b))
    (y : Yl P W0 N E Hs ⟨some d, op, ty, pos, aft, none⟩ v) (h : GH P W0 N ops m f l' Hs ((d, v) :: E) H Q) : GH P W0 N ops m (f + 1) listed Hs E H Q := by
  intro a w ha
  simp only [Bool.and_eq_true] at hc
  obtain ⟨⟨⟨⟨c1, c2⟩, c3⟩, c4⟩, c5⟩ := hc
  subst hl
  refine anyT_first (S := Mem W0 Hs) (v := v) c4 hi (by simpa [Nat.blt, Nat.ble_eq, Nat.succ_le_iff] using c5) (Region.noSelect_spec c1) (fun c a w hq => (hnp _ _ _ hq).elim) f listed a w (Region.free_spec hi c2) (by simpa using c3) (hHs _ _ ha.mem) (.inl ⟨?_, fun w' hS => ?_⟩) ?_
  · simp [Region.wanted, yielded, hj, ha.env t _ hb]
  · exact y a w' (ha.withMem hS)
  · exact h _ _ (ha.put d v hd)
/-- A guard that says no. -/
theorem h_off {d j t : Nat} {b c : Bool} {op : Op} {ty : TypeId} {pos : String} {aft : Array Edge} {l' : Array Bool} (i : Nat) (hi : ops[i]? = some ⟨some d, op, ty, pos, aft, some (j, c)⟩) (hc : (Region.noSelect ops && Region.free .any ops listed i && (Region.ready .any ops listed).contains i && tailB ops m && Nat.blt i m) = true)
    (hl : listed.setIfInBounds i true = l') (hd : Nat.blt d N = true) (hnp : NoPanic Q) (hHs : HS Hs H) (hj : (ops[j]?).bind (·.dst) = some t) (hb : get? E t = some (.bool b)) (hne : (b == c) = false)
    (h : GH P W0 N ops m f l' Hs ((d, undef) :: E) H Q) : GH P W0 N ops m (f + 1) listed Hs E H Q := by
  intro a w ha
  simp only [Bool.and_eq_true] at hc
  obtain ⟨⟨⟨⟨c1, c2⟩, c3⟩, c4⟩, c5⟩ := hc
  subst hl
  refine anyT_first (S := Mem W0 Hs) (v := undef) c4 hi (by simpa [Nat.blt, Nat.ble_eq, Nat.succ_le_iff] using c5) (Region.noSelect_spec c1) (fun c a w hq => (hnp _ _ _ hq).elim) f listed a w (Region.free_spec hi c2) (by simpa using c3) (hHs _ _ ha.mem) (.inr ⟨?_, rfl⟩) ?_
  · simp only [Region.wanted, yielded, hj, Option.bind_some, ha.env t _ hb]
    cases b <;> cases c <;> first | rfl | cases hne
  · exact h _ _ (ha.put d _ hd)

/-- A guard that was itself passed over. -/
theorem h_und {d j t : Nat} {c : Bool} {op : Op} {ty : TypeId} {pos : String} {aft : Array Edge} {l' : Array Bool} (i : Nat) (hi : ops[i]? = some ⟨some d, op, ty, pos, aft, some (j, c)⟩) (hc : (Region.noSelect ops && Region.free .any ops listed i && (Region.ready .any ops listed).contains i && tailB ops m && Nat.blt i m) = true)
    (hl : listed.setIfInBounds i true = l') (hd : Nat.blt d N = true) (hnp : NoPanic Q) (hHs : HS Hs H) (hj : (ops[j]?).bind (·.dst) = some t) (hb : get? E t = some undef)
    (h : GH P W0 N ops m f l' Hs ((d, undef) :: E) H Q) : GH P W0 N ops m (f + 1) listed Hs E H Q := by
  intro a w ha
  simp only [Bool.and_eq_true] at hc
  obtain ⟨⟨⟨⟨c1, c2⟩, c3⟩, c4⟩, c5⟩ := hc
  subst hl
  refine anyT_first (S := Mem W0 Hs) (v := undef) c4 hi (by simpa [Nat.blt, Nat.ble_eq, Nat.succ_le_iff] using c5) (Region.noSelect_spec c1) (fun c a w hq => (hnp _ _ _ hq).elim) f listed a w (Region.free_spec hi c2) (by simpa using c3) (hHs _ _ ha.mem) (.inr ⟨?_, rfl⟩) ?_
  · simp only [Region.wanted, yielded, hj, Option.bind_some, ha.env t _ hb]
    rfl
  · exact h _ _ (ha.put d _ hd)

/-- Behind one operation of a draw. -/
def stepQ (P : Program) (ops : Array Oper) (Q : Exit → Act → World → Prop) (W0 : World) (Hs : List Res) (m f i : Nat) (l' : Array Bool) : Exit → Act → World → Prop
  | .normal, a, w => (i < m → Mem W0 Hs w) ∧ anyT P ops Q (Mem W0 Hs) m f l' a w
  | e, a, w => Q e a w
theorem q_step {i : Nat} (hHs : (Nat.blt i m = true → HS Hs H)) (h : GH P W0 N ops m f listed Hs E H Q) : GQ W0 N E H .normal (stepQ P ops Q W0 Hs m f i listed) :=
  fun a w ha => ⟨fun hi => hHs (by simpa [Nat.blt, Nat.ble_eq, Nat.succ_le_iff] using hi) _ _ ha.mem, h a w ha⟩
theorem one_of_gl {i : Nat} {o : Oper} (hi : ops[i]? = some o) (h : GL P W0 N ops E H [o] (stepQ P ops Q W0 Hs m f i (listed.setIfInBounds i true))) {a : Act} {w : World} (ha : At W0 N E H a w) :
    wpOp P ops Q i (fun a' w' => (i < m → Mem W0 Hs w') ∧ anyT P ops Q (Mem W0 Hs) m f (listed.setIfInBounds i true) a' w') a w := by
  have h1 := h a w ha
  unfold wpOp
  simp only [hi]
  simp only [wpList] at h1
  split
  · rename_i hw
    rw [if_pos hw] at h1
    rcases h1 with h1 | ⟨h1, h2⟩
    · refine .inl ?_
      unfold Oper.wp at h1 ⊢
      generalize (execOp a.eval o).run P w = r at *
      cases r with
      | ok n w' =>
        cases n <;> simp only [Oper.upon] at h1 ⊢ <;> first | exact h1 | (refine Calls.mono h1 fun e w'' he => ?_; cases e <;> exact he)
      | halt x w' => cases x <;> simp only [Oper.upon] at h1 ⊢ <;> exact h1
    · exact .inr ⟨h1, h2⟩
  · rename_i hw
    rw [if_neg hw] at h1
    exact h1
/-- One operation alone may come up now. -/
theorem h_only {o : Oper} {l' : Array Bool} (i : Nat) (hi : ops[i]? = some o) (hr : Region.ready .any ops listed = [i]) (hl : listed.setIfInBounds i true = l')
    (h : GL P W0 N ops E H [o] (stepQ P ops Q W0 Hs m f i l')) : GH P W0 N ops m (f + 1) listed Hs E H Q := by
  intro a w ha
  subst hl
  refine ⟨fun h0 => absurd (hr.symm.trans h0) (by simp), fun j hj => ?_⟩
  rw [hr] at hj
  obtain rfl : j = i := by simpa using hj
  exact one_of_gl hi h ha
/-- Two may come up now. -/
theorem h_two {o o' : Oper} {l' l'' : Array Bool} (i j : Nat) (hi : ops[i]? = some o) (hj : ops[j]? = some o') (hr : Region.ready .any ops listed = [i, j]) (hl : listed.setIfInBounds i true = l') (hl' : listed.setIfInBounds j true = l'')
    (h : GL P W0 N ops E H [o] (stepQ P ops Q W0 Hs m f i l')) (h' : GL P W0 N ops E H [o'] (stepQ P ops Q W0 Hs m f j l'')) : GH P W0 N ops m (f + 1) listed Hs E H Q := by
  intro a w ha
  subst hl
  subst hl'
  refine ⟨fun h0 => absurd (hr.symm.trans h0) (by simp), fun k hk => ?_⟩
  rw [hr] at hk
  rcases List.mem_cons.1 hk with rfl | hk
  · exact one_of_gl hi h ha
  · obtain rfl : k = j := by simpa using hk
    exact one_of_gl hj h' ha
theorem h_three {o o' o'' : Oper} {l' l'' l''' : Array Bool} (i j k : Nat) (hi : ops[i]? = some o) (hj : ops[j]? = some o') (hk : ops[k]? = some o'') (hr : Region.ready .any ops listed = [i, j, k]) (hl : listed.setIfInBounds i true = l') (hl' : listed.setIfInBounds j true = l'') (hl'' : listed.setIfInBounds k true = l''')
    (h : GL P W0 N ops E H [o] (stepQ P ops Q W0 Hs m f i l')) (h' : GL P W0 N ops E H [o'] (stepQ P ops Q W0 Hs m f j l'')) (h'' : GL P W0 N ops E H [o''] (stepQ P ops Q W0 Hs m f k l''')) : GH P W0 N ops m (f + 1) listed Hs E H Q := by
  intro a w ha
  subst hl
  subst hl'
  subst hl''
  refine ⟨fun h0 => absurd (hr.symm.trans h0) (by simp), fun q hq => ?_⟩
  rw [hr] at hq
  rcases List.mem_cons.1 hq with rfl | hq
  · exact one_of_gl hi h ha
  · rcases List.mem_cons.1 hq with rfl | hq
    · exact one_of_gl hj h' ha
    · obtain rfl : q = k := by simpa using hq
      exact one_of_gl hk h'' ha
/-- What is known is cut down, in a draw. -/
theorem h_sub (hs : Sub E' E) (h : GH P W0 N ops m f listed Hs E' H Q) : GH P W0 N ops m f listed Hs E H Q := fun a w ha => h a w (ha.sub hs)
theorem h_bool {t : Nat} {b : Bool} (hb : get? E t = some (.bool b)) (h1 : b = true → GH P W0 N ops m f listed Hs ((t, .bool true) :: E) H Q) (h0 : b = false → GH P W0 N ops m f listed Hs ((t, .bool false) :: E) H Q) :
    GH P W0 N ops m f listed Hs E H Q := by
  have key : ∀ c, b = c → ∀ a w, At W0 N E H a w → At W0 N ((t, .bool c) :: E) H a w := by
    intro c hc a w ha
    refine ⟨ha.defers, ha.size, fun u v hu => ?_, ha.mem⟩
    rw [get?_cons] at hu
    split at hu
    · rename_i e; subst e; rw [ha.env _ _ hb, hc]; exact hu
    · exact ha.env u v hu
  intro a w ha
  cases b with
  | true => exact h1 rfl a w (key true rfl a w ha)
  | false => exact h0 rfl a w (key false rfl a w ha)
theorem h_dec {t : Nat} {p : Prop} [Decidable p] (hb : get? E t = some (.bool (decide p))) (h1 : p → GH P W0 N ops m f listed Hs ((t, .bool true) :: E) H Q) (h0 : ¬p → GH P W0 N ops m f listed Hs ((t, .bool false) :: E) H Q) :
    GH P W0 N ops m f listed Hs E H Q := h_bool hb (fun e => h1 (of_decide_eq_true e)) (fun e => h0 (of_decide_eq_false e))
theorem h_ndec {t : Nat} {p : Prop} [Decidable p] (hb : get? E t = some (.bool (!decide p))) (h1 : ¬p → GH P W0 N ops m f listed Hs ((t, .bool true) :: E) H Q) (h0 : p → GH P W0 N ops m f listed Hs ((t, .bool false) :: E) H Q) :
    GH P W0 N ops m f listed Hs E H Q := h_bool hb (fun e => h1 (of_decide_eq_false (by simpa using e))) (fun e => h0 (of_decide_eq_true (by simpa using e)))

/-! ## A cut: ways meet, and are walked on once -/
def cutQ {σ : Type} (W0 : World) (N : Nat) (I : σ → Prop) (Es : σ → List (Nat × Value)) (Hs : σ → List Res) (Q : Exit → Act → World → Prop) : Exit → Act → World → Prop
  | .normal, a, w => ∃ s, I s ∧ At W0 N (Es s) (Hs s) a w
  | e, a, w => Q e a w
theorem c_cut {c : Code} {σ : Type} (I : σ → Prop) (Es : σ → List (Nat × Value)) (Hs : σ → List Res) (h : GC P W0 N E H c (cutQ W0 N I Es Hs Q)) (k : ∀ s, I s → GQ W0 N (Es s) (Hs s) .normal Q) : GC P W0 N E H c Q := by
  intro a w ha
  refine wp_mono (h a w ha) (fun e a w hq => ?_)
  cases e with
  | normal => obtain ⟨s, hI, h⟩ := hq; exact k s hI a w h
  | _ => exact hq
theorem q_cut {σ : Type} {I : σ → Prop} {Es : σ → List (Nat × Value)} {Hs : σ → List Res} (s : σ) (hI : I s) (hE : Sub (Es s) E) (hH : HS (Hs s) H) : GQ W0 N E H .normal (cutQ W0 N I Es Hs Q) :=
  fun a w ha => ⟨s, hI, (ha.sub hE).withMem (hH _ _ ha.mem)⟩
theorem q_cut_ret {σ : Type} {I : σ → Prop} {Es : σ → List (Nat × Value)} {Hs : σ → List Res} (h : GQ W0 N E H .ret Q) : GQ W0 N E H .ret (cutQ W0 N I Es Hs Q) := fun a w ha => h a w ha
theorem q_cut_exit {σ : Type} {I : σ → Prop} {Es : σ → List (Nat × Value)} {Hs : σ → List Res} {id : Nat} (h : GQ W0 N E H (.exit id) Q) : GQ W0 N E H (.exit id) (cutQ W0 N I Es Hs Q) := fun a w ha => h a w ha
theorem np_cut {σ : Type} {I : σ → Prop} {Es : σ → List (Nat × Value)} {Hs : σ → List Res} (h : NoPanic Q) : NoPanic (cutQ W0 N I Es Hs Q) := fun ch a w hq => h ch a w hq
end
end Go.Gx
