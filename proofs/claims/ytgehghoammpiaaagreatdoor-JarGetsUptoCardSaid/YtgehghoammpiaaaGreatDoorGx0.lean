/- This text proves: the step laws and the plain functions that the walks of this claim stand on. No condition beyond those that each theorem names. -/
import Derived.Below
import Derived.Tactics
import Derived.Tactics2
import Derived.Maps.AppendAt
import Derived.Laws.Slices
import Derived.Deep.Draws
namespace Go.Gx
open Go.RowKit

/-! ## What a call knows: its temporaries, and blocks of memory of its own -/
def get? : List (Nat × Value) → Nat → Option Value
  | [], _ => none
  | (k, v) :: r, t => bif Nat.beq k t then some v else get? r t

def ev (E : List (Nat × Value)) : Operand → Option Value
  | .tmp t => get? E t
  | .const v => some v
  | .global g => some (.pointer (some ⟨g, 0, none⟩))
  | .func f => some (.func (.func f) #[] #[])

inductive Res where
  | blk (g : Nat) (o : Obj)
  | row (v : Value) (e : TypeId) (size n : Nat) (xs : List Value)
  | obj (g : Nat) (φ : Obj → Prop)

def Res.blk? : Res → Option Nat
  | .blk g _ => some g
  | .row v _ _ _ _ => v.ownBlock
  | .obj g _ => some g

def Res.ok (B : Nat) (w : World) : Res → Prop
  | .blk g o => B ≤ g ∧ w.heap[g]? = some o
  | .row v e size n xs => w.ownsRow B e size v n xs
  | .obj g φ => B ≤ g ∧ ∃ o, w.heap[g]? = some o ∧ φ o

def Res.far (r s : Res) : Prop := ∀ g, r.blk? = some g → s.blk? ≠ some g

theorem Res.ok.lt {B : Nat} {w : World} {r : Res} (h : r.ok B w) : ∀ g, r.blk? = some g → B ≤ g ∧ g < w.heap.size := by
  intro g hg
  cases r with
  | blk g' o =>
    simp only [Res.blk?, Option.some.injEq] at hg
    subst hg
    exact ⟨h.1, (Array.getElem?_eq_some_iff.1 h.2).1⟩
  | row v e size n xs => exact World.ownsRow.lt h g hg
  | obj g' φ =>
    simp only [Res.blk?, Option.some.injEq] at hg
    subst hg
    obtain ⟨hb, o, ho, _⟩ := h
    exact ⟨hb, (Array.getElem?_eq_some_iff.1 ho).1⟩

theorem Res.ok.kept {B : Nat} {w w' : World} {r : Res} {row : Option Nat} (h : r.ok B w) (hg : w.grownBy w' row) (hne : ∀ g, r.blk? = some g → row ≠ some g) : r.ok B w' := by
  cases r with
  | blk g' o => exact ⟨h.1, (hg.block g' (Array.getElem?_eq_some_iff.1 h.2).1 (fun e => hne g' rfl e.symm)).trans h.2⟩
  | row v e size n xs =>
    refine World.ownsRow.kept h hg ?_
    cases hv : v.ownBlock with
    | none => exact .inl rfl
    | some g => exact .inr (fun e => hne g hv e.symm)
  | obj g' φ =>
    obtain ⟨hb, o, ho, hp⟩ := h
    exact ⟨hb, o, (hg.block g' (Array.getElem?_eq_some_iff.1 ho).1 (fun e => hne g' rfl e.symm)).trans ho, hp⟩

structure Mem (W0 : World) (H : List Res) (w : World) : Prop where
  below : Below W0.heap.size W0 w
  res : ∀ r ∈ H, r.ok W0.heap.size w
  apart : H.Pairwise Res.far

theorem Mem.start (w : World) : Mem w [] w := ⟨Below.refl _ _, by simp, List.Pairwise.nil⟩

theorem Res.far.symm {r s : Res} (h : r.far s) : s.far r := fun g hs hr => h g hr hs

/-- What is known stays known over a growth of memory in which at most row 'row' is written. -/
theorem Mem.grown {W0 w w' : World} {H : List Res} {row : Option Nat} (h : Mem W0 H w) (hg : w.grownBy w' row) (hB : ∀ g, row = some g → W0.heap.size ≤ g)
    (hne : ∀ r ∈ H, ∀ g, r.blk? = some g → row ≠ some g) : Mem W0 H w' :=
  ⟨h.below.grown hg h.below.size hB, fun r hr => (h.res r hr).kept hg (hne r hr), h.apart⟩

theorem Mem.drew {W0 w : World} {H : List Res} (h : Mem W0 H w) : Mem W0 H w.drew :=
  h.grown (row := none) ⟨rfl, rfl, rfl, Nat.le_refl _, fun _ _ _ => rfl⟩ (by simp) (by simp)

/-- A new resource whose block is new. -/
theorem Mem.cons {W0 w w' : World} {H : List Res} {r : Res} {row : Option Nat} (h : Mem W0 H w) (hg : w.grownBy w' row) (hB : ∀ g, row = some g → W0.heap.size ≤ g)
    (hne : ∀ r ∈ H, ∀ g, r.blk? = some g → row ≠ some g) (hr : r.ok W0.heap.size w') (hnew : ∀ g, r.blk? = some g → row = some g ∨ w.heap.size ≤ g) : Mem W0 (r :: H) w' := by
  have h' := h.grown hg hB hne
  refine ⟨h'.below, ?_, List.pairwise_cons.2 ⟨?_, h'.apart⟩⟩
  · intro s hs
    rcases List.mem_cons.1 hs with rfl | hs
    · exact hr
    · exact h'.res s hs
  · intro s hs g hrg hsg
    have hlt := ((h.res s hs).lt g hsg).2
    rcases hnew g hrg with he | hge
    · exact hne s hs g hsg he
    · omega

theorem Mem.alloc {W0 w : World} {H : List Res} (h : Mem W0 H w) (o : Obj) : Mem W0 (.blk w.heap.size o :: H) (w.alloc o) :=
  h.cons (row := none) (World.grownBy_alloc w o none) (by simp) (by simp) ⟨h.below.size, heap_alloc_new w o⟩
    (by intro g hg; simp only [Res.blk?, Option.some.injEq] at hg; right; omega)

theorem Mem.sub {W0 w : World} {H H' : List Res} (h : Mem W0 H w) (hs : H'.Sublist H) : Mem W0 H' w :=
  ⟨h.below, fun r hr => h.res r (hs.subset hr), h.apart.sublist hs⟩

theorem mem_of_get {H : List Res} {k : Nat} {r : Res} (h : H[k]? = some r) : r ∈ H := List.mem_of_getElem? h

theorem Mem.blk {W0 w : World} {H : List Res} (h : Mem W0 H w) {k g : Nat} {o : Obj} (hk : H[k]? = some (.blk g o)) : W0.heap.size ≤ g ∧ w.heap[g]? = some o := h.res _ (mem_of_get hk)

/-- One resource is replaced by another one of the same block. -/
theorem pairwise_set {H : List Res} {r : Res} : ∀ (k : Nat) (r0 : Res), H.Pairwise Res.far → H[k]? = some r0 → (∀ g, r.blk? = some g → r0.blk? = some g) → (H.set k r).Pairwise Res.far := by
  induction H with
  | nil => intro k r0 _ h _; simp at h
  | cons s H ih =>
    intro k r0 hp hk hb
    obtain ⟨h1, h2⟩ := List.pairwise_cons.1 hp
    cases k with
    | zero =>
      simp only [List.getElem?_cons_zero, Option.some.injEq] at hk
      subst hk
      exact List.pairwise_cons.2 ⟨fun t ht g hg => h1 t ht g (hb g hg), h2⟩
    | succ k =>
      simp only [List.getElem?_cons_succ] at hk
      refine List.pairwise_cons.2 ⟨fun t ht => ?_, ih k r0 h2 hk hb⟩
      rcases List.mem_or_eq_of_mem_set ht with ht | rfl
      · exact h1 t ht
      · exact fun g hs hr => h1 r0 (mem_of_get hk) g hs (hb g hr)

theorem mem_set_ne {H : List Res} {r s : Res} : ∀ (k : Nat) (r0 : Res), H.Pairwise Res.far → H[k]? = some r0 → s ∈ H.set k r → s = r ∨ (s ∈ H ∧ s.far r0) := by
  induction H with
  | nil => intro k r0 _ h _; simp at h
  | cons t H ih =>
    intro k r0 hp hk hs
    obtain ⟨h1, h2⟩ := List.pairwise_cons.1 hp
    cases k with
    | zero =>
      simp only [List.getElem?_cons_zero, Option.some.injEq] at hk
      subst hk
      rcases List.mem_cons.1 hs with rfl | hs
      · exact .inl rfl
      · exact .inr ⟨List.mem_cons_of_mem _ hs, (h1 s hs).symm⟩
    | succ k =>
      simp only [List.getElem?_cons_succ] at hk
      rcases List.mem_cons.1 hs with rfl | hs
      · exact .inr ⟨List.mem_cons_self, h1 r0 (mem_of_get hk)⟩
      · rcases ih k r0 h2 hk hs with h | ⟨h, h'⟩
        · exact .inl h
        · exact .inr ⟨List.mem_cons_of_mem _ h, h'⟩

theorem Mem.set {W0 w w' : World} {H : List Res} {k g : Nat} {r0 r : Res} (h : Mem W0 H w) (hk : H[k]? = some r0) (hg0 : r0.blk? = some g) (hg : w.grownBy w' (some g))
    (hr : r.ok W0.heap.size w') (hb : ∀ g', r.blk? = some g' → g' = g ∨ w.heap.size ≤ g') : Mem W0 (H.set k r) w' := by
  have hB := (h.res _ (mem_of_get hk)).lt g hg0
  have hall : ∀ s ∈ H, s.far r0 → s.ok W0.heap.size w' := fun s hs hf => (h.res s hs).kept hg (fun g' hs' e => hf g' hs' (by rw [hg0]; exact e))
  refine ⟨h.below.grown hg h.below.size (fun k e => by injection e with e; omega), ?_, ?_⟩
  · intro s hs
    rcases mem_set_ne k r0 h.apart hk hs with rfl | ⟨hs, hf⟩
    · exact hr
    · exact hall s hs hf
  · -- apart
    have key : ∀ s ∈ H, s.far r0 → s.far r := by
      intro s hs hf g' hs' hr'
      rcases hb g' hr' with rfl | hge
      · exact hf g' hs' hg0
      · have := ((h.res s hs).lt g' hs').2; omega
    have := h.apart
    clear hall hr
    revert k
    have hin := h.res
    clear h
    have gen : ∀ (L : List Res), L.Pairwise Res.far → (∀ s ∈ L, s ∈ H) → ∀ k, L[k]? = some r0 → (L.set k r).Pairwise Res.far := by
      intro L
      induction L with
      | nil => intro _ _ k hk; simp at hk
      | cons t L ih =>
        intro hp hsub k hk
        obtain ⟨h1, h2⟩ := List.pairwise_cons.1 hp
        cases k with
        | zero =>
          simp only [List.getElem?_cons_zero, Option.some.injEq] at hk
          subst hk
          refine List.pairwise_cons.2 ⟨fun s hs => ?_, h2⟩
          exact (key s (hsub s (List.mem_cons_of_mem _ hs)) (h1 s hs).symm).symm
        | succ k =>
          simp only [List.getElem?_cons_succ] at hk
          refine List.pairwise_cons.2 ⟨fun s hs => ?_, ih h2 (fun s hs => hsub s (List.mem_cons_of_mem _ hs)) k hk⟩
          rcases List.mem_or_eq_of_mem_set hs with hs | rfl
          · exact h1 s hs
          · exact key t (hsub t List.mem_cons_self) (h1 r0 (mem_of_get hk))
    intro k hk
    exact gen H this (fun s hs => hs) k hk

structure At (W0 : World) (N : Nat) (E : List (Nat × Value)) (H : List Res) (a : Act) (w : World) : Prop where
  defers : a.defers = []
  size : a.tmps.size = N
  env : ∀ t v, get? E t = some v → a.tmps[t]? = some v
  mem : Mem W0 H w

section
variable {P : Program} {W0 : World} {N : Nat} {E E' : List (Nat × Value)} {H H' : List Res} {Q : Exit → Act → World → Prop} {a : Act} {w : World}

theorem At.eval (h : At W0 N E H a w) {x : Operand} {v : Value} (hx : ev E x = some v) : a.eval x = v := by
  cases x with
  | tmp t =>
    have := h.env t v hx
    simp [Act.eval, Array.getD_eq_getD_getElem?, this]
  | const u => simpa [ev, Act.eval] using hx
  | global g => simpa [ev, Act.eval] using hx
  | func f => simpa [ev, Act.eval] using hx

theorem get?_cons (d t : Nat) (v : Value) (E : List (Nat × Value)) : get? ((d, v) :: E) t = if d = t then some v else get? E t := by
  simp only [get?]
  by_cases h : d = t
  · subst h; simp
  · have : Nat.beq d t = false := by rw [Bool.eq_false_iff]; intro hb; exact h (Nat.eq_of_beq_eq_true hb)
    simp [this, h]

theorem At.put (h : At W0 N E H a w) (d : Nat) (v : Value) (hd : Nat.blt d N = true) : At W0 N ((d, v) :: E) H (a.put (some d) v) w := by
  have hd' : d < N := by simpa [Nat.blt, Nat.ble_eq, Nat.succ_le_iff] using hd
  refine ⟨h.defers, by simp [Act.put, h.size], fun t u ht => ?_, h.mem⟩
  rw [get?_cons] at ht
  simp only [Act.put, Array.getElem?_setIfInBounds]
  by_cases he : d = t
  · subst he
    rw [if_pos rfl] at ht
    rw [if_pos rfl, if_pos (by rw [h.size]; exact hd')]
    exact ht
  · rw [if_neg he] at ht ⊢
    exact h.env t u ht

theorem At.withMem (h : At W0 N E H a w) {w' : World} (hm : Mem W0 H' w') : At W0 N E H' a w' := ⟨h.defers, h.size, h.env, hm⟩

/-- What is left of the environment. -/
def Sub (E' E : List (Nat × Value)) : Prop := ∀ t v, get? E' t = some v → get? E t = some v
theorem sub_nil : Sub [] E := by intro t v h; simp [get?] at h
theorem sub_cons {t : Nat} {v : Value} (h : get? E t = some v) (hs : Sub E' E) : Sub ((t, v) :: E') E := by
  intro u x hx
  rw [get?_cons] at hx
  split at hx
  · rename_i e; subst e; rw [h]; exact hx
  · exact hs u x hx
theorem At.sub (h : At W0 N E H a w) (hs : Sub E' E) : At W0 N E' H a w := ⟨h.defers, h.size, fun t v ht => h.env t v (hs t v ht), h.mem⟩

/-! ## The judgements -/
def GC (P : Program) (W0 : World) (N : Nat) (E : List (Nat × Value)) (H : List Res) (c : Code) (Q : Exit → Act → World → Prop) : Prop := ∀ a w, At W0 N E H a w → c.wp P Q a w
def GL (P : Program) (W0 : World) (N : Nat) (ops : Array Oper) (E : List (Nat × Value)) (H : List Res) (l : List Oper) (Q : Exit → Act → World → Prop) : Prop := ∀ a w, At W0 N E H a w → wpList P ops Q l a w
def GQ (W0 : World) (N : Nat) (E : List (Nat × Value)) (H : List Res) (e : Exit) (Q : Exit → Act → World → Prop) : Prop := ∀ a w, At W0 N E H a w → Q e a w

def thenQ (P : Program) (c : Code) (Q : Exit → Act → World → Prop) : Exit → Act → World → Prop := Exit.then (c.wp P Q) Q

theorem c_seq {x y : Code} (h : GC P W0 N E H x (thenQ P y Q)) : GC P W0 N E H (.seq x y) Q := fun a w ha => wp_seq (h a w ha)
theorem q_then {c : Code} (h : GC P W0 N E H c Q) : GQ W0 N E H .normal (thenQ P c Q) := fun a w ha => h a w ha
theorem q_then_ret {c : Code} (h : GQ W0 N E H .ret Q) : GQ W0 N E H .ret (thenQ P c Q) := fun a w ha => h a w ha
theorem q_then_exit {c : Code} {id : Nat} (h : GQ W0 N E H (.exit id) Q) : GQ W0 N E H (.exit id) (thenQ P c Q) := fun a w ha => h a w ha
theorem c_skip (h : GQ W0 N E H .normal Q) : GC P W0 N E H .skip Q := fun a w ha => wp_skip (h a w ha)
theorem c_ret (h : GQ W0 N E H .ret Q) : GC P W0 N E H .ret Q := fun a w ha => wp_ret (h a w ha)
theorem c_exit {id : Nat} (h : GQ W0 N E H (.exit id) Q) : GC P W0 N E H (.exit id) Q := fun a w ha => wp_exit (h a w ha)
theorem c_region {id : Nat} {ops : Array Oper} {l : List Oper} (hl : ops.toList = l) (h : GL P W0 N ops E H l Q) : GC P W0 N E H (.region id ops false) Q :=
  fun a w ha => wp_region_list (hl ▸ h a w ha)
theorem l_nil {ops : Array Oper} (h : GQ W0 N E H .normal Q) : GL P W0 N ops E H [] Q := fun a w ha => h a w ha
theorem c_cond {c : Operand} {x y : Code} {b : Bool} (hc : ev E c = some (.bool b)) (ht : b = true → GC P W0 N E H x Q) (hf : b = false → GC P W0 N E H y Q) : GC P W0 N E H (.cond c x y) Q :=
  fun a w ha => wp_cond_split (ha.eval hc) (fun e => ht e a w ha) (fun e => hf e a w ha)
theorem c_cond_t {c : Operand} {x y : Code} (hc : ev E c = some (.bool true)) (h : GC P W0 N E H x Q) : GC P W0 N E H (.cond c x y) Q := fun a w ha => wp_cond_true (ha.eval hc) (h a w ha)
theorem c_cond_f {c : Operand} {x y : Code} (hc : ev E c = some (.bool false)) (h : GC P W0 N E H y Q) : GC P W0 N E H (.cond c x y) Q := fun a w ha => wp_cond_false (ha.eval hc) (h a w ha)
theorem c_block {id : Nat} {c : Code} (h : GC P W0 N E H c (Exit.inBlock id Q)) : GC P W0 N E H (.block id c) Q := fun a w ha => wp_block (h a w ha)
theorem q_block {id : Nat} (h : GQ W0 N E H .normal Q) : GQ W0 N E H .normal (Exit.inBlock id Q) := fun a w ha => h a w ha
theorem q_block_ret {id : Nat} (h : GQ W0 N E H .ret Q) : GQ W0 N E H .ret (Exit.inBlock id Q) := fun a w ha => h a w ha
theorem q_block_exit {id : Nat} (h : GQ W0 N E H .normal Q) : GQ W0 N E H (.exit id) (Exit.inBlock id Q) := fun a w ha => by
  show if id = id then _ else _
  rw [if_pos rfl]; exact h a w ha
theorem q_block_other {id id' : Nat} (hne : Nat.beq id' id = false) (h : GQ W0 N E H (.exit id') Q) : GQ W0 N E H (.exit id') (Exit.inBlock id Q) := fun a w ha => by
  show if id' = id then _ else _
  rw [if_neg (fun e => by subst e; simp at hne)]; exact h a w ha
theorem c_sub {c : Code} (hs : Sub E' E) (h : GC P W0 N E' H c Q) : GC P W0 N E H c Q := fun a w ha => h a w (ha.sub hs)
theorem c_drop {c : Code} (hs : H'.Sublist H) (h : GC P W0 N E H' c Q) : GC P W0 N E H c Q := fun a w ha => h a w (ha.withMem (ha.mem.sub hs))
theorem q_sub {e : Exit} (hs : Sub E' E) (h : GQ W0 N E' H e Q) : GQ W0 N E H e Q := fun a w ha => h a w (ha.sub hs)
theorem q_drop {e : Exit} (hs : H'.Sublist H) (h : GQ W0 N E H' e Q) : GQ W0 N E H e Q := fun a w ha => h a w (ha.withMem (ha.mem.sub hs))

/-- A loop: what holds at each round's head, told by a ghost s; a measure that each round lowers. -/
def loopQ {σ : Type} (W0 : World) (N : Nat) (I : σ → Prop) (Es : σ → List (Nat × Value)) (Hs : σ → List Res) (μ : σ → Nat) (s : σ) (Q : Exit → Act → World → Prop) : Exit → Act → World → Prop :=
  Exit.then (fun a w => ∃ s', I s' ∧ μ s' < μ s ∧ At W0 N (Es s') (Hs s') a w) Q

theorem c_loop {c : Code} {σ : Type} (I : σ → Prop) (Es : σ → List (Nat × Value)) (Hs : σ → List Res) (μ : σ → Nat) (s0 : σ) (h0 : I s0)
    (hE : Sub (Es s0) E) (hH : (Hs s0).Sublist H)
    (round : ∀ s, I s → GC P W0 N (Es s) (Hs s) c (loopQ W0 N I Es Hs μ s Q)) : GC P W0 N E H (.loop c) Q := by
  intro a w ha b k cs
  have key : ∀ n s, μ s = n → I s → ∀ a w, At W0 N (Es s) (Hs s) a w →
      ∃ e a' w', Q e a' w' ∧ Arrives P (lone (b.at a (.code c :: .inLoop c :: k)) cs w) b k cs e a' w' := by
    intro n
    induction n using Nat.strongRecOn with
    | _ n ih =>
      intro s hn hI a w ha
      obtain ⟨e, a₁, w₁, hq, harr⟩ := round s hI a w ha b (.inLoop c :: k) cs
      cases e with
      | normal =>
        obtain ⟨s', hI', hlt, ha'⟩ := hq
        obtain ⟨e₂, a₂, w₂, hq₂, harr₂⟩ := ih (μ s') (hn ▸ hlt) s' rfl hI' a₁ w₁ ha'
        exact ⟨e₂, a₂, w₂, hq₂, .of_steps (Steps.trans harr (.one step_inLoop)) harr₂⟩
      | exit id => exact ⟨_, a₁, w₁, hq, .pass (x := .inLoop c) rfl (fun _ _ => .inl (by simp)) harr⟩
      | goto l => exact ⟨_, a₁, w₁, hq, .pass (x := .inLoop c) rfl (fun _ _ => .inl (by simp)) harr⟩
      | ret => exact ⟨_, a₁, w₁, hq, .pass (x := .inLoop c) rfl (fun _ _ => .inl (by simp)) harr⟩
      | panic ch => exact ⟨_, a₁, w₁, hq, .pass (x := .inLoop c) rfl (fun _ _ => .inl (by simp)) harr⟩
      | outgrown => exact ⟨_, a₁, w₁, hq, .pass (x := .inLoop c) rfl (fun _ _ => .inl (by simp)) harr⟩
  obtain ⟨e, a', w', hq, harr⟩ := key _ s0 rfl h0 a w ((ha.sub hE).withMem (ha.mem.sub hH))
  exact ⟨e, a', w', hq, .of_steps (.one step_loop) harr⟩

theorem q_loop {σ : Type} {I : σ → Prop} {Es : σ → List (Nat × Value)} {Hs : σ → List Res} {μ : σ → Nat} {s : σ} (s' : σ) (hI : I s') (hlt : μ s' < μ s)
    (hE : Sub (Es s') E) (hH : (Hs s').Sublist H) : GQ W0 N E H .normal (loopQ W0 N I Es Hs μ s Q) :=
  fun _ _ ha => ⟨s', hI, hlt, (ha.sub hE).withMem (ha.mem.sub hH)⟩
theorem q_loop_ret {σ : Type} {I : σ → Prop} {Es : σ → List (Nat × Value)} {Hs : σ → List Res} {μ : σ → Nat} {s : σ} (h : GQ W0 N E H .ret Q) :
    GQ W0 N E H .ret (loopQ W0 N I Es Hs μ s Q) := fun a w ha => h a w ha
theorem q_loop_exit {σ : Type} {I : σ → Prop} {Es : σ → List (Nat × Value)} {Hs : σ → List Res} {μ : σ → Nat} {s : σ} {id : Nat} (h : GQ W0 N E H (.exit id) Q) :
    GQ W0 N E H (.exit id) (loopQ W0 N I Es Hs μ s Q) := fun a w ha => h a w ha

/-! ## The way in and the way out -/
/-- A call: it returns; what lay there lies as it did; what it answers, and the new memory that goes with it. -/
def Ct {ξ : Type} (P : Program) (K : FuncId) (args : Array Value) (w : World) (V : ξ → Value) (R : ξ → List Res) (ok : ξ → Prop) : Prop :=
  Calls P K args w fun e w' => ∃ x, ok x ∧ e = .returned (V x) ∧ Mem w (R x) w'

theorem ct_enter {ξ : Type} {K : FuncId} {fn : Func} {c : Code} {args : Array Value} {V : ξ → Value} {R : ξ → List Res} {ok : ξ → Prop} (hf : P.funcs[K]? = some fn) (hb : fn.body = some c) (tmps : Array Value)
    (ht : args ++ Array.replicate (fn.ntmps - args.size) undef = tmps) (hN : tmps.size = N) (hE : ∀ t v, get? E t = some v → tmps[t]? = some v)
    (h : GC P W0 N E [] c (bodyPost P fn fun e w' => ∃ x, ok x ∧ e = .returned (V x) ∧ Mem W0 (R x) w')) : Ct P K args W0 V R ok :=
  calls_of_wp hf hb (by rw [ht]; exact h _ _ ⟨rfl, hN, hE, Mem.start W0⟩)

theorem ct_args {tmps : Array Value} (hs : ∀ p ∈ E, tmps[p.1]? = some p.2) : ∀ t v, get? E t = some v → tmps[t]? = some v := by
  induction E with
  | nil => intro t v h; simp [get?] at h
  | cons p r ih =>
    intro t v h
    obtain ⟨k, u⟩ := p
    rw [get?_cons] at h
    split at h
    · rename_i e; subst e; rw [← h]; exact hs _ List.mem_cons_self
    · exact ih (fun p hp => hs p (List.mem_cons_of_mem _ hp)) t v h

theorem getD_of {a : Act} {t : Nat} {v d : Value} (h : a.tmps[t]? = some v) : a.tmps.getD t d = v := by simp [Array.getD_eq_getD_getElem?, h]
end
end Go.Gx
