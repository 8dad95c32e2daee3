/- This text proves: the step laws and the plain functions that the walks of this claim stand on. No condition beyond those that each theorem names. -/
import Derived.Test.YtgehghoammpiaaaGreatDoorGxA
import Derived.Maps.Views
import Derived.Maps.OwnSet
import Derived.WideMake
import Derived.DeepKeys4
namespace Go.Gx
open Go.RowKit Go.Maps
section
variable {P : Program} {W0 : World} {N : Nat} {E : List (Nat × Value)} {H : List Res} {Q : Exit → Act → World → Prop} {ops : Array Oper} {rest : List Oper} {x y z : Operand} {d : Nat} {ty : TypeId} {pos : String} {aft : Array Edge}
abbrev DU := DataW Unit
abbrev RdU := Value → Option (DU × List MemPlace)
/-- 'The object is a map whose entries read as D.' -/
def MapIs (P : Program) (k : TypeId) (R : RdU) (n : Nat) (D : DU) (o : Obj) : Prop := ∃ w : World, w.heap[0]? = some o ∧ w.ownsMap P k R 0 n D
theorem mapIs_of {k : TypeId} {R : RdU} {n b : Nat} {D : DU} {w : World} (h : w.ownsMap P k R b n D) : ∃ o, w.heap[b]? = some o ∧ MapIs P k R n D o := by
  obtain ⟨es, clock, hb, F, hs, hD⟩ := h
  exact ⟨_, hb, { w with heap := #[.map es clock] }, rfl, es, clock, rfl, F, hs, hD⟩
theorem owns_of {k : TypeId} {R : RdU} {n b : Nat} {D : DU} {w : World} {o : Obj} (ho : w.heap[b]? = some o) (h : MapIs P k R n D o) : w.ownsMap P k R b n D := by
  obtain ⟨w', h0, es, clock, hb, F, hs, hD⟩ := h
  rw [h0] at hb
  cases hb
  exact ⟨es, clock, ho, F, hs, hD⟩
theorem Mem.owns {w : World} {k0 g : Nat} {k : TypeId} {R : RdU} {n : Nat} {D : DU} (h : Mem W0 H w) (hk : H[k0]? = some (.obj g (MapIs P k R n D))) : W0.heap.size ≤ g ∧ w.ownsMap P k R g n D := by
  obtain ⟨hb, o, ho, hp⟩ := h.res _ (mem_of_get hk)
  exact ⟨hb, owns_of ho hp⟩
def mapT (P : Program) (t k e : TypeId) : Bool := match P.underlying t with | some (.map k' e') => Nat.beq k' k && Nat.beq e' e | _ => false
theorem mapT_spec {t k e : TypeId} (h : mapT P t k e = true) : P.underlying t = some (.map k e) := by
  unfold mapT at h
  cases hu : P.underlying t with
  | none => simp [hu] at h
  | some D =>
    cases D <;> simp [hu] at h
    obtain ⟨rfl, rfl⟩ := h
    rfl
theorem l_mkmap {t : TypeId} (k : TypeId) (R : RdU) (hd : Nat.blt d N = true) (h : ∀ g, GL P W0 N ops ((d, .map (some g)) :: E) (.obj g (MapIs P k R 0 (.map [])) :: H) rest Q) :
    GL P W0 N ops E H (⟨some d, .makeMap t none, ty, pos, aft, none⟩ :: rest) Q := by
  intro a w ha
  refine wpl_val rfl (v := .map (some w.heap.size)) (w' := w.alloc (.map #[] 0)) ?_ ?_
  · simp [execOp, run_makeMap_plain]
  · refine h _ _ _ ((ha.withMem (ha.mem.cons (row := none) (World.grownBy_alloc w _ none) (by simp) (by simp) ?_ ?_)).put d _ hd)
    · obtain ⟨o, ho, hm⟩ := mapIs_of (World.ownsMap_made (H := Unit) w P k R)
      exact ⟨ha.mem.below.size, o, ho, hm⟩
    · intro g hg; simp only [Res.blk?, Option.some.injEq] at hg; right; omega
theorem l_mapset {t k e : TypeId} {R : RdU} {g n k0 : Nat} {D : DU} {key val : Value} {kl : Lit} {dd : DU} {ps : List MemPlace} {H' : List Res} (hT : mapT P t k e = true) (K : Keyed P k) (hx : ev E x = some (.map (some g))) (hy : ev E y = some key) (hz : ev E z = some val)
    (hk : H[k0]? = some (.obj g (MapIs P k R n D))) (hn : n < maxLen) (hkey : keyOf P k key = some kl) (hv : R val = some (dd, ps)) (hH : H.set k0 (.obj g (MapIs P k R (n + 1) (D.put kl dd))) = H')
    (h : GL P W0 N ops E H' rest Q) : GL P W0 N ops E H (⟨none, .mapUpdate t x y z, ty, pos, aft, none⟩ :: rest) Q := by
  intro a w ha
  obtain ⟨hb, hown⟩ := ha.mem.owns hk
  refine wpList_mapUpdate_own w rfl x y z t rfl k e K (mapT_spec hT) R g n D (ha.eval hx) hown hn key val kl (ha.eval hy) (ha.eval hz) hkey dd ps hv (fun w' hown' hgrow => ?_)
  subst hH
  obtain ⟨o, ho, hm⟩ := mapIs_of hown'
  exact h _ _ (ha.withMem (ha.mem.set (g := g) hk rfl hgrow ⟨hb, o, ho, hm⟩ (by intro g' h'; simp only [Res.blk?, Option.some.injEq] at h'; exact .inl h'.symm)))
/-- 'v, ok := m[k]'. -/
theorem y_lookok {t k e : TypeId} {R : RdU} {g n k0 : Nat} {D : DU} {key z0 : Value} {kl : Lit} {zd : DU} {zp : List MemPlace} (hT : mapT P t k e = true) (K : Keyed P k) (hx : ev E x = some (.map (some g))) (hy : ev E y = some key) (hk : H[k0]? = some (.obj g (MapIs P k R n D)))
    (hz : zeroOf P e = some z0) (hzd : R z0 = some (zd, zp)) (hkey : keyOf P k key = some kl) (hu : ∀ v ps, R v = some (D.atKey kl zd, ps) → v = z0) :
    Yl P W0 N E H ⟨some d, .lookup t x y true, ty, pos, aft, none⟩ (.tuple #[z0, .bool (has D kl)]) := by
  intro a w ha
  obtain ⟨_, hown⟩ := ha.mem.owns hk
  obtain ⟨v, ps, hrun, hv⟩ := hown.look_ok K (mapT_spec hT) (run_zeroValue hz) hzd hkey
  have := hu v ps hv
  subst this
  simp [execOp, ha.eval hx, ha.eval hy, hrun]
end
/-! ## Sets of numbers -/
def setD (l : List Int) : DU := l.foldl (fun D v => D.put (.int .i64 v) (.agg [])) (.map [])
theorem setD_snoc (l : List Int) (v : Int) : setD (l ++ [v]) = (setD l).put (.int .i64 v) (.agg []) := by simp [setD]
theorem isMap_put {D : DU} (h : IsMap D) (k : Lit) (d : DU) : IsMap (D.put k d) := by obtain ⟨es, rfl⟩ := h; exact ⟨_, rfl⟩
theorem setD_isMap (l : List Int) : IsMap (setD l) := by
  have : ∀ (l : List Int) (D : DU), IsMap D → IsMap (l.foldl (fun D v => D.put (.int .i64 v) (.agg [])) D) := by
    intro l
    induction l with
    | nil => intro D h; exact h
    | cons a l ih => intro D h; exact ih _ (isMap_put h _ _)
  exact this l _ ⟨[], rfl⟩
theorem has_setD (l : List Int) (v : Int) : has (setD l) (.int .i64 v) = l.contains v := by
  have key : ∀ (l : List Int) (D : DU), IsMap D → has (l.foldl (fun D v => D.put (.int .i64 v) (.agg [])) D) (.int .i64 v) = (has D (.int .i64 v) || l.contains v) := by
    intro l
    induction l with
    | nil => intro D _; simp
    | cons a l ih =>
      intro D hD
      rw [List.foldl_cons, ih _ (isMap_put hD _ _)]
      by_cases h : v = a
      · subst h
        rw [has_put_same hD (by trivial)]
        simp
      · rw [has_put_other (by simpa using h)]
        simp [h]
  rw [setD, key l _ ⟨[], rfl⟩]
  rfl
def uE : RdU := fun v => match v with | .agg cs => if cs.size = 0 then some (.agg [], []) else none | _ => none
theorem uE_inv {v : Value} {x : DU × List MemPlace} (h : uE v = some x) : v = .agg #[] := by
  unfold uE at h
  cases v <;> simp at h
  obtain ⟨h1, _⟩ := h
  rw [h1]
end Go.Gx
