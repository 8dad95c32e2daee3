/- This text proves: the step laws and the plain functions that the walks of this claim stand on. No condition beyond those that each theorem names. -/
import Derived.Test.YtgehghoammpiaaaGreatDoorGxC
namespace Go.Gx
open Go.RowKit
section
variable {P : Program} {W0 : World} {N : Nat} {E : List (Nat × Value)} {H : List Res} {Q : Exit → Act → World → Prop} {ops : Array Oper} {rest : List Oper} {x y : Operand} {d : Nat} {ty t' : TypeId} {pos : String} {aft : Array Edge}
theorem flat_cells {α : Type} {f : α → List Value} {sz : Nat} {W : World} {ad : Addr} (hf : ∀ x, (f x).length = sz) : ∀ (l : List α) (b : Nat), (∀ i x, l[i]? = some x → Cs W (ad.add ((b + i) * sz)) (f x)) → ∀ j u, (l.flatMap f)[j]? = some u → W.cell? (ad.add (b * sz + j)) = some u
  | [], _, _, j, u, h => by simp at h
  | a :: l, b, hc, j, u, h => by
    rw [List.flatMap_cons] at h
    by_cases hj : j < sz
    · rw [List.getElem?_append_left (by rw [hf]; exact hj)] at h
      have := hc 0 a rfl j u h
      rw [add_add] at this
      simpa using this
    · rw [List.getElem?_append_right (by rw [hf]; omega), hf] at h
      have := flat_cells hf l (b + 1) (fun i x hi => by have := hc (i + 1) x (by simpa using hi); rwa [show b + 1 + i = b + (i + 1) by omega]) (j - sz) u h
      rwa [show (b + 1) * sz + (j - sz) = b * sz + j by rw [Nat.add_mul]; omega] at this
/-- append(v, the elements of a slice that lay there already). -/
theorem l_append_old {α : Type} {f : α → List Value} {t e : TypeId} {sz by_ n c' : Nat} {v : Value} {xs zs : List Value} {l : List α} {ad : Addr} {k : Nat} (hd : Nat.blt d N = true) (hT : elemT P t e = true) (ha : apT P e sz by_ = true)
    (hA : Sl f sz W0 (some ad) l) (hf : ∀ x, (f x).length = sz) (hx : ev E x = some v) (hy : ev E y = some (.slice (some ad) l.length c')) (hk : H[k]? = some (.row v e sz n xs))
    (h1 : ∀ x, (f x).all Value.oneCell' = true) (h63 : n + l.length ≤ 9223372036854775807) (hby : (n + l.length) * by_ ≤ 140737488355328) (hzs : xs ++ l.flatMap f = zs)
    (h : ∀ A c, GL P W0 N ops ((d, .slice A (n + l.length) c) :: E) (H.set k (.row (.slice A (n + l.length) c) e sz (n + l.length) zs)) rest Q) :
    GL P W0 N ops E H (⟨some d, .call ⟨.builtin .append, #[x, y], #[t, t]⟩, ty, pos, aft, none⟩ :: rest) Q := by
  intro a w hw
  obtain ⟨i, z, hi, hz, hsz, hbz, hzc, hpos⟩ := apT_spec ha
  have hrow : w.ownsRow W0.heap.size e sz v n xs := hw.mem.res _ (mem_of_get hk)
  have hS := hA.below hw.mem.below
  have hnews : ∀ q u, (l.flatMap f)[q]? = some u → w.cell? (ad.add q) = some u := by
    have := flat_cells (W := w) (ad := ad) hf l 0 (fun i x hi => by
      obtain ⟨ad', he, hel⟩ := hS i x hi
      cases he
      simpa using hel.2)
    intro q u hq
    simpa using this q u hq
  have hlen : (l.flatMap f).length = l.length * sz := by
    clear hnews hS hby h63 hzs hy hA h
    induction l with
    | nil => simp
    | cons a l ih => simp [ih, hf, Nat.add_mul, Nat.add_comm]
  refine wpList_append_own_at (P := P) w rfl x y t rfl W0.heap.size e i z sz by_ (under_of_elemT hT) hi hz hsz hbz hzc hpos v n xs (hw.eval hx) hrow ad l.length c' (l.flatMap f) (hw.eval hy) hlen hnews
    (fun u hu => ?_) (by simpa [maxLen] using h63) hby hw.mem.below.size ?_
  · obtain ⟨b, _, hb⟩ := List.mem_flatMap.1 hu
    exact List.all_eq_true.1 (h1 b) u hb
  intro v' w' hown' hgrow _ hat
  obtain ⟨A, c, rfl⟩ := row_shape hown'
  subst hzs
  refine h A c _ _ ((hw.withMem ?_).put d _ hd)
  cases hv : v.ownBlock with
  | some g0 =>
    refine hw.mem.set (g := g0) hk hv (by rw [← hv]; exact hgrow) hown' (fun g' hg' => ?_)
    rcases hat with h2 | h2
    · rw [hv] at h2; left; have := hg'.symm.trans h2; exact Option.some.inj this
    · right; have := hg'.symm.trans h2; rw [Option.some.inj this]; exact Nat.le_refl _
  | none =>
    refine hw.mem.set_new (by rw [← hv]; exact hgrow) hown' (fun g' hg' => ?_)
    rcases hat with h2 | h2
    · rw [hv] at h2; rw [show (Res.row (Value.slice A (n + l.length) c) e sz (n + l.length) (xs ++ l.flatMap f)).blk? = (Value.slice A (n + l.length) c).ownBlock from rfl, h2] at hg'; cases hg'
    · have := hg'.symm.trans h2; rw [Option.some.inj this]; exact Nat.le_refl _
/-- A slice literal of no elements: a row of one's own. -/
theorem l_bslice0 {t e : TypeId} (sz : Nat) (hd : Nat.blt d N = true) (hT : elemT P t e = true) (hs : sizeT P e sz = true)
    (h : ∀ g, GL P W0 N ops ((d, .slice (some ⟨g, 0, none⟩) 0 0) :: E) (.row (.slice (some ⟨g, 0, none⟩) 0 0) e sz 0 [] :: H) rest Q) :
    GL P W0 N ops E H (⟨some d, .buildSlice t 0 #[], ty, pos, aft, none⟩ :: rest) Q := by
  intro a w hw
  refine wpl_val rfl (v := .slice (some ⟨w.heap.size, 0, none⟩) 0 0) (w' := w.alloc (.cells #[] e)) ?_ ?_
  · simp [execOp, Instr.buildSlice, run_underlying (under_of_elemT hT), run_sizeOf hs, Instr.fill, newRow]
    congr 2
    apply Array.eq_empty_of_size_eq_zero
    simp
  · refine h _ _ _ ((hw.withMem (hw.mem.cons (row := none) (World.grownBy_alloc w _ none) (by simp) (by simp) ?_ ?_)).put d _ hd)
    · exact ⟨by simp, .inr ⟨w.heap.size, 0, #[], rfl, hw.mem.below.size, heap_alloc_new w _, Nat.le_refl _, Nat.zero_le _, by simp, by simp⟩⟩
    · intro g hg
      simp only [Res.blk?, Value.ownBlock, Option.some.injEq] at hg
      right; omega
/-- 's == nil'. -/
theorem y_snil {t e : TypeId} {A : Option Addr} {n c : Nat} (hT : elemT P t e = true) (hx : ev E x = some (.slice A n c)) (hy : ev E y = some (.slice none 0 0)) : Yl P W0 N E H ⟨some d, .binOp .eql t x y t', ty, pos, aft, none⟩ (.bool A.isNone) := by
  intro a w ha
  have hu := run_underlying (w := w) (under_of_elemT hT)
  have h1 : ∀ d, (Op.equalIn (d + 1) t (.slice A n c) (.slice none 0 0)).run P w = .ok A.isNone w := by
    intro d
    cases A <;> simp [Op.equalIn, hu]
  have h2 : (eqGuard .eql t x y (.slice A n c) (.slice none 0 0)).run P w = .ok () w := by simp [eqGuard]
  have h3 : (binOp .eql t (.slice A n c) (.slice none 0 0)).run P w = .ok (.bool A.isNone) w := by
    have := h1 9999
    simp only [binOp, Op.equal, Op.maxDepth, Sem.run_bind]
    rw [show (10000 : Nat) = 9999 + 1 from rfl, this]
    rfl
  simp only [execOp, ha.eval hx, ha.eval hy, Sem.run_bind, h2, h3, Result.andThen_ok]
  rfl
end
end Go.Gx
