/- This text proves: the step laws and the plain functions that the walks of this claim stand on. No condition beyond those that each theorem names. -/
import Derived.Test.YtgehghoammpiaaaGreatDoorGxD
namespace Go.Gx
open Go.RowKit
section
variable {P : Program} {W0 : World} {N : Nat} {E : List (Nat × Value)} {H : List Res} {Q : Exit → Act → World → Prop} {ops : Array Oper} {rest : List Oper} {x y : Operand} {d : Nat} {ty t' : TypeId} {pos : String} {aft : Array Edge}
/-- A row that holds something is a block: its cells are told, but for what lies behind them. -/
theorem row_open {k n c sz : Nat} {A : Option Addr} {e : TypeId} {xs : List Value} {w : World} (hm : Mem W0 H w) (hk : H[k]? = some (.row (.slice A n c) e sz n xs)) (hne : xs ≠ []) :
    ∃ g R, A = some ⟨g, 0, none⟩ ∧ xs.length = n * sz ∧ xs.length + R.length = c * sz ∧ n ≤ c ∧ c ≤ maxLen ∧ Mem W0 (H.set k (.blk g (.cells (xs ++ R).toArray e (0, 0)))) w := by
  have hrow : w.ownsRow W0.heap.size e sz (.slice A n c) n xs := hm.res _ (mem_of_get hk)
  rcases hrow.2 with ⟨hv, rfl⟩ | ⟨g, cap, cur, hv, hb, hg, hn, hcap, hcs, htake⟩
  · have := hrow.1
    simp at this
    exact absurd this hne
  · cases hv
    have e1 : cur = (xs ++ cur.toList.drop (n * sz)).toArray := by
      apply Array.toList_inj.1
      rw [← htake]
      simp
    refine ⟨g, cur.toList.drop (n * sz), rfl, hrow.1, ?_, hn, hcap, ?_⟩
    · rw [hrow.1]
      simp
      have := Nat.mul_le_mul_right sz hn
      omega
    · refine hm.set (g := g) hk rfl ⟨rfl, rfl, rfl, Nat.le_refl _, fun _ _ _ => rfl⟩ ⟨hb, ?_⟩ (by intro g' h'; simp only [Res.blk?, Option.some.injEq] at h'; exact .inl h'.symm)
      rw [← e1]; exact hg
/-- .. and back: as a row of whatever length that has room. -/
theorem row_close {k n c sz g : Nat} {e : TypeId} {cs : Array Value} {xs : List Value} {w : World} (hm : Mem W0 H w) (hk : H[k]? = some (.blk g (.cells cs e (0, 0)))) (hc : cs.size = c * sz) (hn : n ≤ c) (hcap : c ≤ maxLen) (hx : cs.toList.take (n * sz) = xs) :
    Mem W0 (H.set k (.row (.slice (some ⟨g, 0, none⟩) n c) e sz n xs)) w := by
  have hb := hm.blk hk
  refine hm.set (g := g) hk rfl ⟨rfl, rfl, rfl, Nat.le_refl _, fun _ _ _ => rfl⟩ ?_ (by intro g' h'; simp only [Res.blk?, Value.ownBlock, Option.some.injEq] at h'; exact .inl h'.symm)
  refine ⟨?_, .inr ⟨g, c, cs, rfl, hb.1, hb.2, hn, hcap, hc, hx⟩⟩
  rw [← hx]
  simp
  have := Nat.mul_le_mul_right sz hn
  omega
theorem c_rowopen {cd : Code} {k n c sz : Nat} {A : Option Addr} {e : TypeId} {xs : List Value} (hk : H[k]? = some (.row (.slice A n c) e sz n xs)) (hne : xs ≠ [])
    (h : ∀ g R, A = some ⟨g, 0, none⟩ → xs.length = n * sz → xs.length + R.length = c * sz → n ≤ c → c ≤ maxLen → GC P W0 N E (H.set k (.blk g (.cells (xs ++ R).toArray e (0, 0)))) cd Q) : GC P W0 N E H cd Q := by
  intro a w ha
  obtain ⟨g, R, h1, h2, h3, h4, h5, h6⟩ := row_open ha.mem hk hne
  exact h g R h1 h2 h3 h4 h5 a w (ha.withMem h6)
/-- s[i:] and s[:j] of a slice. -/
theorem y_slfrom {t e : TypeId} {g n c sz : Nat} {i : Int} {kk : IntKind} {u : Operand} (hT : elemT P t e = true) (hs : sizeT P e sz = true) (hx : ev E x = some (.slice (some ⟨g, 0, none⟩) n c)) (hu : ev E u = some (.int kk i)) (h0 : 0 ≤ i) (h1 : i ≤ n) (hnc : n ≤ c) (hlt : i < c) :
    Yl P W0 N E H ⟨some d, .slice t x (some u) none none, ty, pos, aft, none⟩ (.slice (some ⟨g, i.toNat * sz, none⟩) (n - i.toNat) (c - i.toNat)) := by
  intro a w ha
  have hut := run_underlying (w := w) (under_of_elemT hT)
  have hb1 : ¬ (i < 0) := by omega
  have hne : ¬ (c = i.toNat) := by omega
  have hadd : (⟨g, 0, none⟩ : Addr).add (i.toNat * sz) = ⟨g, i.toNat * sz, none⟩ := by unfold Addr.add; split <;> simp_all
  simp only [execOp, ha.eval hx]
  simp [Instr.sliceAt, Instr.slice, hut, run_sizeOf hs, Instr.sliceBounds, Instr.sliceBound, asIntOf, ha.eval hu, h0, h1, hne, hadd]
theorem y_slto {t e : TypeId} {g n c sz : Nat} {j : Int} {kk : IntKind} {u : Operand} (hT : elemT P t e = true) (hs : sizeT P e sz = true) (hx : ev E x = some (.slice (some ⟨g, 0, none⟩) n c)) (hu : ev E u = some (.int kk j)) (h0 : 0 ≤ j) (h1 : j ≤ c) :
    Yl P W0 N E H ⟨some d, .slice t x none (some u) none, ty, pos, aft, none⟩ (.slice (some ⟨g, 0, none⟩) j.toNat c) := by
  intro a w ha
  have hut := run_underlying (w := w) (under_of_elemT hT)
  have hadd : (⟨g, 0, none⟩ : Addr).add 0 = ⟨g, 0, none⟩ := by simp [Addr.add]
  simp only [execOp, ha.eval hx]
  simp [Instr.sliceAt, Instr.slice, hut, run_sizeOf hs, Instr.sliceBounds, Instr.sliceBound, asIntOf, ha.eval hu, h0, h1, hadd]
/-- clear(s[i:]) in a block of one's own. -/
theorem l_clear {t e : TypeId} {g off n c sz k : Nat} {z : Value} {cs cs' : Array Value} {e' : TypeId} {H' : List Res} (hd : Nat.blt d N = true) (hT : elemT P t e = true) (hz : zeroOf P e = some z) (hzs : z.cells.size = sz) (hz1 : z.cells.toList.all Value.oneCell' = true)
    (hx : ev E x = some (.slice (some ⟨g, off, none⟩) n c)) (hn : 0 < n) (hk : H[k]? = some (.blk g (.cells cs e' (0, 0)))) (ho : off + n * sz ≤ cs.size)
    (hcs : (cs.toList.take off ++ (Builtin.zeroCells z.cells n).toList ++ cs.toList.drop (off + n * sz)).toArray = cs') (hH : H.set k (.blk g (.cells cs' e' (0, 0))) = H')
    (h : GL P W0 N ops ((d, .tuple #[]) :: E) H' rest Q) : GL P W0 N ops E H (⟨some d, .call ⟨.builtin .clear, #[x], #[t]⟩, ty, pos, aft, none⟩ :: rest) Q := by
  intro a w ha
  have hb := (ha.mem.blk hk).2
  have hlen : (Builtin.zeroCells z.cells n).toList.length = n * sz := by simp [Builtin.zeroCells, hzs]
  have hst := run_storeCells_at P g off e' (Builtin.zeroCells z.cells n).toList 0 cs w hb (by rw [hlen]; omega) (by
    intro u hu
    have : u ∈ z.cells := by
      simp only [Builtin.zeroCells, Array.toList_map, List.mem_map, Array.toList_range, List.mem_range] at hu
      obtain ⟨q, hq, rfl⟩ := hu
      have hlt : q % z.cells.size < z.cells.size := Nat.mod_lt _ (by
        rcases Nat.eq_zero_or_pos z.cells.size with h | h
        · rw [h] at hq; simp at hq
        · exact h)
      rw [getElem!_pos z.cells _ hlt]
      exact Array.getElem_mem hlt
    exact List.all_eq_true.1 hz1 u (by simpa using this))
  have hrow : (cs.toList.take (off + 0) ++ (Builtin.zeroCells z.cells n).toList ++ cs.toList.drop (off + 0 + (Builtin.zeroCells z.cells n).toList.length)).toArray = cs' := by
    rw [← hcs, hlen, Nat.add_zero]
  rw [hrow] at hst
  have hn' : n ≠ 0 := by omega
  refine wpl_val rfl (v := .tuple #[]) (w' := w.setRow g cs') ?_ ?_
  · simp only [execOp, resolve, invoke, builtin, List.map_toArray, List.map_cons, List.map_nil, ha.eval hx, Sem.run_bind, Sem.run_pure, Result.andThen_ok]
    cases n with
    | zero => omega
    | succ n => simp [Builtin.clear_, run_underlying (under_of_elemT hT), run_zeroValue (w := w) hz, hst]
  · subst hH
    exact h _ _ ((ha.stored hk).put d _ hd)
/-- clear(s[i:]) in a block of one's own. -/
theorem l_clear0 {t e : TypeId} {g off n c sz k : Nat} {z : Value} {cs cs' : Array Value} {e' : TypeId} {H' : List Res} (hT : elemT P t e = true) (hz : zeroOf P e = some z) (hzs : z.cells.size = sz) (hz1 : z.cells.toList.all Value.oneCell' = true)
    (hx : ev E x = some (.slice (some ⟨g, off, none⟩) n c)) (hn : 0 < n) (hk : H[k]? = some (.blk g (.cells cs e' (0, 0)))) (ho : off + n * sz ≤ cs.size)
    (hcs : (cs.toList.take off ++ (Builtin.zeroCells z.cells n).toList ++ cs.toList.drop (off + n * sz)).toArray = cs') (hH : H.set k (.blk g (.cells cs' e' (0, 0))) = H')
    (h : GL P W0 N ops E H' rest Q) : GL P W0 N ops E H (⟨none, .call ⟨.builtin .clear, #[x], #[t]⟩, ty, pos, aft, none⟩ :: rest) Q := by
  intro a w ha
  have hb := (ha.mem.blk hk).2
  have hlen : (Builtin.zeroCells z.cells n).toList.length = n * sz := by simp [Builtin.zeroCells, hzs]
  have hst := run_storeCells_at P g off e' (Builtin.zeroCells z.cells n).toList 0 cs w hb (by rw [hlen]; omega) (by
    intro u hu
    have : u ∈ z.cells := by
      simp only [Builtin.zeroCells, Array.toList_map, List.mem_map, Array.toList_range, List.mem_range] at hu
      obtain ⟨q, hq, rfl⟩ := hu
      have hlt : q % z.cells.size < z.cells.size := Nat.mod_lt _ (by
        rcases Nat.eq_zero_or_pos z.cells.size with h | h
        · rw [h] at hq; simp at hq
        · exact h)
      rw [getElem!_pos z.cells _ hlt]
      exact Array.getElem_mem hlt
    exact List.all_eq_true.1 hz1 u (by simpa using this))
  have hrow : (cs.toList.take (off + 0) ++ (Builtin.zeroCells z.cells n).toList ++ cs.toList.drop (off + 0 + (Builtin.zeroCells z.cells n).toList.length)).toArray = cs' := by
    rw [← hcs, hlen, Nat.add_zero]
  rw [hrow] at hst
  have hn' : n ≠ 0 := by omega
  refine wpl_val rfl (v := .tuple #[]) (w' := w.setRow g cs') ?_ ?_
  · simp only [execOp, resolve, invoke, builtin, List.map_toArray, List.map_cons, List.map_nil, ha.eval hx, Sem.run_bind, Sem.run_pure, Result.andThen_ok]
    cases n with
    | zero => omega
    | succ n => simp [Builtin.clear_, run_underlying (under_of_elemT hT), run_zeroValue (w := w) hz, hst]
  · subst hH
    exact h _ _ (ha.stored hk)
theorem c_rowclose {cd : Code} {k n c sz g : Nat} {e : TypeId} {cs : Array Value} {xs : List Value} (hk : H[k]? = some (.blk g (.cells cs e (0, 0)))) (hc : cs.size = c * sz) (hn : n ≤ c) (hcap : c ≤ maxLen) (hx : cs.toList.take (n * sz) = xs)
    (h : GC P W0 N E (H.set k (.row (.slice (some ⟨g, 0, none⟩) n c) e sz n xs)) cd Q) : GC P W0 N E H cd Q := fun a w ha => h a w (ha.withMem (row_close ha.mem hk hc hn hcap hx))
/-- 'Called by vs, in whatever world where F is known, the function value answers v, and turns nothing.' -/
def FnH (P : Program) (W0 : World) (F : List Res) (fv : Value) (vs : List Value) (v : Value) : Prop :=
  ∃ K fs cs, fv = .func (.func K) fs.toArray cs.toArray ∧ enters P K = true ∧ ∀ w', Mem W0 F w' → Cv P K (fs ++ vs ++ cs).toArray w' v
theorem FnH.mk {F : List Res} {K : FuncId} {fs cs vs : List Value} {v : Value} (hK : enters P K = true) (h : ∀ w', Mem W0 F w' → Cv P K (fs ++ vs ++ cs).toArray w' v) : FnH P W0 F (.func (.func K) fs.toArray cs.toArray) vs v := ⟨K, fs, cs, rfl, hK, h⟩
theorem FnH.fnV {F : List Res} {fv v : Value} {vs : List Value} {w : World} (h : FnH P W0 F fv vs v) (hm : Mem W0 F w) : FnV P w fv vs v := by
  obtain ⟨K, fs, cs, e, hK, h⟩ := h
  exact ⟨K, fs, cs, e, hK, fun w' hb => h w' (hm.grown (grownBy_of_below hb) (by simp) (by simp))⟩
theorem l_callH {f : Operand} {fv v : Value} {args : List Operand} {vs : List Value} {ats : Array TypeId} {F : List Res} (hd : Nat.blt d N = true) (hf : ev E f = some fv) (hvs : evs E args = some vs) (hs : HS F H) (hF : FnH P W0 F fv vs v)
    (h : GL P W0 N ops ((d, v) :: E) H rest Q) : GL P W0 N ops E H (⟨some d, .call ⟨.value f, args.toArray, ats⟩, ty, pos, aft, none⟩ :: rest) Q := by
  obtain ⟨K, fs, cs, rfl, hK, hF⟩ := hF
  exact l_callvU hd hK hf hvs (fun w hm => hF w (hs _ _ hm)) h
theorem hs_tail {A F : List Res} : HS F (A ++ F) := fun _ _ hm => hm.sub (List.sublist_append_right A F)
end
end Go.Gx
