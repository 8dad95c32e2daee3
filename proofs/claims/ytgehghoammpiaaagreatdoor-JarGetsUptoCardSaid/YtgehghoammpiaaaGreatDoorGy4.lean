/- This text proves: the step laws and the plain functions that the walks of this claim stand on. No condition beyond those that each theorem names. -/
import Derived.Test.YtgehghoammpiaaaGreatDoorGy3
import Derived.Test.YtgehghoammpiaaaGreatDoorGxG
namespace Go.Gx
/-! ## slices.DeleteFunc at whatever elements -/
/-- The state of the sweep: j are seen, i are kept. -/
structure DelF {α : Type} (p : α → Bool) (l : List α) (j i : Nat) (m : List α) : Prop where
  le : i ≤ j
  jn : j ≤ l.length
  len : m.length = l.length
  kept : m.take i = (l.take j).filter (fun v => !p v)
  tail : m.drop j = l.drop j
theorem DelF.at {α : Type} {p : α → Bool} {l m : List α} {j i : Nat} (h : DelF p l j i m) {v : α} (hv : l[j]? = some v) : m[j]? = some v := by
  have h1 : (m.drop j)[0]? = (l.drop j)[0]? := by rw [h.tail]
  simpa [hv] using h1
theorem DelF.drop {α : Type} {p : α → Bool} {l m : List α} {j i : Nat} (h : DelF p l j i m) {v : α} (hv : l[j]? = some v) (hp : p v = true) : DelF p l (j + 1) i m := by
  have hlt := (List.getElem?_eq_some_iff.1 hv).1
  refine ⟨by have := h.le; omega, by omega, h.len, ?_, ?_⟩
  · rw [take_snoc hv, List.filter_append, h.kept]; simp [hp]
  · have := congrArg (List.drop 1) h.tail
    simpa [List.drop_drop] using this
theorem DelF.keep {α : Type} {p : α → Bool} {l m : List α} {j i : Nat} (h : DelF p l j i m) {v : α} (hv : l[j]? = some v) (hp : p v = false) : DelF p l (j + 1) (i + 1) (m.set i v) := by
  have hlt := (List.getElem?_eq_some_iff.1 hv).1
  have hle := h.le
  have hml := h.len
  refine ⟨by omega, by omega, by simp [h.len], ?_, ?_⟩
  · rw [take_snoc hv, List.filter_append, ← h.kept]
    apply List.ext_getElem?
    intro q
    by_cases hq : q < i
    · rw [List.getElem?_take_of_lt (by omega), List.getElem?_set_ne (by omega), List.getElem?_append_left (by simp; omega), List.getElem?_take_of_lt hq]
    · by_cases hq2 : q = i
      · subst hq2
        rw [List.getElem?_take_of_lt (by omega), List.getElem?_set_self (by omega), List.getElem?_append_right (by simp; omega)]
        simp [hp, Nat.min_eq_left (by omega : q ≤ m.length)]
      · rw [List.getElem?_take_eq_none (by omega), List.getElem?_eq_none]
        simp [hp]; omega
  · rw [List.drop_set_of_lt (by omega)]
    have := congrArg (List.drop 1) h.tail
    simpa [List.drop_drop] using this
theorem DelF.start {α : Type} {p : α → Bool} {l : List α} (h : ¬ fidx p l = -1) : ∃ i0 : Nat, fidx p l = i0 ∧ i0 < l.length ∧ DelF p l (i0 + 1) i0 l := by
  unfold fidx at h ⊢
  cases hi : l.findIdx? p with
  | none => simp [hi] at h
  | some i =>
    rw [List.findIdx?_eq_some_iff_getElem] at hi
    obtain ⟨hlt, h1, h2⟩ := hi
    refine ⟨i, rfl, hlt, by omega, by omega, rfl, ?_, rfl⟩
    rw [take_snoc (List.getElem?_eq_getElem hlt), List.filter_append]
    have : (l.take i).filter (fun v => !p v) = l.take i := by
      rw [List.filter_eq_self]
      intro a ha
      obtain ⟨q, hq, rfl⟩ := List.mem_take_iff_getElem.1 ha
      have := h2 q (by omega)
      simpa using this
    rw [this]
    simp [h1]
theorem delF_none {α : Type} {p : α → Bool} {l : List α} (h : fidx p l = -1) : l.filter (fun v => !p v) = l := by
  rw [List.filter_eq_self]
  intro a ha
  unfold fidx at h
  cases hi : l.findIdx? p with
  | none => rw [List.findIdx?_eq_none_iff] at hi; simp [hi a ha]
  | some i => rw [hi] at h; simp at h
theorem DelF.end_ {α : Type} {p : α → Bool} {l m : List α} {i : Nat} (h : DelF p l l.length i m) : m.take i = l.filter (fun v => !p v) := by
  have := h.kept
  rwa [List.take_length] at this


/-! ## What stands at a known place, read -/
section
open Go.RowKit
variable {P : Program} {W0 : World} {N : Nat} {E : List (Nat × Value)} {H : List Res} {Q : Exit → Act → World → Prop} {ops : Array Oper} {rest : List Oper} {x y : Operand} {d : Nat} {ty t' : TypeId} {pos : String} {aft : Array Edge}
theorem y_load_elg {t : TypeId} {g o : Nat} {vs : List Value} {v : Value} (hT : oneT P t = true) (hp : El W0 ⟨g, 0, none⟩ vs) (hx : ev E x = some (.pointer (some ⟨g, o, none⟩))) (hv : vs[o]? = some v) : Yl P W0 N E H ⟨some d, .load t x, ty, pos, aft, none⟩ v := by
  have e : (⟨g, 0, none⟩ : Addr).add o = ⟨g, o, none⟩ := by simp [Addr.add]; intro h; exact h.symm
  exact y_load_el (p := ⟨g, 0, none⟩) (o := o) hT hp (by rw [e]; exact hx) hv
theorem y_loadA_elg {t : TypeId} {g o n : Nat} {vs us : List Value} (hT : aggT P t n = true) (hn : us.length = n) (hp : El W0 ⟨g, 0, none⟩ vs) (hx : ev E x = some (.pointer (some ⟨g, o, none⟩))) (hv : (vs.drop o).take n = us) : Yl P W0 N E H ⟨some d, .load t x, ty, pos, aft, none⟩ (.agg us.toArray) := by
  have e : (⟨g, 0, none⟩ : Addr).add o = ⟨g, o, none⟩ := by simp [Addr.add]; intro h; exact h.symm
  refine y_loadA_el (p := ⟨g, o, none⟩) hT hn ?_ hx
  have := hp.sub (o := o) (us := us) (fun j u hj => by
    rw [← hv, List.getElem?_take] at hj
    split at hj
    · rw [List.getElem?_drop] at hj; exact hj
    · cases hj)
  rwa [e] at this
/-- s[i:], at the end of the room too. -/
theorem y_slfromX {t e : TypeId} {g n c sz : Nat} {i : Int} {kk : IntKind} {u : Operand} (hT : elemT P t e = true) (hs : sizeT P e sz = true) (hx : ev E x = some (.slice (some ⟨g, 0, none⟩) n c)) (hu : ev E u = some (.int kk i)) (h0 : 0 ≤ i) (h1 : i ≤ n) (hnc : n ≤ c) :
    Yl P W0 N E H ⟨some d, .slice t x (some u) none none, ty, pos, aft, none⟩ (.slice (some (if c = i.toNat then ⟨g, 0, none⟩ else ⟨g, i.toNat * sz, none⟩)) (n - i.toNat) (c - i.toNat)) := by
  intro a w ha
  have hut := run_underlying (w := w) (under_of_elemT hT)
  have hb1 : ¬ (i < 0) := by omega
  have hadd : (⟨g, 0, none⟩ : Addr).add (i.toNat * sz) = ⟨g, i.toNat * sz, none⟩ := by unfold Addr.add; split <;> simp_all
  simp only [execOp, ha.eval hx]
  by_cases hne : c = i.toNat
  · simp [Instr.sliceAt, Instr.slice, hut, run_sizeOf hs, Instr.sliceBounds, Instr.sliceBound, asIntOf, ha.eval hu, h0, h1, hne]
  · simp [Instr.sliceAt, Instr.slice, hut, run_sizeOf hs, Instr.sliceBounds, Instr.sliceBound, asIntOf, ha.eval hu, h0, h1, hne, hadd]
/-- s[i:j:m]: it is there. -/
theorem y_sl3 {t e : TypeId} {g n c sz : Nat} {i j m : Int} {ki kj km : IntKind} {u v z : Operand} (hT : elemT P t e = true) (hs : sizeT P e sz = true) (hx : ev E x = some (.slice (some ⟨g, 0, none⟩) n c)) (hu : ev E u = some (.int ki i)) (hv : ev E v = some (.int kj j)) (hz : ev E z = some (.int km m))
    (h0 : 0 ≤ i) (h1 : i ≤ j) (h2 : j ≤ m) (h3 : m ≤ c) :
    ∃ v' : Value, True ∧ Yl P W0 N E H ⟨some d, .slice t x (some u) (some v) (some z), ty, pos, aft, none⟩ v' := by
  refine ⟨.slice (if m.toNat = i.toNat then some ⟨g, 0, none⟩ else some ((⟨g, 0, none⟩ : Addr).add (i.toNat * sz))) (j.toNat - i.toNat) (m.toNat - i.toNat), trivial, ?_⟩
  intro a w ha
  have hut := run_underlying (w := w) (under_of_elemT hT)
  have hm0 : 0 ≤ m := by omega
  have hj0 : 0 ≤ j := by omega
  have hij : i ≤ max j 0 := by omega
  have hjm : j ≤ max m 0 := by omega
  simp only [execOp, ha.eval hx]
  simp [Instr.sliceAt, Instr.slice, hut, run_sizeOf hs, Instr.sliceBounds, Instr.sliceBound, asIntOf, ha.eval hu, ha.eval hv, ha.eval hz, h0, hm0, hj0, hij, hjm, h3]
/-- s[i:j] -/
theorem y_slft {t e : TypeId} {g n c sz : Nat} {i j : Int} {ki kj : IntKind} {u v : Operand} (hT : elemT P t e = true) (hs : sizeT P e sz = true) (hx : ev E x = some (.slice (some ⟨g, 0, none⟩) n c)) (hu : ev E u = some (.int ki i)) (hv : ev E v = some (.int kj j))
    (h0 : 0 ≤ i) (h1 : i ≤ j) (h2 : j ≤ c) (h3 : i < c) :
    Yl P W0 N E H ⟨some d, .slice t x (some u) (some v) none, ty, pos, aft, none⟩ (.slice (some ⟨g, i.toNat * sz, none⟩) (j.toNat - i.toNat) (c - i.toNat)) := by
  intro a w ha
  have hut := run_underlying (w := w) (under_of_elemT hT)
  have hj0 : 0 ≤ j := by omega
  have hij : i ≤ max j 0 := by omega
  have hne : ¬ (c = i.toNat) := by omega
  have hadd : (⟨g, 0, none⟩ : Addr).add (i.toNat * sz) = ⟨g, i.toNat * sz, none⟩ := by unfold Addr.add; split <;> simp_all
  simp only [execOp, ha.eval hx]
  simp [Instr.sliceAt, Instr.slice, hut, run_sizeOf hs, Instr.sliceBounds, Instr.sliceBound, asIntOf, ha.eval hu, ha.eval hv, h0, hj0, hij, h2, hne, hadd]
/-- append(s[:i], s[j:]...) in place. -/
theorem l_append_in {t e : TypeId} {sz by_ i m c c' g k : Nat} {ad : Addr} {cs cs' : Array Value} {news : List Value} {H' : List Res} (hd : Nat.blt d N = true) (hT : elemT P t e = true) (ha : apT P e sz by_ = true)
    (hx : ev E x = some (.slice (some ⟨g, 0, none⟩) i c)) (hy : ev E y = some (.slice (some ad) m c')) (hk : H[k]? = some (.blk g (.cells cs e (0, 0))))
    (hnews : ∀ q u, news[q]? = some u → ∃ o, ad.add q = ⟨g, o, none⟩ ∧ cs[o]? = some u) (hl : news.length = m * sz) (h1 : ∀ u ∈ news, u.oneCell' = true) (hroom : i + m ≤ c) (hfit : i * sz + news.length ≤ cs.size)
    (hcs : (cs.toList.take (i * sz) ++ news ++ cs.toList.drop (i * sz + news.length)).toArray = cs') (hH : H.set k (.blk g (.cells cs' e (0, 0))) = H')
    (h : GL P W0 N ops ((d, .slice (some ⟨g, 0, none⟩) (i + m) c) :: E) H' rest Q) :
    GL P W0 N ops E H (⟨some d, .call ⟨.builtin .append, #[x, y], #[t, t]⟩, ty, pos, aft, none⟩ :: rest) Q := by
  intro a w hw
  obtain ⟨ti, z, hi, hz, hsz, hbz, hzc, hpos⟩ := apT_spec ha
  subst hsz
  have hb := (hw.mem.blk hk).2
  have hr := run_append_room (P := P) w t ty e ti (under_of_elemT hT) hi g i c cs hb ad m c' news hl (fun q u hq => by
    obtain ⟨o, e1, e2⟩ := hnews q u hq
    rw [e1]; exact (cell_of_row w g o cs e (0, 0) hb).trans e2) h1 hroom hfit
  rw [hcs] at hr
  refine wpl_val rfl (v := .slice (some ⟨g, 0, none⟩) (i + m) c) (w' := w.setRow g cs') ?_ ?_
  · simp only [execOp, resolve, invoke, builtin, List.map_toArray, List.map_cons, List.map_nil, hw.eval hx, hw.eval hy, Sem.run_bind, Sem.run_pure, Result.andThen_ok, hr]
  · subst hH
    exact h _ _ ((hw.stored hk).put d _ hd)
end
theorem Ck.len13 (c : Ck) : c.cells.length = 13 := rfl
theorem Ck.one (c : Ck) : c.cells.all Value.oneCell' = true := rfl
theorem flat_ne {α : Type} {f : α → List Value} {sz : Nat} (hf : ∀ x, (f x).length = sz) (hs : 0 < sz) {l : List α} {i : Nat} (h : i < l.length) : l.flatMap f ≠ [] := by
  intro e
  have := congrArg List.length e
  rw [flat_len hf] at this
  simp only [List.length_nil, Nat.mul_eq_zero] at this
  omega
/-- Behind the sweep: what is kept stands at the front, the rest is cleared. -/
theorem sweep_size {α : Type} {f : α → List Value} {sz : Nat} (hf : ∀ x, (f x).length = sz) {m : List α} {R Z : List Value} {i n : Nat} (hi : i + n = m.length) (hz : Z.length = n * sz) :
    ((rowF f m R).toList.take (i * sz) ++ Z ++ (rowF f m R).toList.drop (i * sz + n * sz)).toArray.size = m.length * sz + R.length := by
  have h1 := rowF_len hf m R
  have h2 : i * sz + n * sz = m.length * sz := by rw [← Nat.add_mul, hi]
  simp only [List.size_toArray, List.length_append, List.length_take, List.length_drop, Array.length_toList, h1, hz]
  omega
theorem sweep_take {α : Type} {f : α → List Value} {sz : Nat} (hf : ∀ x, (f x).length = sz) {m : List α} {R Z Y : List Value} {i : Nat} (hi : i ≤ m.length) :
    (((rowF f m R).toList.take (i * sz) ++ Z ++ Y).toArray.toList).take (i * sz) = (m.take i).flatMap f := by
  have h1 : ((rowF f m R).toList.take (i * sz)).length = i * sz := by
    rw [rowF_take hf hi, flat_len hf, List.length_take, Nat.min_eq_left hi]
  simp only [List.append_assoc]
  rw [List.take_append_of_le_length (by rw [h1]; exact Nat.le_refl _), List.take_of_length_le (by rw [h1]; exact Nat.le_refl _), rowF_take hf hi]
theorem zero_len (z : Array Value) (n : Nat) : (Builtin.zeroCells z n).toList.length = n * z.size := by simp [Builtin.zeroCells]

/-! ## The jar -/
theorem key_eqc (a c : Ck) : eqCells [.string (B a.name), .string (B a.domain), .string (B a.path)] [.string (B c.name), .string (B c.domain), .string (B c.path)] = some (keyEq a c) := by
  simp only [eqCells, B_eqc, keyEq]
  simp
theorem fidx_pos {α : Type} {p : α → Bool} {l : List α} (h : fidx p l ≥ 0) : ∃ i : Nat, fidx p l = i ∧ i < l.length := by
  unfold fidx at h ⊢
  cases hi : l.findIdx? p with
  | none => simp [hi] at h
  | some i =>
    rw [List.findIdx?_eq_some_iff_getElem] at hi
    exact ⟨i, rfl, hi.1⟩
theorem flat_one {α : Type} {f : α → List Value} (h1 : ∀ x, (f x).all Value.oneCell' = true) (l : List α) : ∀ u ∈ l.flatMap f, u.oneCell' = true := by
  intro u hu
  obtain ⟨b, _, hb⟩ := List.mem_flatMap.1 hu
  exact List.all_eq_true.1 (h1 b) u hb
theorem del_news {α : Type} {f : α → List Value} {sz : Nat} (hf : ∀ x, (f x).length = sz) {l : List α} {R : List Value} {g i c : Nat} (hc : l.length ≤ c) :
    ∀ q u, ((l.drop (i + 1)).flatMap f)[q]? = some u → ∃ o, (if c = i + 1 then (⟨g, 0, none⟩ : Addr) else ⟨g, (i + 1) * sz, none⟩).add q = ⟨g, o, none⟩ ∧ (rowF f l R)[o]? = some u := by
  intro q u hq
  by_cases hi : i + 1 < l.length
  · rw [if_neg (by omega)]
    refine ⟨(i + 1) * sz + q, ?_, ?_⟩
    · unfold Addr.add; split <;> simp_all
    · rw [← flat_drop hf, List.getElem?_drop] at hq
      have hlt := (List.getElem?_eq_some_iff.1 hq).1
      simp only [rowF, List.getElem?_toArray]
      rw [List.getElem?_append_left hlt]; exact hq
  · rw [List.drop_eq_nil_of_le (by omega)] at hq
    simp at hq
theorem del_cells {α : Type} {f : α → List Value} {sz : Nat} (hf : ∀ x, (f x).length = sz) {l : List α} {R : List Value} {i : Nat} (hi : i < l.length) :
    ((rowF f l R).toList.take (i * sz) ++ (l.drop (i + 1)).flatMap f ++ (rowF f l R).toList.drop (i * sz + ((l.drop (i + 1)).flatMap f).length)).toArray = rowF f (l.take i ++ l.drop (i + 1) ++ l.drop (l.length - 1)) R := by
  apply Array.toList_inj.1
  have h1 : i * sz + ((l.drop (i + 1)).flatMap f).length = (l.length - 1) * sz := by
    rw [flat_len hf, List.length_drop, ← Nat.add_mul]; congr 1; omega
  have h2 : (l.length - 1) * sz ≤ (l.flatMap f).length := by rw [flat_len hf]; exact Nat.mul_le_mul_right _ (by omega)
  rw [rowF_take hf (Nat.le_of_lt hi), h1]
  simp only [rowF]
  rw [List.drop_append_of_le_length h2, flat_drop hf, List.flatMap_append, List.flatMap_append]
  simp only [List.append_assoc]
def cmpF (a b : Int) : Int := if a < b then -1 else if a > b then 1 else 0
def orF : List Int → Int
  | [] => 0
  | a :: r => if a ≠ 0 then a else orF r
theorem orF_at : ∀ {l : List Int} {s : Nat} {v : Int}, (∀ j, j < s → ∀ u, l[j]? = some u → decide (u ≠ 0) = false) → l[s]? = some v → v ≠ 0 → orF l = v
  | [], _, _, _, h, _ => by simp at h
  | a :: l, 0, v, _, hv, hp => by simp at hv; subst hv; exact if_pos hp
  | a :: l, s + 1, v, h, hv, hp => by
    have ha := h 0 (by omega) a rfl
    have ha : a = 0 := by simpa using ha
    rw [orF, if_neg (by simp [ha])]
    exact orF_at (s := s) (fun j hj u hu => h (j + 1) (by omega) u (by simpa using hu)) (by simpa using hv) hp
theorem orF_none : ∀ {l : List Int} {n : Nat}, (∀ j, j < n → ∀ u, l[j]? = some u → decide (u ≠ 0) = false) → l.length ≤ n → orF l = 0
  | [], _, _, _ => rfl
  | a :: l, n, h, hn => by
    have hn' : l.length + 1 ≤ n := by simpa using hn
    have ha := h 0 (by omega) a rfl
    have ha : a = 0 := by simpa using ha
    rw [orF, if_neg (by simp [ha])]
    exact orF_none (n := n - 1) (fun j hj u hu => h (j + 1) (by omega) u (by simpa using hu)) (by omega)
def minF (f : Int → Int → Int) : List Int → Int
  | [] => 0
  | a :: r => r.foldl (fun m x => if f x m < 0 then x else m) a
def minT (f : Int → Int → Int) (l : List Int) (s : Nat) : Int := minF f (l.take s)
theorem minT_one {f : Int → Int → Int} {l : List Int} {v : Int} (h : l[0]? = some v) : minT f l 1 = v := by
  cases l with
  | nil => simp at h
  | cons a l => simp at h; subst h; rfl
theorem minF_snoc {f : Int → Int → Int} {l : List Int} (hl : l ≠ []) (v : Int) : minF f (l ++ [v]) = if f v (minF f l) < 0 then v else minF f l := by
  cases l with
  | nil => exact absurd rfl hl
  | cons a l => simp only [minF, List.cons_append, List.foldl_append, List.foldl_cons, List.foldl_nil]; try rfl
theorem minT_succ {f : Int → Int → Int} {l : List Int} {s : Nat} {v : Int} (hs : 1 ≤ s) (h : l[s]? = some v) : minT f l (s + 1) = if f v (minT f l s) < 0 then v else minT f l s := by
  unfold minT
  rw [take_snoc h]
  refine minF_snoc (fun e => ?_) v
  have h1 := (List.getElem?_eq_some_iff.1 h).1
  have h2 := congrArg List.length e
  rw [List.length_take, Nat.min_eq_left (Nat.le_of_lt h1)] at h2
  simp at h2
  omega
theorem minF_mem {f : Int → Int → Int} : ∀ {l : List Int}, l ≠ [] → minF f l ∈ l := by
  intro l
  cases l with
  | nil => intro h; exact absurd rfl h
  | cons a r =>
    intro _
    have key : ∀ (r : List Int) (m : Int), r.foldl (fun m x => if f x m < 0 then x else m) m = m ∨ r.foldl (fun m x => if f x m < 0 then x else m) m ∈ r := by
      intro r
      induction r with
      | nil => intro m; exact .inl rfl
      | cons b r ih =>
        intro m
        rw [List.foldl_cons]
        rcases ih (if f b m < 0 then b else m) with h | h
        · rw [h]; split
          · exact .inr List.mem_cons_self
          · exact .inl rfl
        · exact .inr (List.mem_cons_of_mem _ h)
    rcases key r a with h | h
    · show r.foldl _ a ∈ a :: r; rw [h]; exact List.mem_cons_self
    · exact List.mem_cons_of_mem _ h
def liveL (now : Int) (l : List Ck) : List Ck := l.filter (fun v => !(!decide (v.expiry > now)))
def atI (c : Ck) (l : List Ck) : Int := fidx (fun x => keyEq x c) l
def layL (l : List Ck) (next : Int) (c : Ck) : List Ck := if atI c l ≥ 0 then l.set (atI c l).toNat { c with created := (l.getD (atI c l).toNat .none_).created, no := (l.getD (atI c l).toNat .none_).no } else l ++ [{ c with no := next }]
def layN (l : List Ck) (next : Int) (c : Ck) : Int := if atI c l ≥ 0 then next else next + 1
def idxT (q : Ck → Bool) (l : List Ck) : Nat → List Int
  | 0 => []
  | s + 1 => addL (q (l.getD s .none_)) (idxT q l s) (s : Int)
def idxL (q : Ck → Bool) (l : List Ck) : List Int := idxT q l l.length
theorem idxT_len (q : Ck → Bool) (l : List Ck) : ∀ s, (idxT q l s).length ≤ s
  | 0 => by simp [idxT]
  | s + 1 => by
    have := idxT_len q l s
    simp only [idxT, addL]
    split
    · simp; omega
    · omega
theorem idxT_mem {q : Ck → Bool} {l : List Ck} : ∀ {s : Nat} {v : Int}, v ∈ idxT q l s ↔ ∃ i : Nat, i < s ∧ v = i ∧ q (l.getD i .none_) = true
  | 0, v => by simp [idxT]
  | s + 1, v => by
    have ih := idxT_mem (q := q) (l := l) (s := s) (v := v)
    simp only [idxT, addL]
    split
    · rename_i h
      rw [List.mem_append, ih, List.mem_singleton]
      constructor
      · rintro (⟨i, h1, h2, h3⟩ | rfl)
        · exact ⟨i, by omega, h2, h3⟩
        · exact ⟨s, by omega, rfl, h⟩
      · rintro ⟨i, h1, h2, h3⟩
        by_cases e : i = s
        · right; rw [h2, e]
        · left; exact ⟨i, by omega, h2, h3⟩
    · rename_i h
      rw [ih]
      constructor
      · rintro ⟨i, h1, h2, h3⟩; exact ⟨i, by omega, h2, h3⟩
      · rintro ⟨i, h1, h2, h3⟩
        by_cases e : i = s
        · subst e; exact absurd h3 h
        · exact ⟨i, by omega, h2, h3⟩
def useF (l : List Ck) (i j : Int) : Int := orF [cmpF (l.getD i.toNat .none_).used (l.getD j.toNat .none_).used, cmpF (l.getD i.toNat .none_).no (l.getD j.toNat .none_).no]
def leastI (q : Ck → Bool) (l : List Ck) : Int := minF (useF l) (idxL q l)
def evictN (most : Int) (q : Ck → Bool) : Nat → List Ck → List Ck
  | 0, l => l
  | n + 1, l => if ((idxL q l).length : Int) ≤ most then l else evictN most q n (l.eraseIdx (leastI q l).toNat)
def evictL (most : Int) (q : Ck → Bool) (l : List Ck) : List Ck := evictN most q l.length l
theorem evictL_stop {most : Int} {q : Ck → Bool} {l : List Ck} (h : ((idxL q l).length : Int) ≤ most) : evictL most q l = l := by
  unfold evictL
  cases l with
  | nil => rfl
  | cons a r => exact if_pos h
theorem leastI_lt {most : Int} {q : Ck → Bool} {l : List Ck} (h0 : 0 ≤ most) (h : ¬ ((idxL q l).length : Int) ≤ most) : 0 ≤ leastI q l ∧ leastI q l < l.length := by
  have hne : idxL q l ≠ [] := by intro e; rw [e] at h; simp at h; omega
  obtain ⟨i, h1, h2, _⟩ := idxT_mem.1 (minF_mem (f := useF l) hne)
  have h3 : leastI q l = (i : Int) := h2
  rw [h3]
  omega
theorem evictL_step {most : Int} {q : Ck → Bool} {l : List Ck} (h0 : 0 ≤ most) (h : ¬ ((idxL q l).length : Int) ≤ most) : evictL most q l = evictL most q (l.eraseIdx (leastI q l).toNat) := by
  have hlt := leastI_lt h0 h
  unfold evictL
  rw [List.length_eraseIdx_of_lt (by omega)]
  cases hl : l.length with
  | zero => omega
  | succ n => simp only [evictN, Nat.add_sub_cancel]; rw [if_neg h]
def putE (j : Ja) (c : Ck) (now : Int) : Int := if jarErr j ≠ 0 then jarErr j else if ¬ isM now ∨ ¬(isM c.created ∧ isM c.used) then 3 else if j.next = 1099511627776 then 2 else 0
def putL (j : Ja) (c : Ck) (now : Int) : List Ck := evictL 12 (fun _ => true) (evictL 4 (fun x => decide (x.domain = c.domain)) (liveL now (layL (liveL now j.cks) j.next c)))
def putJ (j : Ja) (c : Ck) (now : Int) : Ja := if putE j c now ≠ 0 then ⟨[], 0⟩ else ⟨putL j c now, layN (liveL now j.cks) j.next c⟩
end Go.Gx
