/- This text proves: the step laws and the plain functions that the walks of this claim stand on. No condition beyond those that each theorem names. -/
import Derived.Test.YtgehghoammpiaaaGreatDoorGx5
import Derived.Maps.AppendAt
import Derived.Great.BuildSlice
namespace Go.Gx
open Go.RowKit
section
variable {P : Program} {W0 : World} {N : Nat} {E : List (Nat × Value)} {H : List Res} {Q : Exit → Act → World → Prop} {ops : Array Oper} {rest : List Oper} {x y : Operand} {d : Nat} {ty : TypeId} {pos : String} {aft : Array Edge}

/-! ## Rows of one's own -/
/-- The closed facts of an element type: its size in cells and in bytes, and that it has a zero value. -/
def apT (P : Program) (e : TypeId) (sz by_ : Nat) : Bool := match P.info? e with
  | some i => Nat.beq i.size sz && Nat.beq i.bytes by_ && Nat.blt 0 sz && (match i.zero with | some z => Nat.beq z.cells.size sz | none => false)
  | none => false
theorem apT_spec {e : TypeId} {sz by_ : Nat} (h : apT P e sz by_ = true) : ∃ i z, P.info? e = some i ∧ i.zero = some z ∧ i.size = sz ∧ i.bytes = by_ ∧ z.cells.size = sz ∧ 0 < sz := by
  unfold apT at h
  cases hi : P.info? e with
  | none => rw [hi] at h; cases h
  | some i =>
    rw [hi] at h
    cases hz : i.zero with
    | none => simp [hz] at h
    | some z =>
      simp only [hz] at h
      simp only [Bool.and_eq_true] at h
      obtain ⟨⟨⟨h1, h2⟩, h3⟩, h4⟩ := h
      exact ⟨i, z, rfl, hz, Nat.eq_of_beq_eq_true h1, Nat.eq_of_beq_eq_true h2, Nat.eq_of_beq_eq_true h4, by simpa [Nat.blt, Nat.ble_eq, Nat.succ_le_iff] using h3⟩

theorem row_shape {w : World} {B : Nat} {e : TypeId} {sz n : Nat} {v : Value} {xs : List Value} (h : w.ownsRow B e sz v n xs) : ∃ A c, v = .slice A n c := by
  rcases h.2 with ⟨rfl, rfl⟩ | ⟨g, cap, cur, rfl, _⟩
  · exact ⟨none, 0, rfl⟩
  · exact ⟨_, _, rfl⟩

theorem pairwise_set_all {H : List Res} {r : Res} : ∀ (k : Nat), H.Pairwise Res.far → (∀ s ∈ H, s.far r) → (H.set k r).Pairwise Res.far := by
  induction H with
  | nil => intro k _ _; simp
  | cons s H ih =>
    intro k hp hf
    obtain ⟨h1, h2⟩ := List.pairwise_cons.1 hp
    cases k with
    | zero => exact List.pairwise_cons.2 ⟨fun t ht => (hf t (List.mem_cons_of_mem _ ht)).symm, h2⟩
    | succ k =>
      refine List.pairwise_cons.2 ⟨fun t ht => ?_, ih k h2 (fun t ht => hf t (List.mem_cons_of_mem _ ht))⟩
      rcases List.mem_or_eq_of_mem_set ht with ht | rfl
      · exact h1 t ht
      · exact hf s List.mem_cons_self
theorem Mem.set_new {W0 w w' : World} {H : List Res} {k : Nat} {r : Res} (h : Mem W0 H w) (hg : w.grownBy w' none) (hr : r.ok W0.heap.size w') (hb : ∀ g', r.blk? = some g' → w.heap.size ≤ g') : Mem W0 (H.set k r) w' := by
  have hall : ∀ s ∈ H, s.ok W0.heap.size w' := fun s hs => (h.res s hs).kept hg (by simp)
  refine ⟨h.below.grown hg h.below.size (by simp), ?_, pairwise_set_all k h.apart (fun s hs g hg' hr' => ?_)⟩
  · intro s hs
    rcases List.mem_or_eq_of_mem_set hs with hs | rfl
    · exact hall s hs
    · exact hr
  · have h1 := ((h.res s hs).lt g hg').2
    have h2 := hb g hr'
    omega
/-- append(v, the m elements that lie in block g). -/
theorem l_append {t e : TypeId} {sz by_ n m g c' : Nat} {v : Value} {xs zs : List Value} {cs : Array Value} {e' : TypeId} {fr : Nat × Nat} {k j : Nat} (hd : Nat.blt d N = true) (hT : elemT P t e = true) (ha : apT P e sz by_ = true)
    (hx : ev E x = some v) (hy : ev E y = some (.slice (some ⟨g, 0, none⟩) m c')) (hk : H[k]? = some (.row v e sz n xs)) (hj : H[j]? = some (.blk g (.cells cs e' fr)))
    (hm : cs.size = m * sz) (h1 : cs.toList.all Value.oneCell' = true) (h63 : n + m ≤ 9223372036854775807) (hby : (n + m) * by_ ≤ 140737488355328) (hzs : xs ++ cs.toList = zs)
    (h : ∀ A c, GL P W0 N ops ((d, .slice A (n + m) c) :: E) (H.set k (.row (.slice A (n + m) c) e sz (n + m) zs)) rest Q) :
    GL P W0 N ops E H (⟨some d, .call ⟨.builtin .append, #[x, y], #[t, t]⟩, ty, pos, aft, none⟩ :: rest) Q := by
  intro a w hw
  obtain ⟨i, z, hi, hz, hsz, hbz, hzc, hpos⟩ := apT_spec ha
  have hb := hw.mem.blk hj
  have hrow : w.ownsRow W0.heap.size e sz v n xs := hw.mem.res _ (mem_of_get hk)
  have hnews : ∀ q u, cs.toList[q]? = some u → w.cell? ((⟨g, 0, none⟩ : Addr).add q) = some u :=
    cs_blk (vs := cs.toList) hb.2 (fun q u hq => by simpa using hq)
  refine wpList_append_own_at (P := P) w rfl x y t rfl W0.heap.size e i z sz by_ (under_of_elemT hT) hi hz hsz hbz hzc hpos v n xs (hw.eval hx) hrow ⟨g, 0, none⟩ m c' cs.toList (hw.eval hy) (by simpa using hm) hnews
    (fun u hu => List.all_eq_true.1 h1 u hu) (by simpa [maxLen] using h63) hby hw.mem.below.size ?_
  intro v' w' hown' hgrow _ hat
  obtain ⟨A, c, rfl⟩ := row_shape hown'
  subst hzs
  refine h A c _ _ ((hw.withMem ?_).put d _ hd)
  cases hv : v.ownBlock with
  | some g0 =>
    refine hw.mem.set (g := g0) hk hv (by rw [← hv]; exact hgrow) hown' (fun g' hg' => ?_)
    rcases hat with h2 | h2
    · rw [hv] at h2; left; have := hg'.symm.trans h2; exact Option.some.inj this
    · right; have := hg'.symm.trans h2; rw [Option.some.inj this]; exact Nat.le_refl _
  | none =>
    refine hw.mem.set_new (by rw [← hv]; exact hgrow) hown' (fun g' hg' => ?_)
    rcases hat with h2 | h2
    · rw [hv] at h2; rw [show (Res.row (Value.slice A (n + m) c) e sz (n + m) (xs ++ cs.toList)).blk? = (Value.slice A (n + m) c).ownBlock from rfl, h2] at hg'; cases hg'
    · have := hg'.symm.trans h2; rw [Option.some.inj this]; exact Nat.le_refl _

/-- A nil row, for a beginning. -/
theorem c_nilrow {c : Code} (e : TypeId) (sz : Nat) (h : GC P W0 N E (.row (.slice none 0 0) e sz 0 [] :: H) c Q) : GC P W0 N E H c Q := fun a w ha =>
  h a w (ha.withMem (ha.mem.cons (row := none) ⟨rfl, rfl, rfl, Nat.le_refl _, fun _ _ _ => rfl⟩ (by simp) (by simp) (World.ownsRow_nil _ _ _ _) (by intro g hg; cases hg)))
theorem l_nilrow {l : List Oper} (e : TypeId) (sz : Nat) (h : GL P W0 N ops E (.row (.slice none 0 0) e sz 0 [] :: H) l Q) : GL P W0 N ops E H l Q := fun a w ha =>
  h a w (ha.withMem (ha.mem.cons (row := none) ⟨rfl, rfl, rfl, Nat.le_refl _, fun _ _ _ => rfl⟩ (by simp) (by simp) (World.ownsRow_nil _ _ _ _) (by intro g hg; cases hg)))

/-- One's own row, read as a list. -/
theorem sl_of_row {α : Type} {f : α → List Value} {sz n c k : Nat} {w : World} {A : Option Addr} {e : TypeId} {l : List α} (hm : Mem W0 H w) (hk : H[k]? = some (.row (.slice A n c) e sz n (l.flatMap f))) (hf : ∀ x, (f x).length = sz) (hsz : Nat.blt 0 sz = true) :
    Sl f sz w A l := by
  have hsz : 0 < sz := by simpa [Nat.blt, Nat.ble_eq, Nat.succ_le_iff] using hsz
  have hrow : w.ownsRow W0.heap.size e sz (.slice A n c) n (l.flatMap f) := hm.res _ (mem_of_get hk)
  intro i x hi
  have hlt := (List.getElem?_eq_some_iff.1 hi).1
  have hlen : ∀ l : List α, (l.flatMap f).length = l.length * sz := by
    intro l; induction l with
    | nil => simp
    | cons a l ih => simp [ih, hf, Nat.add_mul, Nat.add_comm]
  have hget : ∀ (l : List α) (i : Nat), l[i]? = some x → ∀ j u, (f x)[j]? = some u → (l.flatMap f)[i * sz + j]? = some u := by
    intro l
    induction l with
    | nil => intro i h; simp at h
    | cons a l ih =>
      intro i h j u hj
      have hjl := (List.getElem?_eq_some_iff.1 hj).1
      rw [hf] at hjl
      cases i with
      | zero =>
        simp only [List.getElem?_cons_zero, Option.some.injEq] at h
        subst h
        rw [List.flatMap_cons, List.getElem?_append_left (by simp [hf]; omega)]
        simpa using hj
      | succ i =>
        simp only [List.getElem?_cons_succ] at h
        rw [List.flatMap_cons, List.getElem?_append_right (by simp [hf, Nat.add_mul]; omega)]
        rw [hf, show (i + 1) * sz + j - sz = i * sz + j by rw [Nat.add_mul]; omega]
        exact ih i h j u hj
  rcases hrow.2 with ⟨hv, rfl⟩ | ⟨g, cap, cur, hv, hb, hg, hn, hcap, hcs, htake⟩
  · have := hrow.1
    rw [hlen] at this
    simp only [Nat.zero_mul, Nat.mul_eq_zero] at this
    rcases this with h0 | h0
    · omega
    · omega
  · cases hv
    refine ⟨_, rfl, ?_, fun j u hj => ?_⟩
    · rw [block_add]; exact (Array.getElem?_eq_some_iff.1 hg).1
    · have := hrow.cells (g := g) rfl (i * sz + j) u (hget l i hi j u hj)
      rw [add_add]; exact this

theorem row_len {α : Type} {f : α → List Value} {sz n c k : Nat} {w : World} {A : Option Addr} {e : TypeId} {l : List α} (hm : Mem W0 H w) (hk : H[k]? = some (.row (.slice A n c) e sz n (l.flatMap f))) (hf : ∀ x, (f x).length = sz) (hsz : Nat.blt 0 sz = true) : l.length = n := by
  have hsz : 0 < sz := by simpa [Nat.blt, Nat.ble_eq, Nat.succ_le_iff] using hsz
  have hrow : w.ownsRow W0.heap.size e sz (.slice A n c) n (l.flatMap f) := hm.res _ (mem_of_get hk)
  have hlen : (l.flatMap f).length = l.length * sz := by
    clear hk hrow hm
    induction l with
    | nil => simp
    | cons a l ih => simp [ih, hf, Nat.add_mul, Nat.add_comm]
  have := hrow.1
  rw [hlen] at this
  exact Nat.eq_of_mul_eq_mul_right hsz this

/-- The slice literal: a new row, all its cells told. -/
theorem l_bslice {t e : TypeId} {len sz by_ : Nat} {parts : List (Nat × Operand)} {pv : List (Nat × Value)} {cs : Array Value} {zs cl : List Value} {z : Value} (hd : Nat.blt d N = true) (hT : elemT P t e = true) (hA : apT P e sz by_ = true) (hz : zeroOf P e = some z)
    (hsmall : Nat.ble (len * sz) 16777216 = true) (hpos : Nat.blt 0 (len * sz) = true) (hp : evp E parts = some pv) (hz0 : (List.range (len * sz)).map (fun i => z.cells.toList.getD (i % sz) undef) = zs)
    (hf : fillL ((List.range len).map fun i => (i * sz, sz)) zs pv = some cl) (hin : parts.all (fun iv => Nat.blt iv.1 len) = true) (hcs : cl.toArray = cs)
    (h : ∀ g, GL P W0 N ops ((d, .slice (some ⟨g, 0, none⟩) len len) :: E) (.blk g (.cells cs e (0, 0)) :: H) rest Q) :
    GL P W0 N ops E H (⟨some d, .buildSlice t len parts.toArray, ty, pos, aft, none⟩ :: rest) Q := by
  intro a w hw
  obtain ⟨i, z', hi, hz', hsz, hbz, hzc, hpos'⟩ := apT_spec hA
  have hzz : z' = z := by
    unfold zeroOf at hz; rw [hi] at hz; simp only [Option.bind_some] at hz; rw [hz'] at hz; exact Option.some.inj hz
  subst hzz
  subst hsz
  have hs1 : ¬ len * i.size > 2 ^ 24 := by have := Nat.le_of_ble_eq_true hsmall; omega
  have hs2 : ¬ len * i.size = 0 := by
    have : 0 < len * i.size := by simpa [Nat.blt, Nat.ble_eq, Nat.succ_le_iff] using hpos
    omega
  refine wpList_buildSlice rfl t e len parts.toArray rfl cs i z' (under_of_elemT hT) hi hz' hs1 hs2 ?_ ?_
  · have hev := hw.evalp hp
    rw [show (parts.toArray.map fun (i, x) => (i, a.eval x)).toList = pv by simpa using hev]
    have hpin : ∀ iv ∈ pv, iv.1 < len := by
      intro iv hiv
      rw [← hev] at hiv
      obtain ⟨q, hq, rfl⟩ := List.mem_map.1 hiv
      have := List.all_eq_true.1 hin q hq
      simpa [Nat.blt, Nat.ble_eq, Nat.succ_le_iff] using this
    rw [fill_eq (q := fun j => ((List.range len).map fun i' => (i' * i.size, i.size))[j]?) pv _ (fun iv hiv => ?_)]
    · have := fillL_ok _ _ _ _ hf
      subst hz0
      subst hcs
      rw [← this]
      congr 1
      apply Array.toList_inj.1
      simp only [Array.toList_map, Array.toList_range]
      refine List.map_congr_left (fun q hq => ?_)
      have hlt : q % z'.cells.size < z'.cells.size := Nat.mod_lt _ (by omega)
      rw [getElem!_pos z'.cells _ hlt]
      rw [← hzc]
      simp [List.getD_eq_getElem?_getD, hlt]
    · have := hpin iv hiv
      simp [this]
  · exact h _ _ _ ((hw.withMem (hw.mem.alloc _)).put d _ hd)
end
end Go.Gx
