/- This text proves: the step laws and the plain functions that the walks of this claim stand on. No condition beyond those that each theorem names. -/
import Derived.Test.YtgehghoammpiaaaGreatDoorGy4
import Derived.Lib.OthersKept
import Derived.Laws.RangeString
namespace Go.Gx
open Go.RowKit
section
variable {P : Program} {W0 : World} {N : Nat} {E : List (Nat × Value)} {H : List Res} {Q : Exit → Act → World → Prop} {ops : Array Oper} {rest : List Oper} {x y : Operand} {d : Nat} {ty t' : TypeId} {pos : String} {aft : Array Edge}
/-! ## A range over a text -/
theorem l_range {t : TypeId} {l : List UInt8} (hd : Nat.blt d N = true) (hT : strT P t = true) (hx : ev E x = some (.string (B l)))
    (h : ∀ g, GL P W0 N ops ((d, .pointer (some ⟨g, 0, none⟩)) :: E) (.blk g (.stringIter (B l) 0) :: H) rest Q) : GL P W0 N ops E H (⟨some d, .range t x, ty, pos, aft, none⟩ :: rest) Q :=
  fun a w ha => wpl_val (v := .pointer (some ⟨w.heap.size, 0, none⟩)) (w' := w.alloc (.stringIter (B l) 0)) rfl
    (by have hr := run_range_string (P := P) w t (B l) (strT_spec hT)
        simp only [execOp, ha.eval hx, Sem.run_bind, hr, Result.andThen_ok, Sem.run_pure]; rfl) (h w.heap.size _ _ (ha.newBlk d _ hd))
theorem l_next {l : List UInt8} {g k p : Nat} {H' : List Res} (hd : Nat.blt d N = true) (hx : ev E x = some (.pointer (some ⟨g, 0, none⟩))) (hk : H[k]? = some (.blk g (.stringIter (B l) p))) (hH : H.set k (.blk g (.stringIter (B l) (p + (Utf8.decode (B l) p).2))) = H')
    (h1 : p < l.length → GL P W0 N ops ((d, .tuple #[.bool true, .int .i64 p, .int .i32 (Utf8.decode (B l) p).1]) :: E) H' rest Q) (h0 : ¬ p < l.length → GL P W0 N ops ((d, .tuple #[.bool false]) :: E) H rest Q) :
    GL P W0 N ops E H (⟨some d, .next x true, ty, pos, aft, none⟩ :: rest) Q := by
  intro a w ha
  have hb := ha.mem.blk hk
  by_cases hp : p < l.length
  · have hr := Lib.run_next_any_at (P := P) w g (B l) p ty hb.2 (by rw [B_size]; exact hp)
    refine wpl_val rfl (v := .tuple #[.bool true, .int .i64 p, .int .i32 (Utf8.decode (B l) p).1]) (w' := w.iterAt g (B l) (p + (Utf8.decode (B l) p).2)) ?_ ?_
    · simp only [execOp, ha.eval hx, Sem.run_bind, hr, Result.andThen_ok, Sem.run_pure]
    · refine h1 hp _ _ ((ha.withMem ?_).put d _ hd)
      subst hH
      refine ha.mem.set (g := g) hk rfl ⟨rfl, rfl, rfl, by simp [World.iterAt], fun j hj hne => ?_⟩ ⟨hb.1, Lib.iterAt_heap w g _ _ _ hb.2⟩ (by intro g' h'; simp only [Res.blk?, Option.some.injEq] at h'; exact .inl h'.symm)
      simp only [World.iterAt, Array.getElem?_setIfInBounds]
      rw [if_neg (fun e => hne (by rw [e]))]
  · have hr := Lib.run_next_end_at (P := P) w g (B l) p ty hb.2 (by rw [B_size]; exact hp)
    refine wpl_val rfl (v := .tuple #[.bool false]) (w' := w) ?_ (h0 hp _ _ (ha.put d _ hd))
    simp only [execOp, ha.eval hx, Sem.run_bind, hr, Result.andThen_ok, Sem.run_pure]
def boolT (P : Program) (t : TypeId) : Bool := match P.underlying t with | some .bool => true | _ => false
theorem boolT_spec {t : TypeId} (h : boolT P t = true) : P.underlying t = some .bool := by
  unfold boolT at h
  split at h
  · assumption
  · cases h
theorem y_beq {t : TypeId} {a b c : Bool} (hT : boolT P t = true) (hx : ev E x = some (.bool a)) (hy : ev E y = some (.bool b)) (hc : (a == b) = c) : Yl P W0 N E H ⟨some d, .binOp .eql t x y t', ty, pos, aft, none⟩ (.bool c) :=
  fun ac w ha => by
    subst hc
    have hr := run_eql_bool (P := P) (w := w) t a b (boolT_spec hT)
    simp only [execOp, ha.eval hx, ha.eval hy, eqGuard_at_bool, Sem.run_bind, Sem.run_pure, Result.andThen_ok, hr]
/-- A method bound to its receiver. -/
theorem y_mkfn2 {fn : Fn} {fs cs : List Operand} {us vs : List Value} (hf : evs E fs = some us) (hc : evs E cs = some vs) : Yl P W0 N E H ⟨some d, .makeFunc fn fs.toArray cs.toArray, ty, pos, aft, none⟩ (.func fn us.toArray vs.toArray) :=
  y_makeFunc (fun a w ha => by rw [List.map_toArray, ha.evals hf]) (fun a w ha => by rw [List.map_toArray, ha.evals hc])
end
theorem row_nilcap {W0 w : World} {H : List Res} {k n c sz : Nat} {A : Option Addr} {e : TypeId} {xs : List Value} (hm : Mem W0 H w) (hk : H[k]? = some (.row (.slice A n c) e sz n xs)) (hA : A = none) : c = 0 := by
  have hrow : w.ownsRow W0.heap.size e sz (.slice A n c) n xs := hm.res _ (mem_of_get hk)
  rcases hrow.2 with ⟨hv, rfl⟩ | ⟨g, cap, cur, hv, _⟩
  · cases hv; rfl
  · subst hA; cases hv
/-! ## Texts that are let through -/
def badB (b : UInt8) : Bool := decide ((b.toNat < 32 ∧ b.toNat ≠ 9) ∨ b.toNat = 127)
def badR (c : Int) : Bool := decide ((c < 32 ∧ c ≠ 9) ∨ c = 127)
theorem B_getb (l : List UInt8) (i : Nat) : (B l).get! i = l.getD i 0 := by
  by_cases h : i < l.length
  · have : (B l).get! i = (B l).data[i]! := rfl
    rw [this]
    simp [B, h]
  · have : (B l).get! i = (B l).data[i]! := rfl
    rw [this]
    simp [B, Nat.le_of_not_lt h]; rfl
theorem dec_lo {l : List UInt8} {p : Nat} (h : (l.getD p 0).toNat < 128) : Utf8.decode (B l) p = ((l.getD p 0).toNat, 1) := by
  simp only [Utf8.decode, B_getb, Nat.add_zero]
  rw [if_pos (by simpa using h)]
theorem dec_hi {l : List UInt8} {p : Nat} (h : ¬ (l.getD p 0).toNat < 128) : 128 ≤ (Utf8.decode (B l) p).1 ∧ 1 ≤ (Utf8.decode (B l) p).2 ∧ ∀ k, 1 ≤ k → k < (Utf8.decode (B l) p).2 → p + k < l.length ∧ 128 ≤ (l.getD (p + k) 0).toNat := by
  simp only [Utf8.decode, B_getb, Nat.add_zero, B_size]
  rw [if_neg (by simpa using h)]
  have hc : ∀ k, (decide (p + k < l.length) && (l.getD (p + k) 0).toNat / 64 == 2) = true → p + k < l.length ∧ 128 ≤ (l.getD (p + k) 0).toNat := by
    intro k hk
    simp at hk
    refine ⟨hk.1, ?_⟩
    have := hk.2
    simp only [List.getD_eq_getElem?_getD]
    omega
  split
  · rename_i h1
    rw [Bool.and_eq_true] at h1
    split
    · rename_i h2
      refine ⟨h2, by dsimp only; omega, fun k hk1 hk2 => ?_⟩
      dsimp only at hk2
      obtain rfl : k = 1 := by omega
      exact hc 1 h1.2
    · exact ⟨by decide, by decide, fun k hk1 hk2 => by dsimp only at hk2; omega⟩
  · split
    · rename_i h1
      rw [Bool.and_eq_true, Bool.and_eq_true] at h1
      split
      · rename_i h2
        simp only [Bool.and_eq_true, decide_eq_true_eq] at h2
        refine ⟨by have := h2.1; dsimp only; omega, by dsimp only; omega, fun k hk1 hk2 => ?_⟩
        dsimp only at hk2
        rcases (by omega : k = 1 ∨ k = 2) with rfl | rfl
        · exact hc 1 h1.1.2
        · exact hc 2 h1.2
      · exact ⟨by decide, by decide, fun k hk1 hk2 => by dsimp only at hk2; omega⟩
    · split
      · rename_i h1
        rw [Bool.and_eq_true, Bool.and_eq_true, Bool.and_eq_true] at h1
        split
        · rename_i h2
          simp only [Bool.and_eq_true, decide_eq_true_eq] at h2
          refine ⟨by have := h2.1; dsimp only; omega, by dsimp only; omega, fun k hk1 hk2 => ?_⟩
          dsimp only at hk2
          rcases (by omega : k = 1 ∨ k = 2 ∨ k = 3) with rfl | rfl | rfl
          · exact hc 1 h1.1.1.2
          · exact hc 2 h1.1.2
          · exact hc 3 h1.2
        · exact ⟨by decide, by decide, fun k hk1 hk2 => by dsimp only at hk2; omega⟩
      · exact ⟨by decide, by decide, fun k hk1 hk2 => by dsimp only at hk2; omega⟩
theorem dec_bad {l : List UInt8} {p : Nat} {v : UInt8} (hv : l[p]? = some v) : badR ((Utf8.decode (B l) p).1 : Int) = badB v := by
  have e := getD_of_get (d := (0 : UInt8)) hv
  by_cases h : (l.getD p 0).toNat < 128
  · rw [dec_lo h, e]
    simp only [badR, badB, decide_eq_decide]
    omega
  · have h2 := dec_hi h
    rw [e] at h
    have h1 : badR ((Utf8.decode (B l) p).1 : Int) = false := by simp only [badR, decide_eq_false_iff_not]; omega
    have h3 : badB v = false := by simp only [badB, decide_eq_false_iff_not]; omega
    rw [h1, h3]
/-- A step: what was passed over is not bad. -/
theorem dec_step {l : List UInt8} {p : Nat} {v : UInt8} (hI : ∀ j, j < p → ∀ u, l[j]? = some u → badB u = false) (hv : l[p]? = some v) (hb : badB v = false) :
    (p < p + (Utf8.decode (B l) p).2) ∧ ∀ j, j < p + (Utf8.decode (B l) p).2 → ∀ u, l[j]? = some u → badB u = false := by
  have e := getD_of_get (d := (0 : UInt8)) hv
  by_cases h : (l.getD p 0).toNat < 128
  · rw [dec_lo h]
    refine ⟨by dsimp only; omega, fun j hj u hu => ?_⟩
    dsimp only at hj
    rcases Nat.lt_or_ge j p with h1 | h1
    · exact hI j h1 u hu
    · obtain rfl : j = p := by omega
      rw [hv] at hu; cases hu; exact hb
  · have h2 := dec_hi h
    refine ⟨by omega, fun j hj u hu => ?_⟩
    rcases Nat.lt_or_ge j p with h1 | h1
    · exact hI j h1 u hu
    · rcases Nat.eq_or_lt_of_le h1 with h3 | h3
      · subst h3; rw [hv] at hu; cases hu; exact hb
      · have h4 := (h2.2.2 (j - p) (by omega) (by omega)).2
        rw [show p + (j - p) = j by omega, getD_of_get hu] at h4
        simp only [badB, decide_eq_false_iff_not]; omega
def letF (l : List UInt8) : Bool := decide (fidx badB l < 0)
/-! ## Who asks -/
structure Fr where
  host : List UInt8
  path : List UInt8
  secure : Bool
  script : Bool
  abroad : Bool
def Fr.cells (f : Fr) : List Value := [.string (B f.host), .string (B f.path), .bool f.secure, .bool f.script, .bool f.abroad]
def Fr.arr (f : Fr) : Array Value := f.cells.toArray
def askA (f : Fr) (now : Int) : Array Value := (f.cells ++ [Value.int .i64 now]).toArray
def readyE (f : Fr) (now : Int) : Int := if (!hostF f.host) = true ∨ ¬ [47] <+: f.path ∨ (!letF f.path) = true ∨ ibF f.path 59 ≥ 0 ∨ (f.path.length : Int) > 400 then 1 else if ¬ isM now then 3 else 0
def pathF (p q : List UInt8) : Bool := if q <+: p then (if p.drop q.length = [] then true else (decide ([47] <:+ q) || decide ((p.drop q.length).getD 0 0 = 47))) else false
def mayA (f : Fr) (c : Ck) : Bool := !((c.secure && !f.secure) || (c.httpOnly && f.script) || (f.abroad && decide (c.site ≠ 1)))
def atF (ad : List UInt8 → Bool) (f : Fr) (c : Ck) : Bool := if c.hostOnly = true then decide (f.host = c.domain) else matchF ad f.host c.domain
def askB (ad : List UInt8 → Bool) (f : Fr) (now : Int) (c : Ck) (s : Nat) : Bool := if s = 0 then decide (c.expiry > now) else if s = 1 then atF ad f c else if s = 2 then pathF f.path c.path else mayA f c
def goesF (ad : List UInt8 → Bool) (f : Fr) (now : Int) (c : Ck) : Bool := decide (c.expiry > now) && (atF ad f c && (pathF f.path c.path && mayA f c))
theorem goesF_no {ad : List UInt8 → Bool} {f : Fr} {now : Int} {c : Ck} {s : Nat} (hs : s < 4) (h : askB ad f now c s = false) : goesF ad f now c = false := by
  match s, hs with
  | 0, _ => have : decide (c.expiry > now) = false := h; simp only [goesF, this, Bool.false_and]
  | 1, _ => have : atF ad f c = false := h; simp only [goesF, this, Bool.false_and, Bool.and_false]
  | 2, _ => have : pathF f.path c.path = false := h; simp only [goesF, this, Bool.false_and, Bool.and_false]
  | 3, _ => have : mayA f c = false := h; simp only [goesF, this, Bool.and_false]
theorem goesF_yes {ad : List UInt8 → Bool} {f : Fr} {now : Int} {c : Ck} (h : ∀ s, s < 4 → askB ad f now c s = true) : goesF ad f now c = true := by
  have h0 : decide (c.expiry > now) = true := h 0 (by omega)
  have h1 : atF ad f c = true := h 1 (by omega)
  have h2 : pathF f.path c.path = true := h 2 (by omega)
  have h3 : mayA f c = true := h 3 (by omega)
  simp only [goesF, h0, h1, h2, h3, Bool.and_self]
/-! ## Sorting -/
section
variable {α : Type}
def posI (f : α → α → Int) (d : α) (p : List α) (x : α) : Nat → Nat
  | 0 => 0
  | j + 1 => if f x (p.getD j d) < 0 then posI f d p x j else j + 1
def insI (f : α → α → Int) (d : α) (p : List α) (x : α) : List α := p.take (posI f d p x p.length) ++ x :: p.drop (posI f d p x p.length)
def sortT (f : α → α → Int) (d : α) (l : List α) : Nat → List α
  | 0 => []
  | s + 1 => insI f d (sortT f d l s) (l.getD s d)
def sortL (f : α → α → Int) (d : α) (l : List α) : List α := sortT f d l l.length
theorem posI_le (f : α → α → Int) (d : α) (p : List α) (x : α) : ∀ j, posI f d p x j ≤ j
  | 0 => Nat.le_refl _
  | j + 1 => by
    unfold posI
    split
    · have := posI_le f d p x j; omega
    · omega
theorem insI_len (f : α → α → Int) (d : α) (p : List α) (x : α) : (insI f d p x).length = p.length + 1 := by
  have := posI_le f d p x p.length
  simp [insI]; omega
theorem sortT_len (f : α → α → Int) (d : α) (l : List α) : ∀ s, (sortT f d l s).length = s
  | 0 => rfl
  | s + 1 => by rw [sortT, insI_len, sortT_len f d l s]
/-- The list in the midst of an insertion: x stands at place j. -/
def midL (p : List α) (x : α) (r : List α) (j : Nat) : List α := p.take j ++ x :: p.drop j ++ r
theorem midL_start {p : List α} {x : α} {r : List α} : midL p x r p.length = p ++ x :: r := by simp [midL]
theorem midL_at {p : List α} {x : α} {r : List α} {j : Nat} (hj : j ≤ p.length) : (midL p x r j)[j]? = some x := by
  unfold midL
  rw [List.append_assoc, List.getElem?_append_right (by rw [List.length_take]; omega)]
  simp [Nat.min_eq_left hj]
theorem midL_pre {p : List α} {x : α} {r : List α} {j : Nat} {y : α} (hy : p[j]? = some y) : (midL p x r (j + 1))[j]? = some y := by
  have hlt := (List.getElem?_eq_some_iff.1 hy).1
  unfold midL
  have h1 : j < (p.take (j + 1)).length := by rw [List.length_take]; omega
  rw [List.append_assoc, List.getElem?_append_left h1, List.getElem?_take_of_lt (by omega)]
  exact hy
theorem midL_len {p : List α} {x : α} {r : List α} {j : Nat} (hj : j ≤ p.length) : (midL p x r j).length = p.length + 1 + r.length := by
  simp [midL]; omega
theorem midL_swap {p : List α} {x : α} {r : List α} {j : Nat} {y : α} (hy : p[j]? = some y) : ((midL p x r (j + 1)).set (j + 1) y).set j x = midL p x r j := by
  obtain ⟨hlt, he⟩ := List.getElem?_eq_some_iff.1 hy
  have h1 : (p.take j).length = j := by rw [List.length_take, Nat.min_eq_left (Nat.le_of_lt hlt)]
  have e1 : midL p x r (j + 1) = p.take j ++ (y :: x :: (p.drop (j + 1) ++ r)) := by
    unfold midL
    rw [List.take_succ_eq_append_getElem hlt, he]
    simp
  have e2 : midL p x r j = p.take j ++ (x :: y :: (p.drop (j + 1) ++ r)) := by
    unfold midL
    rw [List.drop_eq_getElem_cons hlt, he]
    simp
  rw [e1, e2, List.set_append_right (j + 1) _ (by rw [h1]; omega), List.set_append_right j _ (by rw [h1]; omega), h1, Nat.sub_self, Nat.add_sub_cancel_left]
  rfl
end
def cmpS (a b : Ck) : Int := orF [cmpF (b.path.length : Int) (a.path.length : Int), cmpF a.created b.created, cmpF a.no b.no]
def sortC (l : List Ck) : List Ck := sortL cmpS Ck.none_ l
end Go.Gx
