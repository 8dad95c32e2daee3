/- This text proves: the step laws and the plain functions that the walks of this claim stand on. No condition beyond those that each theorem names. -/
import Derived.Test.YtgehghoammpiaaaGreatDoorGy8
import Derived.Lib.AtoiAll
import Derived.Lib.ItoaNum
import Derived.Lib.LaidTab
import Derived.Lib.AtoiErrMem
import Derived.Lib.AppendIntMem
import Derived.WalkSmall
namespace Go.Gx
open Go.RowKit
section
variable {P : Program} {W0 : World} {N : Nat} {E : List (Nat × Value)} {H : List Res}
def ifaceT (P : Program) (t : TypeId) : Bool := match P.underlying t with | some (.interface _) => true | _ => false
/-- 'x != nil' of an interface that holds nothing, or something. -/
theorem y_ifne {d t t' ty : Nat} {pos : _} {aft : _} {x : Operand} {v : Value} {b : Bool} (hT : ifaceT P t = true) (hx : ev E x = some v) (hv : (b = false ∧ v = .nilIface) ∨ (b = true ∧ ∃ u z, v = .iface u z)) : Yl P W0 N E H ⟨some d, .binOp .neq t x (.const .nilIface) t', ty, pos, aft, none⟩ (.bool b) := by
  intro a w ha
  have hy : a.eval (.const .nilIface) = Value.nilIface := rfl
  obtain ⟨ms, hi⟩ : ∃ ms, P.underlying t = some (.interface ms) := by
    unfold ifaceT at hT
    split at hT
    · rename_i ms h; exact ⟨ms, h⟩
    · cases hT
  have h1 : ∀ d, (Op.equalIn (d + 1) t v .nilIface).run P w = .ok (!b) w := by
    intro d
    rcases hv with ⟨rfl, rfl⟩ | ⟨rfl, u, z, rfl⟩ <;> simp [Op.equalIn, run_underlying hi]
  have h2 : (eqGuard .neq t x (.const .nilIface) v .nilIface).run P w = .ok () w := by
    rcases hv with ⟨rfl, rfl⟩ | ⟨rfl, u, z, rfl⟩ <;> simp [eqGuard]
  have h3 : (binOp .neq t v .nilIface).run P w = .ok (.bool b) w := by
    have := h1 9999
    simp only [binOp, Op.equal, Op.maxDepth, Sem.run_bind]
    rw [show (10000 : Nat) = 9999 + 1 from rfl, this]
    cases b <;> rfl
  simp only [execOp, ha.eval hx, hy, Sem.run_bind, h2, h3, Result.andThen_ok]
  first | rfl | (congr 1; rw [heapAfter_none]; done) | simp
end
/-! ## Numbers out of texts -/
def atOk (s : List UInt8) : Bool := match Lib.atoiAll s with | .ok _ => true | _ => false
def atV (s : List UInt8) : Int := match Lib.atoiAll s with | .ok v => v | .range => Lib.atoiSat s | _ => 0
def AtE (s : List UInt8) (e : Value) : Prop := (atOk s = true ∧ e = .nilIface) ∨ (atOk s = false ∧ ∃ u z, e = .iface u z)
theorem AtE.ne {s : List UInt8} {e : Value} (h : AtE s e) : ((!atOk s) = false ∧ e = .nilIface) ∨ ((!atOk s) = true ∧ ∃ u z, e = .iface u z) := by
  rcases h with ⟨h, h'⟩ | ⟨h, h'⟩ <;> rw [h] <;> simp [h']
theorem atV_range (s : List UInt8) : -9223372036854775808 ≤ atV s ∧ atV s ≤ 9223372036854775807 := by
  unfold atV
  split
  · rename_i v h
    unfold Lib.atoiAll at h
    split at h
    · cases h
    · dsimp only at h
      split at h
      · cases h
      · cases h
      · split at h
        · cases h
        · split at h
          · cases h
          · injection h with h
            split at h <;> omega
  · unfold Lib.atoiSat
    split <;> omega
  · omega
def TabsOk (P : Program) (w : World) : Prop :=
  (∃ t p, w.var? P "strconv.ErrSyntax" = some #[.iface t p]) ∧ (∃ t p, w.var? P "strconv.ErrRange" = some #[.iface t p]) ∧ Lib.TabIs P w "internal/strconv.uint64pow10" .u64 Lib.pow10Tab
theorem var?_above {P : Program} {W W' : World} {n : String} {cs : Array Value} (h : Below W.heap.size W W') (hv : W.var? P n = some cs) : W'.var? P n = some cs := by
  have hg : ∃ g, P.globalNamed n = some g ∧ g < W.heap.size := by
    unfold World.var? at hv
    obtain ⟨g, hg, h2⟩ := Option.bind_eq_some_iff.1 hv
    refine ⟨g, hg, ?_⟩
    rcases Nat.lt_or_ge g W.heap.size with hlt | hge
    · exact hlt
    · rw [Array.getElem?_eq_none hge] at h2; cases h2
  obtain ⟨g, hg, hlt⟩ := hg
  exact var?_below h hg hlt hv
theorem TabsOk.above {P : Program} {W W' : World} (h : TabsOk P W) (hb : Below W.heap.size W W') : TabsOk P W' := by
  obtain ⟨⟨t, p, h1⟩, ⟨t2, p2, h2⟩, h3⟩ := h
  exact ⟨⟨t, p, var?_above hb h1⟩, ⟨t2, p2, var?_above hb h2⟩, var?_above hb h3⟩
/-- One part of an address. -/
def partA (s : List UInt8) : Bool := atOk s && decide (atV s ≤ 255) && decide (Lib.itoa (atV s) = s) && decide (0 ≤ atV s)
theorem partA_f {v : List UInt8} (h : (!atOk v) = true ∨ atV v > 255 ∨ Lib.itoa (atV v) ≠ v ∨ atV v < 0) : partA v = false := by
  cases hp : partA v with
  | false => rfl
  | true =>
    unfold partA at hp
    simp only [Bool.and_eq_true, decide_eq_true_eq] at hp
    obtain ⟨⟨⟨h1, h2⟩, h3⟩, h4⟩ := hp
    rcases h with h | h | h | h
    · rw [h1] at h; cases h
    · omega
    · exact absurd h3 h
    · omega
theorem partA_t {v : List UInt8} (h1 : (!atOk v) = false) (h2 : ¬atV v > 255) (h3 : ¬Lib.itoa (atV v) ≠ v) (h4 : ¬atV v < 0) : partA v = true := by
  unfold partA
  simp only [Bool.and_eq_true, decide_eq_true_eq]
  exact ⟨⟨⟨by simpa using h1, by omega⟩, Decidable.not_not.1 h3⟩, by omega⟩
def addrF (h : List UInt8) : Bool := decide ((partsB 46 h).length = 4) && (partsB 46 h).all partA
theorem addrF_len {h : List UInt8} (hl : ¬((partsB 46 h).length : Int) = 4) : addrF h = false := by
  unfold addrF
  rw [decide_eq_false (by omega)]; rfl
theorem addrF_bad {h v : List UInt8} {s : Nat} (hv : (partsB 46 h)[s]? = some v) (hb : partA v = false) : addrF h = false := by
  unfold addrF
  rw [Bool.and_eq_false_iff]
  right
  rw [List.all_eq_false]
  exact ⟨v, List.mem_of_getElem? hv, by rw [hb]; simp⟩
theorem addrF_all {h : List UInt8} {s : Nat} (hl : ((partsB 46 h).length : Int) = 4) (hI : ∀ j, j < s → ∀ u, (partsB 46 h)[j]? = some u → (fun p => !partA p) u = false) (hs : (partsB 46 h).length ≤ s) : addrF h = true := by
  unfold addrF
  rw [Bool.and_eq_true]
  refine ⟨decide_eq_true (by omega), List.all_eq_true.2 ?_⟩
  intro x hx
  obtain ⟨j, hj⟩ := List.mem_iff_getElem?.1 hx
  have := (List.getElem?_eq_some_iff.1 hj).1
  have := hI j (by omega) x hj
  simpa using this
theorem addr_w : addrF wsh = false := by decide +kernel
end Go.Gx
