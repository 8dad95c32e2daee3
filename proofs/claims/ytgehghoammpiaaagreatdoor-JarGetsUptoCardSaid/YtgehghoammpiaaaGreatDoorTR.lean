/- This text proves: what the rows of the seat have in common. No condition beyond those that each theorem names. -/
import Derived.Test.YtgehghoammpiaaaGreatDoorCards
import Derived.Test.YtgehghoammpiaaaGreatDoorTie
import Derived.WalkKit
import Derived.ProofKit
import Derived.OpenShut
import Derived.Deep.DeepHandedRow
import Derived.Lib.LaidTab
import Derived.Stop.LaidErr
import Derived.JoinedCond
import Derived.Test.YtgehghoammpiaaaGreatDoorTA
import Derived.Test.YtgehghoammpiaaaGreatDoorTM2
namespace Go.Gx
open Go.ChangeShapes Go.WideShapes Go.ChangeAt Go.RowKit Go.Proofs Go.Proofs.YtgehghoammpiaaaGreatDoor
/-! ## What every law of this seat has in common: the laid variables, the witness, the frame -/
theorem own : ownKnob Tryz.prog.godebug = Option.none := by kernel_rfl
theorem gSyn : Tryz.prog.globalNamed "strconv.ErrSyntax" = some 1 := by kernel_rfl
theorem gSynT : (Tryz.prog.globals[1]?).map (·.type) = some 128 := by kernel_rfl
theorem gRan : Tryz.prog.globalNamed "strconv.ErrRange" = some 2 := by kernel_rfl
theorem gRanT : (Tryz.prog.globals[2]?).map (·.type) = some 128 := by kernel_rfl
theorem gTab : Tryz.prog.globalNamed "internal/strconv.uint64pow10" = some 3 := by kernel_rfl
theorem gTabT : (Tryz.prog.globals[3]?).map (·.type) = some 195 := by kernel_rfl
theorem star : "*" ++ "errors.errorString" = "*errors.errorString" := by decide
theorem rowErr (u : TypeId) (h : Tryz.prog.typeName? 3 u = some "*errors.errorString") : u = 191 :=
  typeName_ptr_named (nm := "errors.errorString") (by rw [star]; kernel_rfl) (by kernel_rfl) (by decide) u (by rw [star]; exact h)
theorem cErr : Tryz.prog.cellsOf 193 = 1 := by kernel_rfl
theorem cTab : Tryz.prog.cellsOf 195 = 20 := by kernel_rfl
theorem cU64 : Tryz.prog.cellsOf 179 = 1 := by kernel_rfl
noncomputable def laidL : List (String × DataW Unit) := Rows.jarTellsUptoRow.laid
theorem pow10_data : Lib.tabData .u64 Lib.pow10Tab = Rows.laid_internal_strconv_uint64pow10 (H := Unit) := by kernel_rfl
/-- WHAT THE ROW's LIST GIVES. -/
theorem tabs {W : World} (h : laidMetH Tryz.prog laidL W) : TabsOk Tryz.prog W := by
  have h0 : laidMet Tryz.prog laidL W := h
  have h2 := laidMet.tail (laidMet.tail h0)
  have h3 := laidMet.tail h2
  have h4 := laidMet.tail h3
  obtain ⟨a1, s1, e1, _⟩ := laid_sentinel h3 gRan gRanT Tryz.underlying128 rowErr Tryz.underlying191 Tryz.underlying193 rfl rfl Tryz.underlying9 cErr cof2
  obtain ⟨a2, s2, e2, _⟩ := laid_sentinel h4 gSyn gSynT Tryz.underlying128 rowErr Tryz.underlying191 Tryz.underlying193 rfl rfl Tryz.underlying9 cErr cof2
  refine ⟨⟨_, _, e2⟩, ⟨_, _, e1⟩, ?_⟩
  rw [← pow10_data] at h2
  exact Lib.tabIs_of_head gTab gTabT Tryz.underlying195 Tryz.underlying179 cU64 cTab h2
theorem addrIs {W : World} (h : TabsOk Tryz.prog W) : AddrIs Tryz.prog 107 W addrF := fun w' hb l hl => address_c w' (h.above hb) hl
theorem kids : Kids Tryz.prog (· < Tryz.prog.types.size) := kids_rows (by kernel_rfl) (by kernel_rfl)
theorem full : ∀ t e, t < Tryz.prog.types.size → Tryz.prog.underlying t = some (.slice e) → 0 < Tryz.prog.cellsOf e := slices_full_of Tryz.prog (by kernel_rfl)
theorem tsz : Tryz.prog.types.size = 214 := by kernel_rfl
/-- THE WITNESS' WORLD: the settled one, the listed variables as their initialisers lay them. -/
noncomputable def low : Nat := (World.holding Tryz.prog default ⟨#[], #[], []⟩).heap.size
noncomputable def putV (h : Array Obj) (g : Nat) (cs : Array Value) : Array Obj := h.modify g fun
  | .cells _ t frozen => .cells cs t frozen
  | o => o
def numsOf : DataW Unit → Array Value
  | .agg l => (l.map fun | .lit (.int k n) => Value.int k n | _ => .nilIface).toArray
  | _ => #[]
noncomputable def laidWorld (os : Os) : World :=
  let w0 := World.holding Tryz.prog os ⟨#[.cells #[.string (B [118, 97, 108, 117, 101, 32, 111, 117, 116, 32, 111, 102, 32, 114, 97, 110, 103, 101])] 193, .cells #[.string (B [105, 110, 118, 97, 108, 105, 100, 32, 115, 121, 110, 116, 97, 120])] 193], #[], []⟩
  let h0 := putV (putV w0.heap 2 #[.iface 191 (.pointer (some ⟨low, 0, none⟩))]) 1 #[.iface 191 (.pointer (some ⟨low + 1, 0, none⟩))]
  { w0 with heap := putV (putV (putV h0 4 (numsOf Rows.laid_math_bits_deBruijn32tab)) 5 (numsOf Rows.laid_math_bits_deBruijn64tab)) 3 (numsOf Rows.laid_internal_strconv_uint64pow10) }
theorem laid_met (os : Os) (args : Array Value) : laidMet Tryz.prog laidL ((laidWorld os).forCall (fun _ _ => 0) ⟨#[], args, []⟩).memory :=
  laidMet_of_run' 8 (by kernel_rfl) (by kernel_rfl)
end Go.Gx
