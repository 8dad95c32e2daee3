/- This text proves: the step laws and the plain functions that the walks of this claim stand on. No condition beyond those that each theorem names. -/
import Derived.Test.YtgehghoammpiaaaGreatDoorGy7
namespace Go.Gx
/-! ## What the jar's laws begin with -/
instance : DecidableEq Ja := fun a b => decidable_of_iff (a.cks = b.cks ∧ a.next = b.next) (by
  obtain ⟨x, y⟩ := a; obtain ⟨z, u⟩ := b; simp)
def jE : Ja := ⟨[], 0⟩
def jA : Ja := ⟨[identC], 1⟩
def c8 : Ck := { identC with value := [56], created := 1005, used := 1005 }
def k8 : Ck := { c8 with created := 1000, no := 0 }
def jK : Ja := ⟨[k8], 1⟩
def u8 : Ck := { k8 with used := 1010 }
def jU : Ja := ⟨[u8], 1⟩
def jI : Ja := ⟨[identC], 0⟩
def wsh : List UInt8 := [119, 119, 119, 46, 115, 104, 111, 112, 46, 99, 111, 109]
def shopF : Fr := ⟨wsh, [47, 99, 97, 114, 116, 47, 97, 100, 100], true, false, false⟩
theorem jp1 : putJ jE identC 1000 = jA := by decide +kernel
theorem pe1 : putE jE identC 1000 = 0 := by decide +kernel
theorem jp2 : putJ jA c8 1005 = jK := by decide +kernel
theorem pe2 : putE jA c8 1005 = 0 := by decide +kernel
theorem jp3 : putJ jK identC 1060 = ⟨[], 2⟩ := by decide +kernel
theorem pe3 : putE jK identC 1060 = 0 := by decide +kernel
theorem jc4 : jarErr jI = 4 := by decide +kernel
theorem ge1 : getE jK shopF 1010 = 0 := by decide +kernel
theorem goK {ad : List UInt8 → Bool} (had : ad wsh = false) : goesF ad shopF 1010 k8 = true := by
  have h : matchF ad wsh [115, 104, 111, 112, 46, 99, 111, 109] = true := by
    unfold matchF; rw [had]; decide
  have h1 : atF ad shopF k8 = true := h
  unfold goesF
  rw [h1]; decide +kernel
theorem gj1 {ad : List UInt8 → Bool} (had : ad wsh = false) : getJ ad jK shopF 1010 = jU := by
  have h := goK had
  unfold getJ
  rw [ge1, if_neg (by simp)]
  simp only [usedL, jK, List.map_cons, List.map_nil, usedC, h, if_true]
  rfl
theorem gl1 {ad : List UInt8 → Bool} (had : ad wsh = false) : getL ad jK shopF 1010 = [u8] := by
  have h := goK had
  unfold getL
  rw [ge1, if_neg (by simp)]
  simp only [toldL, jK, List.filter_cons, List.filter_nil, h, if_true, List.map_cons, List.map_nil]
  rfl
theorem jE_ok : jE.ok := by unfold Ja.ok jE; simp
theorem jA_ok : jA.ok := by unfold Ja.ok Ck.ok; decide
theorem jK_ok : jK.ok := by unfold Ja.ok Ck.ok; decide
theorem jI_ok : jI.ok := by unfold Ja.ok Ck.ok; decide
end Go.Gx
