/- This text proves: the step laws and the plain functions that the walks of this claim stand on. No condition beyond those that each theorem names. -/
import Derived.Test.YtgehghoammpiaaaGreatDoorGy0
namespace Go.Gx
def adC : Ck := { identC with name := [97, 100, 95, 120], no := 1, expiry := 5000 }
def adC1 : Ck := { adC with expiry := 1050 }
def jB : Ja := ⟨[identC, adC], 2⟩
def nilG : Co := ⟨0, fun _ => false, []⟩
theorem bM (ad : List UInt8 → Bool) : matchF ad [115, 104, 111, 112, 46, 99, 111, 109] [97, 100, 115, 46, 99, 111, 109] = false := by
  have h2 : decide ((46 : UInt8) :: [97, 100, 115, 46, 99, 111, 109] <:+ [115, 104, 111, 112, 46, 99, 111, 109]) = false := by decide
  unfold matchF
  rw [h2, Bool.and_false, Bool.or_false]
  decide
theorem bK1 (ad : List UInt8 → Bool) : kindF ad rulesP identC = (0, 0) := by
  have e1 : namesF ad identC ⟨2, [97, 100, 95], 4, 9⟩ = false := rfl
  have e2 : namesF ad identC ⟨4, [97, 100, 115, 46, 99, 111, 109], 2, 3⟩ = false := bM ad
  have e3 : namesF ad identC ⟨1, [105, 100], 0, 0⟩ = true := rfl
  simp only [kindF, rulesP, List.find?_cons, e1, e2, e3]
theorem bK2 (ad : List UInt8 → Bool) : kindF ad rulesP adC = (4, 9) := by
  have e1 : namesF ad adC ⟨2, [97, 100, 95], 4, 9⟩ = true := rfl
  simp only [kindF, rulesP, List.find?_cons, e1]
theorem bL1 (ad : List UInt8 → Bool) (g : Co) : letsF ad rulesP g identC = true := by simp [letsF, bK1, mayF]
theorem bL2 (ad : List UInt8 → Bool) : letsF ad rulesP agreedG adC = true := by unfold letsF; rw [bK2]; rfl
theorem bL3 (ad : List UInt8 → Bool) : letsF ad rulesP nilG adC = false := by unfold letsF; rw [bK2]; rfl
theorem bC1 (ad : List UInt8 → Bool) : clampF ad rulesP identC = identC := by
  have : capF ad rulesP identC = 1100 := by unfold capF; rw [bK1]; decide
  unfold clampF; rw [this]; decide
theorem bC2 (ad : List UInt8 → Bool) : clampF ad rulesP adC = adC1 := by
  have : capF ad rulesP adC = 1050 := by unfold capF; rw [bK2]; decide
  unfold clampF; rw [this]; decide
theorem bE1 : purgeE jB rulesP agreedG 1010 = 0 := by decide
theorem bE2 : purgeE jB rulesP nilG 1010 = 0 := by decide
theorem bJ1 (ad : List UInt8 → Bool) : purgeJ ad jB rulesP agreedG 1010 = ⟨[identC, adC1], 2⟩ := by
  have h1 : (identC.expiry > 1010) := by decide
  have h2 : (adC1.expiry > 1010) := by decide
  unfold purgeJ; rw [bE1, if_neg (by simp)]
  simp only [keepL, jB, List.filter_cons, List.filter_nil, bL1, bL2, if_true, List.map_cons, List.map_nil, bC1, bC2, h1, h2, decide_true]
theorem bJ2 (ad : List UInt8 → Bool) : purgeJ ad jB rulesP nilG 1010 = ⟨[identC], 2⟩ := by
  have h1 : (identC.expiry > 1010) := by decide
  unfold purgeJ; rw [bE2, if_neg (by simp)]
  simp only [keepL, jB, List.filter_cons, List.filter_nil, bL1, bL3, if_true, if_false, Bool.false_eq_true, List.map_cons, List.map_nil, bC1, h1, decide_true]
theorem bN1 (ad : List UInt8 → Bool) : purgeN ad jB rulesP agreedG 1010 = 0 := by
  have := bJ1 ad
  unfold purgeJ at this
  unfold purgeN
  rw [bE1, if_neg (by simp)] at this ⊢
  injection this with h _
  rw [h]; rfl
theorem bN2 (ad : List UInt8 → Bool) : purgeN ad jB rulesP nilG 1010 = 1 := by
  have := bJ2 ad
  unfold purgeJ at this
  unfold purgeN
  rw [bE2, if_neg (by simp)] at this ⊢
  injection this with h _
  rw [h]; rfl
theorem bG1 (ad : List UInt8 → Bool) : gateE ad rulesP nilG adC = 8 := by
  have h1 : rightE rulesP nilG = 0 := by decide
  have h2 : isM adC.created := by decide
  unfold gateE; rw [h1, if_neg (by simp), if_neg (fun h => h h2), bL3]; rfl
theorem bG2 (ad : List UInt8 → Bool) : gateE ad rulesP agreedG adC = 0 := by
  have h1 : rightE rulesP agreedG = 0 := by decide
  have h2 : isM adC.created := by decide
  unfold gateE; rw [h1, if_neg (by simp), if_neg (fun h => h h2), bL2, if_neg (by simp)]
theorem bH1 (ad : List UInt8 → Bool) : gateC ad rulesP nilG adC = .none_ := by unfold gateC; rw [bG1]; rfl
theorem bH2 (ad : List UInt8 → Bool) : gateC ad rulesP agreedG adC = adC1 := by unfold gateC; rw [bG2, if_neg (by simp), bC2]
theorem rulesP_ok : rulesP.ok := by unfold Po.ok; decide
theorem jB_ok : jB.ok := by unfold Ja.ok Ck.ok; decide
theorem adC_ok : adC.ok := by unfold Ck.ok; decide
end Go.Gx
