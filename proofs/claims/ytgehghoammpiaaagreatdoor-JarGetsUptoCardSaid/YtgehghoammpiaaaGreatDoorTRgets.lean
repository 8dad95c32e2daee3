/- This text proves: the law holds: its row and its card. No condition beyond those that each theorem names. -/
import Derived.Test.YtgehghoammpiaaaGreatDoorTR
import Derived.Test.YtgehghoammpiaaaGreatDoorTM2
namespace Go.Gx
open Go.ChangeShapes Go.WideShapes Go.ChangeAt Go.RowKit Go.Proofs Go.Proofs.YtgehghoammpiaaaGreatDoor
namespace JarGetsRow
set_option maxRecDepth 100000 in
theorem contract (H : Type) (enc : TypeId × Value → H) (W : World) (base : Nat) (args : Array Value) (ds gs : List (DataW H)) (before : List MemPlace)
    (hval : ∀ (j : Nat) t v, Tryz.f4.params[j]? = some t → args[j]? = some v → Value.okWide Tryz.prog W .any base t v)
    (hW : DataW.Whole enc Tryz.prog Tryz.f4.params.toList Rows.jarGetsSpec.vars false W args.toList ds gs before) (hk : Rows.uptoSmall H (ds ++ gs) = true) (hL : laidMetH Tryz.prog laidL W) :
    Calls Tryz.prog 4 args W fun e W' => ∃ v, e = .returned v ∧ Rows.jarGetsSpec.post enc Tryz.prog Tryz.f4 false true false false W args v W' := by
  have hW' := hW
  obtain ⟨p, q, hA0, hV, rfl, hfz, hnd⟩ := hW
  have hA : DataW.TrodAll enc Tryz.prog W 0 (fun _ => true) true Tryz.f4.params.toList args.toList ds p := hA0
  rw [Tryz.params4] at hA hval
  obtain ⟨v0, vs0, d0, ds0, p0, q0, hargs, rfl, rfl, h0, r0⟩ := trodAll_cons hA
  obtain ⟨v1, vs1, d1, ds1, p1, q1, rfl, rfl, rfl, h1, r1⟩ := trodAll_cons r0
  obtain ⟨v2, vs2, d2, ds2, p2, q2, rfl, rfl, rfl, h2, r2⟩ := trodAll_cons r1
  obtain ⟨rfl, rfl, rfl⟩ := trodAll_nil r2
  obtain rfl : args = #[v0, v1, v2] := Array.ext' hargs
  obtain ⟨rfl, rfl⟩ := trodVars_none hV
  have hbk : Rows.uptoBulk d0 + (Rows.uptoBulk d1 + (Rows.uptoBulk d2 + 0)) ≤ 1048576 := by
    have := of_decide_eq_true hk
    simpa only [List.append_nil, Rows.uptoBulkAll] using this
  obtain ⟨c0, n0, rfl, g0⟩ := arg_agg hval 0 24 Tryz.underlying24 rfl rfl h0
  obtain ⟨j, A0, k0, e0, hk0, hJ0, hj0⟩ := open_ja g0
  obtain rfl : c0 = #[.slice A0 j.cks.length k0, .int .i64 j.next] := Array.ext' e0
  obtain ⟨c1, n1, rfl, g1⟩ := arg_agg hval 1 35 Tryz.underlying35 rfl rfl h1
  obtain ⟨f, e1, hf1⟩ := open_fr g1
  obtain rfl : c1 = f.arr := Array.ext' e1
  replace hf1 : f.host.length + f.path.length ≤ Rows.uptoBulk d1 := hf1
  obtain ⟨now, rfl, rfl, rfl, wn2⟩ := arg_int hval 2 3 Tryz.underlying3 rfl rfl h2
  have hb := tabs hL
  have walk := jarGets_c (j := j) (f := f) (now := now) W (addrIs hb) addr_w hJ0 (hj0.ok (by simp only; omega)) hk0 (by omega) (by omega)
  refine Calls.mono walk fun e W' hh => ?_
  obtain ⟨_, _, rfl, hm⟩ := hh
  refine ⟨_, rfl, _, _, _, [], _, [], hW', trodAll_cons_mk (shut_bool Tryz.underlying4 _) trodAll_mk0, carry_all hm.below (DataW.TrodAll.respare kids full (fun t ht => ?_) hA0 (fun x hx => decide_eq_true (hW'.lt x (List.mem_append_left _ hx)))), rfl, hm.below.frame _, fun h => by cases h⟩
  rw [tsz]
  rw [Tryz.params4] at ht
  have ht' : t = 24 ∨ t = 35 ∨ t = 3 := by simpa using ht
  rcases ht' with rfl | rfl | rfl <;> decide
def wArgs : Array Value := #[.agg #[.slice Option.none 0 0, .int .i64 0], .agg (⟨[], [], false, false, false⟩ : Fr).arr, .int .i64 0]
def wData {H : Type} : List (DataW H) := [.agg [.nil, .lit (.int .i64 0)], .agg [.lit (.string []), .lit (.string []), .lit (.bool false), .lit (.bool false), .lit (.bool false)], .lit (.int .i64 0)]
theorem reads (os : Os) {H : Type} (enc : TypeId × Value → H) : ∃ places, DataW.whole enc Tryz.prog ((laidWorld os).forCall (fun _ _ => 0) ⟨#[], wArgs, []⟩).memory Tryz.f4.params.toList Rows.jarGetsSpec.vars false wArgs.toList 8 = some (wData, [], places) :=
  ⟨[], by kernel_rfl⟩
set_option maxRecDepth 100000 in
theorem lifted (os : Os) (started : os.Started) (H : Type) (enc : TypeId × Value → H) (F : Stop.Interp) :
    ReturnsInHanded {} Tryz.checked os 4 .any ((Rows.OpenSpec.upto Rows.jarGetsSpec).preRow enc Tryz.prog Tryz.f4 Rows.jarGetsUptoRow.domain false Rows.jarGetsUptoRow.laid) (((Rows.OpenSpec.upto Rows.jarGetsSpec).at F).post enc Tryz.prog Tryz.f4 false true false false) := by
  obtain ⟨places, hx⟩ := reads os enc
  refine returnsInHanded_of_row (C := Tryz.checked) (s := Rows.OpenSpec.upto Rows.jarGetsSpec) own started (by kernel_rfl) Tryz.func4
    (witness_row_at (enc := enc) (C := Tryz.checked) false (laidWorld os) wArgs rfl (by kernel_rfl) (by kernel_rfl) (by kernel_rfl)
      (OpenSpec.preRow_of_cond 8 hx (by kernel_rfl) (fun k hk => by cases hk; kernel_rfl) (by kernel_rfl) (laid_met os wArgs))) ?_
  intro W base args ds gs before hval hW _ hk _ hL _ _
  exact contract H enc W base args ds gs before hval hW (hk _ rfl) hL
theorem said : Rows.JarGetsUptoSaid :=
  OpenClaim.holds_of_cond 4 Tryz.f4 rfl rfl rfl rfl rfl rfl rfl ⟨rfl, rfl, rfl, rfl, rfl⟩ rfl rfl rfl rfl rfl (by kernel_rfl) Tryz.func4 (by kernel_rfl)
    (of_decide_eq_true (by kernel_rfl)) (by unfold Func.isWrapper; first | (rw [if_pos (by decide +kernel)]; kernel_rfl) | (rw [if_neg (by decide +kernel)]; exact ⟨rfl, rfl⟩))
    (fun os started H enc _ F => by rw [OpenClaim.pre_eq_preRow]; exact lifted os started H enc F)
theorem named : Tryz.prog.funcNamed "gingersnap/gingersnaplaw.JarGets" = some 4 := by kernel_rfl
theorem plain (f : FuncId) (fn : Func) (hf : Tryz.pinned.checked.prog.funcNamed "gingersnap/gingersnaplaw.JarGets" = some f) (hfn : Tryz.pinned.checked.prog.funcs[f]? = some fn) :
    true = Tryz.pinned.checked.prog.looks [] ∧ ∀ (j : Nat) t, fn.params[j]? = some t → Tryz.pinned.checked.prog.wantsStandIn t = false := by
  obtain rfl : f = 4 := Option.some.inj (named.symm.trans hf) |>.symm
  obtain rfl : fn = Tryz.f4 := (Option.some.inj (Tryz.func4.symm.trans hfn)).symm
  refine ⟨by kernel_rfl, fun j t ht => ?_⟩
  rw [Tryz.params4] at ht
  have hm := Array.mem_of_getElem? ht
  have hm' : t = 24 ∨ t = 35 ∨ t = 3 := by simpa using hm
  rcases hm' with rfl | rfl | rfl
  · exact (show Tryz.prog.wantsStandIn 24 = false by kernel_rfl)
  · exact (show Tryz.prog.wantsStandIn 35 = false by kernel_rfl)
  · exact (show Tryz.prog.wantsStandIn 3 = false by kernel_rfl)
theorem card : Rows.JarGetsUptoCardSaid :=
  Claim7.holds_tied_plain_at .later [] _ _ _ _ said (fun _ h => by cases h) (by kernel_rfl) (fun _ h => by cases h) jarGetsUpto_row_tie rfl ⟨rfl, rfl⟩ (by kernel_rfl) rfl plain (by kernel_rfl)
end JarGetsRow
end Go.Gx

namespace Go.Proofs.YtgehghoammpiaaaGreatDoor
theorem jarGetsCard : Rows.JarGetsUptoCardSaid := Go.Gx.JarGetsRow.card
end Go.Proofs.YtgehghoammpiaaaGreatDoor
