/- This text proves: functions of the program, walked: what each answers, for every input. No condition beyond those that each theorem names. -/
import Derived.Test.YtgehghoammpiaaaGreatDoorProg
import Derived.Test.YtgehghoammpiaaaGreatDoorT6
import Derived.Test.YtgehghoammpiaaaGreatDoorGy7
import Derived.KernelRfl
namespace Go.Gx
open Go.Proofs Go.Maps
theorem ent78 : enters Tryz.prog 78 = true := by kernel_rfl
theorem ent79 : enters Tryz.prog 79 = true := by kernel_rfl
theorem agg35 : aggT Tryz.prog 35 5 = true := by kernel_rfl
theorem zero82 : zeroOf Tryz.prog 82 = some (.agg #[.string (B []), .string (B []), .bool false, .bool false, .bool false, .int .i64 0]) := by kernel_rfl
theorem bld82 : bldT Tryz.prog 82 = some [(0, 5), (5, 1)] := by kernel_rfl
theorem size82 : sizeT Tryz.prog 82 6 = true := by kernel_rfl
theorem agg82 : aggT Tryz.prog 82 6 = true := by kernel_rfl
theorem zero83 : zeroOf Tryz.prog 83 = some (.agg #[.nilFunc, .nilFunc, .nilFunc, .nilFunc]) := by kernel_rfl
theorem bld83 : bldT Tryz.prog 83 = some [(0, 1), (1, 1), (2, 1), (3, 1)] := by kernel_rfl
theorem arr83 : arrT Tryz.prog 83 4 60 = true := by kernel_rfl
theorem size60 : sizeT Tryz.prog 60 1 = true := by kernel_rfl
theorem one60 : oneT Tryz.prog 60 = true := by kernel_rfl
theorem ent50 : enters Tryz.prog 50 = true := by kernel_rfl
theorem ent51 : enters Tryz.prog 51 = true := by kernel_rfl
theorem ent52 : enters Tryz.prog 52 = true := by kernel_rfl
theorem ent53 : enters Tryz.prog 53 = true := by kernel_rfl
theorem ent46 : enters Tryz.prog 46 = true := by kernel_rfl
theorem ent22 : enters Tryz.prog 22 = true := by kernel_rfl
theorem ent25 : enters Tryz.prog 25 = true := by kernel_rfl

theorem ready_c {f : Fr} {now : Int} (w : World) (hf : f.host.length ≤ 1073741824) : Cv Tryz.prog 46 #[.agg f.arr, .int .i64 now] w (.int .i64 (readyE f now)) := by
  refine enter (E := [(0, .agg f.arr), (1, .int .i64 now)]) Tryz.func46 rfl Tryz.ntmps46 rfl (by simp) ?_
  refine c_seq ?_
  refine c_region rfl ?_
  refine l_boxA rfl rfl ?_; intro g2
  refine gv rfl (y_assign rfl) ?_
  refine l_nil ?_
  refine q_then ?_
  refine c_seq ?_
  refine c_block ?_
  refine c_seq ?_
  refine c_seq ?_
  refine c_region rfl ?_
  refine gv rfl (y_faddr off35_0 rfl rfl) ?_
  refine gv rfl (y_load (k := 0)  one9 rfl rfl rfl) ?_
  refine l_callU rfl ent76 rfl (fun w hm => host_c w hf) ?_
  refine gv rfl (y_not rfl rfl) ?_
  refine gv rfl (y_assign rfl) ?_
  refine l_nil ?_
  refine q_then ?_
  refine c_bool rfl ?_ ?_
  · intro h5
    refine c_skip ?_
    refine q_then ?_
    refine c_cond_t rfl ?_
    refine c_seq ?_
    refine c_region rfl ?_
    refine gv rfl (y_assign rfl) ?_
    refine l_nil ?_
    refine q_then ?_
    refine c_ret ?_
    refine q_block_ret (q_then_ret ?_)
    exact q_ret1 Tryz.results46 rfl () trivial (congrArg (Value.int .i64) (by unfold readyE; rw [if_pos (by first | exact .inl h5 | exact .inr (.inl h5) | exact .inr (.inr (.inl h5)) | exact .inr (.inr (.inr (.inl h5))) | exact .inr (.inr (.inr (.inr h5))))])) hs_nil
  · intro h5
    have q1 := h5
    refine c_seq ?_
    refine c_region rfl ?_
    refine gv rfl (y_faddr off35_1 rfl rfl) ?_
    refine gv rfl (y_load (k := 0)  one9 rfl rfl rfl) ?_
    refine l_callU rfl ent77 rfl (fun w hm => hasPrefix_c (l := f.path) (m := [47]) w) ?_
    refine gv rfl (y_not rfl rfl) ?_
    refine gv rfl (y_assign rfl) ?_
    refine l_nil ?_
    refine q_then ?_
    refine c_ndec rfl ?_ ?_
    · intro h5
      refine c_skip ?_
      refine q_then ?_
      refine c_cond_t rfl ?_
      refine c_seq ?_
      refine c_region rfl ?_
      refine gv rfl (y_assign rfl) ?_
      refine l_nil ?_
      refine q_then ?_
      refine c_ret ?_
      refine q_block_ret (q_then_ret ?_)
      exact q_ret1 Tryz.results46 rfl () trivial (congrArg (Value.int .i64) (by unfold readyE; rw [if_pos (by first | exact .inl h5 | exact .inr (.inl h5) | exact .inr (.inr (.inl h5)) | exact .inr (.inr (.inr (.inl h5))) | exact .inr (.inr (.inr (.inr h5))))])) hs_nil
    · intro h5
      have q2 := h5
      refine c_seq ?_
      refine c_region rfl ?_
      refine gv rfl (y_faddr off35_1 rfl rfl) ?_
      refine gv rfl (y_load (k := 0)  one9 rfl rfl rfl) ?_
      refine l_callU rfl ent78 rfl (fun w hm => let_c w) ?_
      refine gv rfl (y_not rfl rfl) ?_
      refine gv rfl (y_assign rfl) ?_
      refine l_nil ?_
      refine q_then ?_
      refine c_bool rfl ?_ ?_
      · intro h5
        refine c_skip ?_
        refine q_then ?_
        refine c_cond_t rfl ?_
        refine c_seq ?_
        refine c_region rfl ?_
        refine gv rfl (y_assign rfl) ?_
        refine l_nil ?_
        refine q_then ?_
        refine c_ret ?_
        refine q_block_ret (q_then_ret ?_)
        exact q_ret1 Tryz.results46 rfl () trivial (congrArg (Value.int .i64) (by unfold readyE; rw [if_pos (by first | exact .inl h5 | exact .inr (.inl h5) | exact .inr (.inr (.inl h5)) | exact .inr (.inr (.inr (.inl h5))) | exact .inr (.inr (.inr (.inr h5))))])) hs_nil
      · intro h5
        have q3 := h5
        refine c_seq ?_
        refine c_region rfl ?_
        refine gv rfl (y_faddr off35_1 rfl rfl) ?_
        refine gv rfl (y_load (k := 0)  one9 rfl rfl rfl) ?_
        refine l_callU rfl ent79 rfl (fun w hm => contains1_c (l := f.path) (b := 59) w) ?_
        refine gv rfl (y_assign rfl) ?_
        refine l_nil ?_
        refine q_then ?_
        refine c_dec rfl ?_ ?_
        · intro h5
          refine c_skip ?_
          refine q_then ?_
          refine c_cond_t rfl ?_
          refine c_seq ?_
          refine c_region rfl ?_
          refine gv rfl (y_assign rfl) ?_
          refine l_nil ?_
          refine q_then ?_
          refine c_ret ?_
          refine q_block_ret (q_then_ret ?_)
          exact q_ret1 Tryz.results46 rfl () trivial (congrArg (Value.int .i64) (by unfold readyE; rw [if_pos (by first | exact .inl h5 | exact .inr (.inl h5) | exact .inr (.inr (.inl h5)) | exact .inr (.inr (.inr (.inl h5))) | exact .inr (.inr (.inr (.inr h5))))])) hs_nil
        · intro h5
          have q4 := h5
          refine c_region rfl ?_
          refine gv rfl (y_faddr off35_1 rfl rfl) ?_
          refine gv rfl (y_load (k := 0)  one9 rfl rfl rfl) ?_
          refine gv rfl (y_slen Tryz.underlying9 rfl rfl) ?_
          refine gv rfl (y_gtr rfl rfl) ?_
          refine gv rfl (y_assign rfl) ?_
          refine l_nil ?_
          refine q_then ?_
          refine c_dec rfl ?_ ?_
          · intro h5
            refine c_seq ?_
            refine c_region rfl ?_
            refine gv rfl (y_assign rfl) ?_
            refine l_nil ?_
            refine q_then ?_
            refine c_ret ?_
            refine q_block_ret (q_then_ret ?_)
            exact q_ret1 Tryz.results46 rfl () trivial (congrArg (Value.int .i64) (by unfold readyE; rw [if_pos (by first | exact .inl h5 | exact .inr (.inl h5) | exact .inr (.inr (.inl h5)) | exact .inr (.inr (.inr (.inl h5))) | exact .inr (.inr (.inr (.inr h5))))])) hs_nil
          · intro h5
            have q5 := h5
            refine c_seq ?_
            refine c_region rfl ?_
            refine gv rfl (y_move rfl) ?_
            refine l_callU rfl ent30 rfl (fun w hm => is_c w) ?_
            refine gv rfl (y_not rfl rfl) ?_
            refine gv rfl (y_assign rfl) ?_
            refine l_nil ?_
            refine q_then ?_
            refine c_ndec rfl ?_ ?_
            · intro h25
              refine c_seq ?_
              refine c_region rfl ?_
              refine gv rfl (y_assign rfl) ?_
              refine l_nil ?_
              refine q_then ?_
              refine c_ret ?_
              refine q_block_ret (q_then_ret ?_)
              exact q_ret1 Tryz.results46 rfl () trivial (congrArg (Value.int .i64) (by unfold readyE; rw [if_neg (by intro h; rcases h with h | h | h | h | h; rw [q1] at h; cases h; exact h q2; rw [q3] at h; cases h; exact q4 h; exact q5 h), if_pos h25])) hs_nil
            · intro h25
              refine c_skip ?_
              refine q_block (q_then ?_)
              refine c_seq ?_
              refine c_region rfl ?_
              refine gv rfl (y_assign rfl) ?_
              refine l_nil ?_
              refine q_then ?_
              refine c_ret ?_
              exact q_ret1 Tryz.results46 rfl () trivial (congrArg (Value.int .i64) (by unfold readyE; rw [if_neg (by intro h; rcases h with h | h | h | h | h; rw [q1] at h; cases h; exact h q2; rw [q3] at h; cases h; exact q4 h; exact q5 h), if_neg (fun h => h h25)])) hs_nil

def askV (f : Fr) (now : Int) (s : Nat) : Value := .func (.func (if s = 0 then 50 else if s = 1 then 51 else if s = 2 then 52 else 53)) #[.agg (askA f now)] #[]
theorem askV_fn {ad : List UInt8 → Bool} {f : Fr} {now : Int} {c : Ck} {s : Nat} (hs : s < 4) (w : World) (hAd : AddrIs Tryz.prog 107 w ad) (hf : f.host.length ≤ 1073741824) (hc : c.domain.length ≤ 1073741824) (hp : c.path.length ≤ 1073741824) : FnV Tryz.prog w (askV f now s) [.agg c.arr] (.bool (askB ad f now c s)) := by
  match s, hs with
  | 0, _ => exact FnV.mk (fs := [.agg (askA f now)]) (cs := []) ent50 (fun w' hb => askLive_c w')
  | 1, _ => exact FnV.mk (fs := [.agg (askA f now)]) (cs := []) ent51 (fun w' hb => askAt_c w' (hAd.above hb) hf hc)
  | 2, _ => exact FnV.mk (fs := [.agg (askA f now)]) (cs := []) ent52 (fun w' hb => askAlong_c w' hp)
  | 3, _ => exact FnV.mk (fs := [.agg (askA f now)]) (cs := []) ent53 (fun w' hb => askMay_c w')
theorem askV_at {f : Fr} {now : Int} {s : Nat} (hs : s < 4) : (#[askV f now 0, askV f now 1, askV f now 2, askV f now 3] : Array Value)[((s : Int)).toNat]? = some (askV f now s) := by
  match s, hs with
  | 0, _ | 1, _ | 2, _ | 3, _ => rfl
theorem goes_c {ad : List UInt8 → Bool} {f : Fr} {now : Int} {c : Ck} (w : World) (hAd : AddrIs Tryz.prog 107 w ad) (hf : f.host.length ≤ 1073741824) (hc : c.domain.length ≤ 1073741824) (hp : c.path.length ≤ 1073741824) : Cv Tryz.prog 22 #[.agg c.arr, .agg f.arr, .int .i64 now] w (.bool (goesF ad f now c)) := by
  refine enter (E := [(0, .agg c.arr), (1, .agg f.arr), (2, .int .i64 now)]) Tryz.func22 rfl Tryz.ntmps22 rfl (by simp) ?_
  refine c_seq ?_
  refine c_region rfl ?_
  refine l_boxA rfl rfl ?_; intro g3
  refine l_boxA rfl rfl ?_; intro g4
  refine gv rfl (y_assign rfl) ?_
  refine l_nil ?_
  refine q_then ?_
  refine c_seq ?_
  refine c_region rfl ?_
  refine gv rfl (y_loadW (k := 0)  agg35 rfl rfl rfl) ?_
  refine gv rfl (y_move rfl) ?_
  refine gv rfl (y_build (cs := #[_, _, _, _, _, _]) (cl := [_, _, _, _, _, _])  zero82 bld82 rfl rfl rfl rfl rfl) ?_
  refine l_allocA rfl zero82 ?_; intro g7
  refine l_storeW (k := 0) (H' := [_, _, _]) size82 rfl rfl rfl rfl rfl rfl rfl ?_
  refine l_nil ?_
  refine q_then ?_
  refine c_seq ?_
  refine c_seq ?_
  refine c_region rfl ?_
  refine gv rfl (y_loadW (k := 0)  agg82 rfl rfl rfl) ?_
  refine gv rfl (y_mkfn2 rfl rfl) ?_
  refine gv rfl (y_loadW (k := 0)  agg82 rfl rfl rfl) ?_
  refine gv rfl (y_mkfn2 rfl rfl) ?_
  refine gv rfl (y_loadW (k := 0)  agg82 rfl rfl rfl) ?_
  refine gv rfl (y_mkfn2 rfl rfl) ?_
  refine gv rfl (y_loadW (k := 0)  agg82 rfl rfl rfl) ?_
  refine gv rfl (y_mkfn2 rfl rfl) ?_
  refine gv rfl (y_build (cs := #[_, _, _, _]) (cl := [_, _, _, _])  zero83 bld83 rfl rfl rfl rfl rfl) ?_
  refine gv rfl (y_move rfl) ?_
  refine l_nil ?_
  refine q_then ?_
  refine c_block ?_
  refine loop (Ef := [(3, _), (21, _)]) (Hf := [_, _, _]) (fun s : Nat => s ≤ 4 ∧ ∀ j, j < s → askB ad f now c j = true) (fun s : Nat => [(22, .int .i64 (s : Int))]) (fun s : Nat => []) (fun s : Nat => 4 - s) 0 ⟨by omega, none_yet⟩ (sub_cons rfl sub_nil) (sub_cons rfl (sub_cons rfl sub_nil)) (hs_pick (is := [0, 1, 2]) rfl rfl) ?_
  rintro s ⟨hs, hI⟩
  refine c_sub (E' := [(22, _), (3, _), (21, _)]) (sub_cons rfl (sub_cons rfl (sub_cons rfl sub_nil))) ?_
  refine c_seq ?_
  refine c_region rfl ?_
  refine gv rfl (y_lss rfl rfl) ?_
  refine l_nil ?_
  refine q_then ?_
  refine c_seq ?_
  refine c_dec rfl ?_ ?_
  · intro h23
    have hlt : s < 4 := by omega
    refine c_skip ?_
    refine q_then ?_
    refine c_seq ?_
    refine c_block ?_
    refine c_seq ?_
    refine c_region rfl ?_
    refine gv rfl (y_aidx1 arr83 size60 one60 rfl rfl (by omega) (by omega) (askV_at hlt)) ?_
    refine gv rfl (y_assign rfl) ?_
    refine l_nil ?_
    refine q_then ?_
    refine c_seq ?_
    refine c_region rfl ?_
    refine gv rfl (y_move rfl) ?_
    refine gv rfl (y_loadW (k := 2)  agg26 rfl rfl rfl) ?_
    refine l_callF rfl rfl rfl (askV_fn hlt _ hAd hf hc hp) ?_
    refine gv rfl (y_not rfl rfl) ?_
    refine l_nil ?_
    refine q_then ?_
    refine c_bool rfl ?_ ?_
    · intro h28
      refine c_seq ?_
      refine c_region rfl ?_
      refine gv rfl (y_assign rfl) ?_
      refine l_nil ?_
      refine q_then ?_
      refine c_ret ?_
      refine q_block_ret (q_then_ret (q_loop_ret (q_block_ret (q_then_ret ?_))))
      exact q_ret1 Tryz.results22 rfl () trivial (congrArg Value.bool (goesF_no hlt (by simpa using h28)).symm) hs_nil
    · intro h28
      refine c_skip ?_
      refine q_block (q_then ?_)
      refine c_region rfl ?_
      refine gv rfl (y_add rfl rfl (wrap_in (by omega) (by omega))) ?_
      refine gv rfl (y_move rfl) ?_
      refine l_nil ?_
      exact again (s + 1) ⟨by omega, step_all hI (by simpa using h28)⟩ (by omega) (sub_cons rfl sub_nil) (sub_cons rfl (sub_cons rfl sub_nil)) (hs_pick (is := [0, 1, 2]) rfl rfl)
  · intro h23
    refine c_exit ?_
    refine q_then_exit (q_loop_exit (q_block_exit (q_then ?_)))
    refine c_seq ?_
    refine c_region rfl ?_
    refine gv rfl (y_assign rfl) ?_
    refine l_nil ?_
    refine q_then ?_
    refine c_ret ?_
    exact q_ret1 Tryz.results22 rfl () trivial (congrArg Value.bool (goesF_yes (fun i hi => hI i (by omega))).symm) hs_nil

theorem get_c {ad : List UInt8 → Bool} {j : Ja} {f : Fr} {now : Int} {A0 : Option Addr} {k0 : Nat} (w : World) (hAd : AddrIs Tryz.prog 107 w ad) (hJ : Sl Ck.cells 13 w A0 j.cks) (hj : j.ok) (hk0 : A0 = none → k0 = 0) (hf : f.host.length ≤ 1073741824) : Ct Tryz.prog 16 #[.agg (j.arr A0 k0), .agg f.arr, .int .i64 now] w (fun x : (Option Addr × Nat) × (Option Addr × Nat) => .tuple #[.agg #[.slice x.1.1 (getJ ad j f now).cks.length x.1.2, .int .i64 (getJ ad j f now).next], .slice x.2.1 (getL ad j f now).length x.2.2, .int .i64 (getE j f now)]) (fun x => [.row (.slice x.1.1 (getJ ad j f now).cks.length x.1.2) 26 13 (getJ ad j f now).cks.length ((getJ ad j f now).cks.flatMap Ck.cells), .row (.slice x.2.1 (getL ad j f now).length x.2.2) 26 13 (getL ad j f now).length ((getL ad j f now).flatMap Ck.cells)]) (fun _ => True) := by
  refine enter (E := [(0, .agg (j.arr A0 k0)), (1, .agg f.arr), (2, .int .i64 now)]) Tryz.func16 rfl Tryz.ntmps16 rfl (by simp) ?_
  refine c_nilrow 26 13 ?_
  refine c_nilrow 26 13 ?_
  have hjl := hj.1
  refine c_seq ?_
  refine c_region rfl ?_
  refine l_boxA rfl rfl ?_; intro g3
  refine l_boxA rfl rfl ?_; intro g4
  refine l_allocA rfl zero24 ?_; intro g6
  refine gv rfl (y_assign rfl) ?_
  refine gv rfl (y_assign rfl) ?_
  refine l_nil ?_
  refine q_then ?_
  refine c_seq ?_
  refine c_region rfl ?_
  refine gv rfl (y_loadW (k := 2)  agg24 rfl rfl rfl) ?_
  refine l_callU rfl ent13 rfl (fun w hm => jarCheck_c w (hJ.below hm.below) hj) ?_
  refine gv rfl (y_assign rfl) ?_
  refine l_nil ?_
  refine q_then ?_
  refine c_seq ?_
  refine c_seq ?_
  refine c_region rfl ?_
  refine gv rfl (y_move rfl) ?_
  refine gv rfl (y_eql rfl rfl) ?_
  refine l_nil ?_
  refine q_then ?_
  refine c_dec rfl ?_ ?_
  · intro h17
    refine c_region rfl ?_
    refine gv rfl (y_loadW (k := 1)  agg35 rfl rfl rfl) ?_
    refine gv rfl (y_move rfl) ?_
    refine l_callU rfl ent46 rfl (fun w hm => ready_c w hf) ?_
    refine gv rfl (y_assign rfl) ?_
    refine l_nil ?_
    refine q_then ?_
    refine c_seq ?_
    refine c_seq ?_
    refine c_region rfl ?_
    refine gv rfl (y_move rfl) ?_
    refine gv rfl (y_neq rfl rfl) ?_
    refine l_nil ?_
    refine q_then ?_
    refine c_dec rfl ?_ ?_
    · intro h22
      refine c_seq ?_
      refine c_region rfl ?_
      refine gv rfl (y_build (cs := #[_, _]) (cl := [_, _])  zero24 bld24 rfl rfl rfl rfl rfl) ?_
      refine gv rfl (y_move rfl) ?_
      refine l_storeW (k := 0) (H' := [_, _, _, _, _]) size24 rfl rfl rfl rfl rfl rfl rfl ?_
      refine gv rfl (y_assign rfl) ?_
      refine gv rfl (y_assign rfl) ?_
      refine l_nil ?_
      refine q_then ?_
      refine c_ret ?_
      refine q_then_ret ?_
      have eE : getE j f now = readyE f now := by unfold getE; rw [if_neg (fun h => h h17)]
      have eJ : getJ ad j f now = ⟨[], 0⟩ := if_pos (by rw [eE]; exact h22)
      have eL : getL ad j f now = [] := if_pos (by rw [eE]; exact h22)
      exact q_retA2 (k := 0) Tryz.results16 agg24 rfl rfl rfl rfl rfl ((none, 0), (none, 0)) trivial (by rw [eE, eJ, eL] <;> rfl) (by rw [eJ, eL]; exact hs_pick (is := [4, 3]) rfl rfl)
    · intro h22
      have hz : jarErr j = 0 := h17
      obtain ⟨hz1, hz2, hz3⟩ := jarErr_iff.1 hz
      refine c_skip ?_
      refine q_then ?_
      refine c_seq ?_
      refine c_region rfl ?_
      refine gv rfl (y_loadW (k := 2)  agg24 rfl rfl rfl) ?_
      refine gv rfl (y_move rfl) ?_
      refine l_call rfl ent32 rfl (fun w hm => own_c w (hJ.below hm.below) hj.1 hk0) ?_; rintro ⟨gO, AO, kO⟩ h27
      refine gv rfl (y_assign rfl) ?_
      refine l_nil ?_
      refine q_then ?_
      refine c_seq ?_
      refine c_region rfl ?_
      refine gv rfl (y_assign rfl) ?_
      refine l_nil ?_
      refine q_then ?_
      refine c_seq ?_
      refine c_seq ?_
      refine c_region rfl ?_
      refine gv rfl (y_move rfl) ?_
      refine gv rfl (y_nilCheck rfl) ?_
      refine gv rfl (y_faddr off66_0 rfl rfl) ?_
      refine gv rfl (y_faddr off24_0 rfl rfl) ?_
      refine gv rfl (y_load (k := 0)  one22 rfl rfl rfl) ?_
      refine gv rfl (y_len elem22 rfl) ?_
      refine gv rfl (y_move rfl) ?_
      refine l_nil ?_
      refine q_then ?_
      refine c_block ?_
      rw [show j.cks.flatMap Ck.cells = (usedT ad f now j.cks 0).flatMap Ck.cells by rw [usedT_0]]
      refine loop (Ef := [(2, _), (4, _), (6, _), (10, _), (33, _)]) (Hf := [_, _, _, _, _]) (fun x : Nat × Option Addr × Nat => x.1 ≤ j.cks.length) (fun x : Nat × Option Addr × Nat => [(34, .int .i64 (x.1 : Int)), (11, .slice x.2.1 (toldL ad f now (j.cks.take x.1)).length x.2.2)]) (fun x : Nat × Option Addr × Nat => [.row (.slice AO j.cks.length kO) 26 13 j.cks.length ((usedT ad f now j.cks x.1).flatMap Ck.cells), .row (.slice x.2.1 (toldL ad f now (j.cks.take x.1)).length x.2.2) 26 13 (toldL ad f now (j.cks.take x.1)).length ((toldL ad f now (j.cks.take x.1)).flatMap Ck.cells)]) (fun x : Nat × Option Addr × Nat => j.cks.length - x.1) (0, none, 0) (Nat.zero_le _) (sub_cons rfl (sub_cons rfl sub_nil)) (sub_cons rfl (sub_cons rfl (sub_cons rfl (sub_cons rfl (sub_cons rfl sub_nil))))) (hs_pick (is := [1, 5, 0, 2, 3, 4, 6]) rfl rfl) ?_
      rintro ⟨s, A11, k11⟩ hs
      dsimp only at hs ⊢
      refine c_sub (E' := [(34, _), (11, _), (2, _), (4, _), (6, _), (10, _), (33, _)]) (sub_cons rfl (sub_cons rfl (sub_cons rfl (sub_cons rfl (sub_cons rfl (sub_cons rfl (sub_cons rfl sub_nil))))))) ?_
      refine c_seq ?_
      refine c_region rfl ?_
      refine gv rfl (y_lss rfl rfl) ?_
      refine l_nil ?_
      refine q_then ?_
      refine c_seq ?_
      refine c_dec rfl ?_ ?_
      · intro h35
        have hlt : s < j.cks.length := by omega
        obtain ⟨v, hv⟩ := get_lt hlt
        have hvk := hj.2.1 v (List.mem_of_getElem? hv)
        have hvx := (hj.2.2 v (List.mem_of_getElem? hv)).1
        refine c_skip ?_
        refine q_then ?_
        refine c_seq ?_
        refine c_block ?_
        refine c_seq ?_
        refine c_region rfl ?_
        refine gv rfl (y_move rfl) ?_
        refine gv rfl (y_assign rfl) ?_
        refine l_nil ?_
        refine q_then ?_
        refine c_seq ?_
        have hU := usedT_at (ad := ad) (f := f) (now := now) hv
        have hUl := usedT_len (ad := ad) (f := f) (now := now) (Nat.le_of_lt hlt)
        have htl := toldL_len (ad := ad) (f := f) (now := now) (j.cks.take s)
        have htk := List.length_take_le s j.cks
        refine c_rowopen (k := 0) rfl (flat_ne Ck.len13 (by decide) (i := s) (by rw [hUl]; exact hlt)) ?_
        intro g0 R0 hAe hx1 hx2 hnc hcm
        subst hAe
        rw [flat_len Ck.len13, hUl] at hx2
        refine c_region rfl ?_
        refine gv rfl (y_move rfl) ?_
        refine gv rfl (y_nilCheck rfl) ?_
        refine gv rfl (y_faddr off66_0 rfl rfl) ?_
        refine gv rfl (y_faddr off24_0 rfl rfl) ?_
        refine gv rfl (y_load (k := 2)  one22 rfl rfl rfl) ?_
        refine gv rfl (y_move rfl) ?_
        refine gv rfl (y_iaddr_own (r := (s * 13)) elem22 size26 rfl rfl (by omega) (by omega) (by simp)) ?_
        refine gv rfl (y_assign rfl) ?_
        refine l_nil ?_
        refine q_then ?_
        refine c_seq ?_
        refine c_drawp (l := #[false, false, false, false, false, false]) 6 (is := [0, 1, 2, 3, 4, 5, 6]) rfl rfl rfl rfl ?_
        refine h_take (l' := #[true, false, false, false, false, false]) 0 rfl (by kernel_rfl) rfl rfl (np_then (np_block (np_then (np_loop (np_block (np_then np_post)))))) (hs_pick (is := [0, 1, 2, 3, 4, 5, 6]) rfl rfl) (y_move rfl) ?_
        refine h_take (l' := #[true, true, false, false, false, false]) 1 rfl (by kernel_rfl) rfl rfl (np_then (np_block (np_then (np_loop (np_block (np_then np_post)))))) (hs_pick (is := [0, 1, 2, 3, 4, 5, 6]) rfl rfl) (y_nilCheck rfl) ?_
        refine h_take (l' := #[true, true, true, false, false, false]) 2 rfl (by kernel_rfl) rfl rfl (np_then (np_block (np_then (np_loop (np_block (np_then np_post)))))) (hs_pick (is := [0, 1, 2, 3, 4, 5, 6]) rfl rfl) (y_loadA (k := 0) (vs := v.cells) agg26 rfl rfl rfl (by exact rowF_get Ck.len13 hU)) ?_
        refine h_take (l' := #[true, true, true, true, false, false]) 3 rfl (by kernel_rfl) rfl rfl (np_then (np_block (np_then (np_loop (np_block (np_then np_post)))))) (hs_pick (is := [0, 1, 2, 3, 4, 5, 6]) rfl rfl) (y_loadW (k := 4)  agg35 rfl rfl rfl) ?_
        refine h_take (l' := #[true, true, true, true, true, false]) 4 rfl (by kernel_rfl) rfl rfl (np_then (np_block (np_then (np_loop (np_block (np_then np_post)))))) (hs_pick (is := [0, 1, 2, 3, 4, 5, 6]) rfl rfl) (y_move rfl) ?_
        refine h_only (l' := #[true, true, true, true, true, true]) 5 rfl (by kernel_rfl) rfl ?_
        refine l_callU rfl ent22 rfl (fun w hm => goes_c w (hAd.above hm.below) hf hvk.2 hvx) ?_
        refine l_nil ?_
        refine q_step (fun _ => hs_pick (is := [0, 1, 2, 3, 4, 5, 6]) rfl rfl) ?_
        refine h_done (by kernel_rfl) ?_
        refine q_then ?_
        refine c_bool rfl ?_ ?_
        · intro h49
          refine c_seq ?_
          refine c_region rfl ?_
          refine gv rfl (y_move rfl) ?_
          refine gv rfl (y_move rfl) ?_
          refine gv rfl (y_nilCheck rfl) ?_
          refine gv rfl (y_faddr off26_11 rfl rfl) ?_
          refine l_store (k := 0) (cs' := rowF Ck.cells ((usedT ad f now j.cks s).set s { v with used := now }) R0) (H' := [_, _, _, _, _, _, _]) size3 rfl rfl rfl rfl (by rw [List.size_toArray, List.length_append, flat_len Ck.len13, hUl]; simp [Nat.blt, Nat.ble_eq]; omega) (by exact rowF_cell hU (by decide) rfl) rfl ?_
          refine l_nil ?_
          refine q_then ?_
          refine c_region rfl ?_
          refine gv rfl (y_move rfl) ?_
          refine gv rfl (y_move rfl) ?_
          refine gv rfl (y_nilCheck rfl) ?_
          refine gv rfl (y_loadA (k := 0) (vs := Ck.cells { v with used := now }) agg26 rfl rfl rfl (by exact rowF_get (v := { v with used := now }) Ck.len13 (List.getElem?_set_self (by rw [hUl]; exact hlt)))) ?_
          refine l_bslice (cl := [_, _, _, _, _, _, _, _, _, _, _, _, _]) rfl elem22 ap26 zero26 rfl rfl rfl rfl rfl rfl rfl ?_; intro g58
          refine l_append (k := 2) (j := 0) (zs := ((toldL ad f now (j.cks.take s)) ++ [{ v with used := now }]).flatMap Ck.cells) rfl elem22 ap26 rfl rfl rfl rfl rfl rfl (by omega) (by omega) (by exact app_one (c := { v with used := now })) ?_; intro A59 c59
          refine gv rfl (y_assign rfl) ?_
          refine l_nil ?_
          refine q_block (q_then ?_)
          rw [usedT_yes hv h49]
          have hU2 := usedT_len (ad := ad) (f := f) (now := now) (s := s + 1) (l := j.cks) (by omega)
          refine c_rowclose (k := 1) (n := j.cks.length) (c := kO) (sz := 13) (xs := (usedT ad f now j.cks (s + 1)).flatMap Ck.cells) rfl (by rw [rowF_len Ck.len13, hU2]; omega) hnc hcm (rowF_all Ck.len13 hU2.symm) ?_
          refine c_region rfl ?_
          refine gv rfl (y_add rfl rfl (wrap_in (by omega) (by omega))) ?_
          refine gv rfl (y_move rfl) ?_
          refine l_nil ?_
          rw [← len_snoc (toldL ad f now (j.cks.take s)) { v with used := now }, ← toldL_yes hv h49]
          exact again (s + 1, A59, c59) (Nat.succ_le_of_lt hlt) (by omega) (sub_cons rfl (sub_cons rfl sub_nil)) (sub_cons rfl (sub_cons rfl (sub_cons rfl (sub_cons rfl (sub_cons rfl sub_nil))))) (hs_pick (is := [1, 2, 3, 4, 5, 6, 7]) rfl rfl)
        · intro h49
          refine c_skip ?_
          refine q_block (q_then ?_)
          rw [usedT_no hv h49]
          have hU2 := usedT_len (ad := ad) (f := f) (now := now) (s := s + 1) (l := j.cks) (by omega)
          refine c_rowclose (k := 0) (n := j.cks.length) (c := kO) (sz := 13) (xs := (usedT ad f now j.cks (s + 1)).flatMap Ck.cells) rfl (by rw [List.size_toArray, List.length_append, flat_len Ck.len13, hU2]; omega) hnc hcm (rowF_all Ck.len13 hU2.symm) ?_
          refine c_region rfl ?_
          refine gv rfl (y_add rfl rfl (wrap_in (by omega) (by omega))) ?_
          refine gv rfl (y_move rfl) ?_
          refine l_nil ?_
          rw [← toldL_no hv h49]
          exact again (s + 1, A11, k11) (Nat.succ_le_of_lt hlt) (by omega) (sub_cons rfl (sub_cons rfl sub_nil)) (sub_cons rfl (sub_cons rfl (sub_cons rfl (sub_cons rfl (sub_cons rfl sub_nil))))) (hs_pick (is := [0, 1, 2, 3, 4, 5, 6]) rfl rfl)
      · intro h35
        have hs9 : s = j.cks.length := by omega
        have eT : j.cks.take s = j.cks := List.take_of_length_le (by omega)
        rw [usedT_end (show j.cks.length ≤ s by omega), eT]
        have htl := toldL_len (ad := ad) (f := f) (now := now) j.cks
        refine c_exit ?_
        refine q_then_exit (q_loop_exit (q_block_exit (q_then ?_)))
        refine c_seq ?_
        refine c_drawp (l := #[false, false, false, false, false, false, false, false, false]) 7 (is := [0, 1, 2, 4, 5, 6]) rfl rfl rfl rfl ?_
        refine h_take (l' := #[true, false, false, false, false, false, false, false, false]) 0 rfl (by kernel_rfl) rfl rfl (np_then np_post) (hs_pick (is := [0, 1, 2, 4, 5, 6]) rfl rfl) (y_move rfl) ?_
        refine h_take (l' := #[true, true, false, false, false, false, false, false, false]) 1 rfl (by kernel_rfl) rfl rfl (np_then np_post) (hs_pick (is := [0, 1, 2, 4, 5, 6]) rfl rfl) (y_nilCheck rfl) ?_
        refine h_take (l' := #[true, true, true, false, false, false, false, false, false]) 2 rfl (by kernel_rfl) rfl rfl (np_then np_post) (hs_pick (is := [0, 1, 2, 4, 5, 6]) rfl rfl) (y_faddr off66_0 rfl rfl) ?_
        refine h_take (l' := #[true, true, true, true, false, false, false, false, false]) 3 rfl (by kernel_rfl) rfl rfl (np_then np_post) (hs_pick (is := [0, 1, 2, 4, 5, 6]) rfl rfl) (y_loadA (k := 2) (vs := [_, _])  agg24 rfl rfl rfl rfl) ?_
        refine h_take (l' := #[true, true, true, true, true, false, false, false, false]) 4 rfl (by kernel_rfl) rfl rfl (np_then np_post) (hs_pick (is := [0, 1, 2, 4, 5, 6]) rfl rfl) (y_move rfl) ?_
        refine h_only (l' := #[true, true, true, true, true, true, false, false, false]) 5 rfl (by kernel_rfl) rfl ?_
        refine l_call rfl ent25 rfl (fun w hm => sortCks_c w (sl_of_row hm (k := 1) rfl (fun _ => rfl) rfl) (by omega) (fun h => row_nilcap hm (k := 1) rfl h)) ?_; rintro x66 h66
        refine l_nil ?_
        refine q_step (fun _ => hs_pick (is := [1, 2, 3, 5, 6, 7]) rfl rfl) ?_
        refine h_only (l' := #[true, true, true, true, true, true, true, false, false]) 6 rfl (by kernel_rfl) rfl ?_
        refine l_storeW (k := 4) (H' := [_, _, _, _, _, _, _, _]) size24 rfl rfl rfl rfl rfl rfl rfl ?_
        refine l_nil ?_
        refine q_step (fun _ => hs_pick (is := [1, 2, 3, 5, 6, 7]) rfl rfl) ?_
        refine h_only (l' := #[true, true, true, true, true, true, true, true, false]) 7 rfl (by kernel_rfl) rfl ?_
        refine gv rfl (y_assign rfl) ?_
        refine l_nil ?_
        refine q_step (fun h => by cases h) ?_
        refine h_only (l' := #[true, true, true, true, true, true, true, true, true]) 8 rfl (by kernel_rfl) rfl ?_
        refine gv rfl (y_assign rfl) ?_
        refine l_nil ?_
        refine q_step (fun h => by cases h) ?_
        refine h_done (by kernel_rfl) ?_
        refine q_then ?_
        refine c_ret ?_
        have eE : getE j f now = 0 := by unfold getE; rw [if_neg (fun h => h h17)]; omega
        have eJ : getJ ad j f now = ⟨usedL ad f now j.cks, j.next⟩ := if_neg (by rw [eE]; simp)
        have eL : getL ad j f now = sortC (toldL ad f now j.cks) := if_neg (by rw [eE]; simp)
        have eU : (usedL ad f now j.cks).length = j.cks.length := List.length_map ..
        exact q_retA2 (k := 4) Tryz.results16 agg24 rfl rfl rfl rfl rfl ((AO, kO), x66) trivial (by rw [eE, eJ, eL]; dsimp only; rw [eU]) (by rw [eJ, eL]; dsimp only; rw [eU]; exact hs_pick (is := [1, 0]) rfl rfl)
  · intro h17
    refine c_skip ?_
    refine q_then ?_
    refine c_seq ?_
    refine c_seq ?_
    refine c_region rfl ?_
    refine gv rfl (y_move rfl) ?_
    refine gv rfl (y_neq rfl rfl) ?_
    refine l_nil ?_
    refine q_then ?_
    refine c_dec rfl ?_ ?_
    · intro h22
      refine c_seq ?_
      refine c_region rfl ?_
      refine gv rfl (y_build (cs := #[_, _]) (cl := [_, _])  zero24 bld24 rfl rfl rfl rfl rfl) ?_
      refine gv rfl (y_move rfl) ?_
      refine l_storeW (k := 0) (H' := [_, _, _, _, _]) size24 rfl rfl rfl rfl rfl rfl rfl ?_
      refine gv rfl (y_assign rfl) ?_
      refine gv rfl (y_assign rfl) ?_
      refine l_nil ?_
      refine q_then ?_
      refine c_ret ?_
      refine q_then_ret ?_
      have eE : getE j f now = jarErr j := if_pos h22
      have eJ : getJ ad j f now = ⟨[], 0⟩ := if_pos (by rw [eE]; exact h22)
      have eL : getL ad j f now = [] := if_pos (by rw [eE]; exact h22)
      exact q_retA2 (k := 0) Tryz.results16 agg24 rfl rfl rfl rfl rfl ((none, 0), (none, 0)) trivial (by rw [eE, eJ, eL] <;> rfl) (by rw [eJ, eL]; exact hs_pick (is := [4, 3]) rfl rfl)
    · intro h22
      exact (h22 h17).elim

end Go.Gx
