/- This text proves: functions of the program, walked: what each answers, for every input. No condition beyond those that each theorem names. -/
import Derived.Test.YtgehghoammpiaaaGreatDoorProg
import Derived.Test.YtgehghoammpiaaaGreatDoorTStr
import Derived.Test.YtgehghoammpiaaaGreatDoorT9
import Derived.Test.YtgehghoammpiaaaGreatDoorGz0
import Derived.KernelRfl
namespace Go.Gx
open Go.Proofs Go.Maps
theorem ent12 : enters Tryz.prog 12 = true := by kernel_rfl
theorem ent15 : enters Tryz.prog 15 = true := by kernel_rfl

theorem jarRight_c {ad : List UInt8 → Bool} {j : Ja} {c : Ck} {now : Int} {A0 : Option Addr} {k0 : Nat} (w : World) (hAd : AddrIs Tryz.prog 107 w ad) (had : ad wsh = false) (hJ : Sl Ck.cells 13 w A0 j.cks) (hj : j.ok) (hk0 : A0 = none → k0 = 0) (hc : c.fits) : Cv Tryz.prog 5 #[.agg (j.arr A0 k0), .agg c.arr, .int .i64 now] w (.bool true) := by
  refine enter (E := [(0, .agg (j.arr A0 k0)), (1, .agg c.arr), (2, .int .i64 now)]) Tryz.func5 rfl Tryz.ntmps5 rfl (by simp) ?_
  have hok := putJ_ok (now := now) hj hc
  refine c_seq ?_
  refine c_region rfl ?_
  refine l_boxA rfl rfl ?_; intro g3
  refine l_boxA rfl rfl ?_; intro g4
  refine gv rfl (y_assign rfl) ?_
  refine l_nil ?_
  refine q_then ?_
  refine c_seq ?_
  refine c_region rfl ?_
  refine gv rfl (y_loadW (k := 1)  agg24 rfl rfl rfl) ?_
  refine gv rfl (y_loadW (k := 0)  agg26 rfl rfl rfl) ?_
  refine gv rfl (y_move rfl) ?_
  refine l_call rfl ent10 rfl (fun w hm => put_c (j := j) (c := c) w (hJ.below hm.below) hj hk0) ?_; rintro x14 h14
  refine gv rfl (y_move rfl) ?_
  refine gv rfl (y_extract rfl rfl) ?_
  refine gv rfl (y_extract rfl rfl) ?_
  refine l_allocA rfl zero24 ?_; intro g7
  refine l_storeW (k := 0) (H' := [_, _, _, _]) size24 rfl rfl rfl rfl rfl rfl rfl ?_
  refine gv rfl (y_assign rfl) ?_
  refine l_nil ?_
  refine q_then ?_
  refine c_seq ?_
  refine c_seq ?_
  refine c_region rfl ?_
  refine l_callU rfl ent12 rfl (fun w hm => jarBegun_c w (hAd.above hm.below) had) ?_
  refine gv rfl (y_not rfl rfl) ?_
  refine l_nil ?_
  refine q_then ?_
  refine c_cond_f rfl ?_
  refine c_skip ?_
  refine q_then ?_
  refine c_seq ?_
  refine c_seq ?_
  refine c_region rfl ?_
  refine gv rfl (y_move rfl) ?_
  refine gv rfl (y_neq rfl rfl) ?_
  refine l_nil ?_
  refine q_then ?_
  refine c_dec rfl ?_ ?_
  · intro h20
    refine c_seq ?_
    refine c_region rfl ?_
    refine gv rfl (y_loadW (k := 0)  agg24 rfl rfl rfl) ?_
    refine gv rfl (y_build (cs := #[_, _]) (cl := [_, _])  zero24 bld24 rfl rfl rfl rfl rfl) ?_
    refine l_callU rfl ent15 rfl (fun w hm => sameJa_c (j := putJ j c now) (h := ⟨[], 0⟩) w (sl_of_row hm (k := 1) rfl (fun _ => rfl) rfl) (fun i x h => by simp at h) hok.1) ?_
    refine gv rfl (y_assign rfl) ?_
    refine l_nil ?_
    refine q_then ?_
    refine c_ret ?_
    refine q_then_ret ?_
    exact q_ret1 Tryz.results5 rfl () trivial (congrArg Value.bool (by rw [putJ_bad h20]; rfl)) hs_nil
  · intro h20
    have hr := putJ_right (Decidable.not_not.1 h20)
    have hnx := jarErr_iff.1 hr.1
    have hol := hok.1
    refine c_skip ?_
    refine q_then ?_
    refine c_seq ?_
    refine c_seq ?_
    refine c_region rfl ?_
    refine gv rfl (y_assign rfl) ?_
    refine l_nil ?_
    refine q_then ?_
    refine c_block ?_
    refine loop (Ef := [(2, _), (3, _), (7, _)]) (Hf := [_, _, _, _]) (fun s : Nat => s ≤ (putJ j c now).cks.length) (fun s : Nat => [(9, .int .i64 (s : Int))]) (fun s : Nat => []) (fun s : Nat => (putJ j c now).cks.length - s) 0 (Nat.zero_le _) (sub_cons rfl sub_nil) (sub_cons rfl (sub_cons rfl (sub_cons rfl sub_nil))) (hs_pick (is := [0, 1, 2, 3]) rfl rfl) ?_
    rintro s hs
    refine c_sub (E' := [(9, _), (2, _), (3, _), (7, _)]) (sub_cons rfl (sub_cons rfl (sub_cons rfl (sub_cons rfl sub_nil)))) ?_
    refine c_seq ?_
    refine c_seq ?_
    refine c_region rfl ?_
    refine gv rfl (y_move rfl) ?_
    refine gv rfl (y_faddr off24_0 rfl rfl) ?_
    refine gv rfl (y_load (k := 0)  one22 rfl rfl rfl) ?_
    refine gv rfl (y_len elem22 rfl) ?_
    refine gv rfl (y_lss rfl rfl) ?_
    refine l_nil ?_
    refine q_then ?_
    refine c_dec rfl ?_ ?_
    · intro h28
      have hlt : s < (putJ j c now).cks.length := by omega
      obtain ⟨v, hv⟩ := get_lt hlt
      refine c_skip ?_
      refine q_then ?_
      refine c_seq ?_
      refine c_block ?_
      refine c_seq ?_
      refine c_region rfl ?_
      refine gv rfl (y_faddr off24_0 rfl rfl) ?_
      refine gv rfl (y_load (k := 0)  one22 rfl rfl rfl) ?_
      refine gv rfl (y_move rfl) ?_
      refine gv rfl (y_iaddr_row (k := 1) elem22 size26 rfl (fun _ => rfl) rfl rfl rfl (by omega) hv) ?_
      refine gv rfl (y_loadA_row (k := 1) agg26 rfl (fun _ => rfl) rfl rfl rfl hv rfl) ?_
      refine gv rfl (y_move rfl) ?_
      refine l_callU rfl ent19 rfl (fun w hm => live_c (c := v) w) ?_
      refine gv rfl (y_not rfl rfl) ?_
      refine l_nil ?_
      refine q_then ?_
      refine c_ndec rfl ?_ ?_
      · intro h38
        exact absurd (hr.2.1 v (List.mem_of_getElem? hv)) h38
      · intro h38
        refine c_skip ?_
        refine q_block (q_then ?_)
        refine c_region rfl ?_
        refine gv rfl (y_move rfl) ?_
        refine gv rfl (y_add rfl rfl (wrap_in (by omega) (by omega))) ?_
        refine gv rfl (y_assign rfl) ?_
        refine l_nil ?_
        exact again (s + 1) (by omega) (by omega) (sub_cons rfl sub_nil) (sub_cons rfl (sub_cons rfl (sub_cons rfl sub_nil))) (hs_pick (is := [0, 1, 2, 3]) rfl rfl)
    · intro h28
      refine c_exit ?_
      refine q_then_exit (q_loop_exit (q_block_exit (q_then ?_)))
      refine c_seq ?_
      refine c_region rfl ?_
      refine gv rfl (y_loadW (k := 0)  agg24 rfl rfl rfl) ?_
      refine l_callU rfl ent13 rfl (fun w hm => jarCheck_c (j := putJ j c now) w (sl_of_row hm (k := 1) rfl (fun _ => rfl) rfl) hok) ?_
      refine gv rfl (y_eql rfl rfl) ?_
      refine gv rfl (y_move rfl) ?_
      refine g_dec (t := 42) rfl ?_ ?_
      · intro h42
        refine g_on (t := 42) rfl rfl ?_
        refine gv rfl (y_faddr off24_1 rfl rfl) ?_
        refine g_on (t := 42) rfl rfl ?_
        refine gv rfl (y_load (k := 0)  one3 rfl rfl rfl) ?_
        refine g_on (t := 42) rfl rfl ?_
        refine gv rfl (y_faddr off24_1 rfl rfl) ?_
        refine g_on (t := 42) rfl rfl ?_
        refine gv rfl (y_load (k := 3)  one3 rfl rfl rfl) ?_
        refine g_on (t := 42) rfl rfl ?_
        refine gv rfl (y_geq rfl rfl) ?_
        refine gv rfl (y_pick_t rfl rfl) ?_
        refine gv rfl (y_move rfl) ?_
        refine g_dec (t := 49) rfl ?_ ?_
        · intro h49
          refine g_on (t := 49) rfl rfl ?_
          refine gv rfl (y_faddr off24_1 rfl rfl) ?_
          refine g_on (t := 49) rfl rfl ?_
          refine gv rfl (y_load (k := 0)  one3 rfl rfl rfl) ?_
          refine g_on (t := 49) rfl rfl ?_
          refine gv rfl (y_faddr off24_1 rfl rfl) ?_
          refine g_on (t := 49) rfl rfl ?_
          refine gv rfl (y_load (k := 3)  one3 rfl rfl rfl) ?_
          refine g_on (t := 49) rfl rfl ?_
          refine gv rfl (y_add rfl rfl (wrap_in (by omega) (by omega))) ?_
          refine g_on (t := 49) rfl rfl ?_
          refine gv rfl (y_leq rfl rfl) ?_
          refine gv rfl (y_pick_t rfl rfl) ?_
          refine gv rfl (y_assign rfl) ?_
          refine l_nil ?_
          refine q_then ?_
          refine c_ret ?_
          exact q_ret1 Tryz.results5 rfl () trivial (congrArg Value.bool (decide_eq_true hr.2.2.2)) hs_nil
        · intro h49
          exact absurd hr.2.2.1 h49
      · intro h42
        exact absurd hr.1 h42

end Go.Gx
