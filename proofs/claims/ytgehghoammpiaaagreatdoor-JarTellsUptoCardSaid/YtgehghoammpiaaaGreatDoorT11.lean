/- This text proves: functions of the program, walked: what each answers, for every input. No condition beyond those that each theorem names. -/
import Derived.Test.YtgehghoammpiaaaGreatDoorProg
import Derived.Test.YtgehghoammpiaaaGreatDoorTStr
import Derived.Test.YtgehghoammpiaaaGreatDoorT10
import Derived.Test.YtgehghoammpiaaaGreatDoorGz1
import Derived.KernelRfl
namespace Go.Gx
open Go.Proofs Go.Maps
theorem ent21 : enters Tryz.prog 21 = true := by kernel_rfl
theorem ent20 : enters Tryz.prog 20 = true := by kernel_rfl

theorem sameKey_c {a b : Ck} (w : World) : Cv Tryz.prog 21 #[.agg a.arr, .agg b.arr] w (.bool (keyEq a b)) := by
  refine enter (E := [(0, .agg a.arr), (1, .agg b.arr)]) Tryz.func21 rfl Tryz.ntmps21 rfl (by simp) ?_
  refine c_seq ?_
  refine c_region rfl ?_
  refine l_boxA rfl rfl ?_; intro g2
  refine l_boxA rfl rfl ?_; intro g3
  refine gv rfl (y_assign rfl) ?_
  refine l_nil ?_
  refine q_then ?_
  refine c_seq ?_
  refine c_region rfl ?_
  refine gv rfl (y_faddr off26_0 rfl rfl) ?_
  refine gv rfl (y_load (k := 1)  one9 rfl rfl rfl) ?_
  refine gv rfl (y_faddr off26_0 rfl rfl) ?_
  refine gv rfl (y_load (k := 0)  one9 rfl rfl rfl) ?_
  refine gv rfl (y_seq rfl rfl) ?_
  refine gv rfl (y_move rfl) ?_
  refine g_dec (t := 10) rfl ?_ ?_
  · intro h10
    refine g_on (t := 10) rfl rfl ?_
    refine gv rfl (y_faddr off26_2 rfl rfl) ?_
    refine g_on (t := 10) rfl rfl ?_
    refine gv rfl (y_load (k := 1)  one9 rfl rfl rfl) ?_
    refine g_on (t := 10) rfl rfl ?_
    refine gv rfl (y_faddr off26_2 rfl rfl) ?_
    refine g_on (t := 10) rfl rfl ?_
    refine gv rfl (y_load (k := 0)  one9 rfl rfl rfl) ?_
    refine g_on (t := 10) rfl rfl ?_
    refine gv rfl (y_seq rfl rfl) ?_
    refine gv rfl (y_pick_t rfl rfl) ?_
    refine gv rfl (y_move rfl) ?_
    refine g_dec (t := 17) rfl ?_ ?_
    · intro h17
      refine g_on (t := 17) rfl rfl ?_
      refine gv rfl (y_faddr off26_3 rfl rfl) ?_
      refine g_on (t := 17) rfl rfl ?_
      refine gv rfl (y_load (k := 1)  one9 rfl rfl rfl) ?_
      refine g_on (t := 17) rfl rfl ?_
      refine gv rfl (y_faddr off26_3 rfl rfl) ?_
      refine g_on (t := 17) rfl rfl ?_
      refine gv rfl (y_load (k := 0)  one9 rfl rfl rfl) ?_
      refine g_on (t := 17) rfl rfl ?_
      refine gv rfl (y_seq rfl rfl) ?_
      refine gv rfl (y_pick_t rfl rfl) ?_
      refine gv rfl (y_assign rfl) ?_
      refine l_nil ?_
      refine q_then ?_
      refine c_ret ?_
      exact q_ret1 Tryz.results21 rfl () trivial (congrArg Value.bool (by simp [keyEq, *])) hs_nil
    · intro h17
      refine g_off (t := 17) rfl rfl rfl rfl ?_
      refine g_off (t := 17) rfl rfl rfl rfl ?_
      refine g_off (t := 17) rfl rfl rfl rfl ?_
      refine g_off (t := 17) rfl rfl rfl rfl ?_
      refine g_off (t := 17) rfl rfl rfl rfl ?_
      refine gv rfl (y_pick_f rfl rfl) ?_
      refine gv rfl (y_assign rfl) ?_
      refine l_nil ?_
      refine q_then ?_
      refine c_ret ?_
      exact q_ret1 Tryz.results21 rfl () trivial (congrArg Value.bool (by simp [keyEq, *])) hs_nil
  · intro h10
    refine g_off (t := 10) rfl rfl rfl rfl ?_
    refine g_off (t := 10) rfl rfl rfl rfl ?_
    refine g_off (t := 10) rfl rfl rfl rfl ?_
    refine g_off (t := 10) rfl rfl rfl rfl ?_
    refine g_off (t := 10) rfl rfl rfl rfl ?_
    refine gv rfl (y_pick_f rfl rfl) ?_
    refine gv rfl (y_move rfl) ?_
    refine g_off (t := 17) rfl rfl rfl rfl ?_
    refine g_off (t := 17) rfl rfl rfl rfl ?_
    refine g_off (t := 17) rfl rfl rfl rfl ?_
    refine g_off (t := 17) rfl rfl rfl rfl ?_
    refine g_off (t := 17) rfl rfl rfl rfl ?_
    refine gv rfl (y_pick_f rfl rfl) ?_
    refine gv rfl (y_assign rfl) ?_
    refine l_nil ?_
    refine q_then ?_
    refine c_ret ?_
    exact q_ret1 Tryz.results21 rfl () trivial (congrArg Value.bool (by simp [keyEq, *])) hs_nil

theorem find_c {j : Ja} {c : Ck} {A0 : Option Addr} {k0 : Nat} (w : World) (hJ : Sl Ck.cells 13 w A0 j.cks) (hlen : j.cks.length ≤ 1073741824) : Cv Tryz.prog 20 #[.agg (j.arr A0 k0), .agg c.arr] w (.int .i64 (atI c j.cks)) := by
  refine enter (E := [(0, .agg (j.arr A0 k0)), (1, .agg c.arr)]) Tryz.func20 rfl Tryz.ntmps20 rfl (by simp) ?_
  refine c_seq ?_
  refine c_region rfl ?_
  refine l_boxA rfl rfl ?_; intro g2
  refine l_boxA rfl rfl ?_; intro g3
  refine gv rfl (y_assign rfl) ?_
  refine l_nil ?_
  refine q_then ?_
  refine c_seq ?_
  refine c_seq ?_
  refine c_region rfl ?_
  refine gv rfl (y_assign rfl) ?_
  refine l_nil ?_
  refine q_then ?_
  refine c_block ?_
  refine loop (Ef := [(2, _), (3, _)]) (Hf := [_, _]) (fun s : Nat => s ≤ j.cks.length ∧ ∀ i, i < s → ∀ u, j.cks[i]? = some u → (fun x => keyEq x c) u = false) (fun s : Nat => [(5, .int .i64 (s : Int))]) (fun s : Nat => []) (fun s : Nat => j.cks.length - s) 0 ⟨by omega, none_get⟩ (sub_cons rfl sub_nil) (sub_cons rfl (sub_cons rfl sub_nil)) (hs_pick (is := [0, 1]) rfl rfl) ?_
  rintro s ⟨hs, hI⟩
  refine c_sub (E' := [(5, _), (2, _), (3, _)]) (sub_cons rfl (sub_cons rfl (sub_cons rfl sub_nil))) ?_
  refine c_seq ?_
  refine c_seq ?_
  refine c_region rfl ?_
  refine gv rfl (y_move rfl) ?_
  refine gv rfl (y_faddr off24_0 rfl rfl) ?_
  refine gv rfl (y_load (k := 1)  one22 rfl rfl rfl) ?_
  refine gv rfl (y_len elem22 rfl) ?_
  refine gv rfl (y_lss rfl rfl) ?_
  refine l_nil ?_
  refine q_then ?_
  refine c_dec rfl ?_ ?_
  · intro h10
    have hlt : s < j.cks.length := by omega
    obtain ⟨v, hv⟩ := get_lt hlt
    refine c_skip ?_
    refine q_then ?_
    refine c_seq ?_
    refine c_block ?_
    refine c_seq ?_
    refine c_drawp (l := #[false, false, false, false, false, false, false]) 7 (is := [0, 1]) rfl rfl rfl rfl ?_
    refine h_take (l' := #[true, false, false, false, false, false, false]) 0 rfl (by kernel_rfl) rfl rfl (np_then (np_block (np_then (np_loop (np_block (np_then np_post)))))) (hs_pick (is := [0, 1]) rfl rfl) (y_faddr off24_0 rfl rfl) ?_
    refine h_take (l' := #[true, true, false, false, false, false, false]) 1 rfl (by kernel_rfl) rfl rfl (np_then (np_block (np_then (np_loop (np_block (np_then np_post)))))) (hs_pick (is := [0, 1]) rfl rfl) (y_load (k := 1)  one22 rfl rfl rfl) ?_
    refine h_take (l' := #[true, true, true, false, false, false, false]) 2 rfl (by kernel_rfl) rfl rfl (np_then (np_block (np_then (np_loop (np_block (np_then np_post)))))) (hs_pick (is := [0, 1]) rfl rfl) (y_move rfl) ?_
    refine h_takee (l' := #[true, true, true, true, false, false, false]) 3 rfl (by kernel_rfl) rfl rfl (np_then (np_block (np_then (np_loop (np_block (np_then np_post)))))) (hs_pick (is := [0, 1]) rfl rfl) (y_iaddr elem22 size26 hJ rfl rfl rfl (by omega) hv) ?_; rintro _ ⟨p16, rfl, hp16⟩
    refine h_take (l' := #[true, true, true, true, true, false, false]) 4 rfl (by kernel_rfl) rfl rfl (np_then (np_block (np_then (np_loop (np_block (np_then np_post)))))) (hs_pick (is := [0, 1]) rfl rfl) (y_loadA_el agg26 rfl hp16 rfl) ?_
    refine h_take (l' := #[true, true, true, true, true, true, false]) 5 rfl (by kernel_rfl) rfl rfl (np_then (np_block (np_then (np_loop (np_block (np_then np_post)))))) (hs_pick (is := [0, 1]) rfl rfl) (y_loadW (k := 0)  agg26 rfl rfl rfl) ?_
    refine h_only (l' := #[true, true, true, true, true, true, true]) 6 rfl (by kernel_rfl) rfl ?_
    refine l_callU rfl ent21 rfl (fun w hm => sameKey_c (a := v) (b := c) w) ?_
    refine l_nil ?_
    refine q_step (fun _ => hs_pick (is := [0, 1]) rfl rfl) ?_
    refine h_done (by kernel_rfl) ?_
    refine q_then ?_
    refine c_bool rfl ?_ ?_
    · intro h19
      refine c_seq ?_
      refine c_region rfl ?_
      refine gv rfl (y_move rfl) ?_
      refine gv rfl (y_assign rfl) ?_
      refine l_nil ?_
      refine q_then ?_
      refine c_ret ?_
      refine q_block_ret (q_then_ret (q_loop_ret (q_block_ret (q_then_ret ?_))))
      exact q_ret1 Tryz.results20 rfl () trivial (congrArg (Value.int .i64) (fidx_at (p := fun x => keyEq x c) hI hv h19).symm) hs_nil
    · intro h19
      refine c_skip ?_
      refine q_block (q_then ?_)
      refine c_region rfl ?_
      refine gv rfl (y_move rfl) ?_
      refine gv rfl (y_add rfl rfl (wrap_in (by omega) (by omega))) ?_
      refine gv rfl (y_assign rfl) ?_
      refine l_nil ?_
      exact again (s + 1) ⟨by omega, step_get hI hv h19⟩ (by omega) (sub_cons rfl sub_nil) (sub_cons rfl (sub_cons rfl sub_nil)) (hs_pick (is := [0, 1]) rfl rfl)
  · intro h10
    refine c_exit ?_
    refine q_then_exit (q_loop_exit (q_block_exit (q_then ?_)))
    refine c_seq ?_
    refine c_region rfl ?_
    refine gv rfl (y_assign rfl) ?_
    refine l_nil ?_
    refine q_then ?_
    refine c_ret ?_
    exact q_ret1 Tryz.results20 rfl () trivial (congrArg (Value.int .i64) (fidx_none (p := fun x => keyEq x c) hI (by omega)).symm) hs_nil

theorem jarPuts_c {ad : List UInt8 → Bool} {j : Ja} {c : Ck} {now : Int} {A0 : Option Addr} {k0 : Nat} (w : World) (hAd : AddrIs Tryz.prog 107 w ad) (had : ad wsh = false) (hJ : Sl Ck.cells 13 w A0 j.cks) (hj : j.ok) (hk0 : A0 = none → k0 = 0) (hc : c.fits) : Cv Tryz.prog 6 #[.agg (j.arr A0 k0), .agg c.arr, .int .i64 now] w (.bool true) := by
  refine enter (E := [(0, .agg (j.arr A0 k0)), (1, .agg c.arr), (2, .int .i64 now)]) Tryz.func6 rfl Tryz.ntmps6 rfl (by simp) ?_
  have hok := putJ_ok (now := now) hj hc
  have hjl := hj.1
  have hol := hok.1
  refine c_seq ?_
  refine c_region rfl ?_
  refine l_boxA rfl rfl ?_; intro g3
  refine l_boxA rfl rfl ?_; intro g4
  refine gv rfl (y_assign rfl) ?_
  refine l_nil ?_
  refine q_then ?_
  refine c_seq ?_
  refine c_region rfl ?_
  refine gv rfl (y_loadW (k := 1)  agg24 rfl rfl rfl) ?_
  refine gv rfl (y_loadW (k := 0)  agg26 rfl rfl rfl) ?_
  refine gv rfl (y_move rfl) ?_
  refine l_call rfl ent10 rfl (fun w hm => put_c (j := j) (c := c) w (hJ.below hm.below) hj hk0) ?_; rintro x19 h19
  refine gv rfl (y_move rfl) ?_
  refine gv rfl (y_extract rfl rfl) ?_
  refine gv rfl (y_extract rfl rfl) ?_
  refine l_allocA rfl zero24 ?_; intro g7
  refine l_storeW (k := 0) (H' := [_, _, _, _]) size24 rfl rfl rfl rfl rfl rfl rfl ?_
  refine gv rfl (y_assign rfl) ?_
  refine l_nil ?_
  refine q_then ?_
  refine c_seq ?_
  refine c_seq ?_
  refine c_region rfl ?_
  refine l_callU rfl ent12 rfl (fun w hm => jarBegun_c w (hAd.above hm.below) had) ?_
  refine gv rfl (y_not rfl rfl) ?_
  refine l_nil ?_
  refine q_then ?_
  refine c_cond_f rfl ?_
  refine c_skip ?_
  refine q_then ?_
  refine c_seq ?_
  refine c_seq ?_
  refine c_region rfl ?_
  refine gv rfl (y_move rfl) ?_
  refine gv rfl (y_neq rfl rfl) ?_
  refine l_nil ?_
  refine q_then ?_
  refine c_dec rfl ?_ ?_
  · intro h25
    refine c_seq ?_
    refine c_region rfl ?_
    refine gv rfl (y_assign rfl) ?_
    refine l_nil ?_
    refine q_then ?_
    refine c_ret ?_
    refine q_then_ret ?_
    exact q_ret1 Tryz.results6 rfl () trivial rfl hs_nil
  · intro h25
    have hz : putE j c now = 0 := Decidable.not_not.1 h25
    refine c_skip ?_
    refine q_then ?_
    refine c_seq ?_
    refine c_cut0 (Ef := [(2, _), (3, _), (4, _), (7, _)]) [(9, .int .i64 (atI c (putJ j c now).cks)), (10, .int .i64 (atI c j.cks))] (sub_cons rfl (sub_cons rfl (sub_cons rfl (sub_cons rfl sub_nil)))) ?_ ?_
    · skip
      refine c_drawp (l := #[false, false, false, false, false, false, false, false]) 8 (is := [0, 1, 2, 3]) rfl rfl rfl rfl ?_
      refine h_take (l' := #[true, false, false, false, false, false, false, false]) 0 rfl (by kernel_rfl) rfl rfl (np_cut (np_then np_post)) (hs_pick (is := [0, 1, 2, 3]) rfl rfl) (y_loadW (k := 0)  agg24 rfl rfl rfl) ?_
      refine h_take (l' := #[true, true, false, false, false, false, false, false]) 1 rfl (by kernel_rfl) rfl rfl (np_cut (np_then np_post)) (hs_pick (is := [0, 1, 2, 3]) rfl rfl) (y_loadW (k := 2)  agg26 rfl rfl rfl) ?_
      refine h_take (l' := #[true, true, false, true, false, false, false, false]) 3 rfl (by kernel_rfl) rfl rfl (np_cut (np_then np_post)) (hs_pick (is := [0, 1, 2, 3]) rfl rfl) (y_loadW (k := 3)  agg24 rfl rfl rfl) ?_
      refine h_take (l' := #[true, true, false, true, true, false, false, false]) 4 rfl (by kernel_rfl) rfl rfl (np_cut (np_then np_post)) (hs_pick (is := [0, 1, 2, 3]) rfl rfl) (y_loadW (k := 2)  agg26 rfl rfl rfl) ?_
      refine h_only (l' := #[true, true, true, true, true, false, false, false]) 2 rfl (by kernel_rfl) rfl ?_
      refine l_callU rfl ent20 rfl (fun w hm => find_c (j := (putJ j c now)) (c := c) w (sl_of_row hm (k := 1) rfl (fun _ => rfl) rfl) hok.1) ?_
      refine l_nil ?_
      refine q_step (fun _ => hs_pick (is := [0, 1, 2, 3]) rfl rfl) ?_
      refine h_only (l' := #[true, true, true, true, true, true, false, false]) 5 rfl (by kernel_rfl) rfl ?_
      refine l_callU rfl ent20 rfl (fun w hm => find_c (j := j) (c := c) w (hJ.below hm.below) hj.1) ?_
      refine l_nil ?_
      refine q_step (fun _ => hs_pick (is := [0, 1, 2, 3]) rfl rfl) ?_
      refine h_take (l' := #[true, true, true, true, true, true, true, false]) 6 rfl (by kernel_rfl) rfl rfl (np_cut (np_then np_post)) (hs_pick (is := [0, 1, 2, 3]) rfl rfl) (y_assign rfl) ?_
      refine h_take (l' := #[true, true, true, true, true, true, true, true]) 7 rfl (by kernel_rfl) rfl rfl (np_cut (np_then np_post)) (hs_pick (is := [0, 1, 2, 3]) rfl rfl) (y_assign rfl) ?_
      refine h_done (by kernel_rfl) ?_
      exact q_cut () trivial (sub_cons rfl (sub_cons rfl (sub_cons rfl (sub_cons rfl (sub_cons rfl (sub_cons rfl sub_nil)))))) (hs_pick (is := [0, 1, 2, 3]) rfl rfl)
    · skip
      refine q_then ?_
      refine c_seq ?_
      refine c_region rfl ?_
      refine gv rfl (y_assign rfl) ?_
      refine l_nil ?_
      refine q_then ?_
      refine c_seq ?_
      refine c_seq ?_
      refine c_region rfl ?_
      refine gv rfl (y_assign rfl) ?_
      refine l_nil ?_
      refine q_then ?_
      refine c_block ?_
      refine loop (Ef := [(2, _), (3, _), (4, _), (7, _), (9, _), (10, _)]) (Hf := [_, _, _, _]) (fun x : Nat × Bool => x.1 ≤ j.cks.length ∧ (x.2 = true → ∀ i, i < x.1 → ∀ u, j.cks[i]? = some u → u.used < c.used)) (fun x : Nat × Bool => [(12, .int .i64 (x.1 : Int)), (11, .bool x.2)]) (fun x : Nat × Bool => []) (fun x : Nat × Bool => j.cks.length - x.1) (0, true) ⟨Nat.zero_le _, fun _ i hi => by omega⟩ (sub_cons rfl (sub_cons rfl sub_nil)) (sub_cons rfl (sub_cons rfl (sub_cons rfl (sub_cons rfl (sub_cons rfl (sub_cons rfl sub_nil)))))) (hs_pick (is := [0, 1, 2, 3]) rfl rfl) ?_
      rintro ⟨s, b⟩ ⟨hs, hI⟩
      dsimp only at hs hI ⊢
      refine c_sub (E' := [(12, _), (11, _), (2, _), (3, _), (4, _), (7, _), (9, _), (10, _)]) (sub_cons rfl (sub_cons rfl (sub_cons rfl (sub_cons rfl (sub_cons rfl (sub_cons rfl (sub_cons rfl (sub_cons rfl sub_nil)))))))) ?_
      refine c_seq ?_
      refine c_seq ?_
      refine c_region rfl ?_
      refine gv rfl (y_move rfl) ?_
      refine gv rfl (y_faddr off24_0 rfl rfl) ?_
      refine gv rfl (y_load (k := 3)  one22 rfl rfl rfl) ?_
      refine gv rfl (y_len elem22 rfl) ?_
      refine gv rfl (y_lss rfl rfl) ?_
      refine l_nil ?_
      refine q_then ?_
      refine c_dec rfl ?_ ?_
      · intro h36
        have hlt : s < j.cks.length := by omega
        obtain ⟨v, hv⟩ := get_lt hlt
        refine c_skip ?_
        refine q_then ?_
        refine c_seq ?_
        refine c_block ?_
        refine c_drawp (l := #[false, false, false, false, false, false, false, false, false, false, false, false, false]) 13 (is := [0, 1, 2, 3]) rfl rfl rfl rfl ?_
        refine h_take (l' := #[true, false, false, false, false, false, false, false, false, false, false, false, false]) 0 rfl (by kernel_rfl) rfl rfl (np_block (np_then (np_loop (np_block (np_then np_post))))) (hs_pick (is := [0, 1, 2, 3]) rfl rfl) (y_move rfl) ?_
        refine h_take (l' := #[true, true, false, false, false, false, false, false, false, false, false, false, false]) 1 rfl (by kernel_rfl) rfl rfl (np_block (np_then (np_loop (np_block (np_then np_post))))) (hs_pick (is := [0, 1, 2, 3]) rfl rfl) (y_move rfl) ?_
        refine h_bool (t := 40) rfl ?_ ?_
        · intro h40
          refine h_takeg (t := 40) (l' := #[true, true, true, false, false, false, false, false, false, false, false, false, false]) 2 rfl (by kernel_rfl) rfl rfl (np_block (np_then (np_loop (np_block (np_then np_post))))) (hs_pick (is := [0, 1, 2, 3]) rfl rfl) rfl rfl (y_faddr off24_0 rfl rfl) ?_
          refine h_takeg (t := 40) (l' := #[true, true, true, true, false, false, false, false, false, false, false, false, false]) 3 rfl (by kernel_rfl) rfl rfl (np_block (np_then (np_loop (np_block (np_then np_post))))) (hs_pick (is := [0, 1, 2, 3]) rfl rfl) rfl rfl (y_load (k := 3)  one22 rfl rfl rfl) ?_
          refine h_takeg (t := 40) (l' := #[true, true, true, true, true, false, false, false, false, false, false, false, false]) 4 rfl (by kernel_rfl) rfl rfl (np_block (np_then (np_loop (np_block (np_then np_post))))) (hs_pick (is := [0, 1, 2, 3]) rfl rfl) rfl rfl (y_move rfl) ?_
          refine h_takege (t := 40) (l' := #[true, true, true, true, true, true, false, false, false, false, false, false, false]) 5 rfl (by kernel_rfl) rfl rfl (np_block (np_then (np_loop (np_block (np_then np_post))))) (hs_pick (is := [0, 1, 2, 3]) rfl rfl) rfl rfl (y_iaddr elem22 size26 hJ rfl rfl rfl (by omega) hv) ?_; rintro _ ⟨p44, rfl, hp44⟩
          refine h_takeg (t := 40) (l' := #[true, true, true, true, true, true, true, false, false, false, false, false, false]) 6 rfl (by kernel_rfl) rfl rfl (np_block (np_then (np_loop (np_block (np_then np_post))))) (hs_pick (is := [0, 1, 2, 3]) rfl rfl) rfl rfl (y_faddr_p off26_11 rfl) ?_
          refine h_takeg (t := 40) (l' := #[true, true, true, true, true, true, true, true, false, false, false, false, false]) 7 rfl (by kernel_rfl) rfl rfl (np_block (np_then (np_loop (np_block (np_then np_post))))) (hs_pick (is := [0, 1, 2, 3]) rfl rfl) rfl rfl (y_load_el one3 hp44 rfl rfl) ?_
          refine h_takeg (t := 40) (l' := #[true, true, true, true, true, true, true, true, true, false, false, false, false]) 8 rfl (by kernel_rfl) rfl rfl (np_block (np_then (np_loop (np_block (np_then np_post))))) (hs_pick (is := [0, 1, 2, 3]) rfl rfl) rfl rfl (y_faddr off26_11 rfl rfl) ?_
          refine h_takeg (t := 40) (l' := #[true, true, true, true, true, true, true, true, true, true, false, false, false]) 9 rfl (by kernel_rfl) rfl rfl (np_block (np_then (np_loop (np_block (np_then np_post))))) (hs_pick (is := [0, 1, 2, 3]) rfl rfl) rfl rfl (y_load (k := 2)  one3 rfl rfl rfl) ?_
          refine h_takeg (t := 40) (l' := #[true, true, true, true, true, true, true, true, true, true, true, false, false]) 10 rfl (by kernel_rfl) rfl rfl (np_block (np_then (np_loop (np_block (np_then np_post))))) (hs_pick (is := [0, 1, 2, 3]) rfl rfl) rfl rfl (y_lss rfl rfl) ?_
          refine h_take (l' := #[true, true, true, true, true, true, true, true, true, true, true, true, false]) 11 rfl (by kernel_rfl) rfl rfl (np_block (np_then (np_loop (np_block (np_then np_post))))) (hs_pick (is := [0, 1, 2, 3]) rfl rfl) (y_pick_t rfl rfl) ?_
          refine h_take (l' := #[true, true, true, true, true, true, true, true, true, true, true, true, true]) 12 rfl (by kernel_rfl) rfl rfl (np_block (np_then (np_loop (np_block (np_then np_post))))) (hs_pick (is := [0, 1, 2, 3]) rfl rfl) (y_assign rfl) ?_
          refine h_done (by kernel_rfl) ?_
          refine q_block (q_then ?_)
          refine c_region rfl ?_
          refine gv rfl (y_move rfl) ?_
          refine gv rfl (y_add rfl rfl (wrap_in (by omega) (by omega))) ?_
          refine gv rfl (y_assign rfl) ?_
          refine l_nil ?_
          exact again (s + 1, decide (v.used < c.used)) ⟨Nat.succ_le_of_lt hlt, fun hb => step_all (hI h40) (fun u hu => by rw [hv] at hu; cases hu; exact of_decide_eq_true hb)⟩ (by omega) (sub_cons rfl (sub_cons rfl sub_nil)) (sub_cons rfl (sub_cons rfl (sub_cons rfl (sub_cons rfl (sub_cons rfl (sub_cons rfl sub_nil)))))) (hs_pick (is := [0, 1, 2, 3]) rfl rfl)
        · intro h40
          refine h_off (t := 40) (l' := #[true, true, true, false, false, false, false, false, false, false, false, false, false]) 2 rfl (by kernel_rfl) rfl rfl (np_block (np_then (np_loop (np_block (np_then np_post))))) (hs_pick (is := [0, 1, 2, 3]) rfl rfl) rfl rfl rfl ?_
          refine h_off (t := 40) (l' := #[true, true, true, true, false, false, false, false, false, false, false, false, false]) 3 rfl (by kernel_rfl) rfl rfl (np_block (np_then (np_loop (np_block (np_then np_post))))) (hs_pick (is := [0, 1, 2, 3]) rfl rfl) rfl rfl rfl ?_
          refine h_off (t := 40) (l' := #[true, true, true, true, true, false, false, false, false, false, false, false, false]) 4 rfl (by kernel_rfl) rfl rfl (np_block (np_then (np_loop (np_block (np_then np_post))))) (hs_pick (is := [0, 1, 2, 3]) rfl rfl) rfl rfl rfl ?_
          refine h_off (t := 40) (l' := #[true, true, true, true, true, true, false, false, false, false, false, false, false]) 5 rfl (by kernel_rfl) rfl rfl (np_block (np_then (np_loop (np_block (np_then np_post))))) (hs_pick (is := [0, 1, 2, 3]) rfl rfl) rfl rfl rfl ?_
          refine h_off (t := 40) (l' := #[true, true, true, true, true, true, true, false, false, false, false, false, false]) 6 rfl (by kernel_rfl) rfl rfl (np_block (np_then (np_loop (np_block (np_then np_post))))) (hs_pick (is := [0, 1, 2, 3]) rfl rfl) rfl rfl rfl ?_
          refine h_off (t := 40) (l' := #[true, true, true, true, true, true, true, true, false, false, false, false, false]) 7 rfl (by kernel_rfl) rfl rfl (np_block (np_then (np_loop (np_block (np_then np_post))))) (hs_pick (is := [0, 1, 2, 3]) rfl rfl) rfl rfl rfl ?_
          refine h_off (t := 40) (l' := #[true, true, true, true, true, true, true, true, true, false, false, false, false]) 8 rfl (by kernel_rfl) rfl rfl (np_block (np_then (np_loop (np_block (np_then np_post))))) (hs_pick (is := [0, 1, 2, 3]) rfl rfl) rfl rfl rfl ?_
          refine h_off (t := 40) (l' := #[true, true, true, true, true, true, true, true, true, true, false, false, false]) 9 rfl (by kernel_rfl) rfl rfl (np_block (np_then (np_loop (np_block (np_then np_post))))) (hs_pick (is := [0, 1, 2, 3]) rfl rfl) rfl rfl rfl ?_
          refine h_off (t := 40) (l' := #[true, true, true, true, true, true, true, true, true, true, true, false, false]) 10 rfl (by kernel_rfl) rfl rfl (np_block (np_then (np_loop (np_block (np_then np_post))))) (hs_pick (is := [0, 1, 2, 3]) rfl rfl) rfl rfl rfl ?_
          refine h_take (l' := #[true, true, true, true, true, true, true, true, true, true, true, true, false]) 11 rfl (by kernel_rfl) rfl rfl (np_block (np_then (np_loop (np_block (np_then np_post))))) (hs_pick (is := [0, 1, 2, 3]) rfl rfl) (y_pick_f rfl rfl) ?_
          refine h_take (l' := #[true, true, true, true, true, true, true, true, true, true, true, true, true]) 12 rfl (by kernel_rfl) rfl rfl (np_block (np_then (np_loop (np_block (np_then np_post))))) (hs_pick (is := [0, 1, 2, 3]) rfl rfl) (y_assign rfl) ?_
          refine h_done (by kernel_rfl) ?_
          refine q_block (q_then ?_)
          refine c_region rfl ?_
          refine gv rfl (y_move rfl) ?_
          refine gv rfl (y_add rfl rfl (wrap_in (by omega) (by omega))) ?_
          refine gv rfl (y_assign rfl) ?_
          refine l_nil ?_
          exact again (s + 1, false) ⟨Nat.succ_le_of_lt hlt, fun hb => by cases hb⟩ (by omega) (sub_cons rfl (sub_cons rfl sub_nil)) (sub_cons rfl (sub_cons rfl (sub_cons rfl (sub_cons rfl (sub_cons rfl (sub_cons rfl sub_nil)))))) (hs_pick (is := [0, 1, 2, 3]) rfl rfl)
      · intro h36
        refine c_exit ?_
        refine q_then_exit (q_loop_exit (q_block_exit (q_then ?_)))
        refine c_seq ?_
        refine c_seq ?_
        refine c_cut0 (Ef := [(2, _), (3, _), (4, _), (7, _), (9, _), (10, _)]) [(70, .bool false)] (sub_cons rfl (sub_cons rfl (sub_cons rfl (sub_cons rfl (sub_cons rfl (sub_cons rfl sub_nil)))))) ?_ ?_
        · skip
          refine c_region rfl ?_
          refine gv rfl (y_loadW (k := 2)  agg26 rfl rfl rfl) ?_
          refine gv rfl (y_move rfl) ?_
          refine l_callU rfl ent19 rfl (fun w hm => live_c (c := c) w) ?_
          refine gv rfl (y_not rfl rfl) ?_
          refine gv rfl (y_move rfl) ?_
          refine g_ndec (t := 55) rfl ?_ ?_
          · intro h55
            refine g_on (t := 55) rfl rfl ?_
            refine gv rfl (y_move rfl) ?_
            refine g_on (t := 55) rfl rfl ?_
            refine gv rfl (y_geq rfl rfl) ?_
            refine gv rfl (y_pick_t rfl rfl) ?_
            refine gv rfl (y_move rfl) ?_
            refine g_dec (t := 59) rfl ?_ ?_
            · intro h59
              exact absurd h59 (puts_dead hz h55)
            · intro h59
              refine g_on (t := 59) rfl rfl ?_
              refine gv rfl (y_loadW (k := 2)  agg26 rfl rfl rfl) ?_
              refine g_on (t := 59) rfl rfl ?_
              refine gv rfl (y_move rfl) ?_
              refine g_on (t := 59) rfl rfl ?_
              refine l_callU rfl ent19 rfl (fun w hm => live_c (c := c) w) ?_
              refine g_on (t := 59) rfl rfl ?_
              refine gv rfl (y_move rfl) ?_
              refine g_dec (t := 63) rfl ?_ ?_
              · intro h63
                exact absurd h63 h55
              · intro h63
                refine g_off (t := 63) rfl rfl rfl rfl ?_
                refine g_on (t := 59) rfl rfl ?_
                refine gv rfl (y_pick_f rfl rfl) ?_
                refine g_on (t := 59) rfl rfl ?_
                refine gv rfl (y_move rfl) ?_
                refine g_off (t := 66) rfl rfl rfl rfl ?_
                refine g_off (t := 66) rfl rfl rfl rfl ?_
                refine g_on (t := 59) rfl rfl ?_
                refine gv rfl (y_pick_f rfl rfl) ?_
                refine gv rfl (y_pick_f rfl rfl) ?_
                refine l_nil ?_
                exact q_cut () trivial (sub_cons rfl (sub_cons rfl (sub_cons rfl (sub_cons rfl (sub_cons rfl (sub_cons rfl (sub_cons rfl sub_nil))))))) (hs_pick (is := [0, 1, 2, 3]) rfl rfl)
          · intro h55
            refine g_off (t := 55) rfl rfl rfl rfl ?_
            refine g_off (t := 55) rfl rfl rfl rfl ?_
            refine gv rfl (y_pick_f rfl rfl) ?_
            refine gv rfl (y_move rfl) ?_
            refine g_on (t := 59) rfl rfl ?_
            refine gv rfl (y_loadW (k := 2)  agg26 rfl rfl rfl) ?_
            refine g_on (t := 59) rfl rfl ?_
            refine gv rfl (y_move rfl) ?_
            refine g_on (t := 59) rfl rfl ?_
            refine l_callU rfl ent19 rfl (fun w hm => live_c (c := c) w) ?_
            refine g_on (t := 59) rfl rfl ?_
            refine gv rfl (y_move rfl) ?_
            refine g_dec (t := 63) rfl ?_ ?_
            · intro h63
              refine g_on (t := 63) rfl rfl ?_
              refine gv rfl (y_move rfl) ?_
              refine g_on (t := 59) rfl rfl ?_
              refine gv rfl (y_pick_t rfl rfl) ?_
              refine g_on (t := 59) rfl rfl ?_
              refine gv rfl (y_move rfl) ?_
              refine g_bool (t := 66) rfl ?_ ?_
              · intro h66
                refine g_on (t := 66) rfl rfl ?_
                refine gv rfl (y_move rfl) ?_
                refine g_on (t := 66) rfl rfl ?_
                refine gv rfl (y_lss rfl rfl) ?_
                refine g_on (t := 59) rfl rfl ?_
                refine gv rfl (y_pick_t rfl rfl) ?_
                refine gv rfl (y_pick_f rfl rfl) ?_
                refine l_nil ?_
                rw [decide_eq_false (puts_there hz h55 (fun x hx => by
                  obtain ⟨i, hi⟩ := List.mem_iff_getElem?.1 hx
                  exact hI h66 i (by have := (List.getElem?_eq_some_iff.1 hi).1; omega) x hi))]
                exact q_cut () trivial (sub_cons rfl (sub_cons rfl (sub_cons rfl (sub_cons rfl (sub_cons rfl (sub_cons rfl (sub_cons rfl sub_nil))))))) (hs_pick (is := [0, 1, 2, 3]) rfl rfl)
              · intro h66
                refine g_off (t := 66) rfl rfl rfl rfl ?_
                refine g_off (t := 66) rfl rfl rfl rfl ?_
                refine g_on (t := 59) rfl rfl ?_
                refine gv rfl (y_pick_f rfl rfl) ?_
                refine gv rfl (y_pick_f rfl rfl) ?_
                refine l_nil ?_
                exact q_cut () trivial (sub_cons rfl (sub_cons rfl (sub_cons rfl (sub_cons rfl (sub_cons rfl (sub_cons rfl (sub_cons rfl sub_nil))))))) (hs_pick (is := [0, 1, 2, 3]) rfl rfl)
            · intro h63
              exact absurd h55 h63
        · skip
          refine q_then ?_
          refine c_cond_f rfl ?_
          refine c_skip ?_
          refine q_then ?_
          refine c_seq ?_
          refine c_seq ?_
          refine c_cut0 (Ef := [(2, _), (3, _), (4, _), (7, _), (9, _), (10, _)]) [(115, .bool false)] (sub_cons rfl (sub_cons rfl (sub_cons rfl (sub_cons rfl (sub_cons rfl (sub_cons rfl sub_nil)))))) ?_ ?_
          · skip
            refine c_drawp (l := #[false, false, false, false, false, false, false, false, false, false, false, false, false, false, false, false, false, false, false, false, false, false, false, false, false, false, false, false, false, false, false, false, false, false, false, false, false, false, false, false, false, false, false, false, false]) 45 (is := [0, 1, 2, 3]) rfl rfl rfl rfl ?_
            refine h_take (l' := #[true, false, false, false, false, false, false, false, false, false, false, false, false, false, false, false, false, false, false, false, false, false, false, false, false, false, false, false, false, false, false, false, false, false, false, false, false, false, false, false, false, false, false, false, false]) 0 rfl (by kernel_rfl) rfl rfl (np_cut (np_then (np_then np_post))) (hs_pick (is := [0, 1, 2, 3]) rfl rfl) (y_move rfl) ?_
            refine h_take (l' := #[true, true, false, false, false, false, false, false, false, false, false, false, false, false, false, false, false, false, false, false, false, false, false, false, false, false, false, false, false, false, false, false, false, false, false, false, false, false, false, false, false, false, false, false, false]) 1 rfl (by kernel_rfl) rfl rfl (np_cut (np_then (np_then np_post))) (hs_pick (is := [0, 1, 2, 3]) rfl rfl) (y_geq rfl rfl) ?_
            refine h_take (l' := #[true, true, true, false, false, false, false, false, false, false, false, false, false, false, false, false, false, false, false, false, false, false, false, false, false, false, false, false, false, false, false, false, false, false, false, false, false, false, false, false, false, false, false, false, false]) 2 rfl (by kernel_rfl) rfl rfl (np_cut (np_then (np_then np_post))) (hs_pick (is := [0, 1, 2, 3]) rfl rfl) (y_move rfl) ?_
            refine h_dec (t := 73) rfl ?_ ?_
            · intro h73
              obtain ⟨ia, va, ea, hva, hka⟩ := fidx_spec h73
              have ea2 : (atI c (putJ j c now).cks).toNat = ia := by unfold atI; rw [ea]; rfl
              rw [← ea2] at hva
              refine h_takeg (t := 73) (l' := #[true, true, true, true, false, false, false, false, false, false, false, false, false, false, false, false, false, false, false, false, false, false, false, false, false, false, false, false, false, false, false, false, false, false, false, false, false, false, false, false, false, false, false, false, false]) 3 rfl (by kernel_rfl) rfl rfl (np_cut (np_then (np_then np_post))) (hs_pick (is := [0, 1, 2, 3]) rfl rfl) rfl rfl (y_move rfl) ?_
              refine h_takeg (t := 73) (l' := #[true, true, true, true, true, false, false, false, false, false, false, false, false, false, false, false, false, false, false, false, false, false, false, false, false, false, false, false, false, false, false, false, false, false, false, false, false, false, false, false, false, false, false, false, false]) 4 rfl (by kernel_rfl) rfl rfl (np_cut (np_then (np_then np_post))) (hs_pick (is := [0, 1, 2, 3]) rfl rfl) rfl rfl (y_geq rfl rfl) ?_
              refine h_take (l' := #[true, true, true, true, true, true, false, false, false, false, false, false, false, false, false, false, false, false, false, false, false, false, false, false, false, false, false, false, false, false, false, false, false, false, false, false, false, false, false, false, false, false, false, false, false]) 5 rfl (by kernel_rfl) rfl rfl (np_cut (np_then (np_then np_post))) (hs_pick (is := [0, 1, 2, 3]) rfl rfl) (y_pick_t rfl rfl) ?_
              refine h_take (l' := #[true, true, true, true, true, true, true, false, false, false, false, false, false, false, false, false, false, false, false, false, false, false, false, false, false, false, false, false, false, false, false, false, false, false, false, false, false, false, false, false, false, false, false, false, false]) 6 rfl (by kernel_rfl) rfl rfl (np_cut (np_then (np_then np_post))) (hs_pick (is := [0, 1, 2, 3]) rfl rfl) (y_move rfl) ?_
              refine h_dec (t := 77) rfl ?_ ?_
              · intro h77
                obtain ⟨iw, vw, ew, hvw, hkw⟩ := fidx_spec h77
                have ew2 : (atI c j.cks).toNat = iw := by unfold atI; rw [ew]; rfl
                rw [← ew2] at hvw
                refine h_takeg (t := 77) (l' := #[true, true, true, true, true, true, true, true, false, false, false, false, false, false, false, false, false, false, false, false, false, false, false, false, false, false, false, false, false, false, false, false, false, false, false, false, false, false, false, false, false, false, false, false, false]) 7 rfl (by kernel_rfl) rfl rfl (np_cut (np_then (np_then np_post))) (hs_pick (is := [0, 1, 2, 3]) rfl rfl) rfl rfl (y_faddr off24_0 rfl rfl) ?_
                refine h_takeg (t := 77) (l' := #[true, true, true, true, true, true, true, true, true, false, false, false, false, false, false, false, false, false, false, false, false, false, false, false, false, false, false, false, false, false, false, false, false, false, false, false, false, false, false, false, false, false, false, false, false]) 8 rfl (by kernel_rfl) rfl rfl (np_cut (np_then (np_then np_post))) (hs_pick (is := [0, 1, 2, 3]) rfl rfl) rfl rfl (y_load (k := 3)  one22 rfl rfl rfl) ?_
                refine h_takeg (t := 77) (l' := #[true, true, true, true, true, true, true, true, true, true, false, false, false, false, false, false, false, false, false, false, false, false, false, false, false, false, false, false, false, false, false, false, false, false, false, false, false, false, false, false, false, false, false, false, false]) 9 rfl (by kernel_rfl) rfl rfl (np_cut (np_then (np_then np_post))) (hs_pick (is := [0, 1, 2, 3]) rfl rfl) rfl rfl (y_move rfl) ?_
                refine h_takege (t := 77) (l' := #[true, true, true, true, true, true, true, true, true, true, true, false, false, false, false, false, false, false, false, false, false, false, false, false, false, false, false, false, false, false, false, false, false, false, false, false, false, false, false, false, false, false, false, false, false]) 10 rfl (by kernel_rfl) rfl rfl (np_cut (np_then (np_then np_post))) (hs_pick (is := [0, 1, 2, 3]) rfl rfl) rfl rfl (y_iaddr elem22 size26 hJ rfl rfl rfl (by omega) hvw) ?_; rintro _ ⟨p81, rfl, hp81⟩
                refine h_takeg (t := 77) (l' := #[true, true, true, true, true, true, true, true, true, true, true, true, false, false, false, false, false, false, false, false, false, false, false, false, false, false, false, false, false, false, false, false, false, false, false, false, false, false, false, false, false, false, false, false, false]) 11 rfl (by kernel_rfl) rfl rfl (np_cut (np_then (np_then np_post))) (hs_pick (is := [0, 1, 2, 3]) rfl rfl) rfl rfl (y_loadA_el agg26 rfl hp81 rfl) ?_
                refine h_takeg (t := 77) (l' := #[true, true, true, true, true, true, true, true, true, true, true, true, true, false, false, false, false, false, false, false, false, false, false, false, false, false, false, false, false, false, false, false, false, false, false, false, false, false, false, false, false, false, false, false, false]) 12 rfl (by kernel_rfl) rfl rfl (np_cut (np_then (np_then np_post))) (hs_pick (is := [0, 1, 2, 3]) rfl rfl) rfl rfl (y_move rfl) ?_
                refine h_only (l' := #[true, true, true, true, true, true, true, true, true, true, true, true, true, true, false, false, false, false, false, false, false, false, false, false, false, false, false, false, false, false, false, false, false, false, false, false, false, false, false, false, false, false, false, false, false]) 13 rfl (by kernel_rfl) rfl ?_
                refine g_on (t := 77) rfl rfl ?_
                refine l_callU rfl ent19 rfl (fun w hm => live_c (c := vw) w) ?_
                refine l_nil ?_
                refine q_step (fun _ => hs_pick (is := [0, 1, 2, 3]) rfl rfl) ?_
                refine h_take (l' := #[true, true, true, true, true, true, true, true, true, true, true, true, true, true, true, false, false, false, false, false, false, false, false, false, false, false, false, false, false, false, false, false, false, false, false, false, false, false, false, false, false, false, false, false, false]) 14 rfl (by kernel_rfl) rfl rfl (np_cut (np_then (np_then np_post))) (hs_pick (is := [0, 1, 2, 3]) rfl rfl) (y_pick_t rfl rfl) ?_
                refine h_take (l' := #[true, true, true, true, true, true, true, true, true, true, true, true, true, true, true, true, false, false, false, false, false, false, false, false, false, false, false, false, false, false, false, false, false, false, false, false, false, false, false, false, false, false, false, false, false]) 15 rfl (by kernel_rfl) rfl rfl (np_cut (np_then (np_then np_post))) (hs_pick (is := [0, 1, 2, 3]) rfl rfl) (y_move rfl) ?_
                refine h_dec (t := 86) rfl ?_ ?_
                · intro h86
                  refine h_takeg (t := 86) (l' := #[true, true, true, true, true, true, true, true, true, true, true, true, true, true, true, true, true, false, false, false, false, false, false, false, false, false, false, false, false, false, false, false, false, false, false, false, false, false, false, false, false, false, false, false, false]) 16 rfl (by kernel_rfl) rfl rfl (np_cut (np_then (np_then np_post))) (hs_pick (is := [0, 1, 2, 3]) rfl rfl) rfl rfl (y_faddr off24_0 rfl rfl) ?_
                  refine h_takeg (t := 86) (l' := #[true, true, true, true, true, true, true, true, true, true, true, true, true, true, true, true, true, true, false, false, false, false, false, false, false, false, false, false, false, false, false, false, false, false, false, false, false, false, false, false, false, false, false, false, false]) 17 rfl (by kernel_rfl) rfl rfl (np_cut (np_then (np_then np_post))) (hs_pick (is := [0, 1, 2, 3]) rfl rfl) rfl rfl (y_load (k := 0)  one22 rfl rfl rfl) ?_
                  refine h_takeg (t := 86) (l' := #[true, true, true, true, true, true, true, true, true, true, true, true, true, true, true, true, true, true, true, false, false, false, false, false, false, false, false, false, false, false, false, false, false, false, false, false, false, false, false, false, false, false, false, false, false]) 18 rfl (by kernel_rfl) rfl rfl (np_cut (np_then (np_then np_post))) (hs_pick (is := [0, 1, 2, 3]) rfl rfl) rfl rfl (y_move rfl) ?_
                  refine h_takeg (t := 86) (l' := #[true, true, true, true, true, true, true, true, true, true, true, true, true, true, true, true, true, true, true, true, false, false, false, false, false, false, false, false, false, false, false, false, false, false, false, false, false, false, false, false, false, false, false, false, false]) 19 rfl (by kernel_rfl) rfl rfl (np_cut (np_then (np_then np_post))) (hs_pick (is := [0, 1, 2, 3]) rfl rfl) rfl rfl (y_iaddr_row (k := 1) elem22 size26 rfl (fun _ => rfl) rfl rfl rfl (by omega) hva) ?_
                  refine h_takeg (t := 86) (l' := #[true, true, true, true, true, true, true, true, true, true, true, true, true, true, true, true, true, true, true, true, true, false, false, false, false, false, false, false, false, false, false, false, false, false, false, false, false, false, false, false, false, false, false, false, false]) 20 rfl (by kernel_rfl) rfl rfl (np_cut (np_then (np_then np_post))) (hs_pick (is := [0, 1, 2, 3]) rfl rfl) rfl rfl (y_faddr_row (k := 1) off26_12 rfl (fun _ => rfl) rfl rfl hva rfl) ?_
                  refine h_takeg (t := 86) (l' := #[true, true, true, true, true, true, true, true, true, true, true, true, true, true, true, true, true, true, true, true, true, true, false, false, false, false, false, false, false, false, false, false, false, false, false, false, false, false, false, false, false, false, false, false, false]) 21 rfl (by kernel_rfl) rfl rfl (np_cut (np_then (np_then np_post))) (hs_pick (is := [0, 1, 2, 3]) rfl rfl) rfl rfl (y_load_row (k := 1) one3 rfl (fun _ => rfl) rfl 12 rfl rfl hva rfl) ?_
                  refine h_takeg (t := 86) (l' := #[true, true, true, true, true, true, true, true, true, true, true, true, true, true, true, true, true, true, true, true, true, true, true, false, false, false, false, false, false, false, false, false, false, false, false, false, false, false, false, false, false, false, false, false, false]) 22 rfl (by kernel_rfl) rfl rfl (np_cut (np_then (np_then np_post))) (hs_pick (is := [0, 1, 2, 3]) rfl rfl) rfl rfl (y_faddr off24_0 rfl rfl) ?_
                  refine h_takeg (t := 86) (l' := #[true, true, true, true, true, true, true, true, true, true, true, true, true, true, true, true, true, true, true, true, true, true, true, true, false, false, false, false, false, false, false, false, false, false, false, false, false, false, false, false, false, false, false, false, false]) 23 rfl (by kernel_rfl) rfl rfl (np_cut (np_then (np_then np_post))) (hs_pick (is := [0, 1, 2, 3]) rfl rfl) rfl rfl (y_load (k := 3)  one22 rfl rfl rfl) ?_
                  refine h_takeg (t := 86) (l' := #[true, true, true, true, true, true, true, true, true, true, true, true, true, true, true, true, true, true, true, true, true, true, true, true, true, false, false, false, false, false, false, false, false, false, false, false, false, false, false, false, false, false, false, false, false]) 24 rfl (by kernel_rfl) rfl rfl (np_cut (np_then (np_then np_post))) (hs_pick (is := [0, 1, 2, 3]) rfl rfl) rfl rfl (y_move rfl) ?_
                  refine h_takege (t := 86) (l' := #[true, true, true, true, true, true, true, true, true, true, true, true, true, true, true, true, true, true, true, true, true, true, true, true, true, true, false, false, false, false, false, false, false, false, false, false, false, false, false, false, false, false, false, false, false]) 25 rfl (by kernel_rfl) rfl rfl (np_cut (np_then (np_then np_post))) (hs_pick (is := [0, 1, 2, 3]) rfl rfl) rfl rfl (y_iaddr elem22 size26 hJ rfl rfl rfl (by omega) hvw) ?_; rintro _ ⟨p96, rfl, hp96⟩
                  refine h_takeg (t := 86) (l' := #[true, true, true, true, true, true, true, true, true, true, true, true, true, true, true, true, true, true, true, true, true, true, true, true, true, true, true, false, false, false, false, false, false, false, false, false, false, false, false, false, false, false, false, false, false]) 26 rfl (by kernel_rfl) rfl rfl (np_cut (np_then (np_then np_post))) (hs_pick (is := [0, 1, 2, 3]) rfl rfl) rfl rfl (y_faddr_p off26_12 rfl) ?_
                  refine h_takeg (t := 86) (l' := #[true, true, true, true, true, true, true, true, true, true, true, true, true, true, true, true, true, true, true, true, true, true, true, true, true, true, true, true, false, false, false, false, false, false, false, false, false, false, false, false, false, false, false, false, false]) 27 rfl (by kernel_rfl) rfl rfl (np_cut (np_then (np_then np_post))) (hs_pick (is := [0, 1, 2, 3]) rfl rfl) rfl rfl (y_load_el one3 hp96 rfl rfl) ?_
                  refine h_takeg (t := 86) (l' := #[true, true, true, true, true, true, true, true, true, true, true, true, true, true, true, true, true, true, true, true, true, true, true, true, true, true, true, true, true, false, false, false, false, false, false, false, false, false, false, false, false, false, false, false, false]) 28 rfl (by kernel_rfl) rfl rfl (np_cut (np_then (np_then np_post))) (hs_pick (is := [0, 1, 2, 3]) rfl rfl) rfl rfl (y_neq rfl rfl) ?_
                  refine h_takeg (t := 86) (l' := #[true, true, true, true, true, true, true, true, true, true, true, true, true, true, true, true, true, true, true, true, true, true, true, true, true, true, true, true, true, true, false, false, false, false, false, false, false, false, false, false, false, false, false, false, false]) 29 rfl (by kernel_rfl) rfl rfl (np_cut (np_then (np_then np_post))) (hs_pick (is := [0, 1, 2, 3]) rfl rfl) rfl rfl (y_move rfl) ?_
                  refine h_dec (t := 100) rfl ?_ ?_
                  · intro h100
                    exact absurd (puts_same hz hva hka hvw hkw h86).1 h100
                  · intro h100
                    refine h_takeg (t := 100) (l' := #[true, true, true, true, true, true, true, true, true, true, true, true, true, true, true, true, true, true, true, true, true, true, true, true, true, true, true, true, true, true, true, false, false, false, false, false, false, false, false, false, false, false, false, false, false]) 30 rfl (by kernel_rfl) rfl rfl (np_cut (np_then (np_then np_post))) (hs_pick (is := [0, 1, 2, 3]) rfl rfl) rfl rfl (y_faddr off24_0 rfl rfl) ?_
                    refine h_takeg (t := 100) (l' := #[true, true, true, true, true, true, true, true, true, true, true, true, true, true, true, true, true, true, true, true, true, true, true, true, true, true, true, true, true, true, true, true, false, false, false, false, false, false, false, false, false, false, false, false, false]) 31 rfl (by kernel_rfl) rfl rfl (np_cut (np_then (np_then np_post))) (hs_pick (is := [0, 1, 2, 3]) rfl rfl) rfl rfl (y_load (k := 0)  one22 rfl rfl rfl) ?_
                    refine h_takeg (t := 100) (l' := #[true, true, true, true, true, true, true, true, true, true, true, true, true, true, true, true, true, true, true, true, true, true, true, true, true, true, true, true, true, true, true, true, true, false, false, false, false, false, false, false, false, false, false, false, false]) 32 rfl (by kernel_rfl) rfl rfl (np_cut (np_then (np_then np_post))) (hs_pick (is := [0, 1, 2, 3]) rfl rfl) rfl rfl (y_move rfl) ?_
                    refine h_takeg (t := 100) (l' := #[true, true, true, true, true, true, true, true, true, true, true, true, true, true, true, true, true, true, true, true, true, true, true, true, true, true, true, true, true, true, true, true, true, true, false, false, false, false, false, false, false, false, false, false, false]) 33 rfl (by kernel_rfl) rfl rfl (np_cut (np_then (np_then np_post))) (hs_pick (is := [0, 1, 2, 3]) rfl rfl) rfl rfl (y_iaddr_row (k := 1) elem22 size26 rfl (fun _ => rfl) rfl rfl rfl (by omega) hva) ?_
                    refine h_takeg (t := 100) (l' := #[true, true, true, true, true, true, true, true, true, true, true, true, true, true, true, true, true, true, true, true, true, true, true, true, true, true, true, true, true, true, true, true, true, true, true, false, false, false, false, false, false, false, false, false, false]) 34 rfl (by kernel_rfl) rfl rfl (np_cut (np_then (np_then np_post))) (hs_pick (is := [0, 1, 2, 3]) rfl rfl) rfl rfl (y_faddr_row (k := 1) off26_10 rfl (fun _ => rfl) rfl rfl hva rfl) ?_
                    refine h_takeg (t := 100) (l' := #[true, true, true, true, true, true, true, true, true, true, true, true, true, true, true, true, true, true, true, true, true, true, true, true, true, true, true, true, true, true, true, true, true, true, true, true, false, false, false, false, false, false, false, false, false]) 35 rfl (by kernel_rfl) rfl rfl (np_cut (np_then (np_then np_post))) (hs_pick (is := [0, 1, 2, 3]) rfl rfl) rfl rfl (y_load_row (k := 1) one3 rfl (fun _ => rfl) rfl 10 rfl rfl hva rfl) ?_
                    refine h_takeg (t := 100) (l' := #[true, true, true, true, true, true, true, true, true, true, true, true, true, true, true, true, true, true, true, true, true, true, true, true, true, true, true, true, true, true, true, true, true, true, true, true, true, false, false, false, false, false, false, false, false]) 36 rfl (by kernel_rfl) rfl rfl (np_cut (np_then (np_then np_post))) (hs_pick (is := [0, 1, 2, 3]) rfl rfl) rfl rfl (y_faddr off24_0 rfl rfl) ?_
                    refine h_takeg (t := 100) (l' := #[true, true, true, true, true, true, true, true, true, true, true, true, true, true, true, true, true, true, true, true, true, true, true, true, true, true, true, true, true, true, true, true, true, true, true, true, true, true, false, false, false, false, false, false, false]) 37 rfl (by kernel_rfl) rfl rfl (np_cut (np_then (np_then np_post))) (hs_pick (is := [0, 1, 2, 3]) rfl rfl) rfl rfl (y_load (k := 3)  one22 rfl rfl rfl) ?_
                    refine h_takeg (t := 100) (l' := #[true, true, true, true, true, true, true, true, true, true, true, true, true, true, true, true, true, true, true, true, true, true, true, true, true, true, true, true, true, true, true, true, true, true, true, true, true, true, true, false, false, false, false, false, false]) 38 rfl (by kernel_rfl) rfl rfl (np_cut (np_then (np_then np_post))) (hs_pick (is := [0, 1, 2, 3]) rfl rfl) rfl rfl (y_move rfl) ?_
                    refine h_takege (t := 100) (l' := #[true, true, true, true, true, true, true, true, true, true, true, true, true, true, true, true, true, true, true, true, true, true, true, true, true, true, true, true, true, true, true, true, true, true, true, true, true, true, true, true, false, false, false, false, false]) 39 rfl (by kernel_rfl) rfl rfl (np_cut (np_then (np_then np_post))) (hs_pick (is := [0, 1, 2, 3]) rfl rfl) rfl rfl (y_iaddr elem22 size26 hJ rfl rfl rfl (by omega) hvw) ?_; rintro _ ⟨p110, rfl, hp110⟩
                    refine h_takeg (t := 100) (l' := #[true, true, true, true, true, true, true, true, true, true, true, true, true, true, true, true, true, true, true, true, true, true, true, true, true, true, true, true, true, true, true, true, true, true, true, true, true, true, true, true, true, false, false, false, false]) 40 rfl (by kernel_rfl) rfl rfl (np_cut (np_then (np_then np_post))) (hs_pick (is := [0, 1, 2, 3]) rfl rfl) rfl rfl (y_faddr_p off26_10 rfl) ?_
                    refine h_takeg (t := 100) (l' := #[true, true, true, true, true, true, true, true, true, true, true, true, true, true, true, true, true, true, true, true, true, true, true, true, true, true, true, true, true, true, true, true, true, true, true, true, true, true, true, true, true, true, false, false, false]) 41 rfl (by kernel_rfl) rfl rfl (np_cut (np_then (np_then np_post))) (hs_pick (is := [0, 1, 2, 3]) rfl rfl) rfl rfl (y_load_el one3 hp110 rfl rfl) ?_
                    refine h_takeg (t := 100) (l' := #[true, true, true, true, true, true, true, true, true, true, true, true, true, true, true, true, true, true, true, true, true, true, true, true, true, true, true, true, true, true, true, true, true, true, true, true, true, true, true, true, true, true, true, false, false]) 42 rfl (by kernel_rfl) rfl rfl (np_cut (np_then (np_then np_post))) (hs_pick (is := [0, 1, 2, 3]) rfl rfl) rfl rfl (y_neq rfl rfl) ?_
                    refine h_takeg (t := 86) (l' := #[true, true, true, true, true, true, true, true, true, true, true, true, true, true, true, true, true, true, true, true, true, true, true, true, true, true, true, true, true, true, true, true, true, true, true, true, true, true, true, true, true, true, true, true, false]) 43 rfl (by kernel_rfl) rfl rfl (np_cut (np_then (np_then np_post))) (hs_pick (is := [0, 1, 2, 3]) rfl rfl) rfl rfl (y_pick_f rfl rfl) ?_
                    refine h_take (l' := #[true, true, true, true, true, true, true, true, true, true, true, true, true, true, true, true, true, true, true, true, true, true, true, true, true, true, true, true, true, true, true, true, true, true, true, true, true, true, true, true, true, true, true, true, true]) 44 rfl (by kernel_rfl) rfl rfl (np_cut (np_then (np_then np_post))) (hs_pick (is := [0, 1, 2, 3]) rfl rfl) (y_pick_t rfl rfl) ?_
                    refine h_done (by kernel_rfl) ?_
                    rw [decide_eq_false (fun hn => hn (puts_same hz hva hka hvw hkw h86).2)]
                    exact q_cut () trivial (sub_cons rfl (sub_cons rfl (sub_cons rfl (sub_cons rfl (sub_cons rfl (sub_cons rfl (sub_cons rfl sub_nil))))))) (hs_pick (is := [0, 1, 2, 3]) rfl rfl)
                · intro h86
                  refine h_off (t := 86) (l' := #[true, true, true, true, true, true, true, true, true, true, true, true, true, true, true, true, true, false, false, false, false, false, false, false, false, false, false, false, false, false, false, false, false, false, false, false, false, false, false, false, false, false, false, false, false]) 16 rfl (by kernel_rfl) rfl rfl (np_cut (np_then (np_then np_post))) (hs_pick (is := [0, 1, 2, 3]) rfl rfl) rfl rfl rfl ?_
                  refine h_off (t := 86) (l' := #[true, true, true, true, true, true, true, true, true, true, true, true, true, true, true, true, true, true, false, false, false, false, false, false, false, false, false, false, false, false, false, false, false, false, false, false, false, false, false, false, false, false, false, false, false]) 17 rfl (by kernel_rfl) rfl rfl (np_cut (np_then (np_then np_post))) (hs_pick (is := [0, 1, 2, 3]) rfl rfl) rfl rfl rfl ?_
                  refine h_off (t := 86) (l' := #[true, true, true, true, true, true, true, true, true, true, true, true, true, true, true, true, true, true, true, false, false, false, false, false, false, false, false, false, false, false, false, false, false, false, false, false, false, false, false, false, false, false, false, false, false]) 18 rfl (by kernel_rfl) rfl rfl (np_cut (np_then (np_then np_post))) (hs_pick (is := [0, 1, 2, 3]) rfl rfl) rfl rfl rfl ?_
                  refine h_off (t := 86) (l' := #[true, true, true, true, true, true, true, true, true, true, true, true, true, true, true, true, true, true, true, true, false, false, false, false, false, false, false, false, false, false, false, false, false, false, false, false, false, false, false, false, false, false, false, false, false]) 19 rfl (by kernel_rfl) rfl rfl (np_cut (np_then (np_then np_post))) (hs_pick (is := [0, 1, 2, 3]) rfl rfl) rfl rfl rfl ?_
                  refine h_off (t := 86) (l' := #[true, true, true, true, true, true, true, true, true, true, true, true, true, true, true, true, true, true, true, true, true, false, false, false, false, false, false, false, false, false, false, false, false, false, false, false, false, false, false, false, false, false, false, false, false]) 20 rfl (by kernel_rfl) rfl rfl (np_cut (np_then (np_then np_post))) (hs_pick (is := [0, 1, 2, 3]) rfl rfl) rfl rfl rfl ?_
                  refine h_off (t := 86) (l' := #[true, true, true, true, true, true, true, true, true, true, true, true, true, true, true, true, true, true, true, true, true, true, false, false, false, false, false, false, false, false, false, false, false, false, false, false, false, false, false, false, false, false, false, false, false]) 21 rfl (by kernel_rfl) rfl rfl (np_cut (np_then (np_then np_post))) (hs_pick (is := [0, 1, 2, 3]) rfl rfl) rfl rfl rfl ?_
                  refine h_off (t := 86) (l' := #[true, true, true, true, true, true, true, true, true, true, true, true, true, true, true, true, true, true, true, true, true, true, true, false, false, false, false, false, false, false, false, false, false, false, false, false, false, false, false, false, false, false, false, false, false]) 22 rfl (by kernel_rfl) rfl rfl (np_cut (np_then (np_then np_post))) (hs_pick (is := [0, 1, 2, 3]) rfl rfl) rfl rfl rfl ?_
                  refine h_off (t := 86) (l' := #[true, true, true, true, true, true, true, true, true, true, true, true, true, true, true, true, true, true, true, true, true, true, true, true, false, false, false, false, false, false, false, false, false, false, false, false, false, false, false, false, false, false, false, false, false]) 23 rfl (by kernel_rfl) rfl rfl (np_cut (np_then (np_then np_post))) (hs_pick (is := [0, 1, 2, 3]) rfl rfl) rfl rfl rfl ?_
                  refine h_off (t := 86) (l' := #[true, true, true, true, true, true, true, true, true, true, true, true, true, true, true, true, true, true, true, true, true, true, true, true, true, false, false, false, false, false, false, false, false, false, false, false, false, false, false, false, false, false, false, false, false]) 24 rfl (by kernel_rfl) rfl rfl (np_cut (np_then (np_then np_post))) (hs_pick (is := [0, 1, 2, 3]) rfl rfl) rfl rfl rfl ?_
                  refine h_off (t := 86) (l' := #[true, true, true, true, true, true, true, true, true, true, true, true, true, true, true, true, true, true, true, true, true, true, true, true, true, true, false, false, false, false, false, false, false, false, false, false, false, false, false, false, false, false, false, false, false]) 25 rfl (by kernel_rfl) rfl rfl (np_cut (np_then (np_then np_post))) (hs_pick (is := [0, 1, 2, 3]) rfl rfl) rfl rfl rfl ?_
                  refine h_off (t := 86) (l' := #[true, true, true, true, true, true, true, true, true, true, true, true, true, true, true, true, true, true, true, true, true, true, true, true, true, true, true, false, false, false, false, false, false, false, false, false, false, false, false, false, false, false, false, false, false]) 26 rfl (by kernel_rfl) rfl rfl (np_cut (np_then (np_then np_post))) (hs_pick (is := [0, 1, 2, 3]) rfl rfl) rfl rfl rfl ?_
                  refine h_off (t := 86) (l' := #[true, true, true, true, true, true, true, true, true, true, true, true, true, true, true, true, true, true, true, true, true, true, true, true, true, true, true, true, false, false, false, false, false, false, false, false, false, false, false, false, false, false, false, false, false]) 27 rfl (by kernel_rfl) rfl rfl (np_cut (np_then (np_then np_post))) (hs_pick (is := [0, 1, 2, 3]) rfl rfl) rfl rfl rfl ?_
                  refine h_off (t := 86) (l' := #[true, true, true, true, true, true, true, true, true, true, true, true, true, true, true, true, true, true, true, true, true, true, true, true, true, true, true, true, true, false, false, false, false, false, false, false, false, false, false, false, false, false, false, false, false]) 28 rfl (by kernel_rfl) rfl rfl (np_cut (np_then (np_then np_post))) (hs_pick (is := [0, 1, 2, 3]) rfl rfl) rfl rfl rfl ?_
                  refine h_off (t := 86) (l' := #[true, true, true, true, true, true, true, true, true, true, true, true, true, true, true, true, true, true, true, true, true, true, true, true, true, true, true, true, true, true, false, false, false, false, false, false, false, false, false, false, false, false, false, false, false]) 29 rfl (by kernel_rfl) rfl rfl (np_cut (np_then (np_then np_post))) (hs_pick (is := [0, 1, 2, 3]) rfl rfl) rfl rfl rfl ?_
                  refine h_und (t := 100) (l' := #[true, true, true, true, true, true, true, true, true, true, true, true, true, true, true, true, true, true, true, true, true, true, true, true, true, true, true, true, true, true, true, false, false, false, false, false, false, false, false, false, false, false, false, false, false]) 30 rfl (by kernel_rfl) rfl rfl (np_cut (np_then (np_then np_post))) (hs_pick (is := [0, 1, 2, 3]) rfl rfl) rfl rfl ?_
                  refine h_und (t := 100) (l' := #[true, true, true, true, true, true, true, true, true, true, true, true, true, true, true, true, true, true, true, true, true, true, true, true, true, true, true, true, true, true, true, true, false, false, false, false, false, false, false, false, false, false, false, false, false]) 31 rfl (by kernel_rfl) rfl rfl (np_cut (np_then (np_then np_post))) (hs_pick (is := [0, 1, 2, 3]) rfl rfl) rfl rfl ?_
                  refine h_und (t := 100) (l' := #[true, true, true, true, true, true, true, true, true, true, true, true, true, true, true, true, true, true, true, true, true, true, true, true, true, true, true, true, true, true, true, true, true, false, false, false, false, false, false, false, false, false, false, false, false]) 32 rfl (by kernel_rfl) rfl rfl (np_cut (np_then (np_then np_post))) (hs_pick (is := [0, 1, 2, 3]) rfl rfl) rfl rfl ?_
                  refine h_und (t := 100) (l' := #[true, true, true, true, true, true, true, true, true, true, true, true, true, true, true, true, true, true, true, true, true, true, true, true, true, true, true, true, true, true, true, true, true, true, false, false, false, false, false, false, false, false, false, false, false]) 33 rfl (by kernel_rfl) rfl rfl (np_cut (np_then (np_then np_post))) (hs_pick (is := [0, 1, 2, 3]) rfl rfl) rfl rfl ?_
                  refine h_und (t := 100) (l' := #[true, true, true, true, true, true, true, true, true, true, true, true, true, true, true, true, true, true, true, true, true, true, true, true, true, true, true, true, true, true, true, true, true, true, true, false, false, false, false, false, false, false, false, false, false]) 34 rfl (by kernel_rfl) rfl rfl (np_cut (np_then (np_then np_post))) (hs_pick (is := [0, 1, 2, 3]) rfl rfl) rfl rfl ?_
                  refine h_und (t := 100) (l' := #[true, true, true, true, true, true, true, true, true, true, true, true, true, true, true, true, true, true, true, true, true, true, true, true, true, true, true, true, true, true, true, true, true, true, true, true, false, false, false, false, false, false, false, false, false]) 35 rfl (by kernel_rfl) rfl rfl (np_cut (np_then (np_then np_post))) (hs_pick (is := [0, 1, 2, 3]) rfl rfl) rfl rfl ?_
                  refine h_und (t := 100) (l' := #[true, true, true, true, true, true, true, true, true, true, true, true, true, true, true, true, true, true, true, true, true, true, true, true, true, true, true, true, true, true, true, true, true, true, true, true, true, false, false, false, false, false, false, false, false]) 36 rfl (by kernel_rfl) rfl rfl (np_cut (np_then (np_then np_post))) (hs_pick (is := [0, 1, 2, 3]) rfl rfl) rfl rfl ?_
                  refine h_und (t := 100) (l' := #[true, true, true, true, true, true, true, true, true, true, true, true, true, true, true, true, true, true, true, true, true, true, true, true, true, true, true, true, true, true, true, true, true, true, true, true, true, true, false, false, false, false, false, false, false]) 37 rfl (by kernel_rfl) rfl rfl (np_cut (np_then (np_then np_post))) (hs_pick (is := [0, 1, 2, 3]) rfl rfl) rfl rfl ?_
                  refine h_und (t := 100) (l' := #[true, true, true, true, true, true, true, true, true, true, true, true, true, true, true, true, true, true, true, true, true, true, true, true, true, true, true, true, true, true, true, true, true, true, true, true, true, true, true, false, false, false, false, false, false]) 38 rfl (by kernel_rfl) rfl rfl (np_cut (np_then (np_then np_post))) (hs_pick (is := [0, 1, 2, 3]) rfl rfl) rfl rfl ?_
                  refine h_und (t := 100) (l' := #[true, true, true, true, true, true, true, true, true, true, true, true, true, true, true, true, true, true, true, true, true, true, true, true, true, true, true, true, true, true, true, true, true, true, true, true, true, true, true, true, false, false, false, false, false]) 39 rfl (by kernel_rfl) rfl rfl (np_cut (np_then (np_then np_post))) (hs_pick (is := [0, 1, 2, 3]) rfl rfl) rfl rfl ?_
                  refine h_und (t := 100) (l' := #[true, true, true, true, true, true, true, true, true, true, true, true, true, true, true, true, true, true, true, true, true, true, true, true, true, true, true, true, true, true, true, true, true, true, true, true, true, true, true, true, true, false, false, false, false]) 40 rfl (by kernel_rfl) rfl rfl (np_cut (np_then (np_then np_post))) (hs_pick (is := [0, 1, 2, 3]) rfl rfl) rfl rfl ?_
                  refine h_und (t := 100) (l' := #[true, true, true, true, true, true, true, true, true, true, true, true, true, true, true, true, true, true, true, true, true, true, true, true, true, true, true, true, true, true, true, true, true, true, true, true, true, true, true, true, true, true, false, false, false]) 41 rfl (by kernel_rfl) rfl rfl (np_cut (np_then (np_then np_post))) (hs_pick (is := [0, 1, 2, 3]) rfl rfl) rfl rfl ?_
                  refine h_und (t := 100) (l' := #[true, true, true, true, true, true, true, true, true, true, true, true, true, true, true, true, true, true, true, true, true, true, true, true, true, true, true, true, true, true, true, true, true, true, true, true, true, true, true, true, true, true, true, false, false]) 42 rfl (by kernel_rfl) rfl rfl (np_cut (np_then (np_then np_post))) (hs_pick (is := [0, 1, 2, 3]) rfl rfl) rfl rfl ?_
                  refine h_off (t := 86) (l' := #[true, true, true, true, true, true, true, true, true, true, true, true, true, true, true, true, true, true, true, true, true, true, true, true, true, true, true, true, true, true, true, true, true, true, true, true, true, true, true, true, true, true, true, true, false]) 43 rfl (by kernel_rfl) rfl rfl (np_cut (np_then (np_then np_post))) (hs_pick (is := [0, 1, 2, 3]) rfl rfl) rfl rfl rfl ?_
                  refine h_take (l' := #[true, true, true, true, true, true, true, true, true, true, true, true, true, true, true, true, true, true, true, true, true, true, true, true, true, true, true, true, true, true, true, true, true, true, true, true, true, true, true, true, true, true, true, true, true]) 44 rfl (by kernel_rfl) rfl rfl (np_cut (np_then (np_then np_post))) (hs_pick (is := [0, 1, 2, 3]) rfl rfl) (y_pick_f rfl rfl) ?_
                  refine h_done (by kernel_rfl) ?_
                  exact q_cut () trivial (sub_cons rfl (sub_cons rfl (sub_cons rfl (sub_cons rfl (sub_cons rfl (sub_cons rfl (sub_cons rfl sub_nil))))))) (hs_pick (is := [0, 1, 2, 3]) rfl rfl)
              · intro h77
                refine h_off (t := 77) (l' := #[true, true, true, true, true, true, true, true, false, false, false, false, false, false, false, false, false, false, false, false, false, false, false, false, false, false, false, false, false, false, false, false, false, false, false, false, false, false, false, false, false, false, false, false, false]) 7 rfl (by kernel_rfl) rfl rfl (np_cut (np_then (np_then np_post))) (hs_pick (is := [0, 1, 2, 3]) rfl rfl) rfl rfl rfl ?_
                refine h_off (t := 77) (l' := #[true, true, true, true, true, true, true, true, true, false, false, false, false, false, false, false, false, false, false, false, false, false, false, false, false, false, false, false, false, false, false, false, false, false, false, false, false, false, false, false, false, false, false, false, false]) 8 rfl (by kernel_rfl) rfl rfl (np_cut (np_then (np_then np_post))) (hs_pick (is := [0, 1, 2, 3]) rfl rfl) rfl rfl rfl ?_
                refine h_off (t := 77) (l' := #[true, true, true, true, true, true, true, true, true, true, false, false, false, false, false, false, false, false, false, false, false, false, false, false, false, false, false, false, false, false, false, false, false, false, false, false, false, false, false, false, false, false, false, false, false]) 9 rfl (by kernel_rfl) rfl rfl (np_cut (np_then (np_then np_post))) (hs_pick (is := [0, 1, 2, 3]) rfl rfl) rfl rfl rfl ?_
                refine h_off (t := 77) (l' := #[true, true, true, true, true, true, true, true, true, true, true, false, false, false, false, false, false, false, false, false, false, false, false, false, false, false, false, false, false, false, false, false, false, false, false, false, false, false, false, false, false, false, false, false, false]) 10 rfl (by kernel_rfl) rfl rfl (np_cut (np_then (np_then np_post))) (hs_pick (is := [0, 1, 2, 3]) rfl rfl) rfl rfl rfl ?_
                refine h_off (t := 77) (l' := #[true, true, true, true, true, true, true, true, true, true, true, true, false, false, false, false, false, false, false, false, false, false, false, false, false, false, false, false, false, false, false, false, false, false, false, false, false, false, false, false, false, false, false, false, false]) 11 rfl (by kernel_rfl) rfl rfl (np_cut (np_then (np_then np_post))) (hs_pick (is := [0, 1, 2, 3]) rfl rfl) rfl rfl rfl ?_
                refine h_off (t := 77) (l' := #[true, true, true, true, true, true, true, true, true, true, true, true, true, false, false, false, false, false, false, false, false, false, false, false, false, false, false, false, false, false, false, false, false, false, false, false, false, false, false, false, false, false, false, false, false]) 12 rfl (by kernel_rfl) rfl rfl (np_cut (np_then (np_then np_post))) (hs_pick (is := [0, 1, 2, 3]) rfl rfl) rfl rfl rfl ?_
                refine h_only (l' := #[true, true, true, true, true, true, true, true, true, true, true, true, true, true, false, false, false, false, false, false, false, false, false, false, false, false, false, false, false, false, false, false, false, false, false, false, false, false, false, false, false, false, false, false, false]) 13 rfl (by kernel_rfl) rfl ?_
                refine g_off (t := 77) rfl rfl rfl rfl ?_
                refine l_nil ?_
                refine q_step (fun _ => hs_pick (is := [0, 1, 2, 3]) rfl rfl) ?_
                refine h_take (l' := #[true, true, true, true, true, true, true, true, true, true, true, true, true, true, true, false, false, false, false, false, false, false, false, false, false, false, false, false, false, false, false, false, false, false, false, false, false, false, false, false, false, false, false, false, false]) 14 rfl (by kernel_rfl) rfl rfl (np_cut (np_then (np_then np_post))) (hs_pick (is := [0, 1, 2, 3]) rfl rfl) (y_pick_f rfl rfl) ?_
                refine h_take (l' := #[true, true, true, true, true, true, true, true, true, true, true, true, true, true, true, true, false, false, false, false, false, false, false, false, false, false, false, false, false, false, false, false, false, false, false, false, false, false, false, false, false, false, false, false, false]) 15 rfl (by kernel_rfl) rfl rfl (np_cut (np_then (np_then np_post))) (hs_pick (is := [0, 1, 2, 3]) rfl rfl) (y_move rfl) ?_
                refine h_off (t := 86) (l' := #[true, true, true, true, true, true, true, true, true, true, true, true, true, true, true, true, true, false, false, false, false, false, false, false, false, false, false, false, false, false, false, false, false, false, false, false, false, false, false, false, false, false, false, false, false]) 16 rfl (by kernel_rfl) rfl rfl (np_cut (np_then (np_then np_post))) (hs_pick (is := [0, 1, 2, 3]) rfl rfl) rfl rfl rfl ?_
                refine h_off (t := 86) (l' := #[true, true, true, true, true, true, true, true, true, true, true, true, true, true, true, true, true, true, false, false, false, false, false, false, false, false, false, false, false, false, false, false, false, false, false, false, false, false, false, false, false, false, false, false, false]) 17 rfl (by kernel_rfl) rfl rfl (np_cut (np_then (np_then np_post))) (hs_pick (is := [0, 1, 2, 3]) rfl rfl) rfl rfl rfl ?_
                refine h_off (t := 86) (l' := #[true, true, true, true, true, true, true, true, true, true, true, true, true, true, true, true, true, true, true, false, false, false, false, false, false, false, false, false, false, false, false, false, false, false, false, false, false, false, false, false, false, false, false, false, false]) 18 rfl (by kernel_rfl) rfl rfl (np_cut (np_then (np_then np_post))) (hs_pick (is := [0, 1, 2, 3]) rfl rfl) rfl rfl rfl ?_
                refine h_off (t := 86) (l' := #[true, true, true, true, true, true, true, true, true, true, true, true, true, true, true, true, true, true, true, true, false, false, false, false, false, false, false, false, false, false, false, false, false, false, false, false, false, false, false, false, false, false, false, false, false]) 19 rfl (by kernel_rfl) rfl rfl (np_cut (np_then (np_then np_post))) (hs_pick (is := [0, 1, 2, 3]) rfl rfl) rfl rfl rfl ?_
                refine h_off (t := 86) (l' := #[true, true, true, true, true, true, true, true, true, true, true, true, true, true, true, true, true, true, true, true, true, false, false, false, false, false, false, false, false, false, false, false, false, false, false, false, false, false, false, false, false, false, false, false, false]) 20 rfl (by kernel_rfl) rfl rfl (np_cut (np_then (np_then np_post))) (hs_pick (is := [0, 1, 2, 3]) rfl rfl) rfl rfl rfl ?_
                refine h_off (t := 86) (l' := #[true, true, true, true, true, true, true, true, true, true, true, true, true, true, true, true, true, true, true, true, true, true, false, false, false, false, false, false, false, false, false, false, false, false, false, false, false, false, false, false, false, false, false, false, false]) 21 rfl (by kernel_rfl) rfl rfl (np_cut (np_then (np_then np_post))) (hs_pick (is := [0, 1, 2, 3]) rfl rfl) rfl rfl rfl ?_
                refine h_off (t := 86) (l' := #[true, true, true, true, true, true, true, true, true, true, true, true, true, true, true, true, true, true, true, true, true, true, true, false, false, false, false, false, false, false, false, false, false, false, false, false, false, false, false, false, false, false, false, false, false]) 22 rfl (by kernel_rfl) rfl rfl (np_cut (np_then (np_then np_post))) (hs_pick (is := [0, 1, 2, 3]) rfl rfl) rfl rfl rfl ?_
                refine h_off (t := 86) (l' := #[true, true, true, true, true, true, true, true, true, true, true, true, true, true, true, true, true, true, true, true, true, true, true, true, false, false, false, false, false, false, false, false, false, false, false, false, false, false, false, false, false, false, false, false, false]) 23 rfl (by kernel_rfl) rfl rfl (np_cut (np_then (np_then np_post))) (hs_pick (is := [0, 1, 2, 3]) rfl rfl) rfl rfl rfl ?_
                refine h_off (t := 86) (l' := #[true, true, true, true, true, true, true, true, true, true, true, true, true, true, true, true, true, true, true, true, true, true, true, true, true, false, false, false, false, false, false, false, false, false, false, false, false, false, false, false, false, false, false, false, false]) 24 rfl (by kernel_rfl) rfl rfl (np_cut (np_then (np_then np_post))) (hs_pick (is := [0, 1, 2, 3]) rfl rfl) rfl rfl rfl ?_
                refine h_off (t := 86) (l' := #[true, true, true, true, true, true, true, true, true, true, true, true, true, true, true, true, true, true, true, true, true, true, true, true, true, true, false, false, false, false, false, false, false, false, false, false, false, false, false, false, false, false, false, false, false]) 25 rfl (by kernel_rfl) rfl rfl (np_cut (np_then (np_then np_post))) (hs_pick (is := [0, 1, 2, 3]) rfl rfl) rfl rfl rfl ?_
                refine h_off (t := 86) (l' := #[true, true, true, true, true, true, true, true, true, true, true, true, true, true, true, true, true, true, true, true, true, true, true, true, true, true, true, false, false, false, false, false, false, false, false, false, false, false, false, false, false, false, false, false, false]) 26 rfl (by kernel_rfl) rfl rfl (np_cut (np_then (np_then np_post))) (hs_pick (is := [0, 1, 2, 3]) rfl rfl) rfl rfl rfl ?_
                refine h_off (t := 86) (l' := #[true, true, true, true, true, true, true, true, true, true, true, true, true, true, true, true, true, true, true, true, true, true, true, true, true, true, true, true, false, false, false, false, false, false, false, false, false, false, false, false, false, false, false, false, false]) 27 rfl (by kernel_rfl) rfl rfl (np_cut (np_then (np_then np_post))) (hs_pick (is := [0, 1, 2, 3]) rfl rfl) rfl rfl rfl ?_
                refine h_off (t := 86) (l' := #[true, true, true, true, true, true, true, true, true, true, true, true, true, true, true, true, true, true, true, true, true, true, true, true, true, true, true, true, true, false, false, false, false, false, false, false, false, false, false, false, false, false, false, false, false]) 28 rfl (by kernel_rfl) rfl rfl (np_cut (np_then (np_then np_post))) (hs_pick (is := [0, 1, 2, 3]) rfl rfl) rfl rfl rfl ?_
                refine h_off (t := 86) (l' := #[true, true, true, true, true, true, true, true, true, true, true, true, true, true, true, true, true, true, true, true, true, true, true, true, true, true, true, true, true, true, false, false, false, false, false, false, false, false, false, false, false, false, false, false, false]) 29 rfl (by kernel_rfl) rfl rfl (np_cut (np_then (np_then np_post))) (hs_pick (is := [0, 1, 2, 3]) rfl rfl) rfl rfl rfl ?_
                refine h_und (t := 100) (l' := #[true, true, true, true, true, true, true, true, true, true, true, true, true, true, true, true, true, true, true, true, true, true, true, true, true, true, true, true, true, true, true, false, false, false, false, false, false, false, false, false, false, false, false, false, false]) 30 rfl (by kernel_rfl) rfl rfl (np_cut (np_then (np_then np_post))) (hs_pick (is := [0, 1, 2, 3]) rfl rfl) rfl rfl ?_
                refine h_und (t := 100) (l' := #[true, true, true, true, true, true, true, true, true, true, true, true, true, true, true, true, true, true, true, true, true, true, true, true, true, true, true, true, true, true, true, true, false, false, false, false, false, false, false, false, false, false, false, false, false]) 31 rfl (by kernel_rfl) rfl rfl (np_cut (np_then (np_then np_post))) (hs_pick (is := [0, 1, 2, 3]) rfl rfl) rfl rfl ?_
                refine h_und (t := 100) (l' := #[true, true, true, true, true, true, true, true, true, true, true, true, true, true, true, true, true, true, true, true, true, true, true, true, true, true, true, true, true, true, true, true, true, false, false, false, false, false, false, false, false, false, false, false, false]) 32 rfl (by kernel_rfl) rfl rfl (np_cut (np_then (np_then np_post))) (hs_pick (is := [0, 1, 2, 3]) rfl rfl) rfl rfl ?_
                refine h_und (t := 100) (l' := #[true, true, true, true, true, true, true, true, true, true, true, true, true, true, true, true, true, true, true, true, true, true, true, true, true, true, true, true, true, true, true, true, true, true, false, false, false, false, false, false, false, false, false, false, false]) 33 rfl (by kernel_rfl) rfl rfl (np_cut (np_then (np_then np_post))) (hs_pick (is := [0, 1, 2, 3]) rfl rfl) rfl rfl ?_
                refine h_und (t := 100) (l' := #[true, true, true, true, true, true, true, true, true, true, true, true, true, true, true, true, true, true, true, true, true, true, true, true, true, true, true, true, true, true, true, true, true, true, true, false, false, false, false, false, false, false, false, false, false]) 34 rfl (by kernel_rfl) rfl rfl (np_cut (np_then (np_then np_post))) (hs_pick (is := [0, 1, 2, 3]) rfl rfl) rfl rfl ?_
                refine h_und (t := 100) (l' := #[true, true, true, true, true, true, true, true, true, true, true, true, true, true, true, true, true, true, true, true, true, true, true, true, true, true, true, true, true, true, true, true, true, true, true, true, false, false, false, false, false, false, false, false, false]) 35 rfl (by kernel_rfl) rfl rfl (np_cut (np_then (np_then np_post))) (hs_pick (is := [0, 1, 2, 3]) rfl rfl) rfl rfl ?_
                refine h_und (t := 100) (l' := #[true, true, true, true, true, true, true, true, true, true, true, true, true, true, true, true, true, true, true, true, true, true, true, true, true, true, true, true, true, true, true, true, true, true, true, true, true, false, false, false, false, false, false, false, false]) 36 rfl (by kernel_rfl) rfl rfl (np_cut (np_then (np_then np_post))) (hs_pick (is := [0, 1, 2, 3]) rfl rfl) rfl rfl ?_
                refine h_und (t := 100) (l' := #[true, true, true, true, true, true, true, true, true, true, true, true, true, true, true, true, true, true, true, true, true, true, true, true, true, true, true, true, true, true, true, true, true, true, true, true, true, true, false, false, false, false, false, false, false]) 37 rfl (by kernel_rfl) rfl rfl (np_cut (np_then (np_then np_post))) (hs_pick (is := [0, 1, 2, 3]) rfl rfl) rfl rfl ?_
                refine h_und (t := 100) (l' := #[true, true, true, true, true, true, true, true, true, true, true, true, true, true, true, true, true, true, true, true, true, true, true, true, true, true, true, true, true, true, true, true, true, true, true, true, true, true, true, false, false, false, false, false, false]) 38 rfl (by kernel_rfl) rfl rfl (np_cut (np_then (np_then np_post))) (hs_pick (is := [0, 1, 2, 3]) rfl rfl) rfl rfl ?_
                refine h_und (t := 100) (l' := #[true, true, true, true, true, true, true, true, true, true, true, true, true, true, true, true, true, true, true, true, true, true, true, true, true, true, true, true, true, true, true, true, true, true, true, true, true, true, true, true, false, false, false, false, false]) 39 rfl (by kernel_rfl) rfl rfl (np_cut (np_then (np_then np_post))) (hs_pick (is := [0, 1, 2, 3]) rfl rfl) rfl rfl ?_
                refine h_und (t := 100) (l' := #[true, true, true, true, true, true, true, true, true, true, true, true, true, true, true, true, true, true, true, true, true, true, true, true, true, true, true, true, true, true, true, true, true, true, true, true, true, true, true, true, true, false, false, false, false]) 40 rfl (by kernel_rfl) rfl rfl (np_cut (np_then (np_then np_post))) (hs_pick (is := [0, 1, 2, 3]) rfl rfl) rfl rfl ?_
                refine h_und (t := 100) (l' := #[true, true, true, true, true, true, true, true, true, true, true, true, true, true, true, true, true, true, true, true, true, true, true, true, true, true, true, true, true, true, true, true, true, true, true, true, true, true, true, true, true, true, false, false, false]) 41 rfl (by kernel_rfl) rfl rfl (np_cut (np_then (np_then np_post))) (hs_pick (is := [0, 1, 2, 3]) rfl rfl) rfl rfl ?_
                refine h_und (t := 100) (l' := #[true, true, true, true, true, true, true, true, true, true, true, true, true, true, true, true, true, true, true, true, true, true, true, true, true, true, true, true, true, true, true, true, true, true, true, true, true, true, true, true, true, true, true, false, false]) 42 rfl (by kernel_rfl) rfl rfl (np_cut (np_then (np_then np_post))) (hs_pick (is := [0, 1, 2, 3]) rfl rfl) rfl rfl ?_
                refine h_off (t := 86) (l' := #[true, true, true, true, true, true, true, true, true, true, true, true, true, true, true, true, true, true, true, true, true, true, true, true, true, true, true, true, true, true, true, true, true, true, true, true, true, true, true, true, true, true, true, true, false]) 43 rfl (by kernel_rfl) rfl rfl (np_cut (np_then (np_then np_post))) (hs_pick (is := [0, 1, 2, 3]) rfl rfl) rfl rfl rfl ?_
                refine h_take (l' := #[true, true, true, true, true, true, true, true, true, true, true, true, true, true, true, true, true, true, true, true, true, true, true, true, true, true, true, true, true, true, true, true, true, true, true, true, true, true, true, true, true, true, true, true, true]) 44 rfl (by kernel_rfl) rfl rfl (np_cut (np_then (np_then np_post))) (hs_pick (is := [0, 1, 2, 3]) rfl rfl) (y_pick_f rfl rfl) ?_
                refine h_done (by kernel_rfl) ?_
                exact q_cut () trivial (sub_cons rfl (sub_cons rfl (sub_cons rfl (sub_cons rfl (sub_cons rfl (sub_cons rfl (sub_cons rfl sub_nil))))))) (hs_pick (is := [0, 1, 2, 3]) rfl rfl)
            · intro h73
              refine h_off (t := 73) (l' := #[true, true, true, true, false, false, false, false, false, false, false, false, false, false, false, false, false, false, false, false, false, false, false, false, false, false, false, false, false, false, false, false, false, false, false, false, false, false, false, false, false, false, false, false, false]) 3 rfl (by kernel_rfl) rfl rfl (np_cut (np_then (np_then np_post))) (hs_pick (is := [0, 1, 2, 3]) rfl rfl) rfl rfl rfl ?_
              refine h_off (t := 73) (l' := #[true, true, true, true, true, false, false, false, false, false, false, false, false, false, false, false, false, false, false, false, false, false, false, false, false, false, false, false, false, false, false, false, false, false, false, false, false, false, false, false, false, false, false, false, false]) 4 rfl (by kernel_rfl) rfl rfl (np_cut (np_then (np_then np_post))) (hs_pick (is := [0, 1, 2, 3]) rfl rfl) rfl rfl rfl ?_
              refine h_take (l' := #[true, true, true, true, true, true, false, false, false, false, false, false, false, false, false, false, false, false, false, false, false, false, false, false, false, false, false, false, false, false, false, false, false, false, false, false, false, false, false, false, false, false, false, false, false]) 5 rfl (by kernel_rfl) rfl rfl (np_cut (np_then (np_then np_post))) (hs_pick (is := [0, 1, 2, 3]) rfl rfl) (y_pick_f rfl rfl) ?_
              refine h_take (l' := #[true, true, true, true, true, true, true, false, false, false, false, false, false, false, false, false, false, false, false, false, false, false, false, false, false, false, false, false, false, false, false, false, false, false, false, false, false, false, false, false, false, false, false, false, false]) 6 rfl (by kernel_rfl) rfl rfl (np_cut (np_then (np_then np_post))) (hs_pick (is := [0, 1, 2, 3]) rfl rfl) (y_move rfl) ?_
              refine h_off (t := 77) (l' := #[true, true, true, true, true, true, true, true, false, false, false, false, false, false, false, false, false, false, false, false, false, false, false, false, false, false, false, false, false, false, false, false, false, false, false, false, false, false, false, false, false, false, false, false, false]) 7 rfl (by kernel_rfl) rfl rfl (np_cut (np_then (np_then np_post))) (hs_pick (is := [0, 1, 2, 3]) rfl rfl) rfl rfl rfl ?_
              refine h_off (t := 77) (l' := #[true, true, true, true, true, true, true, true, true, false, false, false, false, false, false, false, false, false, false, false, false, false, false, false, false, false, false, false, false, false, false, false, false, false, false, false, false, false, false, false, false, false, false, false, false]) 8 rfl (by kernel_rfl) rfl rfl (np_cut (np_then (np_then np_post))) (hs_pick (is := [0, 1, 2, 3]) rfl rfl) rfl rfl rfl ?_
              refine h_off (t := 77) (l' := #[true, true, true, true, true, true, true, true, true, true, false, false, false, false, false, false, false, false, false, false, false, false, false, false, false, false, false, false, false, false, false, false, false, false, false, false, false, false, false, false, false, false, false, false, false]) 9 rfl (by kernel_rfl) rfl rfl (np_cut (np_then (np_then np_post))) (hs_pick (is := [0, 1, 2, 3]) rfl rfl) rfl rfl rfl ?_
              refine h_off (t := 77) (l' := #[true, true, true, true, true, true, true, true, true, true, true, false, false, false, false, false, false, false, false, false, false, false, false, false, false, false, false, false, false, false, false, false, false, false, false, false, false, false, false, false, false, false, false, false, false]) 10 rfl (by kernel_rfl) rfl rfl (np_cut (np_then (np_then np_post))) (hs_pick (is := [0, 1, 2, 3]) rfl rfl) rfl rfl rfl ?_
              refine h_off (t := 77) (l' := #[true, true, true, true, true, true, true, true, true, true, true, true, false, false, false, false, false, false, false, false, false, false, false, false, false, false, false, false, false, false, false, false, false, false, false, false, false, false, false, false, false, false, false, false, false]) 11 rfl (by kernel_rfl) rfl rfl (np_cut (np_then (np_then np_post))) (hs_pick (is := [0, 1, 2, 3]) rfl rfl) rfl rfl rfl ?_
              refine h_off (t := 77) (l' := #[true, true, true, true, true, true, true, true, true, true, true, true, true, false, false, false, false, false, false, false, false, false, false, false, false, false, false, false, false, false, false, false, false, false, false, false, false, false, false, false, false, false, false, false, false]) 12 rfl (by kernel_rfl) rfl rfl (np_cut (np_then (np_then np_post))) (hs_pick (is := [0, 1, 2, 3]) rfl rfl) rfl rfl rfl ?_
              refine h_only (l' := #[true, true, true, true, true, true, true, true, true, true, true, true, true, true, false, false, false, false, false, false, false, false, false, false, false, false, false, false, false, false, false, false, false, false, false, false, false, false, false, false, false, false, false, false, false]) 13 rfl (by kernel_rfl) rfl ?_
              refine g_off (t := 77) rfl rfl rfl rfl ?_
              refine l_nil ?_
              refine q_step (fun _ => hs_pick (is := [0, 1, 2, 3]) rfl rfl) ?_
              refine h_take (l' := #[true, true, true, true, true, true, true, true, true, true, true, true, true, true, true, false, false, false, false, false, false, false, false, false, false, false, false, false, false, false, false, false, false, false, false, false, false, false, false, false, false, false, false, false, false]) 14 rfl (by kernel_rfl) rfl rfl (np_cut (np_then (np_then np_post))) (hs_pick (is := [0, 1, 2, 3]) rfl rfl) (y_pick_f rfl rfl) ?_
              refine h_take (l' := #[true, true, true, true, true, true, true, true, true, true, true, true, true, true, true, true, false, false, false, false, false, false, false, false, false, false, false, false, false, false, false, false, false, false, false, false, false, false, false, false, false, false, false, false, false]) 15 rfl (by kernel_rfl) rfl rfl (np_cut (np_then (np_then np_post))) (hs_pick (is := [0, 1, 2, 3]) rfl rfl) (y_move rfl) ?_
              refine h_off (t := 86) (l' := #[true, true, true, true, true, true, true, true, true, true, true, true, true, true, true, true, true, false, false, false, false, false, false, false, false, false, false, false, false, false, false, false, false, false, false, false, false, false, false, false, false, false, false, false, false]) 16 rfl (by kernel_rfl) rfl rfl (np_cut (np_then (np_then np_post))) (hs_pick (is := [0, 1, 2, 3]) rfl rfl) rfl rfl rfl ?_
              refine h_off (t := 86) (l' := #[true, true, true, true, true, true, true, true, true, true, true, true, true, true, true, true, true, true, false, false, false, false, false, false, false, false, false, false, false, false, false, false, false, false, false, false, false, false, false, false, false, false, false, false, false]) 17 rfl (by kernel_rfl) rfl rfl (np_cut (np_then (np_then np_post))) (hs_pick (is := [0, 1, 2, 3]) rfl rfl) rfl rfl rfl ?_
              refine h_off (t := 86) (l' := #[true, true, true, true, true, true, true, true, true, true, true, true, true, true, true, true, true, true, true, false, false, false, false, false, false, false, false, false, false, false, false, false, false, false, false, false, false, false, false, false, false, false, false, false, false]) 18 rfl (by kernel_rfl) rfl rfl (np_cut (np_then (np_then np_post))) (hs_pick (is := [0, 1, 2, 3]) rfl rfl) rfl rfl rfl ?_
              refine h_off (t := 86) (l' := #[true, true, true, true, true, true, true, true, true, true, true, true, true, true, true, true, true, true, true, true, false, false, false, false, false, false, false, false, false, false, false, false, false, false, false, false, false, false, false, false, false, false, false, false, false]) 19 rfl (by kernel_rfl) rfl rfl (np_cut (np_then (np_then np_post))) (hs_pick (is := [0, 1, 2, 3]) rfl rfl) rfl rfl rfl ?_
              refine h_off (t := 86) (l' := #[true, true, true, true, true, true, true, true, true, true, true, true, true, true, true, true, true, true, true, true, true, false, false, false, false, false, false, false, false, false, false, false, false, false, false, false, false, false, false, false, false, false, false, false, false]) 20 rfl (by kernel_rfl) rfl rfl (np_cut (np_then (np_then np_post))) (hs_pick (is := [0, 1, 2, 3]) rfl rfl) rfl rfl rfl ?_
              refine h_off (t := 86) (l' := #[true, true, true, true, true, true, true, true, true, true, true, true, true, true, true, true, true, true, true, true, true, true, false, false, false, false, false, false, false, false, false, false, false, false, false, false, false, false, false, false, false, false, false, false, false]) 21 rfl (by kernel_rfl) rfl rfl (np_cut (np_then (np_then np_post))) (hs_pick (is := [0, 1, 2, 3]) rfl rfl) rfl rfl rfl ?_
              refine h_off (t := 86) (l' := #[true, true, true, true, true, true, true, true, true, true, true, true, true, true, true, true, true, true, true, true, true, true, true, false, false, false, false, false, false, false, false, false, false, false, false, false, false, false, false, false, false, false, false, false, false]) 22 rfl (by kernel_rfl) rfl rfl (np_cut (np_then (np_then np_post))) (hs_pick (is := [0, 1, 2, 3]) rfl rfl) rfl rfl rfl ?_
              refine h_off (t := 86) (l' := #[true, true, true, true, true, true, true, true, true, true, true, true, true, true, true, true, true, true, true, true, true, true, true, true, false, false, false, false, false, false, false, false, false, false, false, false, false, false, false, false, false, false, false, false, false]) 23 rfl (by kernel_rfl) rfl rfl (np_cut (np_then (np_then np_post))) (hs_pick (is := [0, 1, 2, 3]) rfl rfl) rfl rfl rfl ?_
              refine h_off (t := 86) (l' := #[true, true, true, true, true, true, true, true, true, true, true, true, true, true, true, true, true, true, true, true, true, true, true, true, true, false, false, false, false, false, false, false, false, false, false, false, false, false, false, false, false, false, false, false, false]) 24 rfl (by kernel_rfl) rfl rfl (np_cut (np_then (np_then np_post))) (hs_pick (is := [0, 1, 2, 3]) rfl rfl) rfl rfl rfl ?_
              refine h_off (t := 86) (l' := #[true, true, true, true, true, true, true, true, true, true, true, true, true, true, true, true, true, true, true, true, true, true, true, true, true, true, false, false, false, false, false, false, false, false, false, false, false, false, false, false, false, false, false, false, false]) 25 rfl (by kernel_rfl) rfl rfl (np_cut (np_then (np_then np_post))) (hs_pick (is := [0, 1, 2, 3]) rfl rfl) rfl rfl rfl ?_
              refine h_off (t := 86) (l' := #[true, true, true, true, true, true, true, true, true, true, true, true, true, true, true, true, true, true, true, true, true, true, true, true, true, true, true, false, false, false, false, false, false, false, false, false, false, false, false, false, false, false, false, false, false]) 26 rfl (by kernel_rfl) rfl rfl (np_cut (np_then (np_then np_post))) (hs_pick (is := [0, 1, 2, 3]) rfl rfl) rfl rfl rfl ?_
              refine h_off (t := 86) (l' := #[true, true, true, true, true, true, true, true, true, true, true, true, true, true, true, true, true, true, true, true, true, true, true, true, true, true, true, true, false, false, false, false, false, false, false, false, false, false, false, false, false, false, false, false, false]) 27 rfl (by kernel_rfl) rfl rfl (np_cut (np_then (np_then np_post))) (hs_pick (is := [0, 1, 2, 3]) rfl rfl) rfl rfl rfl ?_
              refine h_off (t := 86) (l' := #[true, true, true, true, true, true, true, true, true, true, true, true, true, true, true, true, true, true, true, true, true, true, true, true, true, true, true, true, true, false, false, false, false, false, false, false, false, false, false, false, false, false, false, false, false]) 28 rfl (by kernel_rfl) rfl rfl (np_cut (np_then (np_then np_post))) (hs_pick (is := [0, 1, 2, 3]) rfl rfl) rfl rfl rfl ?_
              refine h_off (t := 86) (l' := #[true, true, true, true, true, true, true, true, true, true, true, true, true, true, true, true, true, true, true, true, true, true, true, true, true, true, true, true, true, true, false, false, false, false, false, false, false, false, false, false, false, false, false, false, false]) 29 rfl (by kernel_rfl) rfl rfl (np_cut (np_then (np_then np_post))) (hs_pick (is := [0, 1, 2, 3]) rfl rfl) rfl rfl rfl ?_
              refine h_und (t := 100) (l' := #[true, true, true, true, true, true, true, true, true, true, true, true, true, true, true, true, true, true, true, true, true, true, true, true, true, true, true, true, true, true, true, false, false, false, false, false, false, false, false, false, false, false, false, false, false]) 30 rfl (by kernel_rfl) rfl rfl (np_cut (np_then (np_then np_post))) (hs_pick (is := [0, 1, 2, 3]) rfl rfl) rfl rfl ?_
              refine h_und (t := 100) (l' := #[true, true, true, true, true, true, true, true, true, true, true, true, true, true, true, true, true, true, true, true, true, true, true, true, true, true, true, true, true, true, true, true, false, false, false, false, false, false, false, false, false, false, false, false, false]) 31 rfl (by kernel_rfl) rfl rfl (np_cut (np_then (np_then np_post))) (hs_pick (is := [0, 1, 2, 3]) rfl rfl) rfl rfl ?_
              refine h_und (t := 100) (l' := #[true, true, true, true, true, true, true, true, true, true, true, true, true, true, true, true, true, true, true, true, true, true, true, true, true, true, true, true, true, true, true, true, true, false, false, false, false, false, false, false, false, false, false, false, false]) 32 rfl (by kernel_rfl) rfl rfl (np_cut (np_then (np_then np_post))) (hs_pick (is := [0, 1, 2, 3]) rfl rfl) rfl rfl ?_
              refine h_und (t := 100) (l' := #[true, true, true, true, true, true, true, true, true, true, true, true, true, true, true, true, true, true, true, true, true, true, true, true, true, true, true, true, true, true, true, true, true, true, false, false, false, false, false, false, false, false, false, false, false]) 33 rfl (by kernel_rfl) rfl rfl (np_cut (np_then (np_then np_post))) (hs_pick (is := [0, 1, 2, 3]) rfl rfl) rfl rfl ?_
              refine h_und (t := 100) (l' := #[true, true, true, true, true, true, true, true, true, true, true, true, true, true, true, true, true, true, true, true, true, true, true, true, true, true, true, true, true, true, true, true, true, true, true, false, false, false, false, false, false, false, false, false, false]) 34 rfl (by kernel_rfl) rfl rfl (np_cut (np_then (np_then np_post))) (hs_pick (is := [0, 1, 2, 3]) rfl rfl) rfl rfl ?_
              refine h_und (t := 100) (l' := #[true, true, true, true, true, true, true, true, true, true, true, true, true, true, true, true, true, true, true, true, true, true, true, true, true, true, true, true, true, true, true, true, true, true, true, true, false, false, false, false, false, false, false, false, false]) 35 rfl (by kernel_rfl) rfl rfl (np_cut (np_then (np_then np_post))) (hs_pick (is := [0, 1, 2, 3]) rfl rfl) rfl rfl ?_
              refine h_und (t := 100) (l' := #[true, true, true, true, true, true, true, true, true, true, true, true, true, true, true, true, true, true, true, true, true, true, true, true, true, true, true, true, true, true, true, true, true, true, true, true, true, false, false, false, false, false, false, false, false]) 36 rfl (by kernel_rfl) rfl rfl (np_cut (np_then (np_then np_post))) (hs_pick (is := [0, 1, 2, 3]) rfl rfl) rfl rfl ?_
              refine h_und (t := 100) (l' := #[true, true, true, true, true, true, true, true, true, true, true, true, true, true, true, true, true, true, true, true, true, true, true, true, true, true, true, true, true, true, true, true, true, true, true, true, true, true, false, false, false, false, false, false, false]) 37 rfl (by kernel_rfl) rfl rfl (np_cut (np_then (np_then np_post))) (hs_pick (is := [0, 1, 2, 3]) rfl rfl) rfl rfl ?_
              refine h_und (t := 100) (l' := #[true, true, true, true, true, true, true, true, true, true, true, true, true, true, true, true, true, true, true, true, true, true, true, true, true, true, true, true, true, true, true, true, true, true, true, true, true, true, true, false, false, false, false, false, false]) 38 rfl (by kernel_rfl) rfl rfl (np_cut (np_then (np_then np_post))) (hs_pick (is := [0, 1, 2, 3]) rfl rfl) rfl rfl ?_
              refine h_und (t := 100) (l' := #[true, true, true, true, true, true, true, true, true, true, true, true, true, true, true, true, true, true, true, true, true, true, true, true, true, true, true, true, true, true, true, true, true, true, true, true, true, true, true, true, false, false, false, false, false]) 39 rfl (by kernel_rfl) rfl rfl (np_cut (np_then (np_then np_post))) (hs_pick (is := [0, 1, 2, 3]) rfl rfl) rfl rfl ?_
              refine h_und (t := 100) (l' := #[true, true, true, true, true, true, true, true, true, true, true, true, true, true, true, true, true, true, true, true, true, true, true, true, true, true, true, true, true, true, true, true, true, true, true, true, true, true, true, true, true, false, false, false, false]) 40 rfl (by kernel_rfl) rfl rfl (np_cut (np_then (np_then np_post))) (hs_pick (is := [0, 1, 2, 3]) rfl rfl) rfl rfl ?_
              refine h_und (t := 100) (l' := #[true, true, true, true, true, true, true, true, true, true, true, true, true, true, true, true, true, true, true, true, true, true, true, true, true, true, true, true, true, true, true, true, true, true, true, true, true, true, true, true, true, true, false, false, false]) 41 rfl (by kernel_rfl) rfl rfl (np_cut (np_then (np_then np_post))) (hs_pick (is := [0, 1, 2, 3]) rfl rfl) rfl rfl ?_
              refine h_und (t := 100) (l' := #[true, true, true, true, true, true, true, true, true, true, true, true, true, true, true, true, true, true, true, true, true, true, true, true, true, true, true, true, true, true, true, true, true, true, true, true, true, true, true, true, true, true, true, false, false]) 42 rfl (by kernel_rfl) rfl rfl (np_cut (np_then (np_then np_post))) (hs_pick (is := [0, 1, 2, 3]) rfl rfl) rfl rfl ?_
              refine h_off (t := 86) (l' := #[true, true, true, true, true, true, true, true, true, true, true, true, true, true, true, true, true, true, true, true, true, true, true, true, true, true, true, true, true, true, true, true, true, true, true, true, true, true, true, true, true, true, true, true, false]) 43 rfl (by kernel_rfl) rfl rfl (np_cut (np_then (np_then np_post))) (hs_pick (is := [0, 1, 2, 3]) rfl rfl) rfl rfl rfl ?_
              refine h_take (l' := #[true, true, true, true, true, true, true, true, true, true, true, true, true, true, true, true, true, true, true, true, true, true, true, true, true, true, true, true, true, true, true, true, true, true, true, true, true, true, true, true, true, true, true, true, true]) 44 rfl (by kernel_rfl) rfl rfl (np_cut (np_then (np_then np_post))) (hs_pick (is := [0, 1, 2, 3]) rfl rfl) (y_pick_f rfl rfl) ?_
              refine h_done (by kernel_rfl) ?_
              exact q_cut () trivial (sub_cons rfl (sub_cons rfl (sub_cons rfl (sub_cons rfl (sub_cons rfl (sub_cons rfl (sub_cons rfl sub_nil))))))) (hs_pick (is := [0, 1, 2, 3]) rfl rfl)
          · skip
            refine q_then ?_
            refine c_cond_f rfl ?_
            refine c_skip ?_
            refine q_then ?_
            refine c_seq ?_
            refine c_seq ?_
            refine c_region rfl ?_
            refine gv rfl (y_assign rfl) ?_
            refine l_nil ?_
            refine q_then ?_
            refine c_block ?_
            refine loop (Ef := [(3, _), (7, _), (9, _)]) (Hf := [_, _, _, _]) (fun s : Nat => s ≤ (putJ j c now).cks.length) (fun s : Nat => [(13, .int .i64 (s : Int))]) (fun s : Nat => []) (fun s : Nat => (putJ j c now).cks.length - s) 0 (Nat.zero_le _) (sub_cons rfl sub_nil) (sub_cons rfl (sub_cons rfl (sub_cons rfl sub_nil))) (hs_pick (is := [0, 1, 2, 3]) rfl rfl) ?_
            rintro s hs
            refine c_sub (E' := [(13, _), (3, _), (7, _), (9, _)]) (sub_cons rfl (sub_cons rfl (sub_cons rfl (sub_cons rfl sub_nil)))) ?_
            refine c_seq ?_
            refine c_seq ?_
            refine c_region rfl ?_
            refine gv rfl (y_move rfl) ?_
            refine gv rfl (y_faddr off24_0 rfl rfl) ?_
            refine gv rfl (y_load (k := 0)  one22 rfl rfl rfl) ?_
            refine gv rfl (y_len elem22 rfl) ?_
            refine gv rfl (y_lss rfl rfl) ?_
            refine l_nil ?_
            refine q_then ?_
            refine c_dec rfl ?_ ?_
            · intro h120
              have hlt2 : s < (putJ j c now).cks.length := by omega
              obtain ⟨v, hv⟩ := get_lt hlt2
              refine c_skip ?_
              refine q_then ?_
              refine c_seq ?_
              refine c_block ?_
              refine c_seq ?_
              refine c_cut0 (Ef := [(3, _), (7, _), (9, _), (13, _)]) [(14, .int .i64 (atI v j.cks))] (sub_cons rfl (sub_cons rfl (sub_cons rfl (sub_cons rfl sub_nil)))) ?_ ?_
              · skip
                refine c_drawp (l := #[false, false, false, false, false, false, false, false]) 8 (is := [0, 1, 2, 3]) rfl rfl rfl rfl ?_
                refine h_take (l' := #[true, false, false, false, false, false, false, false]) 0 rfl (by kernel_rfl) rfl rfl (np_cut (np_then (np_block (np_then (np_loop (np_block (np_then np_post))))))) (hs_pick (is := [0, 1, 2, 3]) rfl rfl) (y_loadW (k := 3)  agg24 rfl rfl rfl) ?_
                refine h_take (l' := #[true, true, false, false, false, false, false, false]) 1 rfl (by kernel_rfl) rfl rfl (np_cut (np_then (np_block (np_then (np_loop (np_block (np_then np_post))))))) (hs_pick (is := [0, 1, 2, 3]) rfl rfl) (y_faddr off24_0 rfl rfl) ?_
                refine h_take (l' := #[true, true, true, false, false, false, false, false]) 2 rfl (by kernel_rfl) rfl rfl (np_cut (np_then (np_block (np_then (np_loop (np_block (np_then np_post))))))) (hs_pick (is := [0, 1, 2, 3]) rfl rfl) (y_load (k := 0)  one22 rfl rfl rfl) ?_
                refine h_take (l' := #[true, true, true, true, false, false, false, false]) 3 rfl (by kernel_rfl) rfl rfl (np_cut (np_then (np_block (np_then (np_loop (np_block (np_then np_post))))))) (hs_pick (is := [0, 1, 2, 3]) rfl rfl) (y_move rfl) ?_
                refine h_take (l' := #[true, true, true, true, true, false, false, false]) 4 rfl (by kernel_rfl) rfl rfl (np_cut (np_then (np_block (np_then (np_loop (np_block (np_then np_post))))))) (hs_pick (is := [0, 1, 2, 3]) rfl rfl) (y_iaddr_row (k := 1) elem22 size26 rfl (fun _ => rfl) rfl rfl rfl (by omega) hv) ?_
                refine h_take (l' := #[true, true, true, true, true, true, false, false]) 5 rfl (by kernel_rfl) rfl rfl (np_cut (np_then (np_block (np_then (np_loop (np_block (np_then np_post))))))) (hs_pick (is := [0, 1, 2, 3]) rfl rfl) (y_loadA_row (k := 1) agg26 rfl (fun _ => rfl) rfl rfl rfl hv rfl) ?_
                refine h_only (l' := #[true, true, true, true, true, true, true, false]) 6 rfl (by kernel_rfl) rfl ?_
                refine l_callU rfl ent20 rfl (fun w hm => find_c (j := j) (c := v) w (hJ.below hm.below) hj.1) ?_
                refine l_nil ?_
                refine q_step (fun _ => hs_pick (is := [0, 1, 2, 3]) rfl rfl) ?_
                refine h_take (l' := #[true, true, true, true, true, true, true, true]) 7 rfl (by kernel_rfl) rfl rfl (np_cut (np_then (np_block (np_then (np_loop (np_block (np_then np_post))))))) (hs_pick (is := [0, 1, 2, 3]) rfl rfl) (y_assign rfl) ?_
                refine h_done (by kernel_rfl) ?_
                exact q_cut () trivial (sub_cons rfl (sub_cons rfl (sub_cons rfl (sub_cons rfl (sub_cons rfl sub_nil))))) (hs_pick (is := [0, 1, 2, 3]) rfl rfl)
              · skip
                refine q_then ?_
                refine c_seq ?_
                refine c_cut0 (Ef := [(3, _), (7, _), (9, _), (13, _)]) [(149, .bool false)] (sub_cons rfl (sub_cons rfl (sub_cons rfl (sub_cons rfl sub_nil)))) ?_ ?_
                · skip
                  refine c_drawp (l := #[false, false, false, false, false, false, false, false, false, false, false, false, false, false, false, false, false, false, false, false]) 20 (is := [0, 1, 2, 3]) rfl rfl rfl rfl ?_
                  refine h_take (l' := #[true, false, false, false, false, false, false, false, false, false, false, false, false, false, false, false, false, false, false, false]) 0 rfl (by kernel_rfl) rfl rfl (np_cut (np_then (np_block (np_then (np_loop (np_block (np_then np_post))))))) (hs_pick (is := [0, 1, 2, 3]) rfl rfl) (y_move rfl) ?_
                  refine h_take (l' := #[true, true, false, false, false, false, false, false, false, false, false, false, false, false, false, false, false, false, false, false]) 1 rfl (by kernel_rfl) rfl rfl (np_cut (np_then (np_block (np_then (np_loop (np_block (np_then np_post))))))) (hs_pick (is := [0, 1, 2, 3]) rfl rfl) (y_move rfl) ?_
                  refine h_take (l' := #[true, true, true, false, false, false, false, false, false, false, false, false, false, false, false, false, false, false, false, false]) 2 rfl (by kernel_rfl) rfl rfl (np_cut (np_then (np_block (np_then (np_loop (np_block (np_then np_post))))))) (hs_pick (is := [0, 1, 2, 3]) rfl rfl) (y_neq rfl rfl) ?_
                  refine h_take (l' := #[true, true, true, true, false, false, false, false, false, false, false, false, false, false, false, false, false, false, false, false]) 3 rfl (by kernel_rfl) rfl rfl (np_cut (np_then (np_block (np_then (np_loop (np_block (np_then np_post))))))) (hs_pick (is := [0, 1, 2, 3]) rfl rfl) (y_move rfl) ?_
                  refine h_dec (t := 133) rfl ?_ ?_
                  · intro h133
                    obtain ⟨k, ek, hvk⟩ := puts_else hz hv h133
                    have ek2 : (atI v j.cks).toNat = k := by rw [ek]; rfl
                    rw [← ek2] at hvk
                    refine h_takeg (t := 133) (l' := #[true, true, true, true, true, false, false, false, false, false, false, false, false, false, false, false, false, false, false, false]) 4 rfl (by kernel_rfl) rfl rfl (np_cut (np_then (np_block (np_then (np_loop (np_block (np_then np_post))))))) (hs_pick (is := [0, 1, 2, 3]) rfl rfl) rfl rfl (y_move rfl) ?_
                    refine h_takeg (t := 133) (l' := #[true, true, true, true, true, true, false, false, false, false, false, false, false, false, false, false, false, false, false, false]) 5 rfl (by kernel_rfl) rfl rfl (np_cut (np_then (np_block (np_then (np_loop (np_block (np_then np_post))))))) (hs_pick (is := [0, 1, 2, 3]) rfl rfl) rfl rfl (y_lss rfl rfl) ?_
                    refine h_takeg (t := 133) (l' := #[true, true, true, true, true, true, true, false, false, false, false, false, false, false, false, false, false, false, false, false]) 6 rfl (by kernel_rfl) rfl rfl (np_cut (np_then (np_block (np_then (np_loop (np_block (np_then np_post))))))) (hs_pick (is := [0, 1, 2, 3]) rfl rfl) rfl rfl (y_move rfl) ?_
                    refine h_dec (t := 136) rfl ?_ ?_
                    · intro h136
                      omega
                    · intro h136
                      refine h_takeg (t := 136) (l' := #[true, true, true, true, true, true, true, true, false, false, false, false, false, false, false, false, false, false, false, false]) 7 rfl (by kernel_rfl) rfl rfl (np_cut (np_then (np_block (np_then (np_loop (np_block (np_then np_post))))))) (hs_pick (is := [0, 1, 2, 3]) rfl rfl) rfl rfl (y_faddr off24_0 rfl rfl) ?_
                      refine h_takeg (t := 136) (l' := #[true, true, true, true, true, true, true, true, true, false, false, false, false, false, false, false, false, false, false, false]) 8 rfl (by kernel_rfl) rfl rfl (np_cut (np_then (np_block (np_then (np_loop (np_block (np_then np_post))))))) (hs_pick (is := [0, 1, 2, 3]) rfl rfl) rfl rfl (y_load (k := 0)  one22 rfl rfl rfl) ?_
                      refine h_takeg (t := 136) (l' := #[true, true, true, true, true, true, true, true, true, true, false, false, false, false, false, false, false, false, false, false]) 9 rfl (by kernel_rfl) rfl rfl (np_cut (np_then (np_block (np_then (np_loop (np_block (np_then np_post))))))) (hs_pick (is := [0, 1, 2, 3]) rfl rfl) rfl rfl (y_move rfl) ?_
                      refine h_takeg (t := 136) (l' := #[true, true, true, true, true, true, true, true, true, true, true, false, false, false, false, false, false, false, false, false]) 10 rfl (by kernel_rfl) rfl rfl (np_cut (np_then (np_block (np_then (np_loop (np_block (np_then np_post))))))) (hs_pick (is := [0, 1, 2, 3]) rfl rfl) rfl rfl (y_iaddr_row (k := 1) elem22 size26 rfl (fun _ => rfl) rfl rfl rfl (by omega) hv) ?_
                      refine h_takeg (t := 136) (l' := #[true, true, true, true, true, true, true, true, true, true, true, true, false, false, false, false, false, false, false, false]) 11 rfl (by kernel_rfl) rfl rfl (np_cut (np_then (np_block (np_then (np_loop (np_block (np_then np_post))))))) (hs_pick (is := [0, 1, 2, 3]) rfl rfl) rfl rfl (y_loadA_row (k := 1) agg26 rfl (fun _ => rfl) rfl rfl rfl hv rfl) ?_
                      refine h_takeg (t := 136) (l' := #[true, true, true, true, true, true, true, true, true, true, true, true, true, false, false, false, false, false, false, false]) 12 rfl (by kernel_rfl) rfl rfl (np_cut (np_then (np_block (np_then (np_loop (np_block (np_then np_post))))))) (hs_pick (is := [0, 1, 2, 3]) rfl rfl) rfl rfl (y_faddr off24_0 rfl rfl) ?_
                      refine h_takeg (t := 136) (l' := #[true, true, true, true, true, true, true, true, true, true, true, true, true, true, false, false, false, false, false, false]) 13 rfl (by kernel_rfl) rfl rfl (np_cut (np_then (np_block (np_then (np_loop (np_block (np_then np_post))))))) (hs_pick (is := [0, 1, 2, 3]) rfl rfl) rfl rfl (y_load (k := 3)  one22 rfl rfl rfl) ?_
                      refine h_takeg (t := 136) (l' := #[true, true, true, true, true, true, true, true, true, true, true, true, true, true, true, false, false, false, false, false]) 14 rfl (by kernel_rfl) rfl rfl (np_cut (np_then (np_block (np_then (np_loop (np_block (np_then np_post))))))) (hs_pick (is := [0, 1, 2, 3]) rfl rfl) rfl rfl (y_move rfl) ?_
                      refine h_takege (t := 136) (l' := #[true, true, true, true, true, true, true, true, true, true, true, true, true, true, true, true, false, false, false, false]) 15 rfl (by kernel_rfl) rfl rfl (np_cut (np_then (np_block (np_then (np_loop (np_block (np_then np_post))))))) (hs_pick (is := [0, 1, 2, 3]) rfl rfl) rfl rfl (y_iaddr elem22 size26 hJ rfl rfl rfl (by omega) hvk) ?_; rintro _ ⟨p145, rfl, hp145⟩
                      refine h_takeg (t := 136) (l' := #[true, true, true, true, true, true, true, true, true, true, true, true, true, true, true, true, true, false, false, false]) 16 rfl (by kernel_rfl) rfl rfl (np_cut (np_then (np_block (np_then (np_loop (np_block (np_then np_post))))))) (hs_pick (is := [0, 1, 2, 3]) rfl rfl) rfl rfl (y_loadA_el agg26 rfl hp145 rfl) ?_
                      refine h_takeg (t := 136) (l' := #[true, true, true, true, true, true, true, true, true, true, true, true, true, true, true, true, true, true, false, false]) 17 rfl (by kernel_rfl) rfl rfl (np_cut (np_then (np_block (np_then (np_loop (np_block (np_then np_post))))))) (hs_pick (is := [0, 1, 2, 3]) rfl rfl) rfl rfl (y_neS (flat26 _ _ _ _ _ _ _ _ _ _ _ _ _) rfl rfl (Ck.eqc _ _)) ?_
                      refine h_takeg (t := 133) (l' := #[true, true, true, true, true, true, true, true, true, true, true, true, true, true, true, true, true, true, true, false]) 18 rfl (by kernel_rfl) rfl rfl (np_cut (np_then (np_block (np_then (np_loop (np_block (np_then np_post))))))) (hs_pick (is := [0, 1, 2, 3]) rfl rfl) rfl rfl (y_pick_f rfl rfl) ?_
                      refine h_take (l' := #[true, true, true, true, true, true, true, true, true, true, true, true, true, true, true, true, true, true, true, true]) 19 rfl (by kernel_rfl) rfl rfl (np_cut (np_then (np_block (np_then (np_loop (np_block (np_then np_post))))))) (hs_pick (is := [0, 1, 2, 3]) rfl rfl) (y_pick_t rfl rfl) ?_
                      refine h_done (by kernel_rfl) ?_
                      rw [decide_eq_true (rfl : v = v)]
                      exact q_cut () trivial (sub_cons rfl (sub_cons rfl (sub_cons rfl (sub_cons rfl (sub_cons rfl sub_nil))))) (hs_pick (is := [0, 1, 2, 3]) rfl rfl)
                  · intro h133
                    refine h_off (t := 133) (l' := #[true, true, true, true, true, false, false, false, false, false, false, false, false, false, false, false, false, false, false, false]) 4 rfl (by kernel_rfl) rfl rfl (np_cut (np_then (np_block (np_then (np_loop (np_block (np_then np_post))))))) (hs_pick (is := [0, 1, 2, 3]) rfl rfl) rfl rfl rfl ?_
                    refine h_off (t := 133) (l' := #[true, true, true, true, true, true, false, false, false, false, false, false, false, false, false, false, false, false, false, false]) 5 rfl (by kernel_rfl) rfl rfl (np_cut (np_then (np_block (np_then (np_loop (np_block (np_then np_post))))))) (hs_pick (is := [0, 1, 2, 3]) rfl rfl) rfl rfl rfl ?_
                    refine h_off (t := 133) (l' := #[true, true, true, true, true, true, true, false, false, false, false, false, false, false, false, false, false, false, false, false]) 6 rfl (by kernel_rfl) rfl rfl (np_cut (np_then (np_block (np_then (np_loop (np_block (np_then np_post))))))) (hs_pick (is := [0, 1, 2, 3]) rfl rfl) rfl rfl rfl ?_
                    refine h_und (t := 136) (l' := #[true, true, true, true, true, true, true, true, false, false, false, false, false, false, false, false, false, false, false, false]) 7 rfl (by kernel_rfl) rfl rfl (np_cut (np_then (np_block (np_then (np_loop (np_block (np_then np_post))))))) (hs_pick (is := [0, 1, 2, 3]) rfl rfl) rfl rfl ?_
                    refine h_und (t := 136) (l' := #[true, true, true, true, true, true, true, true, true, false, false, false, false, false, false, false, false, false, false, false]) 8 rfl (by kernel_rfl) rfl rfl (np_cut (np_then (np_block (np_then (np_loop (np_block (np_then np_post))))))) (hs_pick (is := [0, 1, 2, 3]) rfl rfl) rfl rfl ?_
                    refine h_und (t := 136) (l' := #[true, true, true, true, true, true, true, true, true, true, false, false, false, false, false, false, false, false, false, false]) 9 rfl (by kernel_rfl) rfl rfl (np_cut (np_then (np_block (np_then (np_loop (np_block (np_then np_post))))))) (hs_pick (is := [0, 1, 2, 3]) rfl rfl) rfl rfl ?_
                    refine h_und (t := 136) (l' := #[true, true, true, true, true, true, true, true, true, true, true, false, false, false, false, false, false, false, false, false]) 10 rfl (by kernel_rfl) rfl rfl (np_cut (np_then (np_block (np_then (np_loop (np_block (np_then np_post))))))) (hs_pick (is := [0, 1, 2, 3]) rfl rfl) rfl rfl ?_
                    refine h_und (t := 136) (l' := #[true, true, true, true, true, true, true, true, true, true, true, true, false, false, false, false, false, false, false, false]) 11 rfl (by kernel_rfl) rfl rfl (np_cut (np_then (np_block (np_then (np_loop (np_block (np_then np_post))))))) (hs_pick (is := [0, 1, 2, 3]) rfl rfl) rfl rfl ?_
                    refine h_und (t := 136) (l' := #[true, true, true, true, true, true, true, true, true, true, true, true, true, false, false, false, false, false, false, false]) 12 rfl (by kernel_rfl) rfl rfl (np_cut (np_then (np_block (np_then (np_loop (np_block (np_then np_post))))))) (hs_pick (is := [0, 1, 2, 3]) rfl rfl) rfl rfl ?_
                    refine h_und (t := 136) (l' := #[true, true, true, true, true, true, true, true, true, true, true, true, true, true, false, false, false, false, false, false]) 13 rfl (by kernel_rfl) rfl rfl (np_cut (np_then (np_block (np_then (np_loop (np_block (np_then np_post))))))) (hs_pick (is := [0, 1, 2, 3]) rfl rfl) rfl rfl ?_
                    refine h_und (t := 136) (l' := #[true, true, true, true, true, true, true, true, true, true, true, true, true, true, true, false, false, false, false, false]) 14 rfl (by kernel_rfl) rfl rfl (np_cut (np_then (np_block (np_then (np_loop (np_block (np_then np_post))))))) (hs_pick (is := [0, 1, 2, 3]) rfl rfl) rfl rfl ?_
                    refine h_und (t := 136) (l' := #[true, true, true, true, true, true, true, true, true, true, true, true, true, true, true, true, false, false, false, false]) 15 rfl (by kernel_rfl) rfl rfl (np_cut (np_then (np_block (np_then (np_loop (np_block (np_then np_post))))))) (hs_pick (is := [0, 1, 2, 3]) rfl rfl) rfl rfl ?_
                    refine h_und (t := 136) (l' := #[true, true, true, true, true, true, true, true, true, true, true, true, true, true, true, true, true, false, false, false]) 16 rfl (by kernel_rfl) rfl rfl (np_cut (np_then (np_block (np_then (np_loop (np_block (np_then np_post))))))) (hs_pick (is := [0, 1, 2, 3]) rfl rfl) rfl rfl ?_
                    refine h_und (t := 136) (l' := #[true, true, true, true, true, true, true, true, true, true, true, true, true, true, true, true, true, true, false, false]) 17 rfl (by kernel_rfl) rfl rfl (np_cut (np_then (np_block (np_then (np_loop (np_block (np_then np_post))))))) (hs_pick (is := [0, 1, 2, 3]) rfl rfl) rfl rfl ?_
                    refine h_off (t := 133) (l' := #[true, true, true, true, true, true, true, true, true, true, true, true, true, true, true, true, true, true, true, false]) 18 rfl (by kernel_rfl) rfl rfl (np_cut (np_then (np_block (np_then (np_loop (np_block (np_then np_post))))))) (hs_pick (is := [0, 1, 2, 3]) rfl rfl) rfl rfl rfl ?_
                    refine h_take (l' := #[true, true, true, true, true, true, true, true, true, true, true, true, true, true, true, true, true, true, true, true]) 19 rfl (by kernel_rfl) rfl rfl (np_cut (np_then (np_block (np_then (np_loop (np_block (np_then np_post))))))) (hs_pick (is := [0, 1, 2, 3]) rfl rfl) (y_pick_f rfl rfl) ?_
                    refine h_done (by kernel_rfl) ?_
                    exact q_cut () trivial (sub_cons rfl (sub_cons rfl (sub_cons rfl (sub_cons rfl (sub_cons rfl sub_nil))))) (hs_pick (is := [0, 1, 2, 3]) rfl rfl)
                · skip
                  refine q_then ?_
                  refine c_cond_f rfl ?_
                  refine c_skip ?_
                  refine q_block (q_then ?_)
                  refine c_region rfl ?_
                  refine gv rfl (y_move rfl) ?_
                  refine gv rfl (y_add rfl rfl (wrap_in (by omega) (by omega))) ?_
                  refine gv rfl (y_assign rfl) ?_
                  refine l_nil ?_
                  exact again (s + 1) (by omega) (by omega) (sub_cons rfl sub_nil) (sub_cons rfl (sub_cons rfl (sub_cons rfl sub_nil))) (hs_pick (is := [0, 1, 2, 3]) rfl rfl)
            · intro h120
              refine c_exit ?_
              refine q_then_exit (q_loop_exit (q_block_exit (q_then ?_)))
              refine c_seq ?_
              refine c_region rfl ?_
              refine gv rfl (y_assign rfl) ?_
              refine l_nil ?_
              refine q_then ?_
              refine c_ret ?_
              exact q_ret1 Tryz.results6 rfl () trivial rfl hs_nil

end Go.Gx
