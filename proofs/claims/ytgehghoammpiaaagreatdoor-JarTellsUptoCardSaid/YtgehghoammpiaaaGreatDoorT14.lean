/- This text proves: functions of the program, walked: what each answers, for every input. No condition beyond those that each theorem names. -/
import Derived.Test.YtgehghoammpiaaaGreatDoorProg
import Derived.Test.YtgehghoammpiaaaGreatDoorTStr
import Derived.Test.YtgehghoammpiaaaGreatDoorT13
import Derived.Test.YtgehghoammpiaaaGreatDoorGz4
import Derived.KernelRfl
namespace Go.Gx
open Go.Proofs Go.Maps
theorem ent38 : enters Tryz.prog 38 = true := by kernel_rfl
theorem ent39 : enters Tryz.prog 39 = true := by kernel_rfl
theorem ent75 : enters Tryz.prog 75 = true := by kernel_rfl

theorem noMoment_c {n : Int} (w : World) : Cv Tryz.prog 38 #[.int .i64 n] w (.bool (decide (¬ isM n))) := by
  refine enter (E := [(0, .int .i64 n)]) Tryz.func38 rfl Tryz.ntmps38 rfl (by simp) ?_
  refine c_seq ?_
  refine c_region rfl ?_
  refine gv rfl (y_assign rfl) ?_
  refine l_nil ?_
  refine q_then ?_
  refine c_seq ?_
  refine c_region rfl ?_
  refine gv rfl (y_move rfl) ?_
  refine gv rfl (y_lss rfl rfl) ?_
  refine gv rfl (y_move rfl) ?_
  refine g_dec (t := 5) rfl ?_ ?_
  · intro h5
    refine g_off (t := 5) rfl rfl rfl rfl ?_
    refine g_off (t := 5) rfl rfl rfl rfl ?_
    refine gv rfl (y_pick_t rfl rfl) ?_
    refine gv rfl (y_assign rfl) ?_
    refine l_nil ?_
    refine q_then ?_
    refine c_ret ?_
    exact q_ret1 Tryz.results38 rfl () trivial (bt (by unfold isM; omega)) hs_nil
  · intro h5
    refine g_on (t := 5) rfl rfl ?_
    refine gv rfl (y_move rfl) ?_
    refine g_on (t := 5) rfl rfl ?_
    refine gv rfl (y_gtr rfl rfl) ?_
    refine gv rfl (y_pick_f rfl rfl) ?_
    refine gv rfl (y_assign rfl) ?_
    refine l_nil ?_
    refine q_then ?_
    refine c_ret ?_
    exact q_ret1 Tryz.results38 rfl () trivial (bd (by unfold isM; omega)) hs_nil

theorem noMoments_c {c : Ck} (w : World) : Cv Tryz.prog 39 #[.agg c.arr] w (.bool (decide (¬(isM c.created ∧ isM c.used)))) := by
  refine enter (E := [(0, .agg c.arr)]) Tryz.func39 rfl Tryz.ntmps39 rfl (by simp) ?_
  refine c_seq ?_
  refine c_region rfl ?_
  refine l_boxA rfl rfl ?_; intro g1
  refine gv rfl (y_assign rfl) ?_
  refine l_nil ?_
  refine q_then ?_
  refine c_seq ?_
  refine c_region rfl ?_
  refine gv rfl (y_faddr off26_10 rfl rfl) ?_
  refine gv rfl (y_load (k := 0)  one3 rfl rfl rfl) ?_
  refine l_callU rfl ent38 rfl (fun w hm => noMoment_c w) ?_
  refine gv rfl (y_move rfl) ?_
  refine g_dec (t := 6) rfl ?_ ?_
  · intro h6
    refine g_off (t := 6) rfl rfl rfl rfl ?_
    refine g_off (t := 6) rfl rfl rfl rfl ?_
    refine g_off (t := 6) rfl rfl rfl rfl ?_
    refine gv rfl (y_pick_t rfl rfl) ?_
    refine gv rfl (y_assign rfl) ?_
    refine l_nil ?_
    refine q_then ?_
    refine c_ret ?_
    exact q_ret1 Tryz.results39 rfl () trivial (bt (by simp_all)) hs_nil
  · intro h6
    refine g_on (t := 6) rfl rfl ?_
    refine gv rfl (y_faddr off26_11 rfl rfl) ?_
    refine g_on (t := 6) rfl rfl ?_
    refine gv rfl (y_load (k := 0)  one3 rfl rfl rfl) ?_
    refine g_on (t := 6) rfl rfl ?_
    refine l_callU rfl ent38 rfl (fun w hm => noMoment_c w) ?_
    refine gv rfl (y_pick_f rfl rfl) ?_
    refine gv rfl (y_assign rfl) ?_
    refine l_nil ?_
    refine q_then ?_
    refine c_ret ?_
    exact q_ret1 Tryz.results39 rfl () trivial (bd (by simp_all)) hs_nil

theorem isLive_c {c : Ck} {now : Int} (w : World) : Cv Tryz.prog 75 #[.agg c.arr, .int .i64 now] w (.bool (decide (c.expiry > now))) := by
  refine enter (E := [(0, .agg c.arr), (1, .int .i64 now)]) Tryz.func75 rfl Tryz.ntmps75 rfl (by simp) ?_
  refine c_seq ?_
  refine c_region rfl ?_
  refine l_boxA rfl rfl ?_; intro g2
  refine gv rfl (y_assign rfl) ?_
  refine l_nil ?_
  refine q_then ?_
  refine c_seq ?_
  refine c_region rfl ?_
  refine gv rfl (y_move rfl) ?_
  refine gv rfl (y_faddr off26_9 rfl rfl) ?_
  refine gv rfl (y_load (k := 0)  one3 rfl rfl rfl) ?_
  refine gv rfl (y_lss rfl rfl) ?_
  refine gv rfl (y_assign rfl) ?_
  refine l_nil ?_
  refine q_then ?_
  refine c_ret ?_
  exact q_ret1 Tryz.results75 rfl () trivial rfl hs_nil

theorem refCheck_c {j : Ja} {A0 : Option Addr} {k0 : Nat} (w : World) (hJ : Sl Ck.cells 13 w A0 j.cks) (hlen : j.cks.length ≤ 1073741824) : Cv Tryz.prog 14 #[.agg (j.arr A0 k0)] w (.int .i64 (jarErr j)) := by
  refine enter (E := [(0, .agg (j.arr A0 k0))]) Tryz.func14 rfl Tryz.ntmps14 rfl (by simp) ?_
  refine c_seq ?_
  refine c_region rfl ?_
  refine l_boxA rfl rfl ?_; intro g1
  refine gv rfl (y_assign rfl) ?_
  refine l_nil ?_
  refine q_then ?_
  refine c_seq ?_
  refine c_seq ?_
  refine c_region rfl ?_
  refine gv rfl (y_faddr off24_0 rfl rfl) ?_
  refine gv rfl (y_load (k := 0)  one22 rfl rfl rfl) ?_
  refine gv rfl (y_len elem22 rfl) ?_
  refine gv rfl (y_gtr rfl rfl) ?_
  refine l_nil ?_
  refine q_then ?_
  refine c_dec rfl ?_ ?_
  · intro h10
    refine c_seq ?_
    refine c_region rfl ?_
    refine gv rfl (y_assign rfl) ?_
    refine l_nil ?_
    refine q_then ?_
    refine c_ret ?_
    refine q_then_ret ?_
    exact q_ret1 Tryz.results14 rfl () trivial (congrArg (Value.int .i64) (show jarErr j = 2 from if_pos h10).symm) hs_nil
  · intro h10
    refine c_skip ?_
    refine q_then ?_
    refine c_seq ?_
    refine c_seq ?_
    refine c_region rfl ?_
    refine gv rfl (y_assign rfl) ?_
    refine l_nil ?_
    refine q_then ?_
    refine c_block ?_
    refine loop (Ef := [(1, _)]) (Hf := [_]) (fun s : Nat => s ≤ j.cks.length ∧ ∀ i, i < s → ckAt j i = 0) (fun s : Nat => [(3, .int .i64 (s : Int))]) (fun s : Nat => []) (fun s : Nat => j.cks.length - s) 0 ⟨by omega, none_yet⟩ (sub_cons rfl sub_nil) (sub_cons rfl sub_nil) (hs_pick (is := [0]) rfl rfl) ?_
    rintro s ⟨hs, hI⟩
    refine c_sub (E' := [(3, _), (1, _)]) (sub_cons rfl (sub_cons rfl sub_nil)) ?_
    refine c_seq ?_
    refine c_seq ?_
    refine c_region rfl ?_
    refine gv rfl (y_move rfl) ?_
    refine gv rfl (y_faddr off24_0 rfl rfl) ?_
    refine gv rfl (y_load (k := 0)  one22 rfl rfl rfl) ?_
    refine gv rfl (y_len elem22 rfl) ?_
    refine gv rfl (y_lss rfl rfl) ?_
    refine l_nil ?_
    refine q_then ?_
    refine c_dec rfl ?_ ?_
    · intro h15
      have hlt : s < j.cks.length := by omega
      obtain ⟨v, hv⟩ := get_lt hlt
      refine c_skip ?_
      refine q_then ?_
      refine c_seq ?_
      refine c_block ?_
      refine c_seq ?_
      refine c_region rfl ?_
      refine gv rfl (y_faddr off24_0 rfl rfl) ?_
      refine gv rfl (y_load (k := 0)  one22 rfl rfl rfl) ?_
      refine gv rfl (y_move rfl) ?_
      refine gve rfl (y_iaddr elem22 size26 hJ rfl rfl rfl (by omega) hv) ?_; rintro _ ⟨p21, rfl, hp21⟩
      refine gv rfl (y_loadA_el agg26 rfl hp21 rfl) ?_
      refine l_allocA rfl zero26 ?_; intro g4
      refine l_storeW (k := 0) (H' := [_, _]) size26 rfl rfl rfl rfl rfl rfl rfl ?_
      refine l_nil ?_
      refine q_then ?_
      refine c_seq ?_
      refine c_seq ?_
      refine c_region rfl ?_
      refine gv rfl (y_loadW (k := 0)  agg26 rfl rfl rfl) ?_
      refine l_callU rfl ent39 rfl (fun w hm => noMoments_c (c := v) w) ?_
      refine l_nil ?_
      refine q_then ?_
      refine c_dec rfl ?_ ?_
      · intro h24
        refine c_seq ?_
        refine c_region rfl ?_
        refine gv rfl (y_assign rfl) ?_
        refine l_nil ?_
        refine q_then ?_
        refine c_ret ?_
        refine q_then_ret (q_block_ret (q_then_ret (q_loop_ret (q_block_ret (q_then_ret ?_)))))
        exact q_ret1 Tryz.results14 rfl () trivial (congrArg (Value.int .i64) (jarErr_ck h10 hI hlt (chk_3 hv h24) (by decide)).symm) hs_nil
      · intro h24
        have hm := Decidable.not_not.1 h24
        refine c_skip ?_
        refine q_then ?_
        refine c_seq ?_
        refine c_seq ?_
        refine c_region rfl ?_
        refine gv rfl (y_faddr off26_12 rfl rfl) ?_
        refine gv rfl (y_load (k := 0)  one3 rfl rfl rfl) ?_
        refine gv rfl (y_lss rfl rfl) ?_
        refine gv rfl (y_move rfl) ?_
        refine g_dec (t := 28) rfl ?_ ?_
        · intro h28
          refine g_off (t := 28) rfl rfl rfl rfl ?_
          refine g_off (t := 28) rfl rfl rfl rfl ?_
          refine g_off (t := 28) rfl rfl rfl rfl ?_
          refine g_off (t := 28) rfl rfl rfl rfl ?_
          refine g_off (t := 28) rfl rfl rfl rfl ?_
          refine gv rfl (y_pick_t rfl rfl) ?_
          refine l_nil ?_
          refine q_then ?_
          refine c_cond_t rfl ?_
          refine c_seq ?_
          refine c_region rfl ?_
          refine gv rfl (y_assign rfl) ?_
          refine l_nil ?_
          refine q_then ?_
          refine c_ret ?_
          refine q_then_ret (q_block_ret (q_then_ret (q_loop_ret (q_block_ret (q_then_ret ?_)))))
          exact q_ret1 Tryz.results14 rfl () trivial (congrArg (Value.int .i64) (jarErr_ck h10 hI hlt (chk_4 hv hm (.inl h28)) (by decide)).symm) hs_nil
        · intro h28
          refine g_on (t := 28) rfl rfl ?_
          refine gv rfl (y_faddr off26_12 rfl rfl) ?_
          refine g_on (t := 28) rfl rfl ?_
          refine gv rfl (y_load (k := 0)  one3 rfl rfl rfl) ?_
          refine g_on (t := 28) rfl rfl ?_
          refine gv rfl (y_faddr off24_1 rfl rfl) ?_
          refine g_on (t := 28) rfl rfl ?_
          refine gv rfl (y_load (k := 1)  one3 rfl rfl rfl) ?_
          refine g_on (t := 28) rfl rfl ?_
          refine gv rfl (y_geq rfl rfl) ?_
          refine gv rfl (y_pick_f rfl rfl) ?_
          refine l_nil ?_
          refine q_then ?_
          refine c_dec rfl ?_ ?_
          · intro h34
            refine c_seq ?_
            refine c_region rfl ?_
            refine gv rfl (y_assign rfl) ?_
            refine l_nil ?_
            refine q_then ?_
            refine c_ret ?_
            refine q_then_ret (q_block_ret (q_then_ret (q_loop_ret (q_block_ret (q_then_ret ?_)))))
            exact q_ret1 Tryz.results14 rfl () trivial (congrArg (Value.int .i64) (jarErr_ck h10 hI hlt (chk_4 hv hm (.inr h34)) (by decide)).symm) hs_nil
          · intro h34
            have h2 : ¬(v.no < 0 ∨ v.no ≥ j.next) := by omega
            refine c_skip ?_
            refine q_then ?_
            refine c_seq ?_
            refine c_region rfl ?_
            refine gv rfl (y_assign rfl) ?_
            refine l_nil ?_
            refine q_then ?_
            refine c_seq ?_
            refine c_seq ?_
            refine c_region rfl ?_
            refine gv rfl (y_assign rfl) ?_
            refine l_nil ?_
            refine q_then ?_
            refine c_block ?_
            refine loop (Ef := [(1, _), (3, _), (4, _)]) (Hf := [_, _]) (fun x : Nat × Nat => x.1 ≤ s ∧ (x.2 = 1 + ((j.cks.take x.1).filter (fun a => decide (a.domain = v.domain))).length ∧ x.2 ≤ x.1 + 1) ∧ ∀ i, i < x.1 → ∀ u, j.cks[i]? = some u → keyEq u v = false ∧ u.no ≠ v.no) (fun x : Nat × Nat => [(6, .int .i64 (x.1 : Int)), (5, .int .i64 (x.2 : Int))]) (fun x : Nat × Nat => []) (fun x : Nat × Nat => s - x.1) (0, 1) ⟨Nat.zero_le _, ⟨rfl, Nat.le_refl _⟩, fun i hi => by omega⟩ (sub_cons rfl (sub_cons rfl sub_nil)) (sub_cons rfl (sub_cons rfl (sub_cons rfl sub_nil))) (hs_pick (is := [0, 1]) rfl rfl) ?_
            rintro ⟨r, n⟩ ⟨hr, ⟨hn, hn1⟩, hall⟩
            dsimp only at hr hn hn1 hall ⊢
            refine c_sub (E' := [(6, _), (5, _), (1, _), (3, _), (4, _)]) (sub_cons rfl (sub_cons rfl (sub_cons rfl (sub_cons rfl (sub_cons rfl sub_nil))))) ?_
            refine c_seq ?_
            refine c_seq ?_
            refine c_region rfl ?_
            refine gv rfl (y_move rfl) ?_
            refine gv rfl (y_move rfl) ?_
            refine gv rfl (y_lss rfl rfl) ?_
            refine l_nil ?_
            refine q_then ?_
            refine c_dec rfl ?_ ?_
            · intro h37
              have hrs : r < s := by omega
              obtain ⟨u, hu⟩ := get_lt (l := j.cks) (i := r) (by omega)
              refine c_skip ?_
              refine q_then ?_
              refine c_seq ?_
              refine c_block ?_
              refine c_seq ?_
              refine c_seq ?_
              refine c_drawp (l := #[false, false, false, false, false, false, false, false, false, false, false, false, false, false, false, false, false, false]) 18 (is := [0, 1]) rfl rfl rfl rfl ?_
              refine h_take (l' := #[true, false, false, false, false, false, false, false, false, false, false, false, false, false, false, false, false, false]) 0 rfl (by kernel_rfl) rfl rfl (np_then (np_then (np_block (np_then (np_loop (np_block (np_then (np_block (np_then (np_loop (np_block (np_then np_post)))))))))))) (hs_pick (is := [0, 1]) rfl rfl) (y_faddr off24_0 rfl rfl) ?_
              refine h_take (l' := #[true, true, false, false, false, false, false, false, false, false, false, false, false, false, false, false, false, false]) 1 rfl (by kernel_rfl) rfl rfl (np_then (np_then (np_block (np_then (np_loop (np_block (np_then (np_block (np_then (np_loop (np_block (np_then np_post)))))))))))) (hs_pick (is := [0, 1]) rfl rfl) (y_load (k := 1)  one22 rfl rfl rfl) ?_
              refine h_take (l' := #[true, true, true, false, false, false, false, false, false, false, false, false, false, false, false, false, false, false]) 2 rfl (by kernel_rfl) rfl rfl (np_then (np_then (np_block (np_then (np_loop (np_block (np_then (np_block (np_then (np_loop (np_block (np_then np_post)))))))))))) (hs_pick (is := [0, 1]) rfl rfl) (y_move rfl) ?_
              refine h_takee (l' := #[true, true, true, true, false, false, false, false, false, false, false, false, false, false, false, false, false, false]) 3 rfl (by kernel_rfl) rfl rfl (np_then (np_then (np_block (np_then (np_loop (np_block (np_then (np_block (np_then (np_loop (np_block (np_then np_post)))))))))))) (hs_pick (is := [0, 1]) rfl rfl) (y_iaddr elem22 size26 hJ rfl rfl rfl (by omega) hu) ?_; rintro _ ⟨p43, rfl, hp43⟩
              refine h_take (l' := #[true, true, true, true, true, false, false, false, false, false, false, false, false, false, false, false, false, false]) 4 rfl (by kernel_rfl) rfl rfl (np_then (np_then (np_block (np_then (np_loop (np_block (np_then (np_block (np_then (np_loop (np_block (np_then np_post)))))))))))) (hs_pick (is := [0, 1]) rfl rfl) (y_loadA_el agg26 rfl hp43 rfl) ?_
              refine h_take (l' := #[true, true, true, true, true, true, false, false, false, false, false, false, false, false, false, false, false, false]) 5 rfl (by kernel_rfl) rfl rfl (np_then (np_then (np_block (np_then (np_loop (np_block (np_then (np_block (np_then (np_loop (np_block (np_then np_post)))))))))))) (hs_pick (is := [0, 1]) rfl rfl) (y_loadW (k := 0)  agg26 rfl rfl rfl) ?_
              refine h_only (l' := #[true, true, true, true, true, true, true, false, false, false, false, false, false, false, false, false, false, false]) 6 rfl (by kernel_rfl) rfl ?_
              refine l_callU rfl ent21 rfl (fun w hm => sameKey_c (a := u) (b := v) w) ?_
              refine l_nil ?_
              refine q_step (fun _ => hs_pick (is := [0, 1]) rfl rfl) ?_
              refine h_take (l' := #[true, true, true, true, true, true, true, true, false, false, false, false, false, false, false, false, false, false]) 7 rfl (by kernel_rfl) rfl rfl (np_then (np_then (np_block (np_then (np_loop (np_block (np_then (np_block (np_then (np_loop (np_block (np_then np_post)))))))))))) (hs_pick (is := [0, 1]) rfl rfl) (y_move rfl) ?_
              refine h_bool (t := 47) rfl ?_ ?_
              · intro h47
                refine h_off (t := 47) (l' := #[true, true, true, true, true, true, true, true, true, false, false, false, false, false, false, false, false, false]) 8 rfl (by kernel_rfl) rfl rfl (np_then (np_then (np_block (np_then (np_loop (np_block (np_then (np_block (np_then (np_loop (np_block (np_then np_post)))))))))))) (hs_pick (is := [0, 1]) rfl rfl) rfl rfl rfl ?_
                refine h_off (t := 47) (l' := #[true, true, true, true, true, true, true, true, true, true, false, false, false, false, false, false, false, false]) 9 rfl (by kernel_rfl) rfl rfl (np_then (np_then (np_block (np_then (np_loop (np_block (np_then (np_block (np_then (np_loop (np_block (np_then np_post)))))))))))) (hs_pick (is := [0, 1]) rfl rfl) rfl rfl rfl ?_
                refine h_off (t := 47) (l' := #[true, true, true, true, true, true, true, true, true, true, true, false, false, false, false, false, false, false]) 10 rfl (by kernel_rfl) rfl rfl (np_then (np_then (np_block (np_then (np_loop (np_block (np_then (np_block (np_then (np_loop (np_block (np_then np_post)))))))))))) (hs_pick (is := [0, 1]) rfl rfl) rfl rfl rfl ?_
                refine h_off (t := 47) (l' := #[true, true, true, true, true, true, true, true, true, true, true, true, false, false, false, false, false, false]) 11 rfl (by kernel_rfl) rfl rfl (np_then (np_then (np_block (np_then (np_loop (np_block (np_then (np_block (np_then (np_loop (np_block (np_then np_post)))))))))))) (hs_pick (is := [0, 1]) rfl rfl) rfl rfl rfl ?_
                refine h_off (t := 47) (l' := #[true, true, true, true, true, true, true, true, true, true, true, true, true, false, false, false, false, false]) 12 rfl (by kernel_rfl) rfl rfl (np_then (np_then (np_block (np_then (np_loop (np_block (np_then (np_block (np_then (np_loop (np_block (np_then np_post)))))))))))) (hs_pick (is := [0, 1]) rfl rfl) rfl rfl rfl ?_
                refine h_off (t := 47) (l' := #[true, true, true, true, true, true, true, true, true, true, true, true, true, true, false, false, false, false]) 13 rfl (by kernel_rfl) rfl rfl (np_then (np_then (np_block (np_then (np_loop (np_block (np_then (np_block (np_then (np_loop (np_block (np_then np_post)))))))))))) (hs_pick (is := [0, 1]) rfl rfl) rfl rfl rfl ?_
                refine h_off (t := 47) (l' := #[true, true, true, true, true, true, true, true, true, true, true, true, true, true, true, false, false, false]) 14 rfl (by kernel_rfl) rfl rfl (np_then (np_then (np_block (np_then (np_loop (np_block (np_then (np_block (np_then (np_loop (np_block (np_then np_post)))))))))))) (hs_pick (is := [0, 1]) rfl rfl) rfl rfl rfl ?_
                refine h_off (t := 47) (l' := #[true, true, true, true, true, true, true, true, true, true, true, true, true, true, true, true, false, false]) 15 rfl (by kernel_rfl) rfl rfl (np_then (np_then (np_block (np_then (np_loop (np_block (np_then (np_block (np_then (np_loop (np_block (np_then np_post)))))))))))) (hs_pick (is := [0, 1]) rfl rfl) rfl rfl rfl ?_
                refine h_off (t := 47) (l' := #[true, true, true, true, true, true, true, true, true, true, true, true, true, true, true, true, true, false]) 16 rfl (by kernel_rfl) rfl rfl (np_then (np_then (np_block (np_then (np_loop (np_block (np_then (np_block (np_then (np_loop (np_block (np_then np_post)))))))))))) (hs_pick (is := [0, 1]) rfl rfl) rfl rfl rfl ?_
                refine h_take (l' := #[true, true, true, true, true, true, true, true, true, true, true, true, true, true, true, true, true, true]) 17 rfl (by kernel_rfl) rfl rfl (np_then (np_then (np_block (np_then (np_loop (np_block (np_then (np_block (np_then (np_loop (np_block (np_then np_post)))))))))))) (hs_pick (is := [0, 1]) rfl rfl) (y_pick_t rfl rfl) ?_
                refine h_done (by kernel_rfl) ?_
                refine q_then ?_
                refine c_cond_t rfl ?_
                refine c_seq ?_
                refine c_region rfl ?_
                refine gv rfl (y_assign rfl) ?_
                refine l_nil ?_
                refine q_then ?_
                refine c_ret ?_
                refine q_then_ret (q_block_ret (q_then_ret (q_loop_ret (q_block_ret (q_then_ret (q_block_ret (q_then_ret (q_loop_ret (q_block_ret (q_then_ret ?_))))))))))
                exact q_ret1 Tryz.results14 rfl () trivial (congrArg (Value.int .i64) (jarErr_ck h10 hI hlt (chk_6 hv hm h2 hrs hu (.inl h47)) (by decide)).symm) hs_nil
              · intro h47
                refine h_takeg (t := 47) (l' := #[true, true, true, true, true, true, true, true, true, false, false, false, false, false, false, false, false, false]) 8 rfl (by kernel_rfl) rfl rfl (np_then (np_then (np_block (np_then (np_loop (np_block (np_then (np_block (np_then (np_loop (np_block (np_then np_post)))))))))))) (hs_pick (is := [0, 1]) rfl rfl) rfl rfl (y_faddr off24_0 rfl rfl) ?_
                refine h_takeg (t := 47) (l' := #[true, true, true, true, true, true, true, true, true, true, false, false, false, false, false, false, false, false]) 9 rfl (by kernel_rfl) rfl rfl (np_then (np_then (np_block (np_then (np_loop (np_block (np_then (np_block (np_then (np_loop (np_block (np_then np_post)))))))))))) (hs_pick (is := [0, 1]) rfl rfl) rfl rfl (y_load (k := 1)  one22 rfl rfl rfl) ?_
                refine h_takeg (t := 47) (l' := #[true, true, true, true, true, true, true, true, true, true, true, false, false, false, false, false, false, false]) 10 rfl (by kernel_rfl) rfl rfl (np_then (np_then (np_block (np_then (np_loop (np_block (np_then (np_block (np_then (np_loop (np_block (np_then np_post)))))))))))) (hs_pick (is := [0, 1]) rfl rfl) rfl rfl (y_move rfl) ?_
                refine h_takege (t := 47) (l' := #[true, true, true, true, true, true, true, true, true, true, true, true, false, false, false, false, false, false]) 11 rfl (by kernel_rfl) rfl rfl (np_then (np_then (np_block (np_then (np_loop (np_block (np_then (np_block (np_then (np_loop (np_block (np_then np_post)))))))))))) (hs_pick (is := [0, 1]) rfl rfl) rfl rfl (y_iaddr elem22 size26 hJ rfl rfl rfl (by omega) hu) ?_; rintro _ ⟨p51, rfl, hp51⟩
                refine h_takeg (t := 47) (l' := #[true, true, true, true, true, true, true, true, true, true, true, true, true, false, false, false, false, false]) 12 rfl (by kernel_rfl) rfl rfl (np_then (np_then (np_block (np_then (np_loop (np_block (np_then (np_block (np_then (np_loop (np_block (np_then np_post)))))))))))) (hs_pick (is := [0, 1]) rfl rfl) rfl rfl (y_faddr_p off26_12 rfl) ?_
                refine h_takeg (t := 47) (l' := #[true, true, true, true, true, true, true, true, true, true, true, true, true, true, false, false, false, false]) 13 rfl (by kernel_rfl) rfl rfl (np_then (np_then (np_block (np_then (np_loop (np_block (np_then (np_block (np_then (np_loop (np_block (np_then np_post)))))))))))) (hs_pick (is := [0, 1]) rfl rfl) rfl rfl (y_load_el one3 hp51 rfl rfl) ?_
                refine h_takeg (t := 47) (l' := #[true, true, true, true, true, true, true, true, true, true, true, true, true, true, true, false, false, false]) 14 rfl (by kernel_rfl) rfl rfl (np_then (np_then (np_block (np_then (np_loop (np_block (np_then (np_block (np_then (np_loop (np_block (np_then np_post)))))))))))) (hs_pick (is := [0, 1]) rfl rfl) rfl rfl (y_faddr off26_12 rfl rfl) ?_
                refine h_takeg (t := 47) (l' := #[true, true, true, true, true, true, true, true, true, true, true, true, true, true, true, true, false, false]) 15 rfl (by kernel_rfl) rfl rfl (np_then (np_then (np_block (np_then (np_loop (np_block (np_then (np_block (np_then (np_loop (np_block (np_then np_post)))))))))))) (hs_pick (is := [0, 1]) rfl rfl) rfl rfl (y_load (k := 0)  one3 rfl rfl rfl) ?_
                refine h_takeg (t := 47) (l' := #[true, true, true, true, true, true, true, true, true, true, true, true, true, true, true, true, true, false]) 16 rfl (by kernel_rfl) rfl rfl (np_then (np_then (np_block (np_then (np_loop (np_block (np_then (np_block (np_then (np_loop (np_block (np_then np_post)))))))))))) (hs_pick (is := [0, 1]) rfl rfl) rfl rfl (y_eql rfl rfl) ?_
                refine h_take (l' := #[true, true, true, true, true, true, true, true, true, true, true, true, true, true, true, true, true, true]) 17 rfl (by kernel_rfl) rfl rfl (np_then (np_then (np_block (np_then (np_loop (np_block (np_then (np_block (np_then (np_loop (np_block (np_then np_post)))))))))))) (hs_pick (is := [0, 1]) rfl rfl) (y_pick_f rfl rfl) ?_
                refine h_done (by kernel_rfl) ?_
                refine q_then ?_
                refine c_dec rfl ?_ ?_
                · intro h57
                  refine c_seq ?_
                  refine c_region rfl ?_
                  refine gv rfl (y_assign rfl) ?_
                  refine l_nil ?_
                  refine q_then ?_
                  refine c_ret ?_
                  refine q_then_ret (q_block_ret (q_then_ret (q_loop_ret (q_block_ret (q_then_ret (q_block_ret (q_then_ret (q_loop_ret (q_block_ret (q_then_ret ?_))))))))))
                  exact q_ret1 Tryz.results14 rfl () trivial (congrArg (Value.int .i64) (jarErr_ck h10 hI hlt (chk_6 hv hm h2 hrs hu (.inr h57)) (by decide)).symm) hs_nil
                · intro h57
                  refine c_skip ?_
                  refine q_then ?_
                  refine c_seq ?_
                  refine c_drawp (l := #[false, false, false, false, false, false, false, false, false]) 9 (is := [0, 1]) rfl rfl rfl rfl ?_
                  refine h_take (l' := #[true, false, false, false, false, false, false, false, false]) 0 rfl (by kernel_rfl) rfl rfl (np_then (np_block (np_then (np_loop (np_block (np_then (np_block (np_then (np_loop (np_block (np_then np_post))))))))))) (hs_pick (is := [0, 1]) rfl rfl) (y_faddr off24_0 rfl rfl) ?_
                  refine h_take (l' := #[true, true, false, false, false, false, false, false, false]) 1 rfl (by kernel_rfl) rfl rfl (np_then (np_block (np_then (np_loop (np_block (np_then (np_block (np_then (np_loop (np_block (np_then np_post))))))))))) (hs_pick (is := [0, 1]) rfl rfl) (y_load (k := 1)  one22 rfl rfl rfl) ?_
                  refine h_take (l' := #[true, true, true, false, false, false, false, false, false]) 2 rfl (by kernel_rfl) rfl rfl (np_then (np_block (np_then (np_loop (np_block (np_then (np_block (np_then (np_loop (np_block (np_then np_post))))))))))) (hs_pick (is := [0, 1]) rfl rfl) (y_move rfl) ?_
                  refine h_takee (l' := #[true, true, true, true, false, false, false, false, false]) 3 rfl (by kernel_rfl) rfl rfl (np_then (np_block (np_then (np_loop (np_block (np_then (np_block (np_then (np_loop (np_block (np_then np_post))))))))))) (hs_pick (is := [0, 1]) rfl rfl) (y_iaddr elem22 size26 hJ rfl rfl rfl (by omega) hu) ?_; rintro _ ⟨p61, rfl, hp61⟩
                  refine h_take (l' := #[true, true, true, true, true, false, false, false, false]) 4 rfl (by kernel_rfl) rfl rfl (np_then (np_block (np_then (np_loop (np_block (np_then (np_block (np_then (np_loop (np_block (np_then np_post))))))))))) (hs_pick (is := [0, 1]) rfl rfl) (y_faddr_p off26_2 rfl) ?_
                  refine h_take (l' := #[true, true, true, true, true, true, false, false, false]) 5 rfl (by kernel_rfl) rfl rfl (np_then (np_block (np_then (np_loop (np_block (np_then (np_block (np_then (np_loop (np_block (np_then np_post))))))))))) (hs_pick (is := [0, 1]) rfl rfl) (y_load_el one9 hp61 rfl rfl) ?_
                  refine h_take (l' := #[true, true, true, true, true, true, true, false, false]) 6 rfl (by kernel_rfl) rfl rfl (np_then (np_block (np_then (np_loop (np_block (np_then (np_block (np_then (np_loop (np_block (np_then np_post))))))))))) (hs_pick (is := [0, 1]) rfl rfl) (y_faddr off26_2 rfl rfl) ?_
                  refine h_take (l' := #[true, true, true, true, true, true, true, true, false]) 7 rfl (by kernel_rfl) rfl rfl (np_then (np_block (np_then (np_loop (np_block (np_then (np_block (np_then (np_loop (np_block (np_then np_post))))))))))) (hs_pick (is := [0, 1]) rfl rfl) (y_load (k := 0)  one9 rfl rfl rfl) ?_
                  refine h_take (l' := #[true, true, true, true, true, true, true, true, true]) 8 rfl (by kernel_rfl) rfl rfl (np_then (np_block (np_then (np_loop (np_block (np_then (np_block (np_then (np_loop (np_block (np_then np_post))))))))))) (hs_pick (is := [0, 1]) rfl rfl) (y_seq rfl rfl) ?_
                  refine h_done (by kernel_rfl) ?_
                  refine q_then ?_
                  refine c_dec rfl ?_ ?_
                  · intro h66
                    refine c_region rfl ?_
                    refine gv rfl (y_move rfl) ?_
                    refine gv rfl (y_add rfl rfl (wrap_in (by omega) (by omega))) ?_
                    refine gv rfl (y_assign rfl) ?_
                    refine l_nil ?_
                    refine q_block (q_then ?_)
                    refine c_region rfl ?_
                    refine gv rfl (y_move rfl) ?_
                    refine gv rfl (y_add rfl rfl (wrap_in (by omega) (by omega))) ?_
                    refine gv rfl (y_assign rfl) ?_
                    refine l_nil ?_
                    exact again (r + 1, n + 1) ⟨Nat.succ_le_of_lt hrs, ⟨by dsimp only; rw [take_snoc hu, List.filter_append, List.length_append, hn]; simp [h66] <;> omega, by dsimp only; omega⟩, step_all hall (fun w hw => by rw [hu] at hw; cases hw; exact ⟨h47, h57⟩)⟩ (by omega) (sub_cons rfl (sub_cons rfl sub_nil)) (sub_cons rfl (sub_cons rfl (sub_cons rfl sub_nil))) (hs_pick (is := [0, 1]) rfl rfl)
                  · intro h66
                    refine c_skip ?_
                    refine q_block (q_then ?_)
                    refine c_region rfl ?_
                    refine gv rfl (y_move rfl) ?_
                    refine gv rfl (y_add rfl rfl (wrap_in (by omega) (by omega))) ?_
                    refine gv rfl (y_assign rfl) ?_
                    refine l_nil ?_
                    exact again (r + 1, n) ⟨Nat.succ_le_of_lt hrs, ⟨by dsimp only; rw [take_snoc hu, List.filter_append, List.length_append, hn]; simp [h66] <;> omega, by dsimp only; omega⟩, step_all hall (fun w hw => by rw [hu] at hw; cases hw; exact ⟨h47, h57⟩)⟩ (by omega) (sub_cons rfl (sub_cons rfl sub_nil)) (sub_cons rfl (sub_cons rfl (sub_cons rfl sub_nil))) (hs_pick (is := [0, 1]) rfl rfl)
            · intro h37
              have hrs : r = s := by omega
              rw [hrs] at hn hall
              refine c_exit ?_
              refine q_then_exit (q_loop_exit (q_block_exit (q_then ?_)))
              refine c_seq ?_
              refine c_region rfl ?_
              refine gv rfl (y_move rfl) ?_
              refine gv rfl (y_gtr rfl rfl) ?_
              refine l_nil ?_
              refine q_then ?_
              refine c_dec rfl ?_ ?_
              · intro h70
                refine c_seq ?_
                refine c_region rfl ?_
                refine gv rfl (y_assign rfl) ?_
                refine l_nil ?_
                refine q_then ?_
                refine c_ret ?_
                refine q_block_ret (q_then_ret (q_loop_ret (q_block_ret (q_then_ret ?_))))
                exact q_ret1 Tryz.results14 rfl () trivial (congrArg (Value.int .i64) (jarErr_ck h10 hI hlt (chk_2 hv hm h2 hall hn h70 hI) (by decide)).symm) hs_nil
              · intro h70
                refine c_skip ?_
                refine q_block (q_then ?_)
                refine c_region rfl ?_
                refine gv rfl (y_move rfl) ?_
                refine gv rfl (y_add rfl rfl (wrap_in (by omega) (by omega))) ?_
                refine gv rfl (y_assign rfl) ?_
                refine l_nil ?_
                exact again (s + 1) ⟨by omega, step_all hI (chk_0 hv hm h2 hall hn h70)⟩ (by omega) (sub_cons rfl sub_nil) (sub_cons rfl sub_nil) (hs_pick (is := [1]) rfl rfl)
    · intro h15
      refine c_exit ?_
      refine q_then_exit (q_loop_exit (q_block_exit (q_then ?_)))
      refine c_seq ?_
      refine c_seq ?_
      refine c_region rfl ?_
      refine gv rfl (y_faddr off24_1 rfl rfl) ?_
      refine gv rfl (y_load (k := 0)  one3 rfl rfl rfl) ?_
      refine gv rfl (y_lss rfl rfl) ?_
      refine gv rfl (y_move rfl) ?_
      refine g_dec (t := 74) rfl ?_ ?_
      · intro h74
        refine g_off (t := 74) rfl rfl rfl rfl ?_
        refine g_off (t := 74) rfl rfl rfl rfl ?_
        refine g_off (t := 74) rfl rfl rfl rfl ?_
        refine gv rfl (y_pick_t rfl rfl) ?_
        refine l_nil ?_
        refine q_then ?_
        refine c_cond_t rfl ?_
        refine c_seq ?_
        refine c_region rfl ?_
        refine gv rfl (y_assign rfl) ?_
        refine l_nil ?_
        refine q_then ?_
        refine c_ret ?_
        refine q_then_ret ?_
        exact q_ret1 Tryz.results14 rfl () trivial (congrArg (Value.int .i64) ((jarErr_end h10 hI (by omega)).trans (if_pos (.inl h74))).symm) hs_nil
      · intro h74
        refine g_on (t := 74) rfl rfl ?_
        refine gv rfl (y_faddr off24_1 rfl rfl) ?_
        refine g_on (t := 74) rfl rfl ?_
        refine gv rfl (y_load (k := 0)  one3 rfl rfl rfl) ?_
        refine g_on (t := 74) rfl rfl ?_
        refine gv rfl (y_gtr rfl rfl) ?_
        refine gv rfl (y_pick_f rfl rfl) ?_
        refine l_nil ?_
        refine q_then ?_
        refine c_dec rfl ?_ ?_
        · intro h78
          refine c_seq ?_
          refine c_region rfl ?_
          refine gv rfl (y_assign rfl) ?_
          refine l_nil ?_
          refine q_then ?_
          refine c_ret ?_
          refine q_then_ret ?_
          exact q_ret1 Tryz.results14 rfl () trivial (congrArg (Value.int .i64) ((jarErr_end h10 hI (by omega)).trans (if_pos (.inr h78))).symm) hs_nil
        · intro h78
          refine c_skip ?_
          refine q_then ?_
          refine c_seq ?_
          refine c_region rfl ?_
          refine gv rfl (y_assign rfl) ?_
          refine l_nil ?_
          refine q_then ?_
          refine c_ret ?_
          exact q_ret1 Tryz.results14 rfl () trivial (congrArg (Value.int .i64) ((jarErr_end h10 hI (by omega)).trans (if_neg (by omega))).symm) hs_nil

theorem liveOf_c {l : List Ck} {now : Int} {A : Option Addr} {k : Nat} (w : World) (hA : Sl Ck.cells 13 w A l) (hlen : l.length ≤ 1073741824) : Ct Tryz.prog 40 #[.slice A l.length k, .int .i64 now] w (fun x : Option Addr × Nat => .slice x.1 (liveL now l).length x.2) (fun x => [.row (.slice x.1 (liveL now l).length x.2) 26 13 (liveL now l).length ((liveL now l).flatMap Ck.cells)]) (fun _ => True) := by
  refine enter (E := [(0, .slice A l.length k), (1, .int .i64 now)]) Tryz.func40 rfl Tryz.ntmps40 rfl (by simp) ?_
  refine c_nilrow 26 13 ?_
  refine c_seq ?_
  refine c_region rfl ?_
  refine gv rfl (y_assign rfl) ?_
  refine l_nil ?_
  refine q_then ?_
  refine c_seq ?_
  refine c_region rfl ?_
  refine gv rfl (y_assign rfl) ?_
  refine l_nil ?_
  refine q_then ?_
  refine c_seq ?_
  refine c_seq ?_
  refine c_region rfl ?_
  refine gv rfl (y_assign rfl) ?_
  refine l_nil ?_
  refine q_then ?_
  refine c_block ?_
  refine loop (Ef := [(0, _), (1, _)]) (Hf := []) (fun x : Nat × Option Addr × Nat => x.1 ≤ l.length) (fun x : Nat × Option Addr × Nat => [(6, .int .i64 (x.1 : Int)), (5, .slice x.2.1 (liveL now (l.take x.1)).length x.2.2)]) (fun x : Nat × Option Addr × Nat => [.row (.slice x.2.1 (liveL now (l.take x.1)).length x.2.2) 26 13 (liveL now (l.take x.1)).length ((liveL now (l.take x.1)).flatMap Ck.cells)]) (fun x : Nat × Option Addr × Nat => l.length - x.1) (0, none, 0) (Nat.zero_le _) (sub_cons rfl (sub_cons rfl sub_nil)) (sub_cons rfl (sub_cons rfl sub_nil)) (hs_pick (is := [0]) rfl rfl) ?_
  rintro ⟨s, A5, k5⟩ hs
  dsimp only at hs ⊢
  refine c_sub (E' := [(6, _), (5, _), (0, _), (1, _)]) (sub_cons rfl (sub_cons rfl (sub_cons rfl (sub_cons rfl sub_nil)))) ?_
  refine c_seq ?_
  refine c_seq ?_
  refine c_region rfl ?_
  refine gv rfl (y_move rfl) ?_
  refine gv rfl (y_move rfl) ?_
  refine gv rfl (y_len elem22 rfl) ?_
  refine gv rfl (y_lss rfl rfl) ?_
  refine l_nil ?_
  refine q_then ?_
  refine c_dec rfl ?_ ?_
  · intro h10
    have hlt : s < l.length := by omega
    obtain ⟨v, hv⟩ := get_lt hlt
    have hll := liveL_len now (l.take s)
    have htk := List.length_take_le s l
    refine c_skip ?_
    refine q_then ?_
    refine c_seq ?_
    refine c_block ?_
    refine c_seq ?_
    refine c_region rfl ?_
    refine gv rfl (y_move rfl) ?_
    refine gv rfl (y_move rfl) ?_
    refine gve rfl (y_iaddr elem22 size26 hA rfl rfl rfl (by omega) hv) ?_; rintro _ ⟨p15, rfl, hp15⟩
    refine gv rfl (y_loadA_el agg26 rfl hp15 rfl) ?_
    refine gv rfl (y_move rfl) ?_
    refine l_callU rfl ent75 rfl (fun w hm => isLive_c (c := v) w) ?_
    refine l_nil ?_
    refine q_then ?_
    refine c_dec rfl ?_ ?_
    · intro h18
      refine c_region rfl ?_
      refine gv rfl (y_move rfl) ?_
      refine gv rfl (y_move rfl) ?_
      refine gv rfl (y_move rfl) ?_
      refine gve rfl (y_iaddr elem22 size26 hA rfl rfl rfl (by omega) hv) ?_; rintro _ ⟨p22, rfl, hp22⟩
      refine gv rfl (y_loadA_el agg26 rfl hp22 rfl) ?_
      refine l_bslice (cl := [_, _, _, _, _, _, _, _, _, _, _, _, _]) rfl elem22 ap26 zero26 rfl rfl rfl rfl rfl rfl rfl ?_; intro g24
      refine l_append (k := 1) (j := 0) (zs := ((liveL now (l.take s)) ++ [v]).flatMap Ck.cells) rfl elem22 ap26 rfl rfl rfl rfl rfl rfl (by omega) (by omega) (by exact app_one (c := v)) ?_; intro A25 c25
      refine gv rfl (y_assign rfl) ?_
      refine l_nil ?_
      refine q_block (q_then ?_)
      refine c_region rfl ?_
      refine gv rfl (y_move rfl) ?_
      refine gv rfl (y_add rfl rfl (wrap_in (by omega) (by omega))) ?_
      refine gv rfl (y_assign rfl) ?_
      refine l_nil ?_
      rw [← len_snoc (liveL now (l.take s)) v, ← liveL_yes hv h18]
      exact again (s + 1, A25, c25) (Nat.succ_le_of_lt hlt) (by omega) (sub_cons rfl (sub_cons rfl sub_nil)) (sub_cons rfl (sub_cons rfl sub_nil)) (hs_pick (is := [1]) rfl rfl)
    · intro h18
      refine c_skip ?_
      refine q_block (q_then ?_)
      refine c_region rfl ?_
      refine gv rfl (y_move rfl) ?_
      refine gv rfl (y_add rfl rfl (wrap_in (by omega) (by omega))) ?_
      refine gv rfl (y_assign rfl) ?_
      refine l_nil ?_
      rw [← liveL_no hv h18]
      exact again (s + 1, A5, k5) (Nat.succ_le_of_lt hlt) (by omega) (sub_cons rfl (sub_cons rfl sub_nil)) (sub_cons rfl (sub_cons rfl sub_nil)) (hs_pick (is := [0]) rfl rfl)
  · intro h10
    have eT : l.take s = l := List.take_of_length_le (by omega)
    rw [eT]
    refine c_exit ?_
    refine q_then_exit (q_loop_exit (q_block_exit (q_then ?_)))
    refine c_seq ?_
    refine c_region rfl ?_
    refine gv rfl (y_move rfl) ?_
    refine gv rfl (y_assign rfl) ?_
    refine l_nil ?_
    refine q_then ?_
    refine c_ret ?_
    exact q_ret1 Tryz.results40 rfl (A5, k5) trivial rfl (hs_pick (is := [0]) rfl rfl)

theorem leastUsed_c {l : List Ck} {d : List UInt8} {b : Bool} {A : Option Addr} {k : Nat} (w : World) (hA : Sl Ck.cells 13 w A l) (hlen : l.length ≤ 1073741824) : Cv Tryz.prog 41 #[.slice A l.length k, .string (B d), .bool b] w (.tuple #[.int .i64 (atU (qU b d) l), .int .i64 ((idxL (qU b d) l).length : Int)]) := by
  refine enter (E := [(0, .slice A l.length k), (1, .string (B d)), (2, .bool b)]) Tryz.func41 rfl Tryz.ntmps41 rfl (by simp) ?_
  refine c_seq ?_
  refine c_region rfl ?_
  refine gv rfl (y_assign rfl) ?_
  refine gv rfl (y_assign rfl) ?_
  refine l_nil ?_
  refine q_then ?_
  refine c_seq ?_
  refine c_region rfl ?_
  refine gv rfl (y_assign rfl) ?_
  refine gv rfl (y_assign rfl) ?_
  refine l_nil ?_
  refine q_then ?_
  refine c_seq ?_
  refine c_seq ?_
  refine c_region rfl ?_
  refine gv rfl (y_assign rfl) ?_
  refine l_nil ?_
  refine q_then ?_
  refine c_block ?_
  refine loop (Ef := [(0, _), (1, _), (2, _)]) (Hf := []) (fun x : Nat × Int × Nat => x.1 ≤ l.length ∧ x.2.1 = atT (qU b d) l x.1 ∧ x.2.2 = (idxT (qU b d) l x.1).length) (fun x : Nat × Int × Nat => [(10, .int .i64 (x.1 : Int)), (8, .int .i64 x.2.1), (9, .int .i64 (x.2.2 : Int))]) (fun x : Nat × Int × Nat => []) (fun x : Nat × Int × Nat => l.length - x.1) (0, -1, 0) ⟨Nat.zero_le _, rfl, rfl⟩ (sub_cons rfl (sub_cons rfl (sub_cons rfl sub_nil))) (sub_cons rfl (sub_cons rfl (sub_cons rfl sub_nil))) (hs_pick (is := []) rfl rfl) ?_
  rintro ⟨s, p, m⟩ ⟨hs, hI, hm0⟩
  dsimp only at hs hI hm0 ⊢
  refine c_sub (E' := [(10, _), (8, _), (9, _), (0, _), (1, _), (2, _)]) (sub_cons rfl (sub_cons rfl (sub_cons rfl (sub_cons rfl (sub_cons rfl (sub_cons rfl sub_nil)))))) ?_
  refine c_seq ?_
  refine c_seq ?_
  refine c_region rfl ?_
  refine gv rfl (y_move rfl) ?_
  refine gv rfl (y_move rfl) ?_
  refine gv rfl (y_len elem22 rfl) ?_
  refine gv rfl (y_lss rfl rfl) ?_
  refine l_nil ?_
  refine q_then ?_
  refine c_dec rfl ?_ ?_
  · intro h14
    have hlt : s < l.length := by omega
    obtain ⟨v, hv⟩ := get_lt hlt
    have hil := idxT_len (qU b d) l s
    refine c_skip ?_
    refine q_then ?_
    refine c_seq ?_
    refine c_block ?_
    refine c_seq ?_
    refine c_seq ?_
    refine c_region rfl ?_
    refine gv rfl (y_move rfl) ?_
    refine gv rfl (y_not rfl rfl) ?_
    refine gv rfl (y_move rfl) ?_
    refine g_bool (t := 19) rfl ?_ ?_
    · intro h19
      refine g_on (t := 19) rfl rfl ?_
      refine gv rfl (y_move rfl) ?_
      refine g_on (t := 19) rfl rfl ?_
      refine gv rfl (y_move rfl) ?_
      refine g_on (t := 19) rfl rfl ?_
      refine gve rfl (y_iaddr elem22 size26 hA rfl rfl rfl (by omega) hv) ?_; rintro _ ⟨p22, rfl, hp22⟩
      refine g_on (t := 19) rfl rfl ?_
      refine gv rfl (y_faddr_p off26_2 rfl) ?_
      refine g_on (t := 19) rfl rfl ?_
      refine gv rfl (y_load_el one9 hp22 rfl rfl) ?_
      refine g_on (t := 19) rfl rfl ?_
      refine gv rfl (y_move rfl) ?_
      refine g_on (t := 19) rfl rfl ?_
      refine gv rfl (y_sne rfl rfl) ?_
      refine gv rfl (y_pick_t rfl rfl) ?_
      refine l_nil ?_
      refine q_then ?_
      refine c_dec rfl ?_ ?_
      · intro h27
        have hq : qU b d v = false := by
          have hb : b = false := by simpa using h19
          simp only [qU, hb, Bool.false_or]; exact decide_eq_false h27
        refine c_exit ?_
        refine q_then_exit (q_block_exit (q_then ?_))
        refine c_region rfl ?_
        refine gv rfl (y_move rfl) ?_
        refine gv rfl (y_add rfl rfl (wrap_in (by omega) (by omega))) ?_
        refine gv rfl (y_assign rfl) ?_
        refine l_nil ?_
        exact again (s + 1, p, m) ⟨Nat.succ_le_of_lt hlt, by dsimp only; rw [atT_no hv hq]; exact hI, by dsimp only; rw [idxT_no hv hq]; exact hm0⟩ (by omega) (sub_cons rfl (sub_cons rfl (sub_cons rfl sub_nil))) (sub_cons rfl (sub_cons rfl (sub_cons rfl sub_nil))) (hs_pick (is := []) rfl rfl)
      · intro h27
        refine c_skip ?_
        refine q_then ?_
        refine c_seq ?_
        have hq : qU b d v = true := by
          simp only [qU]; rw [decide_eq_true (Decidable.not_not.1 h27)]; simp
        refine c_region rfl ?_
        refine gv rfl (y_move rfl) ?_
        refine gv rfl (y_add rfl rfl (wrap_in (by omega) (by omega))) ?_
        refine gv rfl (y_assign rfl) ?_
        refine l_nil ?_
        refine q_then ?_
        refine c_seq ?_
        refine c_drawp (l := #[false, false, false, false, false, false, false, false, false, false, false, false, false, false, false, false, false, false, false, false, false, false, false, false, false, false, false, false, false, false, false, false, false, false, false, false, false, false, false, false, false]) 41 (is := []) rfl rfl rfl rfl ?_
        refine h_take (l' := #[true, false, false, false, false, false, false, false, false, false, false, false, false, false, false, false, false, false, false, false, false, false, false, false, false, false, false, false, false, false, false, false, false, false, false, false, false, false, false, false, false]) 0 rfl (by kernel_rfl) rfl rfl (np_then (np_block (np_then (np_loop (np_block (np_then np_post)))))) (hs_pick (is := []) rfl rfl) (y_move rfl) ?_
        refine h_take (l' := #[true, true, false, false, false, false, false, false, false, false, false, false, false, false, false, false, false, false, false, false, false, false, false, false, false, false, false, false, false, false, false, false, false, false, false, false, false, false, false, false, false]) 1 rfl (by kernel_rfl) rfl rfl (np_then (np_block (np_then (np_loop (np_block (np_then np_post)))))) (hs_pick (is := []) rfl rfl) (y_lss rfl rfl) ?_
        refine h_take (l' := #[true, true, true, false, false, false, false, false, false, false, false, false, false, false, false, false, false, false, false, false, false, false, false, false, false, false, false, false, false, false, false, false, false, false, false, false, false, false, false, false, false]) 2 rfl (by kernel_rfl) rfl rfl (np_then (np_block (np_then (np_loop (np_block (np_then np_post)))))) (hs_pick (is := []) rfl rfl) (y_move rfl) ?_
        refine h_dec (t := 32) rfl ?_ ?_
        · intro h32
          refine h_off (t := 32) (l' := #[true, true, true, true, false, false, false, false, false, false, false, false, false, false, false, false, false, false, false, false, false, false, false, false, false, false, false, false, false, false, false, false, false, false, false, false, false, false, false, false, false]) 3 rfl (by kernel_rfl) rfl rfl (np_then (np_block (np_then (np_loop (np_block (np_then np_post)))))) (hs_pick (is := []) rfl rfl) rfl rfl rfl ?_
          refine h_off (t := 32) (l' := #[true, true, true, true, true, false, false, false, false, false, false, false, false, false, false, false, false, false, false, false, false, false, false, false, false, false, false, false, false, false, false, false, false, false, false, false, false, false, false, false, false]) 4 rfl (by kernel_rfl) rfl rfl (np_then (np_block (np_then (np_loop (np_block (np_then np_post)))))) (hs_pick (is := []) rfl rfl) rfl rfl rfl ?_
          refine h_off (t := 32) (l' := #[true, true, true, true, true, true, false, false, false, false, false, false, false, false, false, false, false, false, false, false, false, false, false, false, false, false, false, false, false, false, false, false, false, false, false, false, false, false, false, false, false]) 5 rfl (by kernel_rfl) rfl rfl (np_then (np_block (np_then (np_loop (np_block (np_then np_post)))))) (hs_pick (is := []) rfl rfl) rfl rfl rfl ?_
          refine h_off (t := 32) (l' := #[true, true, true, true, true, true, true, false, false, false, false, false, false, false, false, false, false, false, false, false, false, false, false, false, false, false, false, false, false, false, false, false, false, false, false, false, false, false, false, false, false]) 6 rfl (by kernel_rfl) rfl rfl (np_then (np_block (np_then (np_loop (np_block (np_then np_post)))))) (hs_pick (is := []) rfl rfl) rfl rfl rfl ?_
          refine h_off (t := 32) (l' := #[true, true, true, true, true, true, true, true, false, false, false, false, false, false, false, false, false, false, false, false, false, false, false, false, false, false, false, false, false, false, false, false, false, false, false, false, false, false, false, false, false]) 7 rfl (by kernel_rfl) rfl rfl (np_then (np_block (np_then (np_loop (np_block (np_then np_post)))))) (hs_pick (is := []) rfl rfl) rfl rfl rfl ?_
          refine h_off (t := 32) (l' := #[true, true, true, true, true, true, true, true, true, false, false, false, false, false, false, false, false, false, false, false, false, false, false, false, false, false, false, false, false, false, false, false, false, false, false, false, false, false, false, false, false]) 8 rfl (by kernel_rfl) rfl rfl (np_then (np_block (np_then (np_loop (np_block (np_then np_post)))))) (hs_pick (is := []) rfl rfl) rfl rfl rfl ?_
          refine h_off (t := 32) (l' := #[true, true, true, true, true, true, true, true, true, true, false, false, false, false, false, false, false, false, false, false, false, false, false, false, false, false, false, false, false, false, false, false, false, false, false, false, false, false, false, false, false]) 9 rfl (by kernel_rfl) rfl rfl (np_then (np_block (np_then (np_loop (np_block (np_then np_post)))))) (hs_pick (is := []) rfl rfl) rfl rfl rfl ?_
          refine h_off (t := 32) (l' := #[true, true, true, true, true, true, true, true, true, true, true, false, false, false, false, false, false, false, false, false, false, false, false, false, false, false, false, false, false, false, false, false, false, false, false, false, false, false, false, false, false]) 10 rfl (by kernel_rfl) rfl rfl (np_then (np_block (np_then (np_loop (np_block (np_then np_post)))))) (hs_pick (is := []) rfl rfl) rfl rfl rfl ?_
          refine h_off (t := 32) (l' := #[true, true, true, true, true, true, true, true, true, true, true, true, false, false, false, false, false, false, false, false, false, false, false, false, false, false, false, false, false, false, false, false, false, false, false, false, false, false, false, false, false]) 11 rfl (by kernel_rfl) rfl rfl (np_then (np_block (np_then (np_loop (np_block (np_then np_post)))))) (hs_pick (is := []) rfl rfl) rfl rfl rfl ?_
          refine h_off (t := 32) (l' := #[true, true, true, true, true, true, true, true, true, true, true, true, true, false, false, false, false, false, false, false, false, false, false, false, false, false, false, false, false, false, false, false, false, false, false, false, false, false, false, false, false]) 12 rfl (by kernel_rfl) rfl rfl (np_then (np_block (np_then (np_loop (np_block (np_then np_post)))))) (hs_pick (is := []) rfl rfl) rfl rfl rfl ?_
          refine h_off (t := 32) (l' := #[true, true, true, true, true, true, true, true, true, true, true, true, true, true, false, false, false, false, false, false, false, false, false, false, false, false, false, false, false, false, false, false, false, false, false, false, false, false, false, false, false]) 13 rfl (by kernel_rfl) rfl rfl (np_then (np_block (np_then (np_loop (np_block (np_then np_post)))))) (hs_pick (is := []) rfl rfl) rfl rfl rfl ?_
          refine h_take (l' := #[true, true, true, true, true, true, true, true, true, true, true, true, true, true, true, false, false, false, false, false, false, false, false, false, false, false, false, false, false, false, false, false, false, false, false, false, false, false, false, false, false]) 14 rfl (by kernel_rfl) rfl rfl (np_then (np_block (np_then (np_loop (np_block (np_then np_post)))))) (hs_pick (is := []) rfl rfl) (y_pick_t rfl rfl) ?_
          refine h_take (l' := #[true, true, true, true, true, true, true, true, true, true, true, true, true, true, true, true, false, false, false, false, false, false, false, false, false, false, false, false, false, false, false, false, false, false, false, false, false, false, false, false, false]) 15 rfl (by kernel_rfl) rfl rfl (np_then (np_block (np_then (np_loop (np_block (np_then np_post)))))) (hs_pick (is := []) rfl rfl) (y_move rfl) ?_
          refine h_off (t := 45) (l' := #[true, true, true, true, true, true, true, true, true, true, true, true, true, true, true, true, true, false, false, false, false, false, false, false, false, false, false, false, false, false, false, false, false, false, false, false, false, false, false, false, false]) 16 rfl (by kernel_rfl) rfl rfl (np_then (np_block (np_then (np_loop (np_block (np_then np_post)))))) (hs_pick (is := []) rfl rfl) rfl rfl rfl ?_
          refine h_off (t := 45) (l' := #[true, true, true, true, true, true, true, true, true, true, true, true, true, true, true, true, true, true, false, false, false, false, false, false, false, false, false, false, false, false, false, false, false, false, false, false, false, false, false, false, false]) 17 rfl (by kernel_rfl) rfl rfl (np_then (np_block (np_then (np_loop (np_block (np_then np_post)))))) (hs_pick (is := []) rfl rfl) rfl rfl rfl ?_
          refine h_off (t := 45) (l' := #[true, true, true, true, true, true, true, true, true, true, true, true, true, true, true, true, true, true, true, false, false, false, false, false, false, false, false, false, false, false, false, false, false, false, false, false, false, false, false, false, false]) 18 rfl (by kernel_rfl) rfl rfl (np_then (np_block (np_then (np_loop (np_block (np_then np_post)))))) (hs_pick (is := []) rfl rfl) rfl rfl rfl ?_
          refine h_off (t := 45) (l' := #[true, true, true, true, true, true, true, true, true, true, true, true, true, true, true, true, true, true, true, true, false, false, false, false, false, false, false, false, false, false, false, false, false, false, false, false, false, false, false, false, false]) 19 rfl (by kernel_rfl) rfl rfl (np_then (np_block (np_then (np_loop (np_block (np_then np_post)))))) (hs_pick (is := []) rfl rfl) rfl rfl rfl ?_
          refine h_off (t := 45) (l' := #[true, true, true, true, true, true, true, true, true, true, true, true, true, true, true, true, true, true, true, true, true, false, false, false, false, false, false, false, false, false, false, false, false, false, false, false, false, false, false, false, false]) 20 rfl (by kernel_rfl) rfl rfl (np_then (np_block (np_then (np_loop (np_block (np_then np_post)))))) (hs_pick (is := []) rfl rfl) rfl rfl rfl ?_
          refine h_off (t := 45) (l' := #[true, true, true, true, true, true, true, true, true, true, true, true, true, true, true, true, true, true, true, true, true, true, false, false, false, false, false, false, false, false, false, false, false, false, false, false, false, false, false, false, false]) 21 rfl (by kernel_rfl) rfl rfl (np_then (np_block (np_then (np_loop (np_block (np_then np_post)))))) (hs_pick (is := []) rfl rfl) rfl rfl rfl ?_
          refine h_off (t := 45) (l' := #[true, true, true, true, true, true, true, true, true, true, true, true, true, true, true, true, true, true, true, true, true, true, true, false, false, false, false, false, false, false, false, false, false, false, false, false, false, false, false, false, false]) 22 rfl (by kernel_rfl) rfl rfl (np_then (np_block (np_then (np_loop (np_block (np_then np_post)))))) (hs_pick (is := []) rfl rfl) rfl rfl rfl ?_
          refine h_off (t := 45) (l' := #[true, true, true, true, true, true, true, true, true, true, true, true, true, true, true, true, true, true, true, true, true, true, true, true, false, false, false, false, false, false, false, false, false, false, false, false, false, false, false, false, false]) 23 rfl (by kernel_rfl) rfl rfl (np_then (np_block (np_then (np_loop (np_block (np_then np_post)))))) (hs_pick (is := []) rfl rfl) rfl rfl rfl ?_
          refine h_off (t := 45) (l' := #[true, true, true, true, true, true, true, true, true, true, true, true, true, true, true, true, true, true, true, true, true, true, true, true, true, false, false, false, false, false, false, false, false, false, false, false, false, false, false, false, false]) 24 rfl (by kernel_rfl) rfl rfl (np_then (np_block (np_then (np_loop (np_block (np_then np_post)))))) (hs_pick (is := []) rfl rfl) rfl rfl rfl ?_
          refine h_off (t := 45) (l' := #[true, true, true, true, true, true, true, true, true, true, true, true, true, true, true, true, true, true, true, true, true, true, true, true, true, true, false, false, false, false, false, false, false, false, false, false, false, false, false, false, false]) 25 rfl (by kernel_rfl) rfl rfl (np_then (np_block (np_then (np_loop (np_block (np_then np_post)))))) (hs_pick (is := []) rfl rfl) rfl rfl rfl ?_
          refine h_off (t := 45) (l' := #[true, true, true, true, true, true, true, true, true, true, true, true, true, true, true, true, true, true, true, true, true, true, true, true, true, true, true, false, false, false, false, false, false, false, false, false, false, false, false, false, false]) 26 rfl (by kernel_rfl) rfl rfl (np_then (np_block (np_then (np_loop (np_block (np_then np_post)))))) (hs_pick (is := []) rfl rfl) rfl rfl rfl ?_
          refine h_off (t := 45) (l' := #[true, true, true, true, true, true, true, true, true, true, true, true, true, true, true, true, true, true, true, true, true, true, true, true, true, true, true, true, false, false, false, false, false, false, false, false, false, false, false, false, false]) 27 rfl (by kernel_rfl) rfl rfl (np_then (np_block (np_then (np_loop (np_block (np_then np_post)))))) (hs_pick (is := []) rfl rfl) rfl rfl rfl ?_
          refine h_und (t := 57) (l' := #[true, true, true, true, true, true, true, true, true, true, true, true, true, true, true, true, true, true, true, true, true, true, true, true, true, true, true, true, true, false, false, false, false, false, false, false, false, false, false, false, false]) 28 rfl (by kernel_rfl) rfl rfl (np_then (np_block (np_then (np_loop (np_block (np_then np_post)))))) (hs_pick (is := []) rfl rfl) rfl rfl ?_
          refine h_und (t := 57) (l' := #[true, true, true, true, true, true, true, true, true, true, true, true, true, true, true, true, true, true, true, true, true, true, true, true, true, true, true, true, true, true, false, false, false, false, false, false, false, false, false, false, false]) 29 rfl (by kernel_rfl) rfl rfl (np_then (np_block (np_then (np_loop (np_block (np_then np_post)))))) (hs_pick (is := []) rfl rfl) rfl rfl ?_
          refine h_und (t := 57) (l' := #[true, true, true, true, true, true, true, true, true, true, true, true, true, true, true, true, true, true, true, true, true, true, true, true, true, true, true, true, true, true, true, false, false, false, false, false, false, false, false, false, false]) 30 rfl (by kernel_rfl) rfl rfl (np_then (np_block (np_then (np_loop (np_block (np_then np_post)))))) (hs_pick (is := []) rfl rfl) rfl rfl ?_
          refine h_und (t := 57) (l' := #[true, true, true, true, true, true, true, true, true, true, true, true, true, true, true, true, true, true, true, true, true, true, true, true, true, true, true, true, true, true, true, true, false, false, false, false, false, false, false, false, false]) 31 rfl (by kernel_rfl) rfl rfl (np_then (np_block (np_then (np_loop (np_block (np_then np_post)))))) (hs_pick (is := []) rfl rfl) rfl rfl ?_
          refine h_und (t := 57) (l' := #[true, true, true, true, true, true, true, true, true, true, true, true, true, true, true, true, true, true, true, true, true, true, true, true, true, true, true, true, true, true, true, true, true, false, false, false, false, false, false, false, false]) 32 rfl (by kernel_rfl) rfl rfl (np_then (np_block (np_then (np_loop (np_block (np_then np_post)))))) (hs_pick (is := []) rfl rfl) rfl rfl ?_
          refine h_und (t := 57) (l' := #[true, true, true, true, true, true, true, true, true, true, true, true, true, true, true, true, true, true, true, true, true, true, true, true, true, true, true, true, true, true, true, true, true, true, false, false, false, false, false, false, false]) 33 rfl (by kernel_rfl) rfl rfl (np_then (np_block (np_then (np_loop (np_block (np_then np_post)))))) (hs_pick (is := []) rfl rfl) rfl rfl ?_
          refine h_und (t := 57) (l' := #[true, true, true, true, true, true, true, true, true, true, true, true, true, true, true, true, true, true, true, true, true, true, true, true, true, true, true, true, true, true, true, true, true, true, true, false, false, false, false, false, false]) 34 rfl (by kernel_rfl) rfl rfl (np_then (np_block (np_then (np_loop (np_block (np_then np_post)))))) (hs_pick (is := []) rfl rfl) rfl rfl ?_
          refine h_und (t := 57) (l' := #[true, true, true, true, true, true, true, true, true, true, true, true, true, true, true, true, true, true, true, true, true, true, true, true, true, true, true, true, true, true, true, true, true, true, true, true, false, false, false, false, false]) 35 rfl (by kernel_rfl) rfl rfl (np_then (np_block (np_then (np_loop (np_block (np_then np_post)))))) (hs_pick (is := []) rfl rfl) rfl rfl ?_
          refine h_und (t := 57) (l' := #[true, true, true, true, true, true, true, true, true, true, true, true, true, true, true, true, true, true, true, true, true, true, true, true, true, true, true, true, true, true, true, true, true, true, true, true, true, false, false, false, false]) 36 rfl (by kernel_rfl) rfl rfl (np_then (np_block (np_then (np_loop (np_block (np_then np_post)))))) (hs_pick (is := []) rfl rfl) rfl rfl ?_
          refine h_und (t := 57) (l' := #[true, true, true, true, true, true, true, true, true, true, true, true, true, true, true, true, true, true, true, true, true, true, true, true, true, true, true, true, true, true, true, true, true, true, true, true, true, true, false, false, false]) 37 rfl (by kernel_rfl) rfl rfl (np_then (np_block (np_then (np_loop (np_block (np_then np_post)))))) (hs_pick (is := []) rfl rfl) rfl rfl ?_
          refine h_und (t := 57) (l' := #[true, true, true, true, true, true, true, true, true, true, true, true, true, true, true, true, true, true, true, true, true, true, true, true, true, true, true, true, true, true, true, true, true, true, true, true, true, true, true, false, false]) 38 rfl (by kernel_rfl) rfl rfl (np_then (np_block (np_then (np_loop (np_block (np_then np_post)))))) (hs_pick (is := []) rfl rfl) rfl rfl ?_
          refine h_off (t := 45) (l' := #[true, true, true, true, true, true, true, true, true, true, true, true, true, true, true, true, true, true, true, true, true, true, true, true, true, true, true, true, true, true, true, true, true, true, true, true, true, true, true, true, false]) 39 rfl (by kernel_rfl) rfl rfl (np_then (np_block (np_then (np_loop (np_block (np_then np_post)))))) (hs_pick (is := []) rfl rfl) rfl rfl rfl ?_
          refine h_take (l' := #[true, true, true, true, true, true, true, true, true, true, true, true, true, true, true, true, true, true, true, true, true, true, true, true, true, true, true, true, true, true, true, true, true, true, true, true, true, true, true, true, true]) 40 rfl (by kernel_rfl) rfl rfl (np_then (np_block (np_then (np_loop (np_block (np_then np_post)))))) (hs_pick (is := []) rfl rfl) (y_pick_t rfl rfl) ?_
          refine h_done (by kernel_rfl) ?_
          refine q_then ?_
          refine c_cond_t rfl ?_
          refine c_region rfl ?_
          refine gv rfl (y_move rfl) ?_
          refine gv rfl (y_assign rfl) ?_
          refine l_nil ?_
          refine q_block (q_then ?_)
          refine c_region rfl ?_
          refine gv rfl (y_move rfl) ?_
          refine gv rfl (y_add rfl rfl (wrap_in (by omega) (by omega))) ?_
          refine gv rfl (y_assign rfl) ?_
          refine l_nil ?_
          exact again (s + 1, (s : Int), m + 1) ⟨Nat.succ_le_of_lt hlt, by dsimp only; rw [atT_take hv hq (by first | exact .inl (by omega) | exact .inr ⟨u, by rw [← hI]; exact hu, by unfold uLt; omega⟩)], by dsimp only; rw [idxT_yes hv hq, List.length_append, hm0]; rfl⟩ (by omega) (sub_cons rfl (sub_cons rfl (sub_cons rfl sub_nil))) (sub_cons rfl (sub_cons rfl (sub_cons rfl sub_nil))) (hs_pick (is := []) rfl rfl)
        · intro h32
          obtain ⟨u, hu⟩ := atT_spec (q := qU b d) (l := l) (s := s) (by omega) (by omega)
          rw [← hI] at hu
          refine h_takeg (t := 32) (l' := #[true, true, true, true, false, false, false, false, false, false, false, false, false, false, false, false, false, false, false, false, false, false, false, false, false, false, false, false, false, false, false, false, false, false, false, false, false, false, false, false, false]) 3 rfl (by kernel_rfl) rfl rfl (np_then (np_block (np_then (np_loop (np_block (np_then np_post)))))) (hs_pick (is := []) rfl rfl) rfl rfl (y_move rfl) ?_
          refine h_takeg (t := 32) (l' := #[true, true, true, true, true, false, false, false, false, false, false, false, false, false, false, false, false, false, false, false, false, false, false, false, false, false, false, false, false, false, false, false, false, false, false, false, false, false, false, false, false]) 4 rfl (by kernel_rfl) rfl rfl (np_then (np_block (np_then (np_loop (np_block (np_then np_post)))))) (hs_pick (is := []) rfl rfl) rfl rfl (y_move rfl) ?_
          refine h_takege (t := 32) (l' := #[true, true, true, true, true, true, false, false, false, false, false, false, false, false, false, false, false, false, false, false, false, false, false, false, false, false, false, false, false, false, false, false, false, false, false, false, false, false, false, false, false]) 5 rfl (by kernel_rfl) rfl rfl (np_then (np_block (np_then (np_loop (np_block (np_then np_post)))))) (hs_pick (is := []) rfl rfl) rfl rfl (y_iaddr elem22 size26 hA rfl rfl rfl (by omega) hv) ?_; rintro _ ⟨p35, rfl, hp35⟩
          refine h_takeg (t := 32) (l' := #[true, true, true, true, true, true, true, false, false, false, false, false, false, false, false, false, false, false, false, false, false, false, false, false, false, false, false, false, false, false, false, false, false, false, false, false, false, false, false, false, false]) 6 rfl (by kernel_rfl) rfl rfl (np_then (np_block (np_then (np_loop (np_block (np_then np_post)))))) (hs_pick (is := []) rfl rfl) rfl rfl (y_faddr_p off26_11 rfl) ?_
          refine h_takeg (t := 32) (l' := #[true, true, true, true, true, true, true, true, false, false, false, false, false, false, false, false, false, false, false, false, false, false, false, false, false, false, false, false, false, false, false, false, false, false, false, false, false, false, false, false, false]) 7 rfl (by kernel_rfl) rfl rfl (np_then (np_block (np_then (np_loop (np_block (np_then np_post)))))) (hs_pick (is := []) rfl rfl) rfl rfl (y_load_el one3 hp35 rfl rfl) ?_
          refine h_takeg (t := 32) (l' := #[true, true, true, true, true, true, true, true, true, false, false, false, false, false, false, false, false, false, false, false, false, false, false, false, false, false, false, false, false, false, false, false, false, false, false, false, false, false, false, false, false]) 8 rfl (by kernel_rfl) rfl rfl (np_then (np_block (np_then (np_loop (np_block (np_then np_post)))))) (hs_pick (is := []) rfl rfl) rfl rfl (y_move rfl) ?_
          refine h_takeg (t := 32) (l' := #[true, true, true, true, true, true, true, true, true, true, false, false, false, false, false, false, false, false, false, false, false, false, false, false, false, false, false, false, false, false, false, false, false, false, false, false, false, false, false, false, false]) 9 rfl (by kernel_rfl) rfl rfl (np_then (np_block (np_then (np_loop (np_block (np_then np_post)))))) (hs_pick (is := []) rfl rfl) rfl rfl (y_move rfl) ?_
          refine h_takege (t := 32) (l' := #[true, true, true, true, true, true, true, true, true, true, true, false, false, false, false, false, false, false, false, false, false, false, false, false, false, false, false, false, false, false, false, false, false, false, false, false, false, false, false, false, false]) 10 rfl (by kernel_rfl) rfl rfl (np_then (np_block (np_then (np_loop (np_block (np_then np_post)))))) (hs_pick (is := []) rfl rfl) rfl rfl (y_iaddr elem22 size26 hA rfl rfl rfl (by omega) hu) ?_; rintro _ ⟨p40, rfl, hp40⟩
          refine h_takeg (t := 32) (l' := #[true, true, true, true, true, true, true, true, true, true, true, true, false, false, false, false, false, false, false, false, false, false, false, false, false, false, false, false, false, false, false, false, false, false, false, false, false, false, false, false, false]) 11 rfl (by kernel_rfl) rfl rfl (np_then (np_block (np_then (np_loop (np_block (np_then np_post)))))) (hs_pick (is := []) rfl rfl) rfl rfl (y_faddr_p off26_11 rfl) ?_
          refine h_takeg (t := 32) (l' := #[true, true, true, true, true, true, true, true, true, true, true, true, true, false, false, false, false, false, false, false, false, false, false, false, false, false, false, false, false, false, false, false, false, false, false, false, false, false, false, false, false]) 12 rfl (by kernel_rfl) rfl rfl (np_then (np_block (np_then (np_loop (np_block (np_then np_post)))))) (hs_pick (is := []) rfl rfl) rfl rfl (y_load_el one3 hp40 rfl rfl) ?_
          refine h_takeg (t := 32) (l' := #[true, true, true, true, true, true, true, true, true, true, true, true, true, true, false, false, false, false, false, false, false, false, false, false, false, false, false, false, false, false, false, false, false, false, false, false, false, false, false, false, false]) 13 rfl (by kernel_rfl) rfl rfl (np_then (np_block (np_then (np_loop (np_block (np_then np_post)))))) (hs_pick (is := []) rfl rfl) rfl rfl (y_lss rfl rfl) ?_
          refine h_take (l' := #[true, true, true, true, true, true, true, true, true, true, true, true, true, true, true, false, false, false, false, false, false, false, false, false, false, false, false, false, false, false, false, false, false, false, false, false, false, false, false, false, false]) 14 rfl (by kernel_rfl) rfl rfl (np_then (np_block (np_then (np_loop (np_block (np_then np_post)))))) (hs_pick (is := []) rfl rfl) (y_pick_f rfl rfl) ?_
          refine h_take (l' := #[true, true, true, true, true, true, true, true, true, true, true, true, true, true, true, true, false, false, false, false, false, false, false, false, false, false, false, false, false, false, false, false, false, false, false, false, false, false, false, false, false]) 15 rfl (by kernel_rfl) rfl rfl (np_then (np_block (np_then (np_loop (np_block (np_then np_post)))))) (hs_pick (is := []) rfl rfl) (y_move rfl) ?_
          refine h_dec (t := 45) rfl ?_ ?_
          · intro h45
            refine h_off (t := 45) (l' := #[true, true, true, true, true, true, true, true, true, true, true, true, true, true, true, true, true, false, false, false, false, false, false, false, false, false, false, false, false, false, false, false, false, false, false, false, false, false, false, false, false]) 16 rfl (by kernel_rfl) rfl rfl (np_then (np_block (np_then (np_loop (np_block (np_then np_post)))))) (hs_pick (is := []) rfl rfl) rfl rfl rfl ?_
            refine h_off (t := 45) (l' := #[true, true, true, true, true, true, true, true, true, true, true, true, true, true, true, true, true, true, false, false, false, false, false, false, false, false, false, false, false, false, false, false, false, false, false, false, false, false, false, false, false]) 17 rfl (by kernel_rfl) rfl rfl (np_then (np_block (np_then (np_loop (np_block (np_then np_post)))))) (hs_pick (is := []) rfl rfl) rfl rfl rfl ?_
            refine h_off (t := 45) (l' := #[true, true, true, true, true, true, true, true, true, true, true, true, true, true, true, true, true, true, true, false, false, false, false, false, false, false, false, false, false, false, false, false, false, false, false, false, false, false, false, false, false]) 18 rfl (by kernel_rfl) rfl rfl (np_then (np_block (np_then (np_loop (np_block (np_then np_post)))))) (hs_pick (is := []) rfl rfl) rfl rfl rfl ?_
            refine h_off (t := 45) (l' := #[true, true, true, true, true, true, true, true, true, true, true, true, true, true, true, true, true, true, true, true, false, false, false, false, false, false, false, false, false, false, false, false, false, false, false, false, false, false, false, false, false]) 19 rfl (by kernel_rfl) rfl rfl (np_then (np_block (np_then (np_loop (np_block (np_then np_post)))))) (hs_pick (is := []) rfl rfl) rfl rfl rfl ?_
            refine h_off (t := 45) (l' := #[true, true, true, true, true, true, true, true, true, true, true, true, true, true, true, true, true, true, true, true, true, false, false, false, false, false, false, false, false, false, false, false, false, false, false, false, false, false, false, false, false]) 20 rfl (by kernel_rfl) rfl rfl (np_then (np_block (np_then (np_loop (np_block (np_then np_post)))))) (hs_pick (is := []) rfl rfl) rfl rfl rfl ?_
            refine h_off (t := 45) (l' := #[true, true, true, true, true, true, true, true, true, true, true, true, true, true, true, true, true, true, true, true, true, true, false, false, false, false, false, false, false, false, false, false, false, false, false, false, false, false, false, false, false]) 21 rfl (by kernel_rfl) rfl rfl (np_then (np_block (np_then (np_loop (np_block (np_then np_post)))))) (hs_pick (is := []) rfl rfl) rfl rfl rfl ?_
            refine h_off (t := 45) (l' := #[true, true, true, true, true, true, true, true, true, true, true, true, true, true, true, true, true, true, true, true, true, true, true, false, false, false, false, false, false, false, false, false, false, false, false, false, false, false, false, false, false]) 22 rfl (by kernel_rfl) rfl rfl (np_then (np_block (np_then (np_loop (np_block (np_then np_post)))))) (hs_pick (is := []) rfl rfl) rfl rfl rfl ?_
            refine h_off (t := 45) (l' := #[true, true, true, true, true, true, true, true, true, true, true, true, true, true, true, true, true, true, true, true, true, true, true, true, false, false, false, false, false, false, false, false, false, false, false, false, false, false, false, false, false]) 23 rfl (by kernel_rfl) rfl rfl (np_then (np_block (np_then (np_loop (np_block (np_then np_post)))))) (hs_pick (is := []) rfl rfl) rfl rfl rfl ?_
            refine h_off (t := 45) (l' := #[true, true, true, true, true, true, true, true, true, true, true, true, true, true, true, true, true, true, true, true, true, true, true, true, true, false, false, false, false, false, false, false, false, false, false, false, false, false, false, false, false]) 24 rfl (by kernel_rfl) rfl rfl (np_then (np_block (np_then (np_loop (np_block (np_then np_post)))))) (hs_pick (is := []) rfl rfl) rfl rfl rfl ?_
            refine h_off (t := 45) (l' := #[true, true, true, true, true, true, true, true, true, true, true, true, true, true, true, true, true, true, true, true, true, true, true, true, true, true, false, false, false, false, false, false, false, false, false, false, false, false, false, false, false]) 25 rfl (by kernel_rfl) rfl rfl (np_then (np_block (np_then (np_loop (np_block (np_then np_post)))))) (hs_pick (is := []) rfl rfl) rfl rfl rfl ?_
            refine h_off (t := 45) (l' := #[true, true, true, true, true, true, true, true, true, true, true, true, true, true, true, true, true, true, true, true, true, true, true, true, true, true, true, false, false, false, false, false, false, false, false, false, false, false, false, false, false]) 26 rfl (by kernel_rfl) rfl rfl (np_then (np_block (np_then (np_loop (np_block (np_then np_post)))))) (hs_pick (is := []) rfl rfl) rfl rfl rfl ?_
            refine h_off (t := 45) (l' := #[true, true, true, true, true, true, true, true, true, true, true, true, true, true, true, true, true, true, true, true, true, true, true, true, true, true, true, true, false, false, false, false, false, false, false, false, false, false, false, false, false]) 27 rfl (by kernel_rfl) rfl rfl (np_then (np_block (np_then (np_loop (np_block (np_then np_post)))))) (hs_pick (is := []) rfl rfl) rfl rfl rfl ?_
            refine h_und (t := 57) (l' := #[true, true, true, true, true, true, true, true, true, true, true, true, true, true, true, true, true, true, true, true, true, true, true, true, true, true, true, true, true, false, false, false, false, false, false, false, false, false, false, false, false]) 28 rfl (by kernel_rfl) rfl rfl (np_then (np_block (np_then (np_loop (np_block (np_then np_post)))))) (hs_pick (is := []) rfl rfl) rfl rfl ?_
            refine h_und (t := 57) (l' := #[true, true, true, true, true, true, true, true, true, true, true, true, true, true, true, true, true, true, true, true, true, true, true, true, true, true, true, true, true, true, false, false, false, false, false, false, false, false, false, false, false]) 29 rfl (by kernel_rfl) rfl rfl (np_then (np_block (np_then (np_loop (np_block (np_then np_post)))))) (hs_pick (is := []) rfl rfl) rfl rfl ?_
            refine h_und (t := 57) (l' := #[true, true, true, true, true, true, true, true, true, true, true, true, true, true, true, true, true, true, true, true, true, true, true, true, true, true, true, true, true, true, true, false, false, false, false, false, false, false, false, false, false]) 30 rfl (by kernel_rfl) rfl rfl (np_then (np_block (np_then (np_loop (np_block (np_then np_post)))))) (hs_pick (is := []) rfl rfl) rfl rfl ?_
            refine h_und (t := 57) (l' := #[true, true, true, true, true, true, true, true, true, true, true, true, true, true, true, true, true, true, true, true, true, true, true, true, true, true, true, true, true, true, true, true, false, false, false, false, false, false, false, false, false]) 31 rfl (by kernel_rfl) rfl rfl (np_then (np_block (np_then (np_loop (np_block (np_then np_post)))))) (hs_pick (is := []) rfl rfl) rfl rfl ?_
            refine h_und (t := 57) (l' := #[true, true, true, true, true, true, true, true, true, true, true, true, true, true, true, true, true, true, true, true, true, true, true, true, true, true, true, true, true, true, true, true, true, false, false, false, false, false, false, false, false]) 32 rfl (by kernel_rfl) rfl rfl (np_then (np_block (np_then (np_loop (np_block (np_then np_post)))))) (hs_pick (is := []) rfl rfl) rfl rfl ?_
            refine h_und (t := 57) (l' := #[true, true, true, true, true, true, true, true, true, true, true, true, true, true, true, true, true, true, true, true, true, true, true, true, true, true, true, true, true, true, true, true, true, true, false, false, false, false, false, false, false]) 33 rfl (by kernel_rfl) rfl rfl (np_then (np_block (np_then (np_loop (np_block (np_then np_post)))))) (hs_pick (is := []) rfl rfl) rfl rfl ?_
            refine h_und (t := 57) (l' := #[true, true, true, true, true, true, true, true, true, true, true, true, true, true, true, true, true, true, true, true, true, true, true, true, true, true, true, true, true, true, true, true, true, true, true, false, false, false, false, false, false]) 34 rfl (by kernel_rfl) rfl rfl (np_then (np_block (np_then (np_loop (np_block (np_then np_post)))))) (hs_pick (is := []) rfl rfl) rfl rfl ?_
            refine h_und (t := 57) (l' := #[true, true, true, true, true, true, true, true, true, true, true, true, true, true, true, true, true, true, true, true, true, true, true, true, true, true, true, true, true, true, true, true, true, true, true, true, false, false, false, false, false]) 35 rfl (by kernel_rfl) rfl rfl (np_then (np_block (np_then (np_loop (np_block (np_then np_post)))))) (hs_pick (is := []) rfl rfl) rfl rfl ?_
            refine h_und (t := 57) (l' := #[true, true, true, true, true, true, true, true, true, true, true, true, true, true, true, true, true, true, true, true, true, true, true, true, true, true, true, true, true, true, true, true, true, true, true, true, true, false, false, false, false]) 36 rfl (by kernel_rfl) rfl rfl (np_then (np_block (np_then (np_loop (np_block (np_then np_post)))))) (hs_pick (is := []) rfl rfl) rfl rfl ?_
            refine h_und (t := 57) (l' := #[true, true, true, true, true, true, true, true, true, true, true, true, true, true, true, true, true, true, true, true, true, true, true, true, true, true, true, true, true, true, true, true, true, true, true, true, true, true, false, false, false]) 37 rfl (by kernel_rfl) rfl rfl (np_then (np_block (np_then (np_loop (np_block (np_then np_post)))))) (hs_pick (is := []) rfl rfl) rfl rfl ?_
            refine h_und (t := 57) (l' := #[true, true, true, true, true, true, true, true, true, true, true, true, true, true, true, true, true, true, true, true, true, true, true, true, true, true, true, true, true, true, true, true, true, true, true, true, true, true, true, false, false]) 38 rfl (by kernel_rfl) rfl rfl (np_then (np_block (np_then (np_loop (np_block (np_then np_post)))))) (hs_pick (is := []) rfl rfl) rfl rfl ?_
            refine h_off (t := 45) (l' := #[true, true, true, true, true, true, true, true, true, true, true, true, true, true, true, true, true, true, true, true, true, true, true, true, true, true, true, true, true, true, true, true, true, true, true, true, true, true, true, true, false]) 39 rfl (by kernel_rfl) rfl rfl (np_then (np_block (np_then (np_loop (np_block (np_then np_post)))))) (hs_pick (is := []) rfl rfl) rfl rfl rfl ?_
            refine h_take (l' := #[true, true, true, true, true, true, true, true, true, true, true, true, true, true, true, true, true, true, true, true, true, true, true, true, true, true, true, true, true, true, true, true, true, true, true, true, true, true, true, true, true]) 40 rfl (by kernel_rfl) rfl rfl (np_then (np_block (np_then (np_loop (np_block (np_then np_post)))))) (hs_pick (is := []) rfl rfl) (y_pick_t rfl rfl) ?_
            refine h_done (by kernel_rfl) ?_
            refine q_then ?_
            refine c_cond_t rfl ?_
            refine c_region rfl ?_
            refine gv rfl (y_move rfl) ?_
            refine gv rfl (y_assign rfl) ?_
            refine l_nil ?_
            refine q_block (q_then ?_)
            refine c_region rfl ?_
            refine gv rfl (y_move rfl) ?_
            refine gv rfl (y_add rfl rfl (wrap_in (by omega) (by omega))) ?_
            refine gv rfl (y_assign rfl) ?_
            refine l_nil ?_
            exact again (s + 1, (s : Int), m + 1) ⟨Nat.succ_le_of_lt hlt, by dsimp only; rw [atT_take hv hq (by first | exact .inl (by omega) | exact .inr ⟨u, by rw [← hI]; exact hu, by unfold uLt; omega⟩)], by dsimp only; rw [idxT_yes hv hq, List.length_append, hm0]; rfl⟩ (by omega) (sub_cons rfl (sub_cons rfl (sub_cons rfl sub_nil))) (sub_cons rfl (sub_cons rfl (sub_cons rfl sub_nil))) (hs_pick (is := []) rfl rfl)
          · intro h45
            refine h_takeg (t := 45) (l' := #[true, true, true, true, true, true, true, true, true, true, true, true, true, true, true, true, true, false, false, false, false, false, false, false, false, false, false, false, false, false, false, false, false, false, false, false, false, false, false, false, false]) 16 rfl (by kernel_rfl) rfl rfl (np_then (np_block (np_then (np_loop (np_block (np_then np_post)))))) (hs_pick (is := []) rfl rfl) rfl rfl (y_move rfl) ?_
            refine h_takeg (t := 45) (l' := #[true, true, true, true, true, true, true, true, true, true, true, true, true, true, true, true, true, true, false, false, false, false, false, false, false, false, false, false, false, false, false, false, false, false, false, false, false, false, false, false, false]) 17 rfl (by kernel_rfl) rfl rfl (np_then (np_block (np_then (np_loop (np_block (np_then np_post)))))) (hs_pick (is := []) rfl rfl) rfl rfl (y_move rfl) ?_
            refine h_takege (t := 45) (l' := #[true, true, true, true, true, true, true, true, true, true, true, true, true, true, true, true, true, true, true, false, false, false, false, false, false, false, false, false, false, false, false, false, false, false, false, false, false, false, false, false, false]) 18 rfl (by kernel_rfl) rfl rfl (np_then (np_block (np_then (np_loop (np_block (np_then np_post)))))) (hs_pick (is := []) rfl rfl) rfl rfl (y_iaddr elem22 size26 hA rfl rfl rfl (by omega) hv) ?_; rintro _ ⟨p48, rfl, hp48⟩
            refine h_takeg (t := 45) (l' := #[true, true, true, true, true, true, true, true, true, true, true, true, true, true, true, true, true, true, true, true, false, false, false, false, false, false, false, false, false, false, false, false, false, false, false, false, false, false, false, false, false]) 19 rfl (by kernel_rfl) rfl rfl (np_then (np_block (np_then (np_loop (np_block (np_then np_post)))))) (hs_pick (is := []) rfl rfl) rfl rfl (y_faddr_p off26_11 rfl) ?_
            refine h_takeg (t := 45) (l' := #[true, true, true, true, true, true, true, true, true, true, true, true, true, true, true, true, true, true, true, true, true, false, false, false, false, false, false, false, false, false, false, false, false, false, false, false, false, false, false, false, false]) 20 rfl (by kernel_rfl) rfl rfl (np_then (np_block (np_then (np_loop (np_block (np_then np_post)))))) (hs_pick (is := []) rfl rfl) rfl rfl (y_load_el one3 hp48 rfl rfl) ?_
            refine h_takeg (t := 45) (l' := #[true, true, true, true, true, true, true, true, true, true, true, true, true, true, true, true, true, true, true, true, true, true, false, false, false, false, false, false, false, false, false, false, false, false, false, false, false, false, false, false, false]) 21 rfl (by kernel_rfl) rfl rfl (np_then (np_block (np_then (np_loop (np_block (np_then np_post)))))) (hs_pick (is := []) rfl rfl) rfl rfl (y_move rfl) ?_
            refine h_takeg (t := 45) (l' := #[true, true, true, true, true, true, true, true, true, true, true, true, true, true, true, true, true, true, true, true, true, true, true, false, false, false, false, false, false, false, false, false, false, false, false, false, false, false, false, false, false]) 22 rfl (by kernel_rfl) rfl rfl (np_then (np_block (np_then (np_loop (np_block (np_then np_post)))))) (hs_pick (is := []) rfl rfl) rfl rfl (y_move rfl) ?_
            refine h_takege (t := 45) (l' := #[true, true, true, true, true, true, true, true, true, true, true, true, true, true, true, true, true, true, true, true, true, true, true, true, false, false, false, false, false, false, false, false, false, false, false, false, false, false, false, false, false]) 23 rfl (by kernel_rfl) rfl rfl (np_then (np_block (np_then (np_loop (np_block (np_then np_post)))))) (hs_pick (is := []) rfl rfl) rfl rfl (y_iaddr elem22 size26 hA rfl rfl rfl (by omega) hu) ?_; rintro _ ⟨p53, rfl, hp53⟩
            refine h_takeg (t := 45) (l' := #[true, true, true, true, true, true, true, true, true, true, true, true, true, true, true, true, true, true, true, true, true, true, true, true, true, false, false, false, false, false, false, false, false, false, false, false, false, false, false, false, false]) 24 rfl (by kernel_rfl) rfl rfl (np_then (np_block (np_then (np_loop (np_block (np_then np_post)))))) (hs_pick (is := []) rfl rfl) rfl rfl (y_faddr_p off26_11 rfl) ?_
            refine h_takeg (t := 45) (l' := #[true, true, true, true, true, true, true, true, true, true, true, true, true, true, true, true, true, true, true, true, true, true, true, true, true, true, false, false, false, false, false, false, false, false, false, false, false, false, false, false, false]) 25 rfl (by kernel_rfl) rfl rfl (np_then (np_block (np_then (np_loop (np_block (np_then np_post)))))) (hs_pick (is := []) rfl rfl) rfl rfl (y_load_el one3 hp53 rfl rfl) ?_
            refine h_takeg (t := 45) (l' := #[true, true, true, true, true, true, true, true, true, true, true, true, true, true, true, true, true, true, true, true, true, true, true, true, true, true, true, false, false, false, false, false, false, false, false, false, false, false, false, false, false]) 26 rfl (by kernel_rfl) rfl rfl (np_then (np_block (np_then (np_loop (np_block (np_then np_post)))))) (hs_pick (is := []) rfl rfl) rfl rfl (y_eql rfl rfl) ?_
            refine h_takeg (t := 45) (l' := #[true, true, true, true, true, true, true, true, true, true, true, true, true, true, true, true, true, true, true, true, true, true, true, true, true, true, true, true, false, false, false, false, false, false, false, false, false, false, false, false, false]) 27 rfl (by kernel_rfl) rfl rfl (np_then (np_block (np_then (np_loop (np_block (np_then np_post)))))) (hs_pick (is := []) rfl rfl) rfl rfl (y_move rfl) ?_
            refine h_dec (t := 57) rfl ?_ ?_
            · intro h57
              refine h_takeg (t := 57) (l' := #[true, true, true, true, true, true, true, true, true, true, true, true, true, true, true, true, true, true, true, true, true, true, true, true, true, true, true, true, true, false, false, false, false, false, false, false, false, false, false, false, false]) 28 rfl (by kernel_rfl) rfl rfl (np_then (np_block (np_then (np_loop (np_block (np_then np_post)))))) (hs_pick (is := []) rfl rfl) rfl rfl (y_move rfl) ?_
              refine h_takeg (t := 57) (l' := #[true, true, true, true, true, true, true, true, true, true, true, true, true, true, true, true, true, true, true, true, true, true, true, true, true, true, true, true, true, true, false, false, false, false, false, false, false, false, false, false, false]) 29 rfl (by kernel_rfl) rfl rfl (np_then (np_block (np_then (np_loop (np_block (np_then np_post)))))) (hs_pick (is := []) rfl rfl) rfl rfl (y_move rfl) ?_
              refine h_takege (t := 57) (l' := #[true, true, true, true, true, true, true, true, true, true, true, true, true, true, true, true, true, true, true, true, true, true, true, true, true, true, true, true, true, true, true, false, false, false, false, false, false, false, false, false, false]) 30 rfl (by kernel_rfl) rfl rfl (np_then (np_block (np_then (np_loop (np_block (np_then np_post)))))) (hs_pick (is := []) rfl rfl) rfl rfl (y_iaddr elem22 size26 hA rfl rfl rfl (by omega) hv) ?_; rintro _ ⟨p60, rfl, hp60⟩
              refine h_takeg (t := 57) (l' := #[true, true, true, true, true, true, true, true, true, true, true, true, true, true, true, true, true, true, true, true, true, true, true, true, true, true, true, true, true, true, true, true, false, false, false, false, false, false, false, false, false]) 31 rfl (by kernel_rfl) rfl rfl (np_then (np_block (np_then (np_loop (np_block (np_then np_post)))))) (hs_pick (is := []) rfl rfl) rfl rfl (y_faddr_p off26_12 rfl) ?_
              refine h_takeg (t := 57) (l' := #[true, true, true, true, true, true, true, true, true, true, true, true, true, true, true, true, true, true, true, true, true, true, true, true, true, true, true, true, true, true, true, true, true, false, false, false, false, false, false, false, false]) 32 rfl (by kernel_rfl) rfl rfl (np_then (np_block (np_then (np_loop (np_block (np_then np_post)))))) (hs_pick (is := []) rfl rfl) rfl rfl (y_load_el one3 hp60 rfl rfl) ?_
              refine h_takeg (t := 57) (l' := #[true, true, true, true, true, true, true, true, true, true, true, true, true, true, true, true, true, true, true, true, true, true, true, true, true, true, true, true, true, true, true, true, true, true, false, false, false, false, false, false, false]) 33 rfl (by kernel_rfl) rfl rfl (np_then (np_block (np_then (np_loop (np_block (np_then np_post)))))) (hs_pick (is := []) rfl rfl) rfl rfl (y_move rfl) ?_
              refine h_takeg (t := 57) (l' := #[true, true, true, true, true, true, true, true, true, true, true, true, true, true, true, true, true, true, true, true, true, true, true, true, true, true, true, true, true, true, true, true, true, true, true, false, false, false, false, false, false]) 34 rfl (by kernel_rfl) rfl rfl (np_then (np_block (np_then (np_loop (np_block (np_then np_post)))))) (hs_pick (is := []) rfl rfl) rfl rfl (y_move rfl) ?_
              refine h_takege (t := 57) (l' := #[true, true, true, true, true, true, true, true, true, true, true, true, true, true, true, true, true, true, true, true, true, true, true, true, true, true, true, true, true, true, true, true, true, true, true, true, false, false, false, false, false]) 35 rfl (by kernel_rfl) rfl rfl (np_then (np_block (np_then (np_loop (np_block (np_then np_post)))))) (hs_pick (is := []) rfl rfl) rfl rfl (y_iaddr elem22 size26 hA rfl rfl rfl (by omega) hu) ?_; rintro _ ⟨p65, rfl, hp65⟩
              refine h_takeg (t := 57) (l' := #[true, true, true, true, true, true, true, true, true, true, true, true, true, true, true, true, true, true, true, true, true, true, true, true, true, true, true, true, true, true, true, true, true, true, true, true, true, false, false, false, false]) 36 rfl (by kernel_rfl) rfl rfl (np_then (np_block (np_then (np_loop (np_block (np_then np_post)))))) (hs_pick (is := []) rfl rfl) rfl rfl (y_faddr_p off26_12 rfl) ?_
              refine h_takeg (t := 57) (l' := #[true, true, true, true, true, true, true, true, true, true, true, true, true, true, true, true, true, true, true, true, true, true, true, true, true, true, true, true, true, true, true, true, true, true, true, true, true, true, false, false, false]) 37 rfl (by kernel_rfl) rfl rfl (np_then (np_block (np_then (np_loop (np_block (np_then np_post)))))) (hs_pick (is := []) rfl rfl) rfl rfl (y_load_el one3 hp65 rfl rfl) ?_
              refine h_takeg (t := 57) (l' := #[true, true, true, true, true, true, true, true, true, true, true, true, true, true, true, true, true, true, true, true, true, true, true, true, true, true, true, true, true, true, true, true, true, true, true, true, true, true, true, false, false]) 38 rfl (by kernel_rfl) rfl rfl (np_then (np_block (np_then (np_loop (np_block (np_then np_post)))))) (hs_pick (is := []) rfl rfl) rfl rfl (y_lss rfl rfl) ?_
              refine h_takeg (t := 45) (l' := #[true, true, true, true, true, true, true, true, true, true, true, true, true, true, true, true, true, true, true, true, true, true, true, true, true, true, true, true, true, true, true, true, true, true, true, true, true, true, true, true, false]) 39 rfl (by kernel_rfl) rfl rfl (np_then (np_block (np_then (np_loop (np_block (np_then np_post)))))) (hs_pick (is := []) rfl rfl) rfl rfl (y_pick_t rfl rfl) ?_
              refine h_take (l' := #[true, true, true, true, true, true, true, true, true, true, true, true, true, true, true, true, true, true, true, true, true, true, true, true, true, true, true, true, true, true, true, true, true, true, true, true, true, true, true, true, true]) 40 rfl (by kernel_rfl) rfl rfl (np_then (np_block (np_then (np_loop (np_block (np_then np_post)))))) (hs_pick (is := []) rfl rfl) (y_pick_f rfl rfl) ?_
              refine h_done (by kernel_rfl) ?_
              refine q_then ?_
              refine c_dec rfl ?_ ?_
              · intro h70
                refine c_region rfl ?_
                refine gv rfl (y_move rfl) ?_
                refine gv rfl (y_assign rfl) ?_
                refine l_nil ?_
                refine q_block (q_then ?_)
                refine c_region rfl ?_
                refine gv rfl (y_move rfl) ?_
                refine gv rfl (y_add rfl rfl (wrap_in (by omega) (by omega))) ?_
                refine gv rfl (y_assign rfl) ?_
                refine l_nil ?_
                exact again (s + 1, (s : Int), m + 1) ⟨Nat.succ_le_of_lt hlt, by dsimp only; rw [atT_take hv hq (by first | exact .inl (by omega) | exact .inr ⟨u, by rw [← hI]; exact hu, by unfold uLt; omega⟩)], by dsimp only; rw [idxT_yes hv hq, List.length_append, hm0]; rfl⟩ (by omega) (sub_cons rfl (sub_cons rfl (sub_cons rfl sub_nil))) (sub_cons rfl (sub_cons rfl (sub_cons rfl sub_nil))) (hs_pick (is := []) rfl rfl)
              · intro h70
                refine c_skip ?_
                refine q_block (q_then ?_)
                refine c_region rfl ?_
                refine gv rfl (y_move rfl) ?_
                refine gv rfl (y_add rfl rfl (wrap_in (by omega) (by omega))) ?_
                refine gv rfl (y_assign rfl) ?_
                refine l_nil ?_
                exact again (s + 1, p, m + 1) ⟨Nat.succ_le_of_lt hlt, by dsimp only; rw [atT_stay hv hq (by omega) (by rw [← hI]; exact hu) (by unfold uLt; omega)]; exact hI, by dsimp only; rw [idxT_yes hv hq, List.length_append, hm0]; rfl⟩ (by omega) (sub_cons rfl (sub_cons rfl (sub_cons rfl sub_nil))) (sub_cons rfl (sub_cons rfl (sub_cons rfl sub_nil))) (hs_pick (is := []) rfl rfl)
            · intro h57
              refine h_off (t := 57) (l' := #[true, true, true, true, true, true, true, true, true, true, true, true, true, true, true, true, true, true, true, true, true, true, true, true, true, true, true, true, true, false, false, false, false, false, false, false, false, false, false, false, false]) 28 rfl (by kernel_rfl) rfl rfl (np_then (np_block (np_then (np_loop (np_block (np_then np_post)))))) (hs_pick (is := []) rfl rfl) rfl rfl rfl ?_
              refine h_off (t := 57) (l' := #[true, true, true, true, true, true, true, true, true, true, true, true, true, true, true, true, true, true, true, true, true, true, true, true, true, true, true, true, true, true, false, false, false, false, false, false, false, false, false, false, false]) 29 rfl (by kernel_rfl) rfl rfl (np_then (np_block (np_then (np_loop (np_block (np_then np_post)))))) (hs_pick (is := []) rfl rfl) rfl rfl rfl ?_
              refine h_off (t := 57) (l' := #[true, true, true, true, true, true, true, true, true, true, true, true, true, true, true, true, true, true, true, true, true, true, true, true, true, true, true, true, true, true, true, false, false, false, false, false, false, false, false, false, false]) 30 rfl (by kernel_rfl) rfl rfl (np_then (np_block (np_then (np_loop (np_block (np_then np_post)))))) (hs_pick (is := []) rfl rfl) rfl rfl rfl ?_
              refine h_off (t := 57) (l' := #[true, true, true, true, true, true, true, true, true, true, true, true, true, true, true, true, true, true, true, true, true, true, true, true, true, true, true, true, true, true, true, true, false, false, false, false, false, false, false, false, false]) 31 rfl (by kernel_rfl) rfl rfl (np_then (np_block (np_then (np_loop (np_block (np_then np_post)))))) (hs_pick (is := []) rfl rfl) rfl rfl rfl ?_
              refine h_off (t := 57) (l' := #[true, true, true, true, true, true, true, true, true, true, true, true, true, true, true, true, true, true, true, true, true, true, true, true, true, true, true, true, true, true, true, true, true, false, false, false, false, false, false, false, false]) 32 rfl (by kernel_rfl) rfl rfl (np_then (np_block (np_then (np_loop (np_block (np_then np_post)))))) (hs_pick (is := []) rfl rfl) rfl rfl rfl ?_
              refine h_off (t := 57) (l' := #[true, true, true, true, true, true, true, true, true, true, true, true, true, true, true, true, true, true, true, true, true, true, true, true, true, true, true, true, true, true, true, true, true, true, false, false, false, false, false, false, false]) 33 rfl (by kernel_rfl) rfl rfl (np_then (np_block (np_then (np_loop (np_block (np_then np_post)))))) (hs_pick (is := []) rfl rfl) rfl rfl rfl ?_
              refine h_off (t := 57) (l' := #[true, true, true, true, true, true, true, true, true, true, true, true, true, true, true, true, true, true, true, true, true, true, true, true, true, true, true, true, true, true, true, true, true, true, true, false, false, false, false, false, false]) 34 rfl (by kernel_rfl) rfl rfl (np_then (np_block (np_then (np_loop (np_block (np_then np_post)))))) (hs_pick (is := []) rfl rfl) rfl rfl rfl ?_
              refine h_off (t := 57) (l' := #[true, true, true, true, true, true, true, true, true, true, true, true, true, true, true, true, true, true, true, true, true, true, true, true, true, true, true, true, true, true, true, true, true, true, true, true, false, false, false, false, false]) 35 rfl (by kernel_rfl) rfl rfl (np_then (np_block (np_then (np_loop (np_block (np_then np_post)))))) (hs_pick (is := []) rfl rfl) rfl rfl rfl ?_
              refine h_off (t := 57) (l' := #[true, true, true, true, true, true, true, true, true, true, true, true, true, true, true, true, true, true, true, true, true, true, true, true, true, true, true, true, true, true, true, true, true, true, true, true, true, false, false, false, false]) 36 rfl (by kernel_rfl) rfl rfl (np_then (np_block (np_then (np_loop (np_block (np_then np_post)))))) (hs_pick (is := []) rfl rfl) rfl rfl rfl ?_
              refine h_off (t := 57) (l' := #[true, true, true, true, true, true, true, true, true, true, true, true, true, true, true, true, true, true, true, true, true, true, true, true, true, true, true, true, true, true, true, true, true, true, true, true, true, true, false, false, false]) 37 rfl (by kernel_rfl) rfl rfl (np_then (np_block (np_then (np_loop (np_block (np_then np_post)))))) (hs_pick (is := []) rfl rfl) rfl rfl rfl ?_
              refine h_off (t := 57) (l' := #[true, true, true, true, true, true, true, true, true, true, true, true, true, true, true, true, true, true, true, true, true, true, true, true, true, true, true, true, true, true, true, true, true, true, true, true, true, true, true, false, false]) 38 rfl (by kernel_rfl) rfl rfl (np_then (np_block (np_then (np_loop (np_block (np_then np_post)))))) (hs_pick (is := []) rfl rfl) rfl rfl rfl ?_
              refine h_takeg (t := 45) (l' := #[true, true, true, true, true, true, true, true, true, true, true, true, true, true, true, true, true, true, true, true, true, true, true, true, true, true, true, true, true, true, true, true, true, true, true, true, true, true, true, true, false]) 39 rfl (by kernel_rfl) rfl rfl (np_then (np_block (np_then (np_loop (np_block (np_then np_post)))))) (hs_pick (is := []) rfl rfl) rfl rfl (y_pick_f rfl rfl) ?_
              refine h_take (l' := #[true, true, true, true, true, true, true, true, true, true, true, true, true, true, true, true, true, true, true, true, true, true, true, true, true, true, true, true, true, true, true, true, true, true, true, true, true, true, true, true, true]) 40 rfl (by kernel_rfl) rfl rfl (np_then (np_block (np_then (np_loop (np_block (np_then np_post)))))) (hs_pick (is := []) rfl rfl) (y_pick_f rfl rfl) ?_
              refine h_done (by kernel_rfl) ?_
              refine q_then ?_
              refine c_cond_f rfl ?_
              refine c_skip ?_
              refine q_block (q_then ?_)
              refine c_region rfl ?_
              refine gv rfl (y_move rfl) ?_
              refine gv rfl (y_add rfl rfl (wrap_in (by omega) (by omega))) ?_
              refine gv rfl (y_assign rfl) ?_
              refine l_nil ?_
              exact again (s + 1, p, m + 1) ⟨Nat.succ_le_of_lt hlt, by dsimp only; rw [atT_stay hv hq (by omega) (by rw [← hI]; exact hu) (by unfold uLt; omega)]; exact hI, by dsimp only; rw [idxT_yes hv hq, List.length_append, hm0]; rfl⟩ (by omega) (sub_cons rfl (sub_cons rfl (sub_cons rfl sub_nil))) (sub_cons rfl (sub_cons rfl (sub_cons rfl sub_nil))) (hs_pick (is := []) rfl rfl)
    · intro h19
      refine g_off (t := 19) rfl rfl rfl rfl ?_
      refine g_off (t := 19) rfl rfl rfl rfl ?_
      refine g_off (t := 19) rfl rfl rfl rfl ?_
      refine g_off (t := 19) rfl rfl rfl rfl ?_
      refine g_off (t := 19) rfl rfl rfl rfl ?_
      refine g_off (t := 19) rfl rfl rfl rfl ?_
      refine g_off (t := 19) rfl rfl rfl rfl ?_
      refine gv rfl (y_pick_f rfl rfl) ?_
      refine l_nil ?_
      refine q_then ?_
      refine c_cond_f rfl ?_
      refine c_skip ?_
      refine q_then ?_
      refine c_seq ?_
      have hq : qU b d v = true := by
        have hb : b = true := by simpa using h19
        simp only [qU, hb, Bool.true_or]
      refine c_region rfl ?_
      refine gv rfl (y_move rfl) ?_
      refine gv rfl (y_add rfl rfl (wrap_in (by omega) (by omega))) ?_
      refine gv rfl (y_assign rfl) ?_
      refine l_nil ?_
      refine q_then ?_
      refine c_seq ?_
      refine c_drawp (l := #[false, false, false, false, false, false, false, false, false, false, false, false, false, false, false, false, false, false, false, false, false, false, false, false, false, false, false, false, false, false, false, false, false, false, false, false, false, false, false, false, false]) 41 (is := []) rfl rfl rfl rfl ?_
      refine h_take (l' := #[true, false, false, false, false, false, false, false, false, false, false, false, false, false, false, false, false, false, false, false, false, false, false, false, false, false, false, false, false, false, false, false, false, false, false, false, false, false, false, false, false]) 0 rfl (by kernel_rfl) rfl rfl (np_then (np_block (np_then (np_loop (np_block (np_then np_post)))))) (hs_pick (is := []) rfl rfl) (y_move rfl) ?_
      refine h_take (l' := #[true, true, false, false, false, false, false, false, false, false, false, false, false, false, false, false, false, false, false, false, false, false, false, false, false, false, false, false, false, false, false, false, false, false, false, false, false, false, false, false, false]) 1 rfl (by kernel_rfl) rfl rfl (np_then (np_block (np_then (np_loop (np_block (np_then np_post)))))) (hs_pick (is := []) rfl rfl) (y_lss rfl rfl) ?_
      refine h_take (l' := #[true, true, true, false, false, false, false, false, false, false, false, false, false, false, false, false, false, false, false, false, false, false, false, false, false, false, false, false, false, false, false, false, false, false, false, false, false, false, false, false, false]) 2 rfl (by kernel_rfl) rfl rfl (np_then (np_block (np_then (np_loop (np_block (np_then np_post)))))) (hs_pick (is := []) rfl rfl) (y_move rfl) ?_
      refine h_dec (t := 32) rfl ?_ ?_
      · intro h32
        refine h_off (t := 32) (l' := #[true, true, true, true, false, false, false, false, false, false, false, false, false, false, false, false, false, false, false, false, false, false, false, false, false, false, false, false, false, false, false, false, false, false, false, false, false, false, false, false, false]) 3 rfl (by kernel_rfl) rfl rfl (np_then (np_block (np_then (np_loop (np_block (np_then np_post)))))) (hs_pick (is := []) rfl rfl) rfl rfl rfl ?_
        refine h_off (t := 32) (l' := #[true, true, true, true, true, false, false, false, false, false, false, false, false, false, false, false, false, false, false, false, false, false, false, false, false, false, false, false, false, false, false, false, false, false, false, false, false, false, false, false, false]) 4 rfl (by kernel_rfl) rfl rfl (np_then (np_block (np_then (np_loop (np_block (np_then np_post)))))) (hs_pick (is := []) rfl rfl) rfl rfl rfl ?_
        refine h_off (t := 32) (l' := #[true, true, true, true, true, true, false, false, false, false, false, false, false, false, false, false, false, false, false, false, false, false, false, false, false, false, false, false, false, false, false, false, false, false, false, false, false, false, false, false, false]) 5 rfl (by kernel_rfl) rfl rfl (np_then (np_block (np_then (np_loop (np_block (np_then np_post)))))) (hs_pick (is := []) rfl rfl) rfl rfl rfl ?_
        refine h_off (t := 32) (l' := #[true, true, true, true, true, true, true, false, false, false, false, false, false, false, false, false, false, false, false, false, false, false, false, false, false, false, false, false, false, false, false, false, false, false, false, false, false, false, false, false, false]) 6 rfl (by kernel_rfl) rfl rfl (np_then (np_block (np_then (np_loop (np_block (np_then np_post)))))) (hs_pick (is := []) rfl rfl) rfl rfl rfl ?_
        refine h_off (t := 32) (l' := #[true, true, true, true, true, true, true, true, false, false, false, false, false, false, false, false, false, false, false, false, false, false, false, false, false, false, false, false, false, false, false, false, false, false, false, false, false, false, false, false, false]) 7 rfl (by kernel_rfl) rfl rfl (np_then (np_block (np_then (np_loop (np_block (np_then np_post)))))) (hs_pick (is := []) rfl rfl) rfl rfl rfl ?_
        refine h_off (t := 32) (l' := #[true, true, true, true, true, true, true, true, true, false, false, false, false, false, false, false, false, false, false, false, false, false, false, false, false, false, false, false, false, false, false, false, false, false, false, false, false, false, false, false, false]) 8 rfl (by kernel_rfl) rfl rfl (np_then (np_block (np_then (np_loop (np_block (np_then np_post)))))) (hs_pick (is := []) rfl rfl) rfl rfl rfl ?_
        refine h_off (t := 32) (l' := #[true, true, true, true, true, true, true, true, true, true, false, false, false, false, false, false, false, false, false, false, false, false, false, false, false, false, false, false, false, false, false, false, false, false, false, false, false, false, false, false, false]) 9 rfl (by kernel_rfl) rfl rfl (np_then (np_block (np_then (np_loop (np_block (np_then np_post)))))) (hs_pick (is := []) rfl rfl) rfl rfl rfl ?_
        refine h_off (t := 32) (l' := #[true, true, true, true, true, true, true, true, true, true, true, false, false, false, false, false, false, false, false, false, false, false, false, false, false, false, false, false, false, false, false, false, false, false, false, false, false, false, false, false, false]) 10 rfl (by kernel_rfl) rfl rfl (np_then (np_block (np_then (np_loop (np_block (np_then np_post)))))) (hs_pick (is := []) rfl rfl) rfl rfl rfl ?_
        refine h_off (t := 32) (l' := #[true, true, true, true, true, true, true, true, true, true, true, true, false, false, false, false, false, false, false, false, false, false, false, false, false, false, false, false, false, false, false, false, false, false, false, false, false, false, false, false, false]) 11 rfl (by kernel_rfl) rfl rfl (np_then (np_block (np_then (np_loop (np_block (np_then np_post)))))) (hs_pick (is := []) rfl rfl) rfl rfl rfl ?_
        refine h_off (t := 32) (l' := #[true, true, true, true, true, true, true, true, true, true, true, true, true, false, false, false, false, false, false, false, false, false, false, false, false, false, false, false, false, false, false, false, false, false, false, false, false, false, false, false, false]) 12 rfl (by kernel_rfl) rfl rfl (np_then (np_block (np_then (np_loop (np_block (np_then np_post)))))) (hs_pick (is := []) rfl rfl) rfl rfl rfl ?_
        refine h_off (t := 32) (l' := #[true, true, true, true, true, true, true, true, true, true, true, true, true, true, false, false, false, false, false, false, false, false, false, false, false, false, false, false, false, false, false, false, false, false, false, false, false, false, false, false, false]) 13 rfl (by kernel_rfl) rfl rfl (np_then (np_block (np_then (np_loop (np_block (np_then np_post)))))) (hs_pick (is := []) rfl rfl) rfl rfl rfl ?_
        refine h_take (l' := #[true, true, true, true, true, true, true, true, true, true, true, true, true, true, true, false, false, false, false, false, false, false, false, false, false, false, false, false, false, false, false, false, false, false, false, false, false, false, false, false, false]) 14 rfl (by kernel_rfl) rfl rfl (np_then (np_block (np_then (np_loop (np_block (np_then np_post)))))) (hs_pick (is := []) rfl rfl) (y_pick_t rfl rfl) ?_
        refine h_take (l' := #[true, true, true, true, true, true, true, true, true, true, true, true, true, true, true, true, false, false, false, false, false, false, false, false, false, false, false, false, false, false, false, false, false, false, false, false, false, false, false, false, false]) 15 rfl (by kernel_rfl) rfl rfl (np_then (np_block (np_then (np_loop (np_block (np_then np_post)))))) (hs_pick (is := []) rfl rfl) (y_move rfl) ?_
        refine h_off (t := 45) (l' := #[true, true, true, true, true, true, true, true, true, true, true, true, true, true, true, true, true, false, false, false, false, false, false, false, false, false, false, false, false, false, false, false, false, false, false, false, false, false, false, false, false]) 16 rfl (by kernel_rfl) rfl rfl (np_then (np_block (np_then (np_loop (np_block (np_then np_post)))))) (hs_pick (is := []) rfl rfl) rfl rfl rfl ?_
        refine h_off (t := 45) (l' := #[true, true, true, true, true, true, true, true, true, true, true, true, true, true, true, true, true, true, false, false, false, false, false, false, false, false, false, false, false, false, false, false, false, false, false, false, false, false, false, false, false]) 17 rfl (by kernel_rfl) rfl rfl (np_then (np_block (np_then (np_loop (np_block (np_then np_post)))))) (hs_pick (is := []) rfl rfl) rfl rfl rfl ?_
        refine h_off (t := 45) (l' := #[true, true, true, true, true, true, true, true, true, true, true, true, true, true, true, true, true, true, true, false, false, false, false, false, false, false, false, false, false, false, false, false, false, false, false, false, false, false, false, false, false]) 18 rfl (by kernel_rfl) rfl rfl (np_then (np_block (np_then (np_loop (np_block (np_then np_post)))))) (hs_pick (is := []) rfl rfl) rfl rfl rfl ?_
        refine h_off (t := 45) (l' := #[true, true, true, true, true, true, true, true, true, true, true, true, true, true, true, true, true, true, true, true, false, false, false, false, false, false, false, false, false, false, false, false, false, false, false, false, false, false, false, false, false]) 19 rfl (by kernel_rfl) rfl rfl (np_then (np_block (np_then (np_loop (np_block (np_then np_post)))))) (hs_pick (is := []) rfl rfl) rfl rfl rfl ?_
        refine h_off (t := 45) (l' := #[true, true, true, true, true, true, true, true, true, true, true, true, true, true, true, true, true, true, true, true, true, false, false, false, false, false, false, false, false, false, false, false, false, false, false, false, false, false, false, false, false]) 20 rfl (by kernel_rfl) rfl rfl (np_then (np_block (np_then (np_loop (np_block (np_then np_post)))))) (hs_pick (is := []) rfl rfl) rfl rfl rfl ?_
        refine h_off (t := 45) (l' := #[true, true, true, true, true, true, true, true, true, true, true, true, true, true, true, true, true, true, true, true, true, true, false, false, false, false, false, false, false, false, false, false, false, false, false, false, false, false, false, false, false]) 21 rfl (by kernel_rfl) rfl rfl (np_then (np_block (np_then (np_loop (np_block (np_then np_post)))))) (hs_pick (is := []) rfl rfl) rfl rfl rfl ?_
        refine h_off (t := 45) (l' := #[true, true, true, true, true, true, true, true, true, true, true, true, true, true, true, true, true, true, true, true, true, true, true, false, false, false, false, false, false, false, false, false, false, false, false, false, false, false, false, false, false]) 22 rfl (by kernel_rfl) rfl rfl (np_then (np_block (np_then (np_loop (np_block (np_then np_post)))))) (hs_pick (is := []) rfl rfl) rfl rfl rfl ?_
        refine h_off (t := 45) (l' := #[true, true, true, true, true, true, true, true, true, true, true, true, true, true, true, true, true, true, true, true, true, true, true, true, false, false, false, false, false, false, false, false, false, false, false, false, false, false, false, false, false]) 23 rfl (by kernel_rfl) rfl rfl (np_then (np_block (np_then (np_loop (np_block (np_then np_post)))))) (hs_pick (is := []) rfl rfl) rfl rfl rfl ?_
        refine h_off (t := 45) (l' := #[true, true, true, true, true, true, true, true, true, true, true, true, true, true, true, true, true, true, true, true, true, true, true, true, true, false, false, false, false, false, false, false, false, false, false, false, false, false, false, false, false]) 24 rfl (by kernel_rfl) rfl rfl (np_then (np_block (np_then (np_loop (np_block (np_then np_post)))))) (hs_pick (is := []) rfl rfl) rfl rfl rfl ?_
        refine h_off (t := 45) (l' := #[true, true, true, true, true, true, true, true, true, true, true, true, true, true, true, true, true, true, true, true, true, true, true, true, true, true, false, false, false, false, false, false, false, false, false, false, false, false, false, false, false]) 25 rfl (by kernel_rfl) rfl rfl (np_then (np_block (np_then (np_loop (np_block (np_then np_post)))))) (hs_pick (is := []) rfl rfl) rfl rfl rfl ?_
        refine h_off (t := 45) (l' := #[true, true, true, true, true, true, true, true, true, true, true, true, true, true, true, true, true, true, true, true, true, true, true, true, true, true, true, false, false, false, false, false, false, false, false, false, false, false, false, false, false]) 26 rfl (by kernel_rfl) rfl rfl (np_then (np_block (np_then (np_loop (np_block (np_then np_post)))))) (hs_pick (is := []) rfl rfl) rfl rfl rfl ?_
        refine h_off (t := 45) (l' := #[true, true, true, true, true, true, true, true, true, true, true, true, true, true, true, true, true, true, true, true, true, true, true, true, true, true, true, true, false, false, false, false, false, false, false, false, false, false, false, false, false]) 27 rfl (by kernel_rfl) rfl rfl (np_then (np_block (np_then (np_loop (np_block (np_then np_post)))))) (hs_pick (is := []) rfl rfl) rfl rfl rfl ?_
        refine h_und (t := 57) (l' := #[true, true, true, true, true, true, true, true, true, true, true, true, true, true, true, true, true, true, true, true, true, true, true, true, true, true, true, true, true, false, false, false, false, false, false, false, false, false, false, false, false]) 28 rfl (by kernel_rfl) rfl rfl (np_then (np_block (np_then (np_loop (np_block (np_then np_post)))))) (hs_pick (is := []) rfl rfl) rfl rfl ?_
        refine h_und (t := 57) (l' := #[true, true, true, true, true, true, true, true, true, true, true, true, true, true, true, true, true, true, true, true, true, true, true, true, true, true, true, true, true, true, false, false, false, false, false, false, false, false, false, false, false]) 29 rfl (by kernel_rfl) rfl rfl (np_then (np_block (np_then (np_loop (np_block (np_then np_post)))))) (hs_pick (is := []) rfl rfl) rfl rfl ?_
        refine h_und (t := 57) (l' := #[true, true, true, true, true, true, true, true, true, true, true, true, true, true, true, true, true, true, true, true, true, true, true, true, true, true, true, true, true, true, true, false, false, false, false, false, false, false, false, false, false]) 30 rfl (by kernel_rfl) rfl rfl (np_then (np_block (np_then (np_loop (np_block (np_then np_post)))))) (hs_pick (is := []) rfl rfl) rfl rfl ?_
        refine h_und (t := 57) (l' := #[true, true, true, true, true, true, true, true, true, true, true, true, true, true, true, true, true, true, true, true, true, true, true, true, true, true, true, true, true, true, true, true, false, false, false, false, false, false, false, false, false]) 31 rfl (by kernel_rfl) rfl rfl (np_then (np_block (np_then (np_loop (np_block (np_then np_post)))))) (hs_pick (is := []) rfl rfl) rfl rfl ?_
        refine h_und (t := 57) (l' := #[true, true, true, true, true, true, true, true, true, true, true, true, true, true, true, true, true, true, true, true, true, true, true, true, true, true, true, true, true, true, true, true, true, false, false, false, false, false, false, false, false]) 32 rfl (by kernel_rfl) rfl rfl (np_then (np_block (np_then (np_loop (np_block (np_then np_post)))))) (hs_pick (is := []) rfl rfl) rfl rfl ?_
        refine h_und (t := 57) (l' := #[true, true, true, true, true, true, true, true, true, true, true, true, true, true, true, true, true, true, true, true, true, true, true, true, true, true, true, true, true, true, true, true, true, true, false, false, false, false, false, false, false]) 33 rfl (by kernel_rfl) rfl rfl (np_then (np_block (np_then (np_loop (np_block (np_then np_post)))))) (hs_pick (is := []) rfl rfl) rfl rfl ?_
        refine h_und (t := 57) (l' := #[true, true, true, true, true, true, true, true, true, true, true, true, true, true, true, true, true, true, true, true, true, true, true, true, true, true, true, true, true, true, true, true, true, true, true, false, false, false, false, false, false]) 34 rfl (by kernel_rfl) rfl rfl (np_then (np_block (np_then (np_loop (np_block (np_then np_post)))))) (hs_pick (is := []) rfl rfl) rfl rfl ?_
        refine h_und (t := 57) (l' := #[true, true, true, true, true, true, true, true, true, true, true, true, true, true, true, true, true, true, true, true, true, true, true, true, true, true, true, true, true, true, true, true, true, true, true, true, false, false, false, false, false]) 35 rfl (by kernel_rfl) rfl rfl (np_then (np_block (np_then (np_loop (np_block (np_then np_post)))))) (hs_pick (is := []) rfl rfl) rfl rfl ?_
        refine h_und (t := 57) (l' := #[true, true, true, true, true, true, true, true, true, true, true, true, true, true, true, true, true, true, true, true, true, true, true, true, true, true, true, true, true, true, true, true, true, true, true, true, true, false, false, false, false]) 36 rfl (by kernel_rfl) rfl rfl (np_then (np_block (np_then (np_loop (np_block (np_then np_post)))))) (hs_pick (is := []) rfl rfl) rfl rfl ?_
        refine h_und (t := 57) (l' := #[true, true, true, true, true, true, true, true, true, true, true, true, true, true, true, true, true, true, true, true, true, true, true, true, true, true, true, true, true, true, true, true, true, true, true, true, true, true, false, false, false]) 37 rfl (by kernel_rfl) rfl rfl (np_then (np_block (np_then (np_loop (np_block (np_then np_post)))))) (hs_pick (is := []) rfl rfl) rfl rfl ?_
        refine h_und (t := 57) (l' := #[true, true, true, true, true, true, true, true, true, true, true, true, true, true, true, true, true, true, true, true, true, true, true, true, true, true, true, true, true, true, true, true, true, true, true, true, true, true, true, false, false]) 38 rfl (by kernel_rfl) rfl rfl (np_then (np_block (np_then (np_loop (np_block (np_then np_post)))))) (hs_pick (is := []) rfl rfl) rfl rfl ?_
        refine h_off (t := 45) (l' := #[true, true, true, true, true, true, true, true, true, true, true, true, true, true, true, true, true, true, true, true, true, true, true, true, true, true, true, true, true, true, true, true, true, true, true, true, true, true, true, true, false]) 39 rfl (by kernel_rfl) rfl rfl (np_then (np_block (np_then (np_loop (np_block (np_then np_post)))))) (hs_pick (is := []) rfl rfl) rfl rfl rfl ?_
        refine h_take (l' := #[true, true, true, true, true, true, true, true, true, true, true, true, true, true, true, true, true, true, true, true, true, true, true, true, true, true, true, true, true, true, true, true, true, true, true, true, true, true, true, true, true]) 40 rfl (by kernel_rfl) rfl rfl (np_then (np_block (np_then (np_loop (np_block (np_then np_post)))))) (hs_pick (is := []) rfl rfl) (y_pick_t rfl rfl) ?_
        refine h_done (by kernel_rfl) ?_
        refine q_then ?_
        refine c_cond_t rfl ?_
        refine c_region rfl ?_
        refine gv rfl (y_move rfl) ?_
        refine gv rfl (y_assign rfl) ?_
        refine l_nil ?_
        refine q_block (q_then ?_)
        refine c_region rfl ?_
        refine gv rfl (y_move rfl) ?_
        refine gv rfl (y_add rfl rfl (wrap_in (by omega) (by omega))) ?_
        refine gv rfl (y_assign rfl) ?_
        refine l_nil ?_
        exact again (s + 1, (s : Int), m + 1) ⟨Nat.succ_le_of_lt hlt, by dsimp only; rw [atT_take hv hq (by first | exact .inl (by omega) | exact .inr ⟨u, by rw [← hI]; exact hu, by unfold uLt; omega⟩)], by dsimp only; rw [idxT_yes hv hq, List.length_append, hm0]; rfl⟩ (by omega) (sub_cons rfl (sub_cons rfl (sub_cons rfl sub_nil))) (sub_cons rfl (sub_cons rfl (sub_cons rfl sub_nil))) (hs_pick (is := []) rfl rfl)
      · intro h32
        obtain ⟨u, hu⟩ := atT_spec (q := qU b d) (l := l) (s := s) (by omega) (by omega)
        rw [← hI] at hu
        refine h_takeg (t := 32) (l' := #[true, true, true, true, false, false, false, false, false, false, false, false, false, false, false, false, false, false, false, false, false, false, false, false, false, false, false, false, false, false, false, false, false, false, false, false, false, false, false, false, false]) 3 rfl (by kernel_rfl) rfl rfl (np_then (np_block (np_then (np_loop (np_block (np_then np_post)))))) (hs_pick (is := []) rfl rfl) rfl rfl (y_move rfl) ?_
        refine h_takeg (t := 32) (l' := #[true, true, true, true, true, false, false, false, false, false, false, false, false, false, false, false, false, false, false, false, false, false, false, false, false, false, false, false, false, false, false, false, false, false, false, false, false, false, false, false, false]) 4 rfl (by kernel_rfl) rfl rfl (np_then (np_block (np_then (np_loop (np_block (np_then np_post)))))) (hs_pick (is := []) rfl rfl) rfl rfl (y_move rfl) ?_
        refine h_takege (t := 32) (l' := #[true, true, true, true, true, true, false, false, false, false, false, false, false, false, false, false, false, false, false, false, false, false, false, false, false, false, false, false, false, false, false, false, false, false, false, false, false, false, false, false, false]) 5 rfl (by kernel_rfl) rfl rfl (np_then (np_block (np_then (np_loop (np_block (np_then np_post)))))) (hs_pick (is := []) rfl rfl) rfl rfl (y_iaddr elem22 size26 hA rfl rfl rfl (by omega) hv) ?_; rintro _ ⟨p35, rfl, hp35⟩
        refine h_takeg (t := 32) (l' := #[true, true, true, true, true, true, true, false, false, false, false, false, false, false, false, false, false, false, false, false, false, false, false, false, false, false, false, false, false, false, false, false, false, false, false, false, false, false, false, false, false]) 6 rfl (by kernel_rfl) rfl rfl (np_then (np_block (np_then (np_loop (np_block (np_then np_post)))))) (hs_pick (is := []) rfl rfl) rfl rfl (y_faddr_p off26_11 rfl) ?_
        refine h_takeg (t := 32) (l' := #[true, true, true, true, true, true, true, true, false, false, false, false, false, false, false, false, false, false, false, false, false, false, false, false, false, false, false, false, false, false, false, false, false, false, false, false, false, false, false, false, false]) 7 rfl (by kernel_rfl) rfl rfl (np_then (np_block (np_then (np_loop (np_block (np_then np_post)))))) (hs_pick (is := []) rfl rfl) rfl rfl (y_load_el one3 hp35 rfl rfl) ?_
        refine h_takeg (t := 32) (l' := #[true, true, true, true, true, true, true, true, true, false, false, false, false, false, false, false, false, false, false, false, false, false, false, false, false, false, false, false, false, false, false, false, false, false, false, false, false, false, false, false, false]) 8 rfl (by kernel_rfl) rfl rfl (np_then (np_block (np_then (np_loop (np_block (np_then np_post)))))) (hs_pick (is := []) rfl rfl) rfl rfl (y_move rfl) ?_
        refine h_takeg (t := 32) (l' := #[true, true, true, true, true, true, true, true, true, true, false, false, false, false, false, false, false, false, false, false, false, false, false, false, false, false, false, false, false, false, false, false, false, false, false, false, false, false, false, false, false]) 9 rfl (by kernel_rfl) rfl rfl (np_then (np_block (np_then (np_loop (np_block (np_then np_post)))))) (hs_pick (is := []) rfl rfl) rfl rfl (y_move rfl) ?_
        refine h_takege (t := 32) (l' := #[true, true, true, true, true, true, true, true, true, true, true, false, false, false, false, false, false, false, false, false, false, false, false, false, false, false, false, false, false, false, false, false, false, false, false, false, false, false, false, false, false]) 10 rfl (by kernel_rfl) rfl rfl (np_then (np_block (np_then (np_loop (np_block (np_then np_post)))))) (hs_pick (is := []) rfl rfl) rfl rfl (y_iaddr elem22 size26 hA rfl rfl rfl (by omega) hu) ?_; rintro _ ⟨p40, rfl, hp40⟩
        refine h_takeg (t := 32) (l' := #[true, true, true, true, true, true, true, true, true, true, true, true, false, false, false, false, false, false, false, false, false, false, false, false, false, false, false, false, false, false, false, false, false, false, false, false, false, false, false, false, false]) 11 rfl (by kernel_rfl) rfl rfl (np_then (np_block (np_then (np_loop (np_block (np_then np_post)))))) (hs_pick (is := []) rfl rfl) rfl rfl (y_faddr_p off26_11 rfl) ?_
        refine h_takeg (t := 32) (l' := #[true, true, true, true, true, true, true, true, true, true, true, true, true, false, false, false, false, false, false, false, false, false, false, false, false, false, false, false, false, false, false, false, false, false, false, false, false, false, false, false, false]) 12 rfl (by kernel_rfl) rfl rfl (np_then (np_block (np_then (np_loop (np_block (np_then np_post)))))) (hs_pick (is := []) rfl rfl) rfl rfl (y_load_el one3 hp40 rfl rfl) ?_
        refine h_takeg (t := 32) (l' := #[true, true, true, true, true, true, true, true, true, true, true, true, true, true, false, false, false, false, false, false, false, false, false, false, false, false, false, false, false, false, false, false, false, false, false, false, false, false, false, false, false]) 13 rfl (by kernel_rfl) rfl rfl (np_then (np_block (np_then (np_loop (np_block (np_then np_post)))))) (hs_pick (is := []) rfl rfl) rfl rfl (y_lss rfl rfl) ?_
        refine h_take (l' := #[true, true, true, true, true, true, true, true, true, true, true, true, true, true, true, false, false, false, false, false, false, false, false, false, false, false, false, false, false, false, false, false, false, false, false, false, false, false, false, false, false]) 14 rfl (by kernel_rfl) rfl rfl (np_then (np_block (np_then (np_loop (np_block (np_then np_post)))))) (hs_pick (is := []) rfl rfl) (y_pick_f rfl rfl) ?_
        refine h_take (l' := #[true, true, true, true, true, true, true, true, true, true, true, true, true, true, true, true, false, false, false, false, false, false, false, false, false, false, false, false, false, false, false, false, false, false, false, false, false, false, false, false, false]) 15 rfl (by kernel_rfl) rfl rfl (np_then (np_block (np_then (np_loop (np_block (np_then np_post)))))) (hs_pick (is := []) rfl rfl) (y_move rfl) ?_
        refine h_dec (t := 45) rfl ?_ ?_
        · intro h45
          refine h_off (t := 45) (l' := #[true, true, true, true, true, true, true, true, true, true, true, true, true, true, true, true, true, false, false, false, false, false, false, false, false, false, false, false, false, false, false, false, false, false, false, false, false, false, false, false, false]) 16 rfl (by kernel_rfl) rfl rfl (np_then (np_block (np_then (np_loop (np_block (np_then np_post)))))) (hs_pick (is := []) rfl rfl) rfl rfl rfl ?_
          refine h_off (t := 45) (l' := #[true, true, true, true, true, true, true, true, true, true, true, true, true, true, true, true, true, true, false, false, false, false, false, false, false, false, false, false, false, false, false, false, false, false, false, false, false, false, false, false, false]) 17 rfl (by kernel_rfl) rfl rfl (np_then (np_block (np_then (np_loop (np_block (np_then np_post)))))) (hs_pick (is := []) rfl rfl) rfl rfl rfl ?_
          refine h_off (t := 45) (l' := #[true, true, true, true, true, true, true, true, true, true, true, true, true, true, true, true, true, true, true, false, false, false, false, false, false, false, false, false, false, false, false, false, false, false, false, false, false, false, false, false, false]) 18 rfl (by kernel_rfl) rfl rfl (np_then (np_block (np_then (np_loop (np_block (np_then np_post)))))) (hs_pick (is := []) rfl rfl) rfl rfl rfl ?_
          refine h_off (t := 45) (l' := #[true, true, true, true, true, true, true, true, true, true, true, true, true, true, true, true, true, true, true, true, false, false, false, false, false, false, false, false, false, false, false, false, false, false, false, false, false, false, false, false, false]) 19 rfl (by kernel_rfl) rfl rfl (np_then (np_block (np_then (np_loop (np_block (np_then np_post)))))) (hs_pick (is := []) rfl rfl) rfl rfl rfl ?_
          refine h_off (t := 45) (l' := #[true, true, true, true, true, true, true, true, true, true, true, true, true, true, true, true, true, true, true, true, true, false, false, false, false, false, false, false, false, false, false, false, false, false, false, false, false, false, false, false, false]) 20 rfl (by kernel_rfl) rfl rfl (np_then (np_block (np_then (np_loop (np_block (np_then np_post)))))) (hs_pick (is := []) rfl rfl) rfl rfl rfl ?_
          refine h_off (t := 45) (l' := #[true, true, true, true, true, true, true, true, true, true, true, true, true, true, true, true, true, true, true, true, true, true, false, false, false, false, false, false, false, false, false, false, false, false, false, false, false, false, false, false, false]) 21 rfl (by kernel_rfl) rfl rfl (np_then (np_block (np_then (np_loop (np_block (np_then np_post)))))) (hs_pick (is := []) rfl rfl) rfl rfl rfl ?_
          refine h_off (t := 45) (l' := #[true, true, true, true, true, true, true, true, true, true, true, true, true, true, true, true, true, true, true, true, true, true, true, false, false, false, false, false, false, false, false, false, false, false, false, false, false, false, false, false, false]) 22 rfl (by kernel_rfl) rfl rfl (np_then (np_block (np_then (np_loop (np_block (np_then np_post)))))) (hs_pick (is := []) rfl rfl) rfl rfl rfl ?_
          refine h_off (t := 45) (l' := #[true, true, true, true, true, true, true, true, true, true, true, true, true, true, true, true, true, true, true, true, true, true, true, true, false, false, false, false, false, false, false, false, false, false, false, false, false, false, false, false, false]) 23 rfl (by kernel_rfl) rfl rfl (np_then (np_block (np_then (np_loop (np_block (np_then np_post)))))) (hs_pick (is := []) rfl rfl) rfl rfl rfl ?_
          refine h_off (t := 45) (l' := #[true, true, true, true, true, true, true, true, true, true, true, true, true, true, true, true, true, true, true, true, true, true, true, true, true, false, false, false, false, false, false, false, false, false, false, false, false, false, false, false, false]) 24 rfl (by kernel_rfl) rfl rfl (np_then (np_block (np_then (np_loop (np_block (np_then np_post)))))) (hs_pick (is := []) rfl rfl) rfl rfl rfl ?_
          refine h_off (t := 45) (l' := #[true, true, true, true, true, true, true, true, true, true, true, true, true, true, true, true, true, true, true, true, true, true, true, true, true, true, false, false, false, false, false, false, false, false, false, false, false, false, false, false, false]) 25 rfl (by kernel_rfl) rfl rfl (np_then (np_block (np_then (np_loop (np_block (np_then np_post)))))) (hs_pick (is := []) rfl rfl) rfl rfl rfl ?_
          refine h_off (t := 45) (l' := #[true, true, true, true, true, true, true, true, true, true, true, true, true, true, true, true, true, true, true, true, true, true, true, true, true, true, true, false, false, false, false, false, false, false, false, false, false, false, false, false, false]) 26 rfl (by kernel_rfl) rfl rfl (np_then (np_block (np_then (np_loop (np_block (np_then np_post)))))) (hs_pick (is := []) rfl rfl) rfl rfl rfl ?_
          refine h_off (t := 45) (l' := #[true, true, true, true, true, true, true, true, true, true, true, true, true, true, true, true, true, true, true, true, true, true, true, true, true, true, true, true, false, false, false, false, false, false, false, false, false, false, false, false, false]) 27 rfl (by kernel_rfl) rfl rfl (np_then (np_block (np_then (np_loop (np_block (np_then np_post)))))) (hs_pick (is := []) rfl rfl) rfl rfl rfl ?_
          refine h_und (t := 57) (l' := #[true, true, true, true, true, true, true, true, true, true, true, true, true, true, true, true, true, true, true, true, true, true, true, true, true, true, true, true, true, false, false, false, false, false, false, false, false, false, false, false, false]) 28 rfl (by kernel_rfl) rfl rfl (np_then (np_block (np_then (np_loop (np_block (np_then np_post)))))) (hs_pick (is := []) rfl rfl) rfl rfl ?_
          refine h_und (t := 57) (l' := #[true, true, true, true, true, true, true, true, true, true, true, true, true, true, true, true, true, true, true, true, true, true, true, true, true, true, true, true, true, true, false, false, false, false, false, false, false, false, false, false, false]) 29 rfl (by kernel_rfl) rfl rfl (np_then (np_block (np_then (np_loop (np_block (np_then np_post)))))) (hs_pick (is := []) rfl rfl) rfl rfl ?_
          refine h_und (t := 57) (l' := #[true, true, true, true, true, true, true, true, true, true, true, true, true, true, true, true, true, true, true, true, true, true, true, true, true, true, true, true, true, true, true, false, false, false, false, false, false, false, false, false, false]) 30 rfl (by kernel_rfl) rfl rfl (np_then (np_block (np_then (np_loop (np_block (np_then np_post)))))) (hs_pick (is := []) rfl rfl) rfl rfl ?_
          refine h_und (t := 57) (l' := #[true, true, true, true, true, true, true, true, true, true, true, true, true, true, true, true, true, true, true, true, true, true, true, true, true, true, true, true, true, true, true, true, false, false, false, false, false, false, false, false, false]) 31 rfl (by kernel_rfl) rfl rfl (np_then (np_block (np_then (np_loop (np_block (np_then np_post)))))) (hs_pick (is := []) rfl rfl) rfl rfl ?_
          refine h_und (t := 57) (l' := #[true, true, true, true, true, true, true, true, true, true, true, true, true, true, true, true, true, true, true, true, true, true, true, true, true, true, true, true, true, true, true, true, true, false, false, false, false, false, false, false, false]) 32 rfl (by kernel_rfl) rfl rfl (np_then (np_block (np_then (np_loop (np_block (np_then np_post)))))) (hs_pick (is := []) rfl rfl) rfl rfl ?_
          refine h_und (t := 57) (l' := #[true, true, true, true, true, true, true, true, true, true, true, true, true, true, true, true, true, true, true, true, true, true, true, true, true, true, true, true, true, true, true, true, true, true, false, false, false, false, false, false, false]) 33 rfl (by kernel_rfl) rfl rfl (np_then (np_block (np_then (np_loop (np_block (np_then np_post)))))) (hs_pick (is := []) rfl rfl) rfl rfl ?_
          refine h_und (t := 57) (l' := #[true, true, true, true, true, true, true, true, true, true, true, true, true, true, true, true, true, true, true, true, true, true, true, true, true, true, true, true, true, true, true, true, true, true, true, false, false, false, false, false, false]) 34 rfl (by kernel_rfl) rfl rfl (np_then (np_block (np_then (np_loop (np_block (np_then np_post)))))) (hs_pick (is := []) rfl rfl) rfl rfl ?_
          refine h_und (t := 57) (l' := #[true, true, true, true, true, true, true, true, true, true, true, true, true, true, true, true, true, true, true, true, true, true, true, true, true, true, true, true, true, true, true, true, true, true, true, true, false, false, false, false, false]) 35 rfl (by kernel_rfl) rfl rfl (np_then (np_block (np_then (np_loop (np_block (np_then np_post)))))) (hs_pick (is := []) rfl rfl) rfl rfl ?_
          refine h_und (t := 57) (l' := #[true, true, true, true, true, true, true, true, true, true, true, true, true, true, true, true, true, true, true, true, true, true, true, true, true, true, true, true, true, true, true, true, true, true, true, true, true, false, false, false, false]) 36 rfl (by kernel_rfl) rfl rfl (np_then (np_block (np_then (np_loop (np_block (np_then np_post)))))) (hs_pick (is := []) rfl rfl) rfl rfl ?_
          refine h_und (t := 57) (l' := #[true, true, true, true, true, true, true, true, true, true, true, true, true, true, true, true, true, true, true, true, true, true, true, true, true, true, true, true, true, true, true, true, true, true, true, true, true, true, false, false, false]) 37 rfl (by kernel_rfl) rfl rfl (np_then (np_block (np_then (np_loop (np_block (np_then np_post)))))) (hs_pick (is := []) rfl rfl) rfl rfl ?_
          refine h_und (t := 57) (l' := #[true, true, true, true, true, true, true, true, true, true, true, true, true, true, true, true, true, true, true, true, true, true, true, true, true, true, true, true, true, true, true, true, true, true, true, true, true, true, true, false, false]) 38 rfl (by kernel_rfl) rfl rfl (np_then (np_block (np_then (np_loop (np_block (np_then np_post)))))) (hs_pick (is := []) rfl rfl) rfl rfl ?_
          refine h_off (t := 45) (l' := #[true, true, true, true, true, true, true, true, true, true, true, true, true, true, true, true, true, true, true, true, true, true, true, true, true, true, true, true, true, true, true, true, true, true, true, true, true, true, true, true, false]) 39 rfl (by kernel_rfl) rfl rfl (np_then (np_block (np_then (np_loop (np_block (np_then np_post)))))) (hs_pick (is := []) rfl rfl) rfl rfl rfl ?_
          refine h_take (l' := #[true, true, true, true, true, true, true, true, true, true, true, true, true, true, true, true, true, true, true, true, true, true, true, true, true, true, true, true, true, true, true, true, true, true, true, true, true, true, true, true, true]) 40 rfl (by kernel_rfl) rfl rfl (np_then (np_block (np_then (np_loop (np_block (np_then np_post)))))) (hs_pick (is := []) rfl rfl) (y_pick_t rfl rfl) ?_
          refine h_done (by kernel_rfl) ?_
          refine q_then ?_
          refine c_cond_t rfl ?_
          refine c_region rfl ?_
          refine gv rfl (y_move rfl) ?_
          refine gv rfl (y_assign rfl) ?_
          refine l_nil ?_
          refine q_block (q_then ?_)
          refine c_region rfl ?_
          refine gv rfl (y_move rfl) ?_
          refine gv rfl (y_add rfl rfl (wrap_in (by omega) (by omega))) ?_
          refine gv rfl (y_assign rfl) ?_
          refine l_nil ?_
          exact again (s + 1, (s : Int), m + 1) ⟨Nat.succ_le_of_lt hlt, by dsimp only; rw [atT_take hv hq (by first | exact .inl (by omega) | exact .inr ⟨u, by rw [← hI]; exact hu, by unfold uLt; omega⟩)], by dsimp only; rw [idxT_yes hv hq, List.length_append, hm0]; rfl⟩ (by omega) (sub_cons rfl (sub_cons rfl (sub_cons rfl sub_nil))) (sub_cons rfl (sub_cons rfl (sub_cons rfl sub_nil))) (hs_pick (is := []) rfl rfl)
        · intro h45
          refine h_takeg (t := 45) (l' := #[true, true, true, true, true, true, true, true, true, true, true, true, true, true, true, true, true, false, false, false, false, false, false, false, false, false, false, false, false, false, false, false, false, false, false, false, false, false, false, false, false]) 16 rfl (by kernel_rfl) rfl rfl (np_then (np_block (np_then (np_loop (np_block (np_then np_post)))))) (hs_pick (is := []) rfl rfl) rfl rfl (y_move rfl) ?_
          refine h_takeg (t := 45) (l' := #[true, true, true, true, true, true, true, true, true, true, true, true, true, true, true, true, true, true, false, false, false, false, false, false, false, false, false, false, false, false, false, false, false, false, false, false, false, false, false, false, false]) 17 rfl (by kernel_rfl) rfl rfl (np_then (np_block (np_then (np_loop (np_block (np_then np_post)))))) (hs_pick (is := []) rfl rfl) rfl rfl (y_move rfl) ?_
          refine h_takege (t := 45) (l' := #[true, true, true, true, true, true, true, true, true, true, true, true, true, true, true, true, true, true, true, false, false, false, false, false, false, false, false, false, false, false, false, false, false, false, false, false, false, false, false, false, false]) 18 rfl (by kernel_rfl) rfl rfl (np_then (np_block (np_then (np_loop (np_block (np_then np_post)))))) (hs_pick (is := []) rfl rfl) rfl rfl (y_iaddr elem22 size26 hA rfl rfl rfl (by omega) hv) ?_; rintro _ ⟨p48, rfl, hp48⟩
          refine h_takeg (t := 45) (l' := #[true, true, true, true, true, true, true, true, true, true, true, true, true, true, true, true, true, true, true, true, false, false, false, false, false, false, false, false, false, false, false, false, false, false, false, false, false, false, false, false, false]) 19 rfl (by kernel_rfl) rfl rfl (np_then (np_block (np_then (np_loop (np_block (np_then np_post)))))) (hs_pick (is := []) rfl rfl) rfl rfl (y_faddr_p off26_11 rfl) ?_
          refine h_takeg (t := 45) (l' := #[true, true, true, true, true, true, true, true, true, true, true, true, true, true, true, true, true, true, true, true, true, false, false, false, false, false, false, false, false, false, false, false, false, false, false, false, false, false, false, false, false]) 20 rfl (by kernel_rfl) rfl rfl (np_then (np_block (np_then (np_loop (np_block (np_then np_post)))))) (hs_pick (is := []) rfl rfl) rfl rfl (y_load_el one3 hp48 rfl rfl) ?_
          refine h_takeg (t := 45) (l' := #[true, true, true, true, true, true, true, true, true, true, true, true, true, true, true, true, true, true, true, true, true, true, false, false, false, false, false, false, false, false, false, false, false, false, false, false, false, false, false, false, false]) 21 rfl (by kernel_rfl) rfl rfl (np_then (np_block (np_then (np_loop (np_block (np_then np_post)))))) (hs_pick (is := []) rfl rfl) rfl rfl (y_move rfl) ?_
          refine h_takeg (t := 45) (l' := #[true, true, true, true, true, true, true, true, true, true, true, true, true, true, true, true, true, true, true, true, true, true, true, false, false, false, false, false, false, false, false, false, false, false, false, false, false, false, false, false, false]) 22 rfl (by kernel_rfl) rfl rfl (np_then (np_block (np_then (np_loop (np_block (np_then np_post)))))) (hs_pick (is := []) rfl rfl) rfl rfl (y_move rfl) ?_
          refine h_takege (t := 45) (l' := #[true, true, true, true, true, true, true, true, true, true, true, true, true, true, true, true, true, true, true, true, true, true, true, true, false, false, false, false, false, false, false, false, false, false, false, false, false, false, false, false, false]) 23 rfl (by kernel_rfl) rfl rfl (np_then (np_block (np_then (np_loop (np_block (np_then np_post)))))) (hs_pick (is := []) rfl rfl) rfl rfl (y_iaddr elem22 size26 hA rfl rfl rfl (by omega) hu) ?_; rintro _ ⟨p53, rfl, hp53⟩
          refine h_takeg (t := 45) (l' := #[true, true, true, true, true, true, true, true, true, true, true, true, true, true, true, true, true, true, true, true, true, true, true, true, true, false, false, false, false, false, false, false, false, false, false, false, false, false, false, false, false]) 24 rfl (by kernel_rfl) rfl rfl (np_then (np_block (np_then (np_loop (np_block (np_then np_post)))))) (hs_pick (is := []) rfl rfl) rfl rfl (y_faddr_p off26_11 rfl) ?_
          refine h_takeg (t := 45) (l' := #[true, true, true, true, true, true, true, true, true, true, true, true, true, true, true, true, true, true, true, true, true, true, true, true, true, true, false, false, false, false, false, false, false, false, false, false, false, false, false, false, false]) 25 rfl (by kernel_rfl) rfl rfl (np_then (np_block (np_then (np_loop (np_block (np_then np_post)))))) (hs_pick (is := []) rfl rfl) rfl rfl (y_load_el one3 hp53 rfl rfl) ?_
          refine h_takeg (t := 45) (l' := #[true, true, true, true, true, true, true, true, true, true, true, true, true, true, true, true, true, true, true, true, true, true, true, true, true, true, true, false, false, false, false, false, false, false, false, false, false, false, false, false, false]) 26 rfl (by kernel_rfl) rfl rfl (np_then (np_block (np_then (np_loop (np_block (np_then np_post)))))) (hs_pick (is := []) rfl rfl) rfl rfl (y_eql rfl rfl) ?_
          refine h_takeg (t := 45) (l' := #[true, true, true, true, true, true, true, true, true, true, true, true, true, true, true, true, true, true, true, true, true, true, true, true, true, true, true, true, false, false, false, false, false, false, false, false, false, false, false, false, false]) 27 rfl (by kernel_rfl) rfl rfl (np_then (np_block (np_then (np_loop (np_block (np_then np_post)))))) (hs_pick (is := []) rfl rfl) rfl rfl (y_move rfl) ?_
          refine h_dec (t := 57) rfl ?_ ?_
          · intro h57
            refine h_takeg (t := 57) (l' := #[true, true, true, true, true, true, true, true, true, true, true, true, true, true, true, true, true, true, true, true, true, true, true, true, true, true, true, true, true, false, false, false, false, false, false, false, false, false, false, false, false]) 28 rfl (by kernel_rfl) rfl rfl (np_then (np_block (np_then (np_loop (np_block (np_then np_post)))))) (hs_pick (is := []) rfl rfl) rfl rfl (y_move rfl) ?_
            refine h_takeg (t := 57) (l' := #[true, true, true, true, true, true, true, true, true, true, true, true, true, true, true, true, true, true, true, true, true, true, true, true, true, true, true, true, true, true, false, false, false, false, false, false, false, false, false, false, false]) 29 rfl (by kernel_rfl) rfl rfl (np_then (np_block (np_then (np_loop (np_block (np_then np_post)))))) (hs_pick (is := []) rfl rfl) rfl rfl (y_move rfl) ?_
            refine h_takege (t := 57) (l' := #[true, true, true, true, true, true, true, true, true, true, true, true, true, true, true, true, true, true, true, true, true, true, true, true, true, true, true, true, true, true, true, false, false, false, false, false, false, false, false, false, false]) 30 rfl (by kernel_rfl) rfl rfl (np_then (np_block (np_then (np_loop (np_block (np_then np_post)))))) (hs_pick (is := []) rfl rfl) rfl rfl (y_iaddr elem22 size26 hA rfl rfl rfl (by omega) hv) ?_; rintro _ ⟨p60, rfl, hp60⟩
            refine h_takeg (t := 57) (l' := #[true, true, true, true, true, true, true, true, true, true, true, true, true, true, true, true, true, true, true, true, true, true, true, true, true, true, true, true, true, true, true, true, false, false, false, false, false, false, false, false, false]) 31 rfl (by kernel_rfl) rfl rfl (np_then (np_block (np_then (np_loop (np_block (np_then np_post)))))) (hs_pick (is := []) rfl rfl) rfl rfl (y_faddr_p off26_12 rfl) ?_
            refine h_takeg (t := 57) (l' := #[true, true, true, true, true, true, true, true, true, true, true, true, true, true, true, true, true, true, true, true, true, true, true, true, true, true, true, true, true, true, true, true, true, false, false, false, false, false, false, false, false]) 32 rfl (by kernel_rfl) rfl rfl (np_then (np_block (np_then (np_loop (np_block (np_then np_post)))))) (hs_pick (is := []) rfl rfl) rfl rfl (y_load_el one3 hp60 rfl rfl) ?_
            refine h_takeg (t := 57) (l' := #[true, true, true, true, true, true, true, true, true, true, true, true, true, true, true, true, true, true, true, true, true, true, true, true, true, true, true, true, true, true, true, true, true, true, false, false, false, false, false, false, false]) 33 rfl (by kernel_rfl) rfl rfl (np_then (np_block (np_then (np_loop (np_block (np_then np_post)))))) (hs_pick (is := []) rfl rfl) rfl rfl (y_move rfl) ?_
            refine h_takeg (t := 57) (l' := #[true, true, true, true, true, true, true, true, true, true, true, true, true, true, true, true, true, true, true, true, true, true, true, true, true, true, true, true, true, true, true, true, true, true, true, false, false, false, false, false, false]) 34 rfl (by kernel_rfl) rfl rfl (np_then (np_block (np_then (np_loop (np_block (np_then np_post)))))) (hs_pick (is := []) rfl rfl) rfl rfl (y_move rfl) ?_
            refine h_takege (t := 57) (l' := #[true, true, true, true, true, true, true, true, true, true, true, true, true, true, true, true, true, true, true, true, true, true, true, true, true, true, true, true, true, true, true, true, true, true, true, true, false, false, false, false, false]) 35 rfl (by kernel_rfl) rfl rfl (np_then (np_block (np_then (np_loop (np_block (np_then np_post)))))) (hs_pick (is := []) rfl rfl) rfl rfl (y_iaddr elem22 size26 hA rfl rfl rfl (by omega) hu) ?_; rintro _ ⟨p65, rfl, hp65⟩
            refine h_takeg (t := 57) (l' := #[true, true, true, true, true, true, true, true, true, true, true, true, true, true, true, true, true, true, true, true, true, true, true, true, true, true, true, true, true, true, true, true, true, true, true, true, true, false, false, false, false]) 36 rfl (by kernel_rfl) rfl rfl (np_then (np_block (np_then (np_loop (np_block (np_then np_post)))))) (hs_pick (is := []) rfl rfl) rfl rfl (y_faddr_p off26_12 rfl) ?_
            refine h_takeg (t := 57) (l' := #[true, true, true, true, true, true, true, true, true, true, true, true, true, true, true, true, true, true, true, true, true, true, true, true, true, true, true, true, true, true, true, true, true, true, true, true, true, true, false, false, false]) 37 rfl (by kernel_rfl) rfl rfl (np_then (np_block (np_then (np_loop (np_block (np_then np_post)))))) (hs_pick (is := []) rfl rfl) rfl rfl (y_load_el one3 hp65 rfl rfl) ?_
            refine h_takeg (t := 57) (l' := #[true, true, true, true, true, true, true, true, true, true, true, true, true, true, true, true, true, true, true, true, true, true, true, true, true, true, true, true, true, true, true, true, true, true, true, true, true, true, true, false, false]) 38 rfl (by kernel_rfl) rfl rfl (np_then (np_block (np_then (np_loop (np_block (np_then np_post)))))) (hs_pick (is := []) rfl rfl) rfl rfl (y_lss rfl rfl) ?_
            refine h_takeg (t := 45) (l' := #[true, true, true, true, true, true, true, true, true, true, true, true, true, true, true, true, true, true, true, true, true, true, true, true, true, true, true, true, true, true, true, true, true, true, true, true, true, true, true, true, false]) 39 rfl (by kernel_rfl) rfl rfl (np_then (np_block (np_then (np_loop (np_block (np_then np_post)))))) (hs_pick (is := []) rfl rfl) rfl rfl (y_pick_t rfl rfl) ?_
            refine h_take (l' := #[true, true, true, true, true, true, true, true, true, true, true, true, true, true, true, true, true, true, true, true, true, true, true, true, true, true, true, true, true, true, true, true, true, true, true, true, true, true, true, true, true]) 40 rfl (by kernel_rfl) rfl rfl (np_then (np_block (np_then (np_loop (np_block (np_then np_post)))))) (hs_pick (is := []) rfl rfl) (y_pick_f rfl rfl) ?_
            refine h_done (by kernel_rfl) ?_
            refine q_then ?_
            refine c_dec rfl ?_ ?_
            · intro h70
              refine c_region rfl ?_
              refine gv rfl (y_move rfl) ?_
              refine gv rfl (y_assign rfl) ?_
              refine l_nil ?_
              refine q_block (q_then ?_)
              refine c_region rfl ?_
              refine gv rfl (y_move rfl) ?_
              refine gv rfl (y_add rfl rfl (wrap_in (by omega) (by omega))) ?_
              refine gv rfl (y_assign rfl) ?_
              refine l_nil ?_
              exact again (s + 1, (s : Int), m + 1) ⟨Nat.succ_le_of_lt hlt, by dsimp only; rw [atT_take hv hq (by first | exact .inl (by omega) | exact .inr ⟨u, by rw [← hI]; exact hu, by unfold uLt; omega⟩)], by dsimp only; rw [idxT_yes hv hq, List.length_append, hm0]; rfl⟩ (by omega) (sub_cons rfl (sub_cons rfl (sub_cons rfl sub_nil))) (sub_cons rfl (sub_cons rfl (sub_cons rfl sub_nil))) (hs_pick (is := []) rfl rfl)
            · intro h70
              refine c_skip ?_
              refine q_block (q_then ?_)
              refine c_region rfl ?_
              refine gv rfl (y_move rfl) ?_
              refine gv rfl (y_add rfl rfl (wrap_in (by omega) (by omega))) ?_
              refine gv rfl (y_assign rfl) ?_
              refine l_nil ?_
              exact again (s + 1, p, m + 1) ⟨Nat.succ_le_of_lt hlt, by dsimp only; rw [atT_stay hv hq (by omega) (by rw [← hI]; exact hu) (by unfold uLt; omega)]; exact hI, by dsimp only; rw [idxT_yes hv hq, List.length_append, hm0]; rfl⟩ (by omega) (sub_cons rfl (sub_cons rfl (sub_cons rfl sub_nil))) (sub_cons rfl (sub_cons rfl (sub_cons rfl sub_nil))) (hs_pick (is := []) rfl rfl)
          · intro h57
            refine h_off (t := 57) (l' := #[true, true, true, true, true, true, true, true, true, true, true, true, true, true, true, true, true, true, true, true, true, true, true, true, true, true, true, true, true, false, false, false, false, false, false, false, false, false, false, false, false]) 28 rfl (by kernel_rfl) rfl rfl (np_then (np_block (np_then (np_loop (np_block (np_then np_post)))))) (hs_pick (is := []) rfl rfl) rfl rfl rfl ?_
            refine h_off (t := 57) (l' := #[true, true, true, true, true, true, true, true, true, true, true, true, true, true, true, true, true, true, true, true, true, true, true, true, true, true, true, true, true, true, false, false, false, false, false, false, false, false, false, false, false]) 29 rfl (by kernel_rfl) rfl rfl (np_then (np_block (np_then (np_loop (np_block (np_then np_post)))))) (hs_pick (is := []) rfl rfl) rfl rfl rfl ?_
            refine h_off (t := 57) (l' := #[true, true, true, true, true, true, true, true, true, true, true, true, true, true, true, true, true, true, true, true, true, true, true, true, true, true, true, true, true, true, true, false, false, false, false, false, false, false, false, false, false]) 30 rfl (by kernel_rfl) rfl rfl (np_then (np_block (np_then (np_loop (np_block (np_then np_post)))))) (hs_pick (is := []) rfl rfl) rfl rfl rfl ?_
            refine h_off (t := 57) (l' := #[true, true, true, true, true, true, true, true, true, true, true, true, true, true, true, true, true, true, true, true, true, true, true, true, true, true, true, true, true, true, true, true, false, false, false, false, false, false, false, false, false]) 31 rfl (by kernel_rfl) rfl rfl (np_then (np_block (np_then (np_loop (np_block (np_then np_post)))))) (hs_pick (is := []) rfl rfl) rfl rfl rfl ?_
            refine h_off (t := 57) (l' := #[true, true, true, true, true, true, true, true, true, true, true, true, true, true, true, true, true, true, true, true, true, true, true, true, true, true, true, true, true, true, true, true, true, false, false, false, false, false, false, false, false]) 32 rfl (by kernel_rfl) rfl rfl (np_then (np_block (np_then (np_loop (np_block (np_then np_post)))))) (hs_pick (is := []) rfl rfl) rfl rfl rfl ?_
            refine h_off (t := 57) (l' := #[true, true, true, true, true, true, true, true, true, true, true, true, true, true, true, true, true, true, true, true, true, true, true, true, true, true, true, true, true, true, true, true, true, true, false, false, false, false, false, false, false]) 33 rfl (by kernel_rfl) rfl rfl (np_then (np_block (np_then (np_loop (np_block (np_then np_post)))))) (hs_pick (is := []) rfl rfl) rfl rfl rfl ?_
            refine h_off (t := 57) (l' := #[true, true, true, true, true, true, true, true, true, true, true, true, true, true, true, true, true, true, true, true, true, true, true, true, true, true, true, true, true, true, true, true, true, true, true, false, false, false, false, false, false]) 34 rfl (by kernel_rfl) rfl rfl (np_then (np_block (np_then (np_loop (np_block (np_then np_post)))))) (hs_pick (is := []) rfl rfl) rfl rfl rfl ?_
            refine h_off (t := 57) (l' := #[true, true, true, true, true, true, true, true, true, true, true, true, true, true, true, true, true, true, true, true, true, true, true, true, true, true, true, true, true, true, true, true, true, true, true, true, false, false, false, false, false]) 35 rfl (by kernel_rfl) rfl rfl (np_then (np_block (np_then (np_loop (np_block (np_then np_post)))))) (hs_pick (is := []) rfl rfl) rfl rfl rfl ?_
            refine h_off (t := 57) (l' := #[true, true, true, true, true, true, true, true, true, true, true, true, true, true, true, true, true, true, true, true, true, true, true, true, true, true, true, true, true, true, true, true, true, true, true, true, true, false, false, false, false]) 36 rfl (by kernel_rfl) rfl rfl (np_then (np_block (np_then (np_loop (np_block (np_then np_post)))))) (hs_pick (is := []) rfl rfl) rfl rfl rfl ?_
            refine h_off (t := 57) (l' := #[true, true, true, true, true, true, true, true, true, true, true, true, true, true, true, true, true, true, true, true, true, true, true, true, true, true, true, true, true, true, true, true, true, true, true, true, true, true, false, false, false]) 37 rfl (by kernel_rfl) rfl rfl (np_then (np_block (np_then (np_loop (np_block (np_then np_post)))))) (hs_pick (is := []) rfl rfl) rfl rfl rfl ?_
            refine h_off (t := 57) (l' := #[true, true, true, true, true, true, true, true, true, true, true, true, true, true, true, true, true, true, true, true, true, true, true, true, true, true, true, true, true, true, true, true, true, true, true, true, true, true, true, false, false]) 38 rfl (by kernel_rfl) rfl rfl (np_then (np_block (np_then (np_loop (np_block (np_then np_post)))))) (hs_pick (is := []) rfl rfl) rfl rfl rfl ?_
            refine h_takeg (t := 45) (l' := #[true, true, true, true, true, true, true, true, true, true, true, true, true, true, true, true, true, true, true, true, true, true, true, true, true, true, true, true, true, true, true, true, true, true, true, true, true, true, true, true, false]) 39 rfl (by kernel_rfl) rfl rfl (np_then (np_block (np_then (np_loop (np_block (np_then np_post)))))) (hs_pick (is := []) rfl rfl) rfl rfl (y_pick_f rfl rfl) ?_
            refine h_take (l' := #[true, true, true, true, true, true, true, true, true, true, true, true, true, true, true, true, true, true, true, true, true, true, true, true, true, true, true, true, true, true, true, true, true, true, true, true, true, true, true, true, true]) 40 rfl (by kernel_rfl) rfl rfl (np_then (np_block (np_then (np_loop (np_block (np_then np_post)))))) (hs_pick (is := []) rfl rfl) (y_pick_f rfl rfl) ?_
            refine h_done (by kernel_rfl) ?_
            refine q_then ?_
            refine c_cond_f rfl ?_
            refine c_skip ?_
            refine q_block (q_then ?_)
            refine c_region rfl ?_
            refine gv rfl (y_move rfl) ?_
            refine gv rfl (y_add rfl rfl (wrap_in (by omega) (by omega))) ?_
            refine gv rfl (y_assign rfl) ?_
            refine l_nil ?_
            exact again (s + 1, p, m + 1) ⟨Nat.succ_le_of_lt hlt, by dsimp only; rw [atT_stay hv hq (by omega) (by rw [← hI]; exact hu) (by unfold uLt; omega)]; exact hI, by dsimp only; rw [idxT_yes hv hq, List.length_append, hm0]; rfl⟩ (by omega) (sub_cons rfl (sub_cons rfl (sub_cons rfl sub_nil))) (sub_cons rfl (sub_cons rfl (sub_cons rfl sub_nil))) (hs_pick (is := []) rfl rfl)
  · intro h14
    refine c_exit ?_
    refine q_then_exit (q_loop_exit (q_block_exit (q_then ?_)))
    refine c_seq ?_
    refine c_region rfl ?_
    refine gv rfl (y_move rfl) ?_
    refine gv rfl (y_move rfl) ?_
    refine gv rfl (y_assign rfl) ?_
    refine gv rfl (y_assign rfl) ?_
    refine l_nil ?_
    refine q_then ?_
    refine c_ret ?_
    have e : s = l.length := by omega
    exact q_ret2 Tryz.results41 rfl rfl () trivial (by rw [hI, hm0, e]; rfl) hs_nil

theorem withoutAt_c {l : List Ck} {p : Int} {A : Option Addr} {k : Nat} (w : World) (hA : Sl Ck.cells 13 w A l) (hlen : l.length ≤ 1073741824) (hcap : l.length ≤ k) (h0 : 0 ≤ p) (h1 : p < l.length) : Ct Tryz.prog 42 #[.slice A l.length k, .int .i64 p] w (fun x : Option Addr × Nat => .slice x.1 (l.eraseIdx p.toNat).length x.2) (fun x => [.row (.slice x.1 (l.eraseIdx p.toNat).length x.2) 26 13 (l.eraseIdx p.toNat).length ((l.eraseIdx p.toNat).flatMap Ck.cells)]) (fun _ => True) := by
  refine enter (E := [(0, .slice A l.length k), (1, .int .i64 p)]) Tryz.func42 rfl Tryz.ntmps42 rfl (by simp) ?_
  obtain ⟨v0, hv0⟩ := get_lt (l := l) (i := 0) (by omega)
  obtain ⟨ad, rfl, _⟩ := hA 0 v0 hv0
  have hlt := List.length_take_le p.toNat l
  have hld : (l.drop (p + 1).toNat).length ≤ l.length := by rw [List.length_drop]; omega
  refine c_seq ?_
  refine c_region rfl ?_
  refine gv rfl (y_assign rfl) ?_
  refine l_nil ?_
  refine q_then ?_
  refine c_seq ?_
  refine c_drawp (l := #[false, false, false, false, false, false, false, false, false, false, false]) 11 (is := []) rfl rfl rfl rfl ?_
  refine h_take (l' := #[false, true, false, false, false, false, false, false, false, false, false]) 1 rfl (by kernel_rfl) rfl rfl (np_then np_post) (hs_pick (is := []) rfl rfl) (y_move rfl) ?_
  refine h_take (l' := #[false, true, true, false, false, false, false, false, false, false, false]) 2 rfl (by kernel_rfl) rfl rfl (np_then np_post) (hs_pick (is := []) rfl rfl) (y_move rfl) ?_
  refine h_take (l' := #[false, true, true, true, false, false, false, false, false, false, false]) 3 rfl (by kernel_rfl) rfl rfl (np_then np_post) (hs_pick (is := []) rfl rfl) (y_slinTo elem22 size26 rfl rfl h0 (by omega) hcap) ?_
  refine h_take (l' := #[false, true, true, true, false, true, false, false, false, false, false]) 5 rfl (by kernel_rfl) rfl rfl (np_then np_post) (hs_pick (is := []) rfl rfl) (y_move rfl) ?_
  refine h_take (l' := #[false, true, true, true, false, true, true, false, false, false, false]) 6 rfl (by kernel_rfl) rfl rfl (np_then np_post) (hs_pick (is := []) rfl rfl) (y_move rfl) ?_
  refine h_take (l' := #[false, true, true, true, false, true, true, true, false, false, false]) 7 rfl (by kernel_rfl) rfl rfl (np_then np_post) (hs_pick (is := []) rfl rfl) (y_add rfl rfl (wrap_in (by omega) (by omega))) ?_
  refine h_take (l' := #[false, true, true, true, false, true, true, true, true, false, false]) 8 rfl (by kernel_rfl) rfl rfl (np_then np_post) (hs_pick (is := []) rfl rfl) (y_slinFrom elem22 size26 rfl rfl (by omega) (by omega) hcap) ?_
  refine h_only (l' := #[true, true, true, true, false, true, true, true, true, false, false]) 0 rfl (by kernel_rfl) rfl ?_
  refine l_bslice0 13 rfl elem22 size26 ?_; intro g5
  refine l_nil ?_
  refine q_step (fun _ => hs_pick (is := []) rfl rfl) ?_
  refine h_only (l' := #[true, true, true, true, true, true, true, true, true, false, false]) 4 rfl (by kernel_rfl) rfl ?_
  refine l_append_old (k := 0) (zs := (l.take p.toNat).flatMap Ck.cells) rfl elem22 ap26 (Sl.take hA) (fun _ => rfl) rfl rfl rfl (fun _ => rfl) (by omega) (by omega) (by simp) ?_; intro A9 c9
  refine l_nil ?_
  refine q_step (fun _ => hs_pick (is := []) rfl rfl) ?_
  refine h_only (l' := #[true, true, true, true, true, true, true, true, true, true, false]) 9 rfl (by kernel_rfl) rfl ?_
  refine l_append_old (k := 0) (zs := (l.eraseIdx p.toNat).flatMap Ck.cells) rfl elem22 ap26 (Sl.drop hA hcap) (fun _ => rfl) rfl rfl rfl (fun _ => rfl) (by omega) (by omega) (by rw [← List.flatMap_append, List.eraseIdx_eq_take_drop_succ, show (p + 1).toNat = p.toNat + 1 by omega]) ?_; intro A14 c14
  refine l_nil ?_
  refine q_step (fun _ => hs_pick (is := []) rfl rfl) ?_
  refine h_take (l' := #[true, true, true, true, true, true, true, true, true, true, true]) 10 rfl (by kernel_rfl) rfl rfl (np_then np_post) (hs_pick (is := []) rfl rfl) (y_assign rfl) ?_
  refine h_done (by kernel_rfl) ?_
  refine q_then ?_
  refine c_ret ?_
  have eL : 0 + (l.take p.toNat).length + (l.drop (p + 1).toNat).length = (l.eraseIdx p.toNat).length := by rw [List.length_take, List.length_drop, List.length_eraseIdx_of_lt (by omega)]; omega
  exact q_ret1 Tryz.results42 rfl (A14, c14) trivial (by rw [eL]) (by rw [← eL]; exact hs_pick (is := [0]) rfl rfl)

end Go.Gx
