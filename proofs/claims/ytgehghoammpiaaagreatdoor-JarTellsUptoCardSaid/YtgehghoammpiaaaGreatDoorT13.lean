/- This text proves: functions of the program, walked: what each answers, for every input. No condition beyond those that each theorem names. -/
import Derived.Test.YtgehghoammpiaaaGreatDoorProg
import Derived.Test.YtgehghoammpiaaaGreatDoorTStr
import Derived.Test.YtgehghoammpiaaaGreatDoorT12
import Derived.Test.YtgehghoammpiaaaGreatDoorGz3
import Derived.KernelRfl
namespace Go.Gx
open Go.Proofs Go.Maps

theorem jarOnly_c {ad : List UInt8 → Bool} {j : Ja} {f : Fr} {now p : Int} {A0 : Option Addr} {k0 : Nat} (w : World) (hAd : AddrIs Tryz.prog 107 w ad) (had : ad wsh = false) (hJ : Sl Ck.cells 13 w A0 j.cks) (hj : j.ok) (hk0 : A0 = none → k0 = 0) (hf : f.host.length ≤ 1073741824) : Cv Tryz.prog 8 #[.agg (j.arr A0 k0), .agg f.arr, .int .i64 now, .int .i64 p] w (.bool true) := by
  refine enter (E := [(0, .agg (j.arr A0 k0)), (1, .agg f.arr), (2, .int .i64 now), (3, .int .i64 p)]) Tryz.func8 rfl Tryz.ntmps8 rfl (by simp) ?_
  have hok := getJ_ok (ad := ad) (f := f) (now := now) hj
  have hjl := hj.1
  have hol := hok.1
  refine c_seq ?_
  refine c_region rfl ?_
  refine l_boxA rfl rfl ?_; intro g4
  refine l_boxA rfl rfl ?_; intro g5
  refine gv rfl (y_assign rfl) ?_
  refine l_nil ?_
  refine q_then ?_
  refine c_seq ?_
  refine c_region rfl ?_
  refine gv rfl (y_loadW (k := 1)  agg24 rfl rfl rfl) ?_
  refine gv rfl (y_loadW (k := 0)  agg35 rfl rfl rfl) ?_
  refine gv rfl (y_move rfl) ?_
  refine l_call rfl ent16 rfl (fun w hm => get_c (j := j) (f := f) w (hAd.above hm.below) (hJ.below hm.below) hj hk0 hf) ?_; rintro x22 h22
  refine gv rfl (y_move rfl) ?_
  refine gv rfl (y_extract rfl rfl) ?_
  refine gv rfl (y_extract rfl rfl) ?_
  refine gv rfl (y_extract rfl rfl) ?_
  refine l_allocA rfl zero24 ?_; intro g9
  refine l_storeW (k := 0) (H' := [_, _, _, _, _]) size24 rfl rfl rfl rfl rfl rfl rfl ?_
  refine gv rfl (y_assign rfl) ?_
  refine gv rfl (y_assign rfl) ?_
  refine l_nil ?_
  refine q_then ?_
  refine c_seq ?_
  refine c_seq ?_
  refine c_region rfl ?_
  refine l_callU rfl ent12 rfl (fun w hm => jarBegun_c w (hAd.above hm.below) had) ?_
  refine gv rfl (y_not rfl rfl) ?_
  refine l_nil ?_
  refine q_then ?_
  refine c_cond_f rfl ?_
  refine c_skip ?_
  refine q_then ?_
  refine c_seq ?_
  refine c_seq ?_
  refine c_region rfl ?_
  refine gv rfl (y_move rfl) ?_
  refine gv rfl (y_neq rfl rfl) ?_
  refine l_nil ?_
  refine q_then ?_
  refine c_dec rfl ?_ ?_
  · intro h29
    obtain ⟨hb1, hb2⟩ := get_bad (ad := ad) h29
    refine c_seq ?_
    refine c_region rfl ?_
    refine gv rfl (y_loadW (k := 0)  agg24 rfl rfl rfl) ?_
    refine gv rfl (y_build (cs := #[_, _]) (cl := [_, _])  zero24 bld24 rfl rfl rfl rfl rfl) ?_
    refine l_callU rfl ent15 rfl (fun w hm => sameJa_c (j := (getJ ad j f now)) (h := ⟨[], 0⟩) w (sl_of_row hm (k := 1) rfl (fun _ => rfl) rfl) (fun i x h => by simp at h) hok.1) ?_
    refine gv rfl (y_move rfl) ?_
    refine g_bool (t := 33) rfl ?_ ?_
    · intro h33
      refine g_on (t := 33) rfl rfl ?_
      refine gv rfl (y_move rfl) ?_
      refine g_on (t := 33) rfl rfl ?_
      refine gv rfl (y_len elem22 rfl) ?_
      refine g_on (t := 33) rfl rfl ?_
      refine gv rfl (y_eql rfl rfl) ?_
      refine gv rfl (y_pick_t rfl rfl) ?_
      refine gv rfl (y_assign rfl) ?_
      refine l_nil ?_
      refine q_then ?_
      refine c_ret ?_
      refine q_then_ret ?_
      exact q_ret1 Tryz.results8 rfl () trivial (congrArg Value.bool (by rw [hb2]; rfl)) hs_nil
    · intro h33
      rw [hb1] at h33; simp at h33
  · intro h29
    have hz : getE j f now = 0 := Decidable.not_not.1 h29
    obtain ⟨ha1, ha2, ha3⟩ := get_again (ad := ad) hz
    have hgl : (getL ad j f now).length ≤ 1073741824 := by rw [(getE_ok (ad := ad) hz).2.2.2]; have h1 := toldL_len (ad := ad) (f := f) (now := now) j.cks; unfold sortC; rw [sortL_len]; omega
    refine c_skip ?_
    refine q_then ?_
    refine c_seq ?_
    refine c_region rfl ?_
    refine gv rfl (y_loadW (k := 0)  agg24 rfl rfl rfl) ?_
    refine gv rfl (y_loadW (k := 3)  agg35 rfl rfl rfl) ?_
    refine gv rfl (y_move rfl) ?_
    refine l_call rfl ent16 rfl (fun w hm => get_c (j := (getJ ad j f now)) (f := f) w (hAd.above hm.below) (sl_of_row hm (k := 1) rfl (fun _ => rfl) rfl) hok (fun h => row_nilcap hm (k := 1) rfl h) hf) ?_; rintro x42 h42
    rw [ha2, ha3, ha1]
    refine gv rfl (y_move rfl) ?_
    refine gv rfl (y_extract rfl rfl) ?_
    refine gv rfl (y_extract rfl rfl) ?_
    refine gv rfl (y_extract rfl rfl) ?_
    refine l_allocA rfl zero24 ?_; intro g12
    refine l_storeW (k := 0) (H' := [_, _, _, _, _, _, _, _]) size24 rfl rfl rfl rfl rfl rfl rfl ?_
    refine gv rfl (y_assign rfl) ?_
    refine gv rfl (y_assign rfl) ?_
    refine l_nil ?_
    refine q_then ?_
    refine c_seq ?_
    refine c_seq ?_
    refine c_region rfl ?_
    refine gv rfl (y_move rfl) ?_
    refine gv rfl (y_neq rfl rfl) ?_
    refine gv rfl (y_move rfl) ?_
    refine g_dec (t := 48) rfl ?_ ?_
    · intro h48
      exact absurd rfl h48
    · intro h48
      refine g_on (t := 48) rfl rfl ?_
      refine gv rfl (y_loadW (k := 3)  agg24 rfl rfl rfl) ?_
      refine g_on (t := 48) rfl rfl ?_
      refine gv rfl (y_loadW (k := 0)  agg24 rfl rfl rfl) ?_
      refine g_on (t := 48) rfl rfl ?_
      refine l_callU rfl ent15 rfl (fun w hm => sameJa_c (j := (getJ ad j f now)) (h := (getJ ad j f now)) w (sl_of_row hm (k := 4) rfl (fun _ => rfl) rfl) (sl_of_row hm (k := 1) rfl (fun _ => rfl) rfl) hok.1) ?_
      refine g_on (t := 48) rfl rfl ?_
      refine gv rfl (y_not rfl rfl) ?_
      refine gv rfl (y_pick_f rfl rfl) ?_
      refine gv rfl (y_move rfl) ?_
      refine g_bool (t := 54) rfl ?_ ?_
      · intro h54
        simp at h54
      · intro h54
        refine g_on (t := 54) rfl rfl ?_
        refine gv rfl (y_move rfl) ?_
        refine g_on (t := 54) rfl rfl ?_
        refine gv rfl (y_move rfl) ?_
        refine g_on (t := 54) rfl rfl ?_
        refine l_callU rfl ent18 rfl (fun w hm => sameCks_c (l := (getL ad j f now)) (m := (getL ad j f now)) w (sl_of_row hm (k := 5) rfl (fun _ => rfl) rfl) (sl_of_row hm (k := 2) rfl (fun _ => rfl) rfl) (Nat.le_trans hgl (by decide))) ?_
        refine g_on (t := 54) rfl rfl ?_
        refine gv rfl (y_not rfl rfl) ?_
        refine gv rfl (y_pick_f rfl rfl) ?_
        refine gv rfl (y_move rfl) ?_
        refine g_ndec (t := 60) rfl ?_ ?_
        · intro h60
          exact absurd rfl h60
        · intro h60
          refine g_on (t := 60) rfl rfl ?_
          refine gv rfl (y_faddr off24_0 rfl rfl) ?_
          refine g_on (t := 60) rfl rfl ?_
          refine gv rfl (y_load (k := 3)  one22 rfl rfl rfl) ?_
          refine g_on (t := 60) rfl rfl ?_
          refine gv rfl (y_len elem22 rfl) ?_
          refine g_on (t := 60) rfl rfl ?_
          refine gv rfl (y_faddr off24_0 rfl rfl) ?_
          refine g_on (t := 60) rfl rfl ?_
          refine gv rfl (y_load (k := 7)  one22 rfl rfl rfl) ?_
          refine g_on (t := 60) rfl rfl ?_
          refine gv rfl (y_len elem22 rfl) ?_
          refine g_on (t := 60) rfl rfl ?_
          refine gv rfl (y_neq rfl rfl) ?_
          refine gv rfl (y_pick_f rfl rfl) ?_
          refine gv rfl (y_move rfl) ?_
          refine g_dec (t := 69) rfl ?_ ?_
          · intro h69
            exact (h69 (by rw [get_len (ad := ad) hz])).elim
          · intro h69
            refine g_on (t := 69) rfl rfl ?_
            refine gv rfl (y_loadW (k := 3)  agg24 rfl rfl rfl) ?_
            refine g_on (t := 69) rfl rfl ?_
            refine l_callU rfl ent13 rfl (fun w hm => jarCheck_c (j := (getJ ad j f now)) w (sl_of_row hm (k := 4) rfl (fun _ => rfl) rfl) hok) ?_
            rw [getJ_right hz]
            refine g_on (t := 69) rfl rfl ?_
            refine gv rfl (y_neq rfl rfl) ?_
            refine gv rfl (y_pick_f rfl rfl) ?_
            refine l_nil ?_
            refine q_then ?_
            refine c_dec rfl ?_ ?_
            · intro h73
              exact absurd rfl h73
            · intro h73
              refine c_skip ?_
              refine q_then ?_
              refine c_seq ?_
              refine c_seq ?_
              refine c_region rfl ?_
              refine gv rfl (y_move rfl) ?_
              refine gv rfl (y_lss rfl rfl) ?_
              refine gv rfl (y_move rfl) ?_
              refine g_dec (t := 76) rfl ?_ ?_
              · intro h76
                refine g_off (t := 76) rfl rfl rfl rfl ?_
                refine g_off (t := 76) rfl rfl rfl rfl ?_
                refine g_off (t := 76) rfl rfl rfl rfl ?_
                refine g_off (t := 76) rfl rfl rfl rfl ?_
                refine g_off (t := 76) rfl rfl rfl rfl ?_
                refine gv rfl (y_pick_t rfl rfl) ?_
                refine l_nil ?_
                refine q_then ?_
                refine c_cond_t rfl ?_
                refine c_seq ?_
                refine c_region rfl ?_
                refine gv rfl (y_assign rfl) ?_
                refine l_nil ?_
                refine q_then ?_
                refine c_ret ?_
                refine q_then_ret ?_
                exact q_ret1 Tryz.results8 rfl () trivial rfl hs_nil
              · intro h76
                refine g_on (t := 76) rfl rfl ?_
                refine gv rfl (y_move rfl) ?_
                refine g_on (t := 76) rfl rfl ?_
                refine gv rfl (y_faddr off24_0 rfl rfl) ?_
                refine g_on (t := 76) rfl rfl ?_
                refine gv rfl (y_load (k := 7)  one22 rfl rfl rfl) ?_
                refine g_on (t := 76) rfl rfl ?_
                refine gv rfl (y_len elem22 rfl) ?_
                refine g_on (t := 76) rfl rfl ?_
                refine gv rfl (y_geq rfl rfl) ?_
                refine gv rfl (y_pick_f rfl rfl) ?_
                refine l_nil ?_
                refine q_then ?_
                refine c_dec rfl ?_ ?_
                · intro h82
                  refine c_seq ?_
                  refine c_region rfl ?_
                  refine gv rfl (y_assign rfl) ?_
                  refine l_nil ?_
                  refine q_then ?_
                  refine c_ret ?_
                  refine q_then_ret ?_
                  exact q_ret1 Tryz.results8 rfl () trivial rfl hs_nil
                · intro h82
                  obtain ⟨vx, hvx⟩ := get_lt (l := j.cks) (i := p.toNat) (by omega)
                  have hvu := get_at (ad := ad) hz hvx
                  have hgn := get_len (ad := ad) hz
                  refine c_skip ?_
                  refine q_then ?_
                  refine c_seq ?_
                  refine c_region rfl ?_
                  refine gv rfl (y_assign rfl) ?_
                  refine l_nil ?_
                  refine q_then ?_
                  refine c_seq ?_
                  refine c_seq ?_
                  refine c_region rfl ?_
                  refine gv rfl (y_assign rfl) ?_
                  refine l_nil ?_
                  refine q_then ?_
                  refine c_block ?_
                  refine loop (Ef := [(2, _), (3, _), (4, _), (5, _), (9, _), (10, _)]) (Hf := [_, _, _, _, _, _, _, _]) (fun x : Nat × Bool => x.1 ≤ (getL ad j f now).length ∧ x.2 = ((getL ad j f now).take x.1).any (fun y => keyEq y vx)) (fun x : Nat × Bool => [(16, .int .i64 (x.1 : Int)), (15, .bool x.2)]) (fun x : Nat × Bool => []) (fun x : Nat × Bool => (getL ad j f now).length - x.1) (0, false) ⟨Nat.zero_le _, rfl⟩ (sub_cons rfl (sub_cons rfl sub_nil)) (sub_cons rfl (sub_cons rfl (sub_cons rfl (sub_cons rfl (sub_cons rfl (sub_cons rfl sub_nil)))))) (hs_pick (is := [0, 1, 2, 3, 4, 5, 6, 7]) rfl rfl) ?_
                  rintro ⟨s, b⟩ ⟨hs, hI⟩
                  dsimp only at hs hI ⊢
                  refine c_sub (E' := [(16, _), (15, _), (2, _), (3, _), (4, _), (5, _), (9, _), (10, _)]) (sub_cons rfl (sub_cons rfl (sub_cons rfl (sub_cons rfl (sub_cons rfl (sub_cons rfl (sub_cons rfl (sub_cons rfl sub_nil)))))))) ?_
                  refine c_seq ?_
                  refine c_seq ?_
                  refine c_region rfl ?_
                  refine gv rfl (y_move rfl) ?_
                  refine gv rfl (y_move rfl) ?_
                  refine gv rfl (y_len elem22 rfl) ?_
                  refine gv rfl (y_lss rfl rfl) ?_
                  refine l_nil ?_
                  refine q_then ?_
                  refine c_dec rfl ?_ ?_
                  · intro h86
                    have hlt : s < (getL ad j f now).length := by omega
                    obtain ⟨v, hv⟩ := get_lt hlt
                    refine c_skip ?_
                    refine q_then ?_
                    refine c_seq ?_
                    refine c_block ?_
                    refine c_drawp (l := #[false, false, false, false, false, false, false, false, false, false, false, false, false, false]) 14 (is := [0, 1, 2, 3, 4, 5, 6, 7]) rfl rfl rfl rfl ?_
                    refine h_take (l' := #[true, false, false, false, false, false, false, false, false, false, false, false, false, false]) 0 rfl (by kernel_rfl) rfl rfl (np_block (np_then (np_loop (np_block (np_then np_post))))) (hs_pick (is := [0, 1, 2, 3, 4, 5, 6, 7]) rfl rfl) (y_move rfl) ?_
                    refine h_take (l' := #[true, true, false, false, false, false, false, false, false, false, false, false, false, false]) 1 rfl (by kernel_rfl) rfl rfl (np_block (np_then (np_loop (np_block (np_then np_post))))) (hs_pick (is := [0, 1, 2, 3, 4, 5, 6, 7]) rfl rfl) (y_move rfl) ?_
                    refine h_bool (t := 90) rfl ?_ ?_
                    · intro h90
                      refine h_off (t := 90) (l' := #[true, true, true, false, false, false, false, false, false, false, false, false, false, false]) 2 rfl (by kernel_rfl) rfl rfl (np_block (np_then (np_loop (np_block (np_then np_post))))) (hs_pick (is := [0, 1, 2, 3, 4, 5, 6, 7]) rfl rfl) rfl rfl rfl ?_
                      refine h_off (t := 90) (l' := #[true, true, true, true, false, false, false, false, false, false, false, false, false, false]) 3 rfl (by kernel_rfl) rfl rfl (np_block (np_then (np_loop (np_block (np_then np_post))))) (hs_pick (is := [0, 1, 2, 3, 4, 5, 6, 7]) rfl rfl) rfl rfl rfl ?_
                      refine h_off (t := 90) (l' := #[true, true, true, true, true, false, false, false, false, false, false, false, false, false]) 4 rfl (by kernel_rfl) rfl rfl (np_block (np_then (np_loop (np_block (np_then np_post))))) (hs_pick (is := [0, 1, 2, 3, 4, 5, 6, 7]) rfl rfl) rfl rfl rfl ?_
                      refine h_off (t := 90) (l' := #[true, true, true, true, true, true, false, false, false, false, false, false, false, false]) 5 rfl (by kernel_rfl) rfl rfl (np_block (np_then (np_loop (np_block (np_then np_post))))) (hs_pick (is := [0, 1, 2, 3, 4, 5, 6, 7]) rfl rfl) rfl rfl rfl ?_
                      refine h_off (t := 90) (l' := #[true, true, true, true, true, true, true, false, false, false, false, false, false, false]) 6 rfl (by kernel_rfl) rfl rfl (np_block (np_then (np_loop (np_block (np_then np_post))))) (hs_pick (is := [0, 1, 2, 3, 4, 5, 6, 7]) rfl rfl) rfl rfl rfl ?_
                      refine h_off (t := 90) (l' := #[true, true, true, true, true, true, true, true, false, false, false, false, false, false]) 7 rfl (by kernel_rfl) rfl rfl (np_block (np_then (np_loop (np_block (np_then np_post))))) (hs_pick (is := [0, 1, 2, 3, 4, 5, 6, 7]) rfl rfl) rfl rfl rfl ?_
                      refine h_off (t := 90) (l' := #[true, true, true, true, true, true, true, true, true, false, false, false, false, false]) 8 rfl (by kernel_rfl) rfl rfl (np_block (np_then (np_loop (np_block (np_then np_post))))) (hs_pick (is := [0, 1, 2, 3, 4, 5, 6, 7]) rfl rfl) rfl rfl rfl ?_
                      refine h_off (t := 90) (l' := #[true, true, true, true, true, true, true, true, true, true, false, false, false, false]) 9 rfl (by kernel_rfl) rfl rfl (np_block (np_then (np_loop (np_block (np_then np_post))))) (hs_pick (is := [0, 1, 2, 3, 4, 5, 6, 7]) rfl rfl) rfl rfl rfl ?_
                      refine h_off (t := 90) (l' := #[true, true, true, true, true, true, true, true, true, true, true, false, false, false]) 10 rfl (by kernel_rfl) rfl rfl (np_block (np_then (np_loop (np_block (np_then np_post))))) (hs_pick (is := [0, 1, 2, 3, 4, 5, 6, 7]) rfl rfl) rfl rfl rfl ?_
                      refine h_only (l' := #[true, true, true, true, true, true, true, true, true, true, true, true, false, false]) 11 rfl (by kernel_rfl) rfl ?_
                      refine g_off (t := 90) rfl rfl rfl rfl ?_
                      refine l_nil ?_
                      refine q_step (fun _ => hs_pick (is := [0, 1, 2, 3, 4, 5, 6, 7]) rfl rfl) ?_
                      refine h_take (l' := #[true, true, true, true, true, true, true, true, true, true, true, true, true, false]) 12 rfl (by kernel_rfl) rfl rfl (np_block (np_then (np_loop (np_block (np_then np_post))))) (hs_pick (is := [0, 1, 2, 3, 4, 5, 6, 7]) rfl rfl) (y_pick_t rfl rfl) ?_
                      refine h_take (l' := #[true, true, true, true, true, true, true, true, true, true, true, true, true, true]) 13 rfl (by kernel_rfl) rfl rfl (np_block (np_then (np_loop (np_block (np_then np_post))))) (hs_pick (is := [0, 1, 2, 3, 4, 5, 6, 7]) rfl rfl) (y_assign rfl) ?_
                      refine h_done (by kernel_rfl) ?_
                      refine q_block (q_then ?_)
                      refine c_region rfl ?_
                      refine gv rfl (y_move rfl) ?_
                      refine gv rfl (y_add rfl rfl (wrap_in (by omega) (by omega))) ?_
                      refine gv rfl (y_assign rfl) ?_
                      refine l_nil ?_
                      exact again (s + 1, true) ⟨Nat.succ_le_of_lt hlt, by dsimp only; rw [take_snoc hv, List.any_append, ← hI, h90]; simp⟩ (by omega) (sub_cons rfl (sub_cons rfl sub_nil)) (sub_cons rfl (sub_cons rfl (sub_cons rfl (sub_cons rfl (sub_cons rfl (sub_cons rfl sub_nil)))))) (hs_pick (is := [0, 1, 2, 3, 4, 5, 6, 7]) rfl rfl)
                    · intro h90
                      refine h_takeg (t := 90) (l' := #[true, true, true, false, false, false, false, false, false, false, false, false, false, false]) 2 rfl (by kernel_rfl) rfl rfl (np_block (np_then (np_loop (np_block (np_then np_post))))) (hs_pick (is := [0, 1, 2, 3, 4, 5, 6, 7]) rfl rfl) rfl rfl (y_move rfl) ?_
                      refine h_takeg (t := 90) (l' := #[true, true, true, true, false, false, false, false, false, false, false, false, false, false]) 3 rfl (by kernel_rfl) rfl rfl (np_block (np_then (np_loop (np_block (np_then np_post))))) (hs_pick (is := [0, 1, 2, 3, 4, 5, 6, 7]) rfl rfl) rfl rfl (y_move rfl) ?_
                      refine h_takeg (t := 90) (l' := #[true, true, true, true, true, false, false, false, false, false, false, false, false, false]) 4 rfl (by kernel_rfl) rfl rfl (np_block (np_then (np_loop (np_block (np_then np_post))))) (hs_pick (is := [0, 1, 2, 3, 4, 5, 6, 7]) rfl rfl) rfl rfl (y_iaddr_row (k := 5) elem22 size26 rfl (fun _ => rfl) rfl rfl rfl (by omega) hv) ?_
                      refine h_takeg (t := 90) (l' := #[true, true, true, true, true, true, false, false, false, false, false, false, false, false]) 5 rfl (by kernel_rfl) rfl rfl (np_block (np_then (np_loop (np_block (np_then np_post))))) (hs_pick (is := [0, 1, 2, 3, 4, 5, 6, 7]) rfl rfl) rfl rfl (y_loadA_row (k := 5) agg26 rfl (fun _ => rfl) rfl rfl rfl hv rfl) ?_
                      refine h_takeg (t := 90) (l' := #[true, true, true, true, true, true, true, false, false, false, false, false, false, false]) 6 rfl (by kernel_rfl) rfl rfl (np_block (np_then (np_loop (np_block (np_then np_post))))) (hs_pick (is := [0, 1, 2, 3, 4, 5, 6, 7]) rfl rfl) rfl rfl (y_faddr off24_0 rfl rfl) ?_
                      refine h_takeg (t := 90) (l' := #[true, true, true, true, true, true, true, true, false, false, false, false, false, false]) 7 rfl (by kernel_rfl) rfl rfl (np_block (np_then (np_loop (np_block (np_then np_post))))) (hs_pick (is := [0, 1, 2, 3, 4, 5, 6, 7]) rfl rfl) rfl rfl (y_load (k := 7)  one22 rfl rfl rfl) ?_
                      refine h_takeg (t := 90) (l' := #[true, true, true, true, true, true, true, true, true, false, false, false, false, false]) 8 rfl (by kernel_rfl) rfl rfl (np_block (np_then (np_loop (np_block (np_then np_post))))) (hs_pick (is := [0, 1, 2, 3, 4, 5, 6, 7]) rfl rfl) rfl rfl (y_move rfl) ?_
                      refine h_takege (t := 90) (l' := #[true, true, true, true, true, true, true, true, true, true, false, false, false, false]) 9 rfl (by kernel_rfl) rfl rfl (np_block (np_then (np_loop (np_block (np_then np_post))))) (hs_pick (is := [0, 1, 2, 3, 4, 5, 6, 7]) rfl rfl) rfl rfl (y_iaddr elem22 size26 hJ rfl rfl rfl (by omega) hvx) ?_; rintro _ ⟨p98, rfl, hp98⟩
                      refine h_takeg (t := 90) (l' := #[true, true, true, true, true, true, true, true, true, true, true, false, false, false]) 10 rfl (by kernel_rfl) rfl rfl (np_block (np_then (np_loop (np_block (np_then np_post))))) (hs_pick (is := [0, 1, 2, 3, 4, 5, 6, 7]) rfl rfl) rfl rfl (y_loadA_el agg26 rfl hp98 rfl) ?_
                      refine h_only (l' := #[true, true, true, true, true, true, true, true, true, true, true, true, false, false]) 11 rfl (by kernel_rfl) rfl ?_
                      refine g_on (t := 90) rfl rfl ?_
                      refine l_callU rfl ent21 rfl (fun w hm => sameKey_c (a := v) (b := vx) w) ?_
                      refine l_nil ?_
                      refine q_step (fun _ => hs_pick (is := [0, 1, 2, 3, 4, 5, 6, 7]) rfl rfl) ?_
                      refine h_take (l' := #[true, true, true, true, true, true, true, true, true, true, true, true, true, false]) 12 rfl (by kernel_rfl) rfl rfl (np_block (np_then (np_loop (np_block (np_then np_post))))) (hs_pick (is := [0, 1, 2, 3, 4, 5, 6, 7]) rfl rfl) (y_pick_f rfl rfl) ?_
                      refine h_take (l' := #[true, true, true, true, true, true, true, true, true, true, true, true, true, true]) 13 rfl (by kernel_rfl) rfl rfl (np_block (np_then (np_loop (np_block (np_then np_post))))) (hs_pick (is := [0, 1, 2, 3, 4, 5, 6, 7]) rfl rfl) (y_assign rfl) ?_
                      refine h_done (by kernel_rfl) ?_
                      refine q_block (q_then ?_)
                      refine c_region rfl ?_
                      refine gv rfl (y_move rfl) ?_
                      refine gv rfl (y_add rfl rfl (wrap_in (by omega) (by omega))) ?_
                      refine gv rfl (y_assign rfl) ?_
                      refine l_nil ?_
                      exact again (s + 1, keyEq v vx) ⟨Nat.succ_le_of_lt hlt, by dsimp only; rw [take_snoc hv, List.any_append, ← hI, h90]; simp⟩ (by omega) (sub_cons rfl (sub_cons rfl sub_nil)) (sub_cons rfl (sub_cons rfl (sub_cons rfl (sub_cons rfl (sub_cons rfl (sub_cons rfl sub_nil)))))) (hs_pick (is := [0, 1, 2, 3, 4, 5, 6, 7]) rfl rfl)
                  · intro h86
                    have htold : b = goesF ad f now vx := by rw [hI, List.take_of_length_le (by omega)]; exact get_told hz hvx
                    subst htold
                    refine c_exit ?_
                    refine q_then_exit (q_loop_exit (q_block_exit (q_then ?_)))
                    refine c_seq ?_
                    refine c_region rfl ?_
                    refine gv rfl (y_faddr off24_0 rfl rfl) ?_
                    refine gv rfl (y_load (k := 3)  one22 rfl rfl rfl) ?_
                    refine gv rfl (y_move rfl) ?_
                    refine gv rfl (y_iaddr_row (k := 4) elem22 size26 rfl (fun _ => rfl) rfl rfl rfl (by omega) hvu) ?_
                    refine gv rfl (y_loadA_row (k := 4) agg26 rfl (fun _ => rfl) rfl rfl rfl hvu rfl) ?_
                    refine l_allocA rfl zero26 ?_; intro g17
                    refine l_storeW (k := 0) (H' := [_, _, _, _, _, _, _, _, _]) size26 rfl rfl rfl rfl rfl rfl rfl ?_
                    refine l_nil ?_
                    refine q_then ?_
                    refine c_seq ?_
                    refine c_region rfl ?_
                    refine gv rfl (y_faddr off24_0 rfl rfl) ?_
                    refine gv rfl (y_load (k := 8)  one22 rfl rfl rfl) ?_
                    refine gv rfl (y_move rfl) ?_
                    refine gve rfl (y_iaddr elem22 size26 hJ rfl rfl rfl (by omega) hvx) ?_; rintro _ ⟨p110, rfl, hp110⟩
                    refine gv rfl (y_faddr_p off26_11 rfl) ?_
                    refine gv rfl (y_load_el one3 hp110 rfl rfl) ?_
                    refine gv rfl (y_faddr off26_11 rfl rfl) ?_
                    refine l_store (k := 0) (cs' := ({ usedC ad f now vx with used := vx.used } : Ck).arr) (H' := [_, _, _, _, _, _, _, _, _]) size3 rfl rfl rfl rfl rfl rfl rfl ?_
                    refine l_nil ?_
                    refine q_then ?_
                    refine c_seq ?_
                    refine c_drawp (l := #[false, false, false, false, false, false, false, false, false, false, false, false, false, false, false, false, false, false, false, false, false, false, false, false, false, false, false, false, false, false, false, false, false, false, false, false, false, false]) 38 (is := [0, 1, 2, 3, 4, 5, 6, 7, 8]) rfl rfl rfl rfl ?_
                    refine h_take (l' := #[true, false, false, false, false, false, false, false, false, false, false, false, false, false, false, false, false, false, false, false, false, false, false, false, false, false, false, false, false, false, false, false, false, false, false, false, false, false]) 0 rfl (by kernel_rfl) rfl rfl (np_then np_post) (hs_pick (is := [0, 1, 2, 3, 4, 5, 6, 7, 8]) rfl rfl) (y_loadW (k := 0)  agg26 rfl rfl rfl) ?_
                    refine h_take (l' := #[true, true, false, false, false, false, false, false, false, false, false, false, false, false, false, false, false, false, false, false, false, false, false, false, false, false, false, false, false, false, false, false, false, false, false, false, false, false]) 1 rfl (by kernel_rfl) rfl rfl (np_then np_post) (hs_pick (is := [0, 1, 2, 3, 4, 5, 6, 7, 8]) rfl rfl) (y_faddr off24_0 rfl rfl) ?_
                    refine h_take (l' := #[true, true, true, false, false, false, false, false, false, false, false, false, false, false, false, false, false, false, false, false, false, false, false, false, false, false, false, false, false, false, false, false, false, false, false, false, false, false]) 2 rfl (by kernel_rfl) rfl rfl (np_then np_post) (hs_pick (is := [0, 1, 2, 3, 4, 5, 6, 7, 8]) rfl rfl) (y_load (k := 8)  one22 rfl rfl rfl) ?_
                    refine h_take (l' := #[true, true, true, true, false, false, false, false, false, false, false, false, false, false, false, false, false, false, false, false, false, false, false, false, false, false, false, false, false, false, false, false, false, false, false, false, false, false]) 3 rfl (by kernel_rfl) rfl rfl (np_then np_post) (hs_pick (is := [0, 1, 2, 3, 4, 5, 6, 7, 8]) rfl rfl) (y_move rfl) ?_
                    refine h_takee (l' := #[true, true, true, true, true, false, false, false, false, false, false, false, false, false, false, false, false, false, false, false, false, false, false, false, false, false, false, false, false, false, false, false, false, false, false, false, false, false]) 4 rfl (by kernel_rfl) rfl rfl (np_then np_post) (hs_pick (is := [0, 1, 2, 3, 4, 5, 6, 7, 8]) rfl rfl) (y_iaddr elem22 size26 hJ rfl rfl rfl (by omega) hvx) ?_; rintro _ ⟨p118, rfl, hp118⟩
                    refine h_take (l' := #[true, true, true, true, true, true, false, false, false, false, false, false, false, false, false, false, false, false, false, false, false, false, false, false, false, false, false, false, false, false, false, false, false, false, false, false, false, false]) 5 rfl (by kernel_rfl) rfl rfl (np_then np_post) (hs_pick (is := [0, 1, 2, 3, 4, 5, 6, 7, 8]) rfl rfl) (y_loadA_el agg26 rfl hp118 rfl) ?_
                    refine h_take (l' := #[true, true, true, true, true, true, true, false, false, false, false, false, false, false, false, false, false, false, false, false, false, false, false, false, false, false, false, false, false, false, false, false, false, false, false, false, false, false]) 6 rfl (by kernel_rfl) rfl rfl (np_then np_post) (hs_pick (is := [0, 1, 2, 3, 4, 5, 6, 7, 8]) rfl rfl) (y_eqS (flat26 _ _ _ _ _ _ _ _ _ _ _ _ _) rfl rfl (Ck.eqc _ _)) ?_
                    refine h_take (l' := #[true, true, true, true, true, true, true, true, false, false, false, false, false, false, false, false, false, false, false, false, false, false, false, false, false, false, false, false, false, false, false, false, false, false, false, false, false, false]) 7 rfl (by kernel_rfl) rfl rfl (np_then np_post) (hs_pick (is := [0, 1, 2, 3, 4, 5, 6, 7, 8]) rfl rfl) (y_move rfl) ?_
                    refine h_dec (t := 121) rfl ?_ ?_
                    · intro h121
                      refine h_takeg (t := 121) (l' := #[true, true, true, true, true, true, true, true, true, false, false, false, false, false, false, false, false, false, false, false, false, false, false, false, false, false, false, false, false, false, false, false, false, false, false, false, false, false]) 8 rfl (by kernel_rfl) rfl rfl (np_then np_post) (hs_pick (is := [0, 1, 2, 3, 4, 5, 6, 7, 8]) rfl rfl) rfl rfl (y_move rfl) ?_
                      refine h_takeg (t := 121) (l' := #[true, true, true, true, true, true, true, true, true, true, false, false, false, false, false, false, false, false, false, false, false, false, false, false, false, false, false, false, false, false, false, false, false, false, false, false, false, false]) 9 rfl (by kernel_rfl) rfl rfl (np_then np_post) (hs_pick (is := [0, 1, 2, 3, 4, 5, 6, 7, 8]) rfl rfl) rfl rfl (y_faddr off24_0 rfl rfl) ?_
                      refine h_takeg (t := 121) (l' := #[true, true, true, true, true, true, true, true, true, true, true, false, false, false, false, false, false, false, false, false, false, false, false, false, false, false, false, false, false, false, false, false, false, false, false, false, false, false]) 10 rfl (by kernel_rfl) rfl rfl (np_then np_post) (hs_pick (is := [0, 1, 2, 3, 4, 5, 6, 7, 8]) rfl rfl) rfl rfl (y_load (k := 8)  one22 rfl rfl rfl) ?_
                      refine h_takeg (t := 121) (l' := #[true, true, true, true, true, true, true, true, true, true, true, true, false, false, false, false, false, false, false, false, false, false, false, false, false, false, false, false, false, false, false, false, false, false, false, false, false, false]) 11 rfl (by kernel_rfl) rfl rfl (np_then np_post) (hs_pick (is := [0, 1, 2, 3, 4, 5, 6, 7, 8]) rfl rfl) rfl rfl (y_move rfl) ?_
                      refine h_takege (t := 121) (l' := #[true, true, true, true, true, true, true, true, true, true, true, true, true, false, false, false, false, false, false, false, false, false, false, false, false, false, false, false, false, false, false, false, false, false, false, false, false, false]) 12 rfl (by kernel_rfl) rfl rfl (np_then np_post) (hs_pick (is := [0, 1, 2, 3, 4, 5, 6, 7, 8]) rfl rfl) rfl rfl (y_iaddr elem22 size26 hJ rfl rfl rfl (by omega) hvx) ?_; rintro _ ⟨p126, rfl, hp126⟩
                      refine h_takeg (t := 121) (l' := #[true, true, true, true, true, true, true, true, true, true, true, true, true, true, false, false, false, false, false, false, false, false, false, false, false, false, false, false, false, false, false, false, false, false, false, false, false, false]) 13 rfl (by kernel_rfl) rfl rfl (np_then np_post) (hs_pick (is := [0, 1, 2, 3, 4, 5, 6, 7, 8]) rfl rfl) rfl rfl (y_loadA_el agg26 rfl hp126 rfl) ?_
                      refine h_takeg (t := 121) (l' := #[true, true, true, true, true, true, true, true, true, true, true, true, true, true, true, false, false, false, false, false, false, false, false, false, false, false, false, false, false, false, false, false, false, false, false, false, false, false]) 14 rfl (by kernel_rfl) rfl rfl (np_then np_post) (hs_pick (is := [0, 1, 2, 3, 4, 5, 6, 7, 8]) rfl rfl) rfl rfl (y_loadW (k := 7)  agg35 rfl rfl rfl) ?_
                      refine h_takeg (t := 121) (l' := #[true, true, true, true, true, true, true, true, true, true, true, true, true, true, true, true, false, false, false, false, false, false, false, false, false, false, false, false, false, false, false, false, false, false, false, false, false, false]) 15 rfl (by kernel_rfl) rfl rfl (np_then np_post) (hs_pick (is := [0, 1, 2, 3, 4, 5, 6, 7, 8]) rfl rfl) rfl rfl (y_move rfl) ?_
                      refine h_only (l' := #[true, true, true, true, true, true, true, true, true, true, true, true, true, true, true, true, true, false, false, false, false, false, false, false, false, false, false, false, false, false, false, false, false, false, false, false, false, false]) 16 rfl (by kernel_rfl) rfl ?_
                      refine g_on (t := 121) rfl rfl ?_
                      refine l_callU rfl ent22 rfl (fun w hm => goes_c (c := vx) w (hAd.above hm.below) hf (hj.2.1 vx (List.mem_of_getElem? hvx)).2 (hj.2.2 vx (List.mem_of_getElem? hvx)).1) ?_
                      refine l_nil ?_
                      refine q_step (fun _ => hs_pick (is := [0, 1, 2, 3, 4, 5, 6, 7, 8]) rfl rfl) ?_
                      refine h_takeg (t := 121) (l' := #[true, true, true, true, true, true, true, true, true, true, true, true, true, true, true, true, true, true, false, false, false, false, false, false, false, false, false, false, false, false, false, false, false, false, false, false, false, false]) 17 rfl (by kernel_rfl) rfl rfl (np_then np_post) (hs_pick (is := [0, 1, 2, 3, 4, 5, 6, 7, 8]) rfl rfl) rfl rfl (y_beq boolT4 rfl rfl rfl) ?_
                      refine h_take (l' := #[true, true, true, true, true, true, true, true, true, true, true, true, true, true, true, true, true, true, true, false, false, false, false, false, false, false, false, false, false, false, false, false, false, false, false, false, false, false]) 18 rfl (by kernel_rfl) rfl rfl (np_then np_post) (hs_pick (is := [0, 1, 2, 3, 4, 5, 6, 7, 8]) rfl rfl) (y_pick_t rfl rfl) ?_
                      refine h_take (l' := #[true, true, true, true, true, true, true, true, true, true, true, true, true, true, true, true, true, true, true, true, false, false, false, false, false, false, false, false, false, false, false, false, false, false, false, false, false, false]) 19 rfl (by kernel_rfl) rfl rfl (np_then np_post) (hs_pick (is := [0, 1, 2, 3, 4, 5, 6, 7, 8]) rfl rfl) (y_move rfl) ?_
                      refine h_bool (t := 133) rfl ?_ ?_
                      · intro h133
                        refine h_takeg (t := 133) (l' := #[true, true, true, true, true, true, true, true, true, true, true, true, true, true, true, true, true, true, true, true, true, false, false, false, false, false, false, false, false, false, false, false, false, false, false, false, false, false]) 20 rfl (by kernel_rfl) rfl rfl (np_then np_post) (hs_pick (is := [0, 1, 2, 3, 4, 5, 6, 7, 8]) rfl rfl) rfl rfl (y_move rfl) ?_
                        refine h_takeg (t := 133) (l' := #[true, true, true, true, true, true, true, true, true, true, true, true, true, true, true, true, true, true, true, true, true, true, false, false, false, false, false, false, false, false, false, false, false, false, false, false, false, false]) 21 rfl (by kernel_rfl) rfl rfl (np_then np_post) (hs_pick (is := [0, 1, 2, 3, 4, 5, 6, 7, 8]) rfl rfl) rfl rfl (y_move rfl) ?_
                        refine h_bool (t := 135) rfl ?_ ?_
                        · intro h135
                          refine h_off (t := 135) (l' := #[true, true, true, true, true, true, true, true, true, true, true, true, true, true, true, true, true, true, true, true, true, true, true, false, false, false, false, false, false, false, false, false, false, false, false, false, false, false]) 22 rfl (by kernel_rfl) rfl rfl (np_then np_post) (hs_pick (is := [0, 1, 2, 3, 4, 5, 6, 7, 8]) rfl rfl) rfl rfl rfl ?_
                          refine h_off (t := 135) (l' := #[true, true, true, true, true, true, true, true, true, true, true, true, true, true, true, true, true, true, true, true, true, true, true, true, false, false, false, false, false, false, false, false, false, false, false, false, false, false]) 23 rfl (by kernel_rfl) rfl rfl (np_then np_post) (hs_pick (is := [0, 1, 2, 3, 4, 5, 6, 7, 8]) rfl rfl) rfl rfl rfl ?_
                          refine h_off (t := 135) (l' := #[true, true, true, true, true, true, true, true, true, true, true, true, true, true, true, true, true, true, true, true, true, true, true, true, true, false, false, false, false, false, false, false, false, false, false, false, false, false]) 24 rfl (by kernel_rfl) rfl rfl (np_then np_post) (hs_pick (is := [0, 1, 2, 3, 4, 5, 6, 7, 8]) rfl rfl) rfl rfl rfl ?_
                          refine h_off (t := 135) (l' := #[true, true, true, true, true, true, true, true, true, true, true, true, true, true, true, true, true, true, true, true, true, true, true, true, true, true, false, false, false, false, false, false, false, false, false, false, false, false]) 25 rfl (by kernel_rfl) rfl rfl (np_then np_post) (hs_pick (is := [0, 1, 2, 3, 4, 5, 6, 7, 8]) rfl rfl) rfl rfl rfl ?_
                          refine h_off (t := 135) (l' := #[true, true, true, true, true, true, true, true, true, true, true, true, true, true, true, true, true, true, true, true, true, true, true, true, true, true, true, false, false, false, false, false, false, false, false, false, false, false]) 26 rfl (by kernel_rfl) rfl rfl (np_then np_post) (hs_pick (is := [0, 1, 2, 3, 4, 5, 6, 7, 8]) rfl rfl) rfl rfl rfl ?_
                          refine h_off (t := 135) (l' := #[true, true, true, true, true, true, true, true, true, true, true, true, true, true, true, true, true, true, true, true, true, true, true, true, true, true, true, true, false, false, false, false, false, false, false, false, false, false]) 27 rfl (by kernel_rfl) rfl rfl (np_then np_post) (hs_pick (is := [0, 1, 2, 3, 4, 5, 6, 7, 8]) rfl rfl) rfl rfl rfl ?_
                          refine h_off (t := 135) (l' := #[true, true, true, true, true, true, true, true, true, true, true, true, true, true, true, true, true, true, true, true, true, true, true, true, true, true, true, true, true, false, false, false, false, false, false, false, false, false]) 28 rfl (by kernel_rfl) rfl rfl (np_then np_post) (hs_pick (is := [0, 1, 2, 3, 4, 5, 6, 7, 8]) rfl rfl) rfl rfl rfl ?_
                          refine h_off (t := 135) (l' := #[true, true, true, true, true, true, true, true, true, true, true, true, true, true, true, true, true, true, true, true, true, true, true, true, true, true, true, true, true, true, false, false, false, false, false, false, false, false]) 29 rfl (by kernel_rfl) rfl rfl (np_then np_post) (hs_pick (is := [0, 1, 2, 3, 4, 5, 6, 7, 8]) rfl rfl) rfl rfl rfl ?_
                          refine h_off (t := 135) (l' := #[true, true, true, true, true, true, true, true, true, true, true, true, true, true, true, true, true, true, true, true, true, true, true, true, true, true, true, true, true, true, true, false, false, false, false, false, false, false]) 30 rfl (by kernel_rfl) rfl rfl (np_then np_post) (hs_pick (is := [0, 1, 2, 3, 4, 5, 6, 7, 8]) rfl rfl) rfl rfl rfl ?_
                          refine h_off (t := 135) (l' := #[true, true, true, true, true, true, true, true, true, true, true, true, true, true, true, true, true, true, true, true, true, true, true, true, true, true, true, true, true, true, true, true, false, false, false, false, false, false]) 31 rfl (by kernel_rfl) rfl rfl (np_then np_post) (hs_pick (is := [0, 1, 2, 3, 4, 5, 6, 7, 8]) rfl rfl) rfl rfl rfl ?_
                          refine h_off (t := 135) (l' := #[true, true, true, true, true, true, true, true, true, true, true, true, true, true, true, true, true, true, true, true, true, true, true, true, true, true, true, true, true, true, true, true, true, false, false, false, false, false]) 32 rfl (by kernel_rfl) rfl rfl (np_then np_post) (hs_pick (is := [0, 1, 2, 3, 4, 5, 6, 7, 8]) rfl rfl) rfl rfl rfl ?_
                          refine h_off (t := 135) (l' := #[true, true, true, true, true, true, true, true, true, true, true, true, true, true, true, true, true, true, true, true, true, true, true, true, true, true, true, true, true, true, true, true, true, true, false, false, false, false]) 33 rfl (by kernel_rfl) rfl rfl (np_then np_post) (hs_pick (is := [0, 1, 2, 3, 4, 5, 6, 7, 8]) rfl rfl) rfl rfl rfl ?_
                          refine h_off (t := 135) (l' := #[true, true, true, true, true, true, true, true, true, true, true, true, true, true, true, true, true, true, true, true, true, true, true, true, true, true, true, true, true, true, true, true, true, true, true, false, false, false]) 34 rfl (by kernel_rfl) rfl rfl (np_then np_post) (hs_pick (is := [0, 1, 2, 3, 4, 5, 6, 7, 8]) rfl rfl) rfl rfl rfl ?_
                          refine h_takeg (t := 133) (l' := #[true, true, true, true, true, true, true, true, true, true, true, true, true, true, true, true, true, true, true, true, true, true, true, true, true, true, true, true, true, true, true, true, true, true, true, true, false, false]) 35 rfl (by kernel_rfl) rfl rfl (np_then np_post) (hs_pick (is := [0, 1, 2, 3, 4, 5, 6, 7, 8]) rfl rfl) rfl rfl (y_pick_t rfl rfl) ?_
                          refine h_take (l' := #[true, true, true, true, true, true, true, true, true, true, true, true, true, true, true, true, true, true, true, true, true, true, true, true, true, true, true, true, true, true, true, true, true, true, true, true, true, false]) 36 rfl (by kernel_rfl) rfl rfl (np_then np_post) (hs_pick (is := [0, 1, 2, 3, 4, 5, 6, 7, 8]) rfl rfl) (y_pick_t rfl rfl) ?_
                          refine h_take (l' := #[true, true, true, true, true, true, true, true, true, true, true, true, true, true, true, true, true, true, true, true, true, true, true, true, true, true, true, true, true, true, true, true, true, true, true, true, true, true]) 37 rfl (by kernel_rfl) rfl rfl (np_then np_post) (hs_pick (is := [0, 1, 2, 3, 4, 5, 6, 7, 8]) rfl rfl) (y_assign rfl) ?_
                          refine h_done (by kernel_rfl) ?_
                          refine q_then ?_
                          refine c_ret ?_
                          exact q_ret1 Tryz.results8 rfl () trivial rfl hs_nil
                        · intro h135
                          refine h_takeg (t := 135) (l' := #[true, true, true, true, true, true, true, true, true, true, true, true, true, true, true, true, true, true, true, true, true, true, true, false, false, false, false, false, false, false, false, false, false, false, false, false, false, false]) 22 rfl (by kernel_rfl) rfl rfl (np_then np_post) (hs_pick (is := [0, 1, 2, 3, 4, 5, 6, 7, 8]) rfl rfl) rfl rfl (y_faddr off24_0 rfl rfl) ?_
                          refine h_takeg (t := 135) (l' := #[true, true, true, true, true, true, true, true, true, true, true, true, true, true, true, true, true, true, true, true, true, true, true, true, false, false, false, false, false, false, false, false, false, false, false, false, false, false]) 23 rfl (by kernel_rfl) rfl rfl (np_then np_post) (hs_pick (is := [0, 1, 2, 3, 4, 5, 6, 7, 8]) rfl rfl) rfl rfl (y_load (k := 4)  one22 rfl rfl rfl) ?_
                          refine h_takeg (t := 135) (l' := #[true, true, true, true, true, true, true, true, true, true, true, true, true, true, true, true, true, true, true, true, true, true, true, true, true, false, false, false, false, false, false, false, false, false, false, false, false, false]) 24 rfl (by kernel_rfl) rfl rfl (np_then np_post) (hs_pick (is := [0, 1, 2, 3, 4, 5, 6, 7, 8]) rfl rfl) rfl rfl (y_move rfl) ?_
                          refine h_takeg (t := 135) (l' := #[true, true, true, true, true, true, true, true, true, true, true, true, true, true, true, true, true, true, true, true, true, true, true, true, true, true, false, false, false, false, false, false, false, false, false, false, false, false]) 25 rfl (by kernel_rfl) rfl rfl (np_then np_post) (hs_pick (is := [0, 1, 2, 3, 4, 5, 6, 7, 8]) rfl rfl) rfl rfl (y_iaddr_row (k := 5) elem22 size26 rfl (fun _ => rfl) rfl rfl rfl (by omega) hvu) ?_
                          refine h_takeg (t := 135) (l' := #[true, true, true, true, true, true, true, true, true, true, true, true, true, true, true, true, true, true, true, true, true, true, true, true, true, true, true, false, false, false, false, false, false, false, false, false, false, false]) 26 rfl (by kernel_rfl) rfl rfl (np_then np_post) (hs_pick (is := [0, 1, 2, 3, 4, 5, 6, 7, 8]) rfl rfl) rfl rfl (y_faddr_row (k := 5) off26_11 rfl (fun _ => rfl) rfl rfl hvu rfl) ?_
                          refine h_takeg (t := 135) (l' := #[true, true, true, true, true, true, true, true, true, true, true, true, true, true, true, true, true, true, true, true, true, true, true, true, true, true, true, true, false, false, false, false, false, false, false, false, false, false]) 27 rfl (by kernel_rfl) rfl rfl (np_then np_post) (hs_pick (is := [0, 1, 2, 3, 4, 5, 6, 7, 8]) rfl rfl) rfl rfl (y_load_row (k := 5) one3 rfl (fun _ => rfl) rfl 11 rfl rfl hvu rfl) ?_
                          refine h_takeg (t := 135) (l' := #[true, true, true, true, true, true, true, true, true, true, true, true, true, true, true, true, true, true, true, true, true, true, true, true, true, true, true, true, true, false, false, false, false, false, false, false, false, false]) 28 rfl (by kernel_rfl) rfl rfl (np_then np_post) (hs_pick (is := [0, 1, 2, 3, 4, 5, 6, 7, 8]) rfl rfl) rfl rfl (y_faddr off24_0 rfl rfl) ?_
                          refine h_takeg (t := 135) (l' := #[true, true, true, true, true, true, true, true, true, true, true, true, true, true, true, true, true, true, true, true, true, true, true, true, true, true, true, true, true, true, false, false, false, false, false, false, false, false]) 29 rfl (by kernel_rfl) rfl rfl (np_then np_post) (hs_pick (is := [0, 1, 2, 3, 4, 5, 6, 7, 8]) rfl rfl) rfl rfl (y_load (k := 8)  one22 rfl rfl rfl) ?_
                          refine h_takeg (t := 135) (l' := #[true, true, true, true, true, true, true, true, true, true, true, true, true, true, true, true, true, true, true, true, true, true, true, true, true, true, true, true, true, true, true, false, false, false, false, false, false, false]) 30 rfl (by kernel_rfl) rfl rfl (np_then np_post) (hs_pick (is := [0, 1, 2, 3, 4, 5, 6, 7, 8]) rfl rfl) rfl rfl (y_move rfl) ?_
                          refine h_takege (t := 135) (l' := #[true, true, true, true, true, true, true, true, true, true, true, true, true, true, true, true, true, true, true, true, true, true, true, true, true, true, true, true, true, true, true, true, false, false, false, false, false, false]) 31 rfl (by kernel_rfl) rfl rfl (np_then np_post) (hs_pick (is := [0, 1, 2, 3, 4, 5, 6, 7, 8]) rfl rfl) rfl rfl (y_iaddr elem22 size26 hJ rfl rfl rfl (by omega) hvx) ?_; rintro _ ⟨p145, rfl, hp145⟩
                          refine h_takeg (t := 135) (l' := #[true, true, true, true, true, true, true, true, true, true, true, true, true, true, true, true, true, true, true, true, true, true, true, true, true, true, true, true, true, true, true, true, true, false, false, false, false, false]) 32 rfl (by kernel_rfl) rfl rfl (np_then np_post) (hs_pick (is := [0, 1, 2, 3, 4, 5, 6, 7, 8]) rfl rfl) rfl rfl (y_faddr_p off26_11 rfl) ?_
                          refine h_takeg (t := 135) (l' := #[true, true, true, true, true, true, true, true, true, true, true, true, true, true, true, true, true, true, true, true, true, true, true, true, true, true, true, true, true, true, true, true, true, true, false, false, false, false]) 33 rfl (by kernel_rfl) rfl rfl (np_then np_post) (hs_pick (is := [0, 1, 2, 3, 4, 5, 6, 7, 8]) rfl rfl) rfl rfl (y_load_el one3 hp145 rfl rfl) ?_
                          refine h_takeg (t := 135) (l' := #[true, true, true, true, true, true, true, true, true, true, true, true, true, true, true, true, true, true, true, true, true, true, true, true, true, true, true, true, true, true, true, true, true, true, true, false, false, false]) 34 rfl (by kernel_rfl) rfl rfl (np_then np_post) (hs_pick (is := [0, 1, 2, 3, 4, 5, 6, 7, 8]) rfl rfl) rfl rfl (y_eql rfl rfl) ?_
                          refine h_takeg (t := 133) (l' := #[true, true, true, true, true, true, true, true, true, true, true, true, true, true, true, true, true, true, true, true, true, true, true, true, true, true, true, true, true, true, true, true, true, true, true, true, false, false]) 35 rfl (by kernel_rfl) rfl rfl (np_then np_post) (hs_pick (is := [0, 1, 2, 3, 4, 5, 6, 7, 8]) rfl rfl) rfl rfl (y_pick_f rfl rfl) ?_
                          refine h_take (l' := #[true, true, true, true, true, true, true, true, true, true, true, true, true, true, true, true, true, true, true, true, true, true, true, true, true, true, true, true, true, true, true, true, true, true, true, true, true, false]) 36 rfl (by kernel_rfl) rfl rfl (np_then np_post) (hs_pick (is := [0, 1, 2, 3, 4, 5, 6, 7, 8]) rfl rfl) (y_pick_t rfl rfl) ?_
                          refine h_take (l' := #[true, true, true, true, true, true, true, true, true, true, true, true, true, true, true, true, true, true, true, true, true, true, true, true, true, true, true, true, true, true, true, true, true, true, true, true, true, true]) 37 rfl (by kernel_rfl) rfl rfl (np_then np_post) (hs_pick (is := [0, 1, 2, 3, 4, 5, 6, 7, 8]) rfl rfl) (y_assign rfl) ?_
                          refine h_done (by kernel_rfl) ?_
                          refine q_then ?_
                          refine c_ret ?_
                          exact q_ret1 Tryz.results8 rfl () trivial (congrArg Value.bool (decide_eq_true (by rw [usedC_same h135]))) hs_nil
                      · intro h133
                        simp at h133
                    · intro h121
                      exact absurd (usedC_back vx) h121

end Go.Gx
