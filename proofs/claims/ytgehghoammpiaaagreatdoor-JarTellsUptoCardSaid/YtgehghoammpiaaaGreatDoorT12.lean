/- This text proves: functions of the program, walked: what each answers, for every input. No condition beyond those that each theorem names. -/
import Derived.Test.YtgehghoammpiaaaGreatDoorProg
import Derived.Test.YtgehghoammpiaaaGreatDoorTStr
import Derived.Test.YtgehghoammpiaaaGreatDoorT11
import Derived.Test.YtgehghoammpiaaaGreatDoorGz2
import Derived.KernelRfl
namespace Go.Gx
open Go.Proofs Go.Maps

theorem jarEvicts_c {ad : List UInt8 → Bool} {j : Ja} {c : Ck} {now p q : Int} {A0 : Option Addr} {k0 : Nat} (w : World) (hAd : AddrIs Tryz.prog 107 w ad) (had : ad wsh = false) (hJ : Sl Ck.cells 13 w A0 j.cks) (hj : j.ok) (hk0 : A0 = none → k0 = 0) (hc : c.fits) : Cv Tryz.prog 7 #[.agg (j.arr A0 k0), .agg c.arr, .int .i64 now, .int .i64 p, .int .i64 q] w (.bool true) := by
  refine enter (E := [(0, .agg (j.arr A0 k0)), (1, .agg c.arr), (2, .int .i64 now), (3, .int .i64 p), (4, .int .i64 q)]) Tryz.func7 rfl Tryz.ntmps7 rfl (by simp) ?_
  have hok := putJ_ok (now := now) hj hc
  have hjl := hj.1
  have hol := hok.1
  refine c_seq ?_
  refine c_region rfl ?_
  refine l_boxA rfl rfl ?_; intro g5
  refine l_boxA rfl rfl ?_; intro g6
  refine gv rfl (y_assign rfl) ?_
  refine l_nil ?_
  refine q_then ?_
  refine c_seq ?_
  refine c_region rfl ?_
  refine gv rfl (y_loadW (k := 1)  agg24 rfl rfl rfl) ?_
  refine gv rfl (y_loadW (k := 0)  agg26 rfl rfl rfl) ?_
  refine gv rfl (y_move rfl) ?_
  refine l_call rfl ent10 rfl (fun w hm => put_c (j := j) (c := c) w (hJ.below hm.below) hj hk0) ?_; rintro x21 h21
  refine gv rfl (y_move rfl) ?_
  refine gv rfl (y_extract rfl rfl) ?_
  refine gv rfl (y_extract rfl rfl) ?_
  refine l_allocA rfl zero24 ?_; intro g11
  refine l_storeW (k := 0) (H' := [_, _, _, _]) size24 rfl rfl rfl rfl rfl rfl rfl ?_
  refine gv rfl (y_assign rfl) ?_
  refine l_nil ?_
  refine q_then ?_
  refine c_seq ?_
  refine c_seq ?_
  refine c_region rfl ?_
  refine l_callU rfl ent12 rfl (fun w hm => jarBegun_c w (hAd.above hm.below) had) ?_
  refine gv rfl (y_not rfl rfl) ?_
  refine l_nil ?_
  refine q_then ?_
  refine c_cond_f rfl ?_
  refine c_skip ?_
  refine q_then ?_
  refine c_seq ?_
  refine c_seq ?_
  refine c_region rfl ?_
  refine gv rfl (y_move rfl) ?_
  refine gv rfl (y_neq rfl rfl) ?_
  refine gv rfl (y_move rfl) ?_
  refine g_dec (t := 28) rfl ?_ ?_
  · intro h28
    refine g_off (t := 28) rfl rfl rfl rfl ?_
    refine g_off (t := 28) rfl rfl rfl rfl ?_
    refine gv rfl (y_pick_t rfl rfl) ?_
    refine gv rfl (y_move rfl) ?_
    refine g_off (t := 32) rfl rfl rfl rfl ?_
    refine g_off (t := 32) rfl rfl rfl rfl ?_
    refine g_off (t := 32) rfl rfl rfl rfl ?_
    refine g_off (t := 32) rfl rfl rfl rfl ?_
    refine g_off (t := 32) rfl rfl rfl rfl ?_
    refine gv rfl (y_pick_t rfl rfl) ?_
    refine gv rfl (y_move rfl) ?_
    refine g_off (t := 39) rfl rfl rfl rfl ?_
    refine g_off (t := 39) rfl rfl rfl rfl ?_
    refine gv rfl (y_pick_t rfl rfl) ?_
    refine gv rfl (y_move rfl) ?_
    refine g_off (t := 43) rfl rfl rfl rfl ?_
    refine g_off (t := 43) rfl rfl rfl rfl ?_
    refine g_off (t := 43) rfl rfl rfl rfl ?_
    refine g_off (t := 43) rfl rfl rfl rfl ?_
    refine g_off (t := 43) rfl rfl rfl rfl ?_
    refine gv rfl (y_pick_t rfl rfl) ?_
    refine l_nil ?_
    refine q_then ?_
    refine c_cond_t rfl ?_
    refine c_seq ?_
    refine c_region rfl ?_
    refine gv rfl (y_assign rfl) ?_
    refine l_nil ?_
    refine q_then ?_
    refine c_ret ?_
    refine q_then_ret ?_
    exact q_ret1 Tryz.results7 rfl () trivial rfl hs_nil
  · intro h28
    refine g_on (t := 28) rfl rfl ?_
    refine gv rfl (y_move rfl) ?_
    refine g_on (t := 28) rfl rfl ?_
    refine gv rfl (y_lss rfl rfl) ?_
    refine gv rfl (y_pick_f rfl rfl) ?_
    refine gv rfl (y_move rfl) ?_
    refine g_dec (t := 32) rfl ?_ ?_
    · intro h32
      refine g_off (t := 32) rfl rfl rfl rfl ?_
      refine g_off (t := 32) rfl rfl rfl rfl ?_
      refine g_off (t := 32) rfl rfl rfl rfl ?_
      refine g_off (t := 32) rfl rfl rfl rfl ?_
      refine g_off (t := 32) rfl rfl rfl rfl ?_
      refine gv rfl (y_pick_t rfl rfl) ?_
      refine gv rfl (y_move rfl) ?_
      refine g_off (t := 39) rfl rfl rfl rfl ?_
      refine g_off (t := 39) rfl rfl rfl rfl ?_
      refine gv rfl (y_pick_t rfl rfl) ?_
      refine gv rfl (y_move rfl) ?_
      refine g_off (t := 43) rfl rfl rfl rfl ?_
      refine g_off (t := 43) rfl rfl rfl rfl ?_
      refine g_off (t := 43) rfl rfl rfl rfl ?_
      refine g_off (t := 43) rfl rfl rfl rfl ?_
      refine g_off (t := 43) rfl rfl rfl rfl ?_
      refine gv rfl (y_pick_t rfl rfl) ?_
      refine l_nil ?_
      refine q_then ?_
      refine c_cond_t rfl ?_
      refine c_seq ?_
      refine c_region rfl ?_
      refine gv rfl (y_assign rfl) ?_
      refine l_nil ?_
      refine q_then ?_
      refine c_ret ?_
      refine q_then_ret ?_
      exact q_ret1 Tryz.results7 rfl () trivial rfl hs_nil
    · intro h32
      refine g_on (t := 32) rfl rfl ?_
      refine gv rfl (y_move rfl) ?_
      refine g_on (t := 32) rfl rfl ?_
      refine gv rfl (y_faddr off24_0 rfl rfl) ?_
      refine g_on (t := 32) rfl rfl ?_
      refine gv rfl (y_load (k := 3)  one22 rfl rfl rfl) ?_
      refine g_on (t := 32) rfl rfl ?_
      refine gv rfl (y_len elem22 rfl) ?_
      refine g_on (t := 32) rfl rfl ?_
      refine gv rfl (y_geq rfl rfl) ?_
      refine gv rfl (y_pick_f rfl rfl) ?_
      refine gv rfl (y_move rfl) ?_
      refine g_dec (t := 39) rfl ?_ ?_
      · intro h39
        refine g_off (t := 39) rfl rfl rfl rfl ?_
        refine g_off (t := 39) rfl rfl rfl rfl ?_
        refine gv rfl (y_pick_t rfl rfl) ?_
        refine gv rfl (y_move rfl) ?_
        refine g_off (t := 43) rfl rfl rfl rfl ?_
        refine g_off (t := 43) rfl rfl rfl rfl ?_
        refine g_off (t := 43) rfl rfl rfl rfl ?_
        refine g_off (t := 43) rfl rfl rfl rfl ?_
        refine g_off (t := 43) rfl rfl rfl rfl ?_
        refine gv rfl (y_pick_t rfl rfl) ?_
        refine l_nil ?_
        refine q_then ?_
        refine c_cond_t rfl ?_
        refine c_seq ?_
        refine c_region rfl ?_
        refine gv rfl (y_assign rfl) ?_
        refine l_nil ?_
        refine q_then ?_
        refine c_ret ?_
        refine q_then_ret ?_
        exact q_ret1 Tryz.results7 rfl () trivial rfl hs_nil
      · intro h39
        refine g_on (t := 39) rfl rfl ?_
        refine gv rfl (y_move rfl) ?_
        refine g_on (t := 39) rfl rfl ?_
        refine gv rfl (y_lss rfl rfl) ?_
        refine gv rfl (y_pick_f rfl rfl) ?_
        refine gv rfl (y_move rfl) ?_
        refine g_dec (t := 43) rfl ?_ ?_
        · intro h43
          refine g_off (t := 43) rfl rfl rfl rfl ?_
          refine g_off (t := 43) rfl rfl rfl rfl ?_
          refine g_off (t := 43) rfl rfl rfl rfl ?_
          refine g_off (t := 43) rfl rfl rfl rfl ?_
          refine g_off (t := 43) rfl rfl rfl rfl ?_
          refine gv rfl (y_pick_t rfl rfl) ?_
          refine l_nil ?_
          refine q_then ?_
          refine c_cond_t rfl ?_
          refine c_seq ?_
          refine c_region rfl ?_
          refine gv rfl (y_assign rfl) ?_
          refine l_nil ?_
          refine q_then ?_
          refine c_ret ?_
          refine q_then_ret ?_
          exact q_ret1 Tryz.results7 rfl () trivial rfl hs_nil
        · intro h43
          refine g_on (t := 43) rfl rfl ?_
          refine gv rfl (y_move rfl) ?_
          refine g_on (t := 43) rfl rfl ?_
          refine gv rfl (y_faddr off24_0 rfl rfl) ?_
          refine g_on (t := 43) rfl rfl ?_
          refine gv rfl (y_load (k := 0)  one22 rfl rfl rfl) ?_
          refine g_on (t := 43) rfl rfl ?_
          refine gv rfl (y_len elem22 rfl) ?_
          refine g_on (t := 43) rfl rfl ?_
          refine gv rfl (y_geq rfl rfl) ?_
          refine gv rfl (y_pick_f rfl rfl) ?_
          refine l_nil ?_
          refine q_then ?_
          refine c_dec rfl ?_ ?_
          · intro h49
            refine c_seq ?_
            refine c_region rfl ?_
            refine gv rfl (y_assign rfl) ?_
            refine l_nil ?_
            refine q_then ?_
            refine c_ret ?_
            refine q_then_ret ?_
            exact q_ret1 Tryz.results7 rfl () trivial rfl hs_nil
          · intro h49
            have hz : putE j c now = 0 := Decidable.not_not.1 h28
            obtain ⟨vx, hvx⟩ := get_lt (l := j.cks) (i := p.toNat) (by omega)
            obtain ⟨vy, hvy⟩ := get_lt (l := (putJ j c now).cks) (i := q.toNat) (by omega)
            refine c_skip ?_
            refine q_then ?_
            refine c_seq ?_
            refine c_cut (fun _ => True) (fun x : Nat × Nat => [(2, .int .i64 now), (5, .pointer (some ⟨g5, 0, none⟩)), (6, .pointer (some ⟨g6, 0, none⟩)), (11, .pointer (some ⟨g11, 0, none⟩)), (13, .pointer (some ⟨x.1, 0, none⟩)), (14, .pointer (some ⟨x.2, 0, none⟩))]) (fun x : Nat × Nat => [.blk g5 (.cells (j.arr A0 k0) 24 (0, 0)), .blk g6 (.cells (c.arr) 26 (0, 0)), .blk g11 (.cells #[.slice x21.1 ((putJ j c now).cks : List Ck).length x21.2, .int .i64 (putJ j c now).next] 24 (0, 0)), .row (.slice x21.1 ((putJ j c now).cks : List Ck).length x21.2) 26 13 ((putJ j c now).cks : List Ck).length (((putJ j c now).cks : List Ck).flatMap Ck.cells), .blk x.1 (.cells (vx.arr) 26 (0, 0)), .blk x.2 (.cells (vy.arr) 26 (0, 0))]) ?_ ?_
            · skip
              refine c_drawp (l := #[false, false, false, false, false, false, false, false, false, false, false, false, false, false]) 14 (is := [0, 1, 2, 3]) rfl rfl rfl rfl ?_
              refine h_take (l' := #[true, false, false, false, false, false, false, false, false, false, false, false, false, false]) 0 rfl (by kernel_rfl) rfl rfl (np_cut (np_then np_post)) (hs_pick (is := [0, 1, 2, 3]) rfl rfl) (y_faddr off24_0 rfl rfl) ?_
              refine h_take (l' := #[true, true, false, false, false, false, false, false, false, false, false, false, false, false]) 1 rfl (by kernel_rfl) rfl rfl (np_cut (np_then np_post)) (hs_pick (is := [0, 1, 2, 3]) rfl rfl) (y_load (k := 3)  one22 rfl rfl rfl) ?_
              refine h_take (l' := #[true, true, true, false, false, false, false, false, false, false, false, false, false, false]) 2 rfl (by kernel_rfl) rfl rfl (np_cut (np_then np_post)) (hs_pick (is := [0, 1, 2, 3]) rfl rfl) (y_move rfl) ?_
              refine h_takee (l' := #[true, true, true, true, false, false, false, false, false, false, false, false, false, false]) 3 rfl (by kernel_rfl) rfl rfl (np_cut (np_then np_post)) (hs_pick (is := [0, 1, 2, 3]) rfl rfl) (y_iaddr elem22 size26 hJ rfl rfl rfl (by omega) hvx) ?_; rintro _ ⟨p53, rfl, hp53⟩
              refine h_take (l' := #[true, true, true, true, true, false, false, false, false, false, false, false, false, false]) 4 rfl (by kernel_rfl) rfl rfl (np_cut (np_then np_post)) (hs_pick (is := [0, 1, 2, 3]) rfl rfl) (y_loadA_el agg26 rfl hp53 rfl) ?_
              refine h_take (l' := #[true, true, true, true, true, true, false, false, false, false, false, false, false, false]) 5 rfl (by kernel_rfl) rfl rfl (np_cut (np_then np_post)) (hs_pick (is := [0, 1, 2, 3]) rfl rfl) (y_faddr off24_0 rfl rfl) ?_
              refine h_take (l' := #[true, true, true, true, true, true, true, false, false, false, false, false, false, false]) 6 rfl (by kernel_rfl) rfl rfl (np_cut (np_then np_post)) (hs_pick (is := [0, 1, 2, 3]) rfl rfl) (y_load (k := 0)  one22 rfl rfl rfl) ?_
              refine h_take (l' := #[true, true, true, true, true, true, true, true, false, false, false, false, false, false]) 7 rfl (by kernel_rfl) rfl rfl (np_cut (np_then np_post)) (hs_pick (is := [0, 1, 2, 3]) rfl rfl) (y_move rfl) ?_
              refine h_take (l' := #[true, true, true, true, true, true, true, true, true, false, false, false, false, false]) 8 rfl (by kernel_rfl) rfl rfl (np_cut (np_then np_post)) (hs_pick (is := [0, 1, 2, 3]) rfl rfl) (y_iaddr_row (k := 1) elem22 size26 rfl (fun _ => rfl) rfl rfl rfl (by omega) hvy) ?_
              refine h_take (l' := #[true, true, true, true, true, true, true, true, true, true, false, false, false, false]) 9 rfl (by kernel_rfl) rfl rfl (np_cut (np_then np_post)) (hs_pick (is := [0, 1, 2, 3]) rfl rfl) (y_loadA_row (k := 1) agg26 rfl (fun _ => rfl) rfl rfl rfl hvy rfl) ?_
              refine h_two (l' := #[true, true, true, true, true, true, true, true, true, true, true, false, false, false]) (l'' := #[true, true, true, true, true, true, true, true, true, true, false, true, false, false]) 10 11 rfl rfl (by kernel_rfl) rfl rfl ?_ ?_
              · skip
                refine l_allocA rfl zero26 ?_; intro g13
                refine l_nil ?_
                refine q_step (fun _ => hs_pick (is := [1, 2, 3, 4]) rfl rfl) ?_
                refine h_only (l' := #[true, true, true, true, true, true, true, true, true, true, true, true, false, false]) 11 rfl (by kernel_rfl) rfl ?_
                refine l_allocA rfl zero26 ?_; intro g14
                refine l_nil ?_
                refine q_step (fun _ => hs_pick (is := [2, 3, 4, 5]) rfl rfl) ?_
                refine h_only (l' := #[true, true, true, true, true, true, true, true, true, true, true, true, true, false]) 12 rfl (by kernel_rfl) rfl ?_
                refine l_storeW (k := 1) (H' := [_, _, _, _, _, _]) size26 rfl rfl rfl rfl rfl rfl rfl ?_
                refine l_nil ?_
                refine q_step (fun _ => hs_pick (is := [2, 3, 4, 5]) rfl rfl) ?_
                refine h_only (l' := #[true, true, true, true, true, true, true, true, true, true, true, true, true, true]) 13 rfl (by kernel_rfl) rfl ?_
                refine l_storeW (k := 0) (H' := [_, _, _, _, _, _]) size26 rfl rfl rfl rfl rfl rfl rfl ?_
                refine l_nil ?_
                refine q_step (fun _ => hs_pick (is := [2, 3, 4, 5]) rfl rfl) ?_
                refine h_done (by kernel_rfl) ?_
                exact q_cut (g13, g14) trivial (sub_cons rfl (sub_cons rfl (sub_cons rfl (sub_cons rfl (sub_cons rfl (sub_cons rfl sub_nil)))))) (hs_pick (is := [5, 4, 2, 3, 1, 0]) rfl rfl)
              · skip
                refine l_allocA rfl zero26 ?_; intro g14
                refine l_nil ?_
                refine q_step (fun _ => hs_pick (is := [1, 2, 3, 4]) rfl rfl) ?_
                refine h_only (l' := #[true, true, true, true, true, true, true, true, true, true, true, true, false, false]) 10 rfl (by kernel_rfl) rfl ?_
                refine l_allocA rfl zero26 ?_; intro g13
                refine l_nil ?_
                refine q_step (fun _ => hs_pick (is := [2, 3, 4, 5]) rfl rfl) ?_
                refine h_only (l' := #[true, true, true, true, true, true, true, true, true, true, true, true, true, false]) 12 rfl (by kernel_rfl) rfl ?_
                refine l_storeW (k := 0) (H' := [_, _, _, _, _, _]) size26 rfl rfl rfl rfl rfl rfl rfl ?_
                refine l_nil ?_
                refine q_step (fun _ => hs_pick (is := [2, 3, 4, 5]) rfl rfl) ?_
                refine h_only (l' := #[true, true, true, true, true, true, true, true, true, true, true, true, true, true]) 13 rfl (by kernel_rfl) rfl ?_
                refine l_storeW (k := 1) (H' := [_, _, _, _, _, _]) size26 rfl rfl rfl rfl rfl rfl rfl ?_
                refine l_nil ?_
                refine q_step (fun _ => hs_pick (is := [2, 3, 4, 5]) rfl rfl) ?_
                refine h_done (by kernel_rfl) ?_
                exact q_cut (g13, g14) trivial (sub_cons rfl (sub_cons rfl (sub_cons rfl (sub_cons rfl (sub_cons rfl (sub_cons rfl sub_nil)))))) (hs_pick (is := [5, 4, 2, 3, 0, 1]) rfl rfl)
            · rintro ⟨g13, g14⟩ _
              try dsimp only
              refine q_then ?_
              refine c_seq ?_
              refine c_seq ?_
              refine c_region rfl ?_
              refine gv rfl (y_loadW (k := 4)  agg26 rfl rfl rfl) ?_
              refine gv rfl (y_loadW (k := 1)  agg26 rfl rfl rfl) ?_
              refine l_callU rfl ent21 rfl (fun w hm => sameKey_c (a := vx) (b := c) w) ?_
              refine gv rfl (y_move rfl) ?_
              refine g_bool (t := 63) rfl ?_ ?_
              · intro h63
                refine g_off (t := 63) rfl rfl rfl rfl ?_
                refine g_off (t := 63) rfl rfl rfl rfl ?_
                refine g_off (t := 63) rfl rfl rfl rfl ?_
                refine gv rfl (y_pick_t rfl rfl) ?_
                refine gv rfl (y_move rfl) ?_
                refine g_off (t := 68) rfl rfl rfl rfl ?_
                refine g_off (t := 68) rfl rfl rfl rfl ?_
                refine g_off (t := 68) rfl rfl rfl rfl ?_
                refine g_off (t := 68) rfl rfl rfl rfl ?_
                refine gv rfl (y_pick_t rfl rfl) ?_
                refine gv rfl (y_move rfl) ?_
                refine g_off (t := 74) rfl rfl rfl rfl ?_
                refine g_off (t := 74) rfl rfl rfl rfl ?_
                refine g_off (t := 74) rfl rfl rfl rfl ?_
                refine g_off (t := 74) rfl rfl rfl rfl ?_
                refine gv rfl (y_pick_t rfl rfl) ?_
                refine l_nil ?_
                refine q_then ?_
                refine c_cond_t rfl ?_
                refine c_seq ?_
                refine c_region rfl ?_
                refine gv rfl (y_assign rfl) ?_
                refine l_nil ?_
                refine q_then ?_
                refine c_ret ?_
                refine q_then_ret ?_
                exact q_ret1 Tryz.results7 rfl () trivial rfl hs_nil
              · intro h63
                refine g_on (t := 63) rfl rfl ?_
                refine gv rfl (y_loadW (k := 5)  agg26 rfl rfl rfl) ?_
                refine g_on (t := 63) rfl rfl ?_
                refine gv rfl (y_loadW (k := 1)  agg26 rfl rfl rfl) ?_
                refine g_on (t := 63) rfl rfl ?_
                refine l_callU rfl ent21 rfl (fun w hm => sameKey_c (a := vy) (b := c) w) ?_
                refine gv rfl (y_pick_f rfl rfl) ?_
                refine gv rfl (y_move rfl) ?_
                refine g_bool (t := 68) rfl ?_ ?_
                · intro h68
                  refine g_off (t := 68) rfl rfl rfl rfl ?_
                  refine g_off (t := 68) rfl rfl rfl rfl ?_
                  refine g_off (t := 68) rfl rfl rfl rfl ?_
                  refine g_off (t := 68) rfl rfl rfl rfl ?_
                  refine gv rfl (y_pick_t rfl rfl) ?_
                  refine gv rfl (y_move rfl) ?_
                  refine g_off (t := 74) rfl rfl rfl rfl ?_
                  refine g_off (t := 74) rfl rfl rfl rfl ?_
                  refine g_off (t := 74) rfl rfl rfl rfl ?_
                  refine g_off (t := 74) rfl rfl rfl rfl ?_
                  refine gv rfl (y_pick_t rfl rfl) ?_
                  refine l_nil ?_
                  refine q_then ?_
                  refine c_cond_t rfl ?_
                  refine c_seq ?_
                  refine c_region rfl ?_
                  refine gv rfl (y_assign rfl) ?_
                  refine l_nil ?_
                  refine q_then ?_
                  refine c_ret ?_
                  refine q_then_ret ?_
                  exact q_ret1 Tryz.results7 rfl () trivial rfl hs_nil
                · intro h68
                  refine g_on (t := 68) rfl rfl ?_
                  refine gv rfl (y_loadW (k := 4)  agg26 rfl rfl rfl) ?_
                  refine g_on (t := 68) rfl rfl ?_
                  refine gv rfl (y_move rfl) ?_
                  refine g_on (t := 68) rfl rfl ?_
                  refine l_callU rfl ent19 rfl (fun w hm => live_c (c := vx) w) ?_
                  refine g_on (t := 68) rfl rfl ?_
                  refine gv rfl (y_not rfl rfl) ?_
                  refine gv rfl (y_pick_f rfl rfl) ?_
                  refine gv rfl (y_move rfl) ?_
                  refine g_ndec (t := 74) rfl ?_ ?_
                  · intro h74
                    refine g_off (t := 74) rfl rfl rfl rfl ?_
                    refine g_off (t := 74) rfl rfl rfl rfl ?_
                    refine g_off (t := 74) rfl rfl rfl rfl ?_
                    refine g_off (t := 74) rfl rfl rfl rfl ?_
                    refine gv rfl (y_pick_t rfl rfl) ?_
                    refine l_nil ?_
                    refine q_then ?_
                    refine c_cond_t rfl ?_
                    refine c_seq ?_
                    refine c_region rfl ?_
                    refine gv rfl (y_assign rfl) ?_
                    refine l_nil ?_
                    refine q_then ?_
                    refine c_ret ?_
                    refine q_then_ret ?_
                    exact q_ret1 Tryz.results7 rfl () trivial rfl hs_nil
                  · intro h74
                    refine g_on (t := 74) rfl rfl ?_
                    refine gv rfl (y_loadW (k := 2)  agg24 rfl rfl rfl) ?_
                    refine g_on (t := 74) rfl rfl ?_
                    refine gv rfl (y_loadW (k := 4)  agg26 rfl rfl rfl) ?_
                    refine g_on (t := 74) rfl rfl ?_
                    refine l_callU rfl ent20 rfl (fun w hm => find_c (j := (putJ j c now)) (c := vx) w (sl_of_row hm (k := 3) rfl (fun _ => rfl) rfl) hok.1) ?_
                    refine g_on (t := 74) rfl rfl ?_
                    refine gv rfl (y_geq rfl rfl) ?_
                    refine gv rfl (y_pick_f rfl rfl) ?_
                    refine l_nil ?_
                    refine q_then ?_
                    refine c_dec rfl ?_ ?_
                    · intro h79
                      refine c_seq ?_
                      refine c_region rfl ?_
                      refine gv rfl (y_assign rfl) ?_
                      refine l_nil ?_
                      refine q_then ?_
                      refine c_ret ?_
                      refine q_then_ret ?_
                      exact q_ret1 Tryz.results7 rfl () trivial rfl hs_nil
                    · intro h79
                      obtain ⟨hE1, hE2⟩ := evicts hz (List.mem_of_getElem? hvx) h63 h74 h79
                      refine c_skip ?_
                      refine q_then ?_
                      refine c_seq ?_
                      refine c_region rfl ?_
                      refine gv rfl (y_assign rfl) ?_
                      refine l_nil ?_
                      refine q_then ?_
                      refine c_seq ?_
                      refine c_seq ?_
                      refine c_region rfl ?_
                      refine gv rfl (y_assign rfl) ?_
                      refine l_nil ?_
                      refine q_then ?_
                      refine c_block ?_
                      refine loop (Ef := [(6, _), (11, _), (13, _), (14, _)]) (Hf := [_, _, _, _, _, _]) (fun x : Nat × Nat => x.1 ≤ (putJ j c now).cks.length ∧ x.2 = (((putJ j c now).cks.take x.1).filter (fun a => decide (a.domain = vx.domain))).length ∧ x.2 ≤ x.1) (fun x : Nat × Nat => [(16, .int .i64 (x.1 : Int)), (15, .int .i64 (x.2 : Int))]) (fun x : Nat × Nat => []) (fun x : Nat × Nat => (putJ j c now).cks.length - x.1) (0, 0) ⟨Nat.zero_le _, rfl, Nat.le_refl _⟩ (sub_cons rfl (sub_cons rfl sub_nil)) (sub_cons rfl (sub_cons rfl (sub_cons rfl (sub_cons rfl sub_nil)))) (hs_pick (is := [0, 1, 2, 3, 4, 5]) rfl rfl) ?_
                      rintro ⟨s, n⟩ ⟨hs, hI⟩
                      dsimp only at hs hI ⊢
                      refine c_sub (E' := [(16, _), (15, _), (6, _), (11, _), (13, _), (14, _)]) (sub_cons rfl (sub_cons rfl (sub_cons rfl (sub_cons rfl (sub_cons rfl (sub_cons rfl sub_nil)))))) ?_
                      refine c_seq ?_
                      refine c_seq ?_
                      refine c_region rfl ?_
                      refine gv rfl (y_move rfl) ?_
                      refine gv rfl (y_faddr off24_0 rfl rfl) ?_
                      refine gv rfl (y_load (k := 2)  one22 rfl rfl rfl) ?_
                      refine gv rfl (y_len elem22 rfl) ?_
                      refine gv rfl (y_lss rfl rfl) ?_
                      refine l_nil ?_
                      refine q_then ?_
                      refine c_dec rfl ?_ ?_
                      · intro h84
                        have hlt : s < (putJ j c now).cks.length := by omega
                        obtain ⟨v, hv⟩ := get_lt hlt
                        refine c_skip ?_
                        refine q_then ?_
                        refine c_seq ?_
                        refine c_block ?_
                        refine c_seq ?_
                        refine c_drawp (l := #[false, false, false, false, false, false, false, false, false]) 9 (is := [0, 1, 2, 3, 4, 5]) rfl rfl rfl rfl ?_
                        refine h_take (l' := #[true, false, false, false, false, false, false, false, false]) 0 rfl (by kernel_rfl) rfl rfl (np_then (np_block (np_then (np_loop (np_block (np_then np_post)))))) (hs_pick (is := [0, 1, 2, 3, 4, 5]) rfl rfl) (y_faddr off24_0 rfl rfl) ?_
                        refine h_take (l' := #[true, true, false, false, false, false, false, false, false]) 1 rfl (by kernel_rfl) rfl rfl (np_then (np_block (np_then (np_loop (np_block (np_then np_post)))))) (hs_pick (is := [0, 1, 2, 3, 4, 5]) rfl rfl) (y_load (k := 2)  one22 rfl rfl rfl) ?_
                        refine h_take (l' := #[true, true, true, false, false, false, false, false, false]) 2 rfl (by kernel_rfl) rfl rfl (np_then (np_block (np_then (np_loop (np_block (np_then np_post)))))) (hs_pick (is := [0, 1, 2, 3, 4, 5]) rfl rfl) (y_move rfl) ?_
                        refine h_take (l' := #[true, true, true, true, false, false, false, false, false]) 3 rfl (by kernel_rfl) rfl rfl (np_then (np_block (np_then (np_loop (np_block (np_then np_post)))))) (hs_pick (is := [0, 1, 2, 3, 4, 5]) rfl rfl) (y_iaddr_row (k := 3) elem22 size26 rfl (fun _ => rfl) rfl rfl rfl (by omega) hv) ?_
                        refine h_take (l' := #[true, true, true, true, true, false, false, false, false]) 4 rfl (by kernel_rfl) rfl rfl (np_then (np_block (np_then (np_loop (np_block (np_then np_post)))))) (hs_pick (is := [0, 1, 2, 3, 4, 5]) rfl rfl) (y_faddr_row (k := 3) off26_2 rfl (fun _ => rfl) rfl rfl hv rfl) ?_
                        refine h_take (l' := #[true, true, true, true, true, true, false, false, false]) 5 rfl (by kernel_rfl) rfl rfl (np_then (np_block (np_then (np_loop (np_block (np_then np_post)))))) (hs_pick (is := [0, 1, 2, 3, 4, 5]) rfl rfl) (y_load_row (k := 3) one9 rfl (fun _ => rfl) rfl 2 rfl rfl hv rfl) ?_
                        refine h_take (l' := #[true, true, true, true, true, true, true, false, false]) 6 rfl (by kernel_rfl) rfl rfl (np_then (np_block (np_then (np_loop (np_block (np_then np_post)))))) (hs_pick (is := [0, 1, 2, 3, 4, 5]) rfl rfl) (y_faddr off26_2 rfl rfl) ?_
                        refine h_take (l' := #[true, true, true, true, true, true, true, true, false]) 7 rfl (by kernel_rfl) rfl rfl (np_then (np_block (np_then (np_loop (np_block (np_then np_post)))))) (hs_pick (is := [0, 1, 2, 3, 4, 5]) rfl rfl) (y_load (k := 4)  one9 rfl rfl rfl) ?_
                        refine h_take (l' := #[true, true, true, true, true, true, true, true, true]) 8 rfl (by kernel_rfl) rfl rfl (np_then (np_block (np_then (np_loop (np_block (np_then np_post)))))) (hs_pick (is := [0, 1, 2, 3, 4, 5]) rfl rfl) (y_seq rfl rfl) ?_
                        refine h_done (by kernel_rfl) ?_
                        refine q_then ?_
                        refine c_dec rfl ?_ ?_
                        · intro h95
                          refine c_region rfl ?_
                          refine gv rfl (y_move rfl) ?_
                          refine gv rfl (y_add rfl rfl (wrap_in (by omega) (by omega))) ?_
                          refine gv rfl (y_assign rfl) ?_
                          refine l_nil ?_
                          refine q_block (q_then ?_)
                          refine c_region rfl ?_
                          refine gv rfl (y_move rfl) ?_
                          refine gv rfl (y_add rfl rfl (wrap_in (by omega) (by omega))) ?_
                          refine gv rfl (y_assign rfl) ?_
                          refine l_nil ?_
                          exact again (s + 1, n + 1) ⟨Nat.succ_le_of_lt hlt, by dsimp only; rw [take_snoc hv, List.filter_append, List.length_append, hI.1]; simp [h95], by dsimp only; omega⟩ (by omega) (sub_cons rfl (sub_cons rfl sub_nil)) (sub_cons rfl (sub_cons rfl (sub_cons rfl (sub_cons rfl sub_nil)))) (hs_pick (is := [0, 1, 2, 3, 4, 5]) rfl rfl)
                        · intro h95
                          refine c_skip ?_
                          refine q_block (q_then ?_)
                          refine c_region rfl ?_
                          refine gv rfl (y_move rfl) ?_
                          refine gv rfl (y_add rfl rfl (wrap_in (by omega) (by omega))) ?_
                          refine gv rfl (y_assign rfl) ?_
                          refine l_nil ?_
                          exact again (s + 1, n) ⟨Nat.succ_le_of_lt hlt, by dsimp only; rw [take_snoc hv, List.filter_append, List.length_append, hI.1]; simp [h95], by dsimp only; omega⟩ (by omega) (sub_cons rfl (sub_cons rfl sub_nil)) (sub_cons rfl (sub_cons rfl (sub_cons rfl (sub_cons rfl sub_nil)))) (hs_pick (is := [0, 1, 2, 3, 4, 5]) rfl rfl)
                      · intro h84
                        have hcnt : n = ((putJ j c now).cks.filter (fun a => decide (a.domain = vx.domain))).length := by rw [hI.1, List.take_of_length_le (by omega)]
                        refine c_exit ?_
                        refine q_then_exit (q_loop_exit (q_block_exit (q_then ?_)))
                        refine c_seq ?_
                        refine c_seq ?_
                        refine c_cut0 (Ef := [(6, _), (11, _), (13, _), (14, _)]) [(118, .bool false)] (sub_cons rfl (sub_cons rfl (sub_cons rfl (sub_cons rfl sub_nil)))) ?_ ?_
                        · skip
                          refine c_region rfl ?_
                          refine gv rfl (y_faddr off26_2 rfl rfl) ?_
                          refine gv rfl (y_load (k := 4)  one9 rfl rfl rfl) ?_
                          refine gv rfl (y_faddr off26_2 rfl rfl) ?_
                          refine gv rfl (y_load (k := 1)  one9 rfl rfl rfl) ?_
                          refine gv rfl (y_sne rfl rfl) ?_
                          refine gv rfl (y_move rfl) ?_
                          refine g_dec (t := 103) rfl ?_ ?_
                          · intro h103
                            refine g_on (t := 103) rfl rfl ?_
                            refine gv rfl (y_faddr off24_0 rfl rfl) ?_
                            refine g_on (t := 103) rfl rfl ?_
                            refine gv rfl (y_load (k := 2)  one22 rfl rfl rfl) ?_
                            refine g_on (t := 103) rfl rfl ?_
                            refine gv rfl (y_len elem22 rfl) ?_
                            refine g_on (t := 103) rfl rfl ?_
                            refine gv rfl (y_neq rfl rfl) ?_
                            refine gv rfl (y_pick_t rfl rfl) ?_
                            refine gv rfl (y_move rfl) ?_
                            refine g_dec (t := 109) rfl ?_ ?_
                            · intro h109
                              exact absurd (hE1 h109).1 h103
                            · intro h109
                              refine g_on (t := 109) rfl rfl ?_
                              refine gv rfl (y_move rfl) ?_
                              refine g_on (t := 109) rfl rfl ?_
                              refine gv rfl (y_neq rfl rfl) ?_
                              refine g_on (t := 109) rfl rfl ?_
                              refine gv rfl (y_move rfl) ?_
                              refine g_dec (t := 112) rfl ?_ ?_
                              · intro h112
                                refine g_on (t := 112) rfl rfl ?_
                                refine gv rfl (y_faddr off24_0 rfl rfl) ?_
                                refine g_on (t := 112) rfl rfl ?_
                                refine gv rfl (y_load (k := 2)  one22 rfl rfl rfl) ?_
                                refine g_on (t := 112) rfl rfl ?_
                                refine gv rfl (y_len elem22 rfl) ?_
                                refine g_on (t := 112) rfl rfl ?_
                                refine gv rfl (y_neq rfl rfl) ?_
                                refine g_on (t := 109) rfl rfl ?_
                                refine gv rfl (y_pick_t rfl rfl) ?_
                                refine gv rfl (y_pick_f rfl rfl) ?_
                                refine l_nil ?_
                                rw [decide_eq_false (fun hn => h112 (by rw [hcnt]; exact (hE1 hn).2))]
                                exact q_cut () trivial (sub_cons rfl (sub_cons rfl (sub_cons rfl (sub_cons rfl (sub_cons rfl sub_nil))))) (hs_pick (is := [0, 1, 2, 3, 4, 5]) rfl rfl)
                              · intro h112
                                refine g_off (t := 112) rfl rfl rfl rfl ?_
                                refine g_off (t := 112) rfl rfl rfl rfl ?_
                                refine g_off (t := 112) rfl rfl rfl rfl ?_
                                refine g_off (t := 112) rfl rfl rfl rfl ?_
                                refine g_on (t := 109) rfl rfl ?_
                                refine gv rfl (y_pick_f rfl rfl) ?_
                                refine gv rfl (y_pick_f rfl rfl) ?_
                                refine l_nil ?_
                                exact q_cut () trivial (sub_cons rfl (sub_cons rfl (sub_cons rfl (sub_cons rfl (sub_cons rfl sub_nil))))) (hs_pick (is := [0, 1, 2, 3, 4, 5]) rfl rfl)
                          · intro h103
                            refine g_off (t := 103) rfl rfl rfl rfl ?_
                            refine g_off (t := 103) rfl rfl rfl rfl ?_
                            refine g_off (t := 103) rfl rfl rfl rfl ?_
                            refine g_off (t := 103) rfl rfl rfl rfl ?_
                            refine gv rfl (y_pick_f rfl rfl) ?_
                            refine gv rfl (y_move rfl) ?_
                            refine g_on (t := 109) rfl rfl ?_
                            refine gv rfl (y_move rfl) ?_
                            refine g_on (t := 109) rfl rfl ?_
                            refine gv rfl (y_neq rfl rfl) ?_
                            refine g_on (t := 109) rfl rfl ?_
                            refine gv rfl (y_move rfl) ?_
                            refine g_dec (t := 112) rfl ?_ ?_
                            · intro h112
                              refine g_on (t := 112) rfl rfl ?_
                              refine gv rfl (y_faddr off24_0 rfl rfl) ?_
                              refine g_on (t := 112) rfl rfl ?_
                              refine gv rfl (y_load (k := 2)  one22 rfl rfl rfl) ?_
                              refine g_on (t := 112) rfl rfl ?_
                              refine gv rfl (y_len elem22 rfl) ?_
                              refine g_on (t := 112) rfl rfl ?_
                              refine gv rfl (y_neq rfl rfl) ?_
                              refine g_on (t := 109) rfl rfl ?_
                              refine gv rfl (y_pick_t rfl rfl) ?_
                              refine gv rfl (y_pick_f rfl rfl) ?_
                              refine l_nil ?_
                              rw [decide_eq_false (fun hn => h112 (by rw [hcnt]; exact (hE1 hn).2))]
                              exact q_cut () trivial (sub_cons rfl (sub_cons rfl (sub_cons rfl (sub_cons rfl (sub_cons rfl sub_nil))))) (hs_pick (is := [0, 1, 2, 3, 4, 5]) rfl rfl)
                            · intro h112
                              refine g_off (t := 112) rfl rfl rfl rfl ?_
                              refine g_off (t := 112) rfl rfl rfl rfl ?_
                              refine g_off (t := 112) rfl rfl rfl rfl ?_
                              refine g_off (t := 112) rfl rfl rfl rfl ?_
                              refine g_on (t := 109) rfl rfl ?_
                              refine gv rfl (y_pick_f rfl rfl) ?_
                              refine gv rfl (y_pick_f rfl rfl) ?_
                              refine l_nil ?_
                              exact q_cut () trivial (sub_cons rfl (sub_cons rfl (sub_cons rfl (sub_cons rfl (sub_cons rfl sub_nil))))) (hs_pick (is := [0, 1, 2, 3, 4, 5]) rfl rfl)
                        · skip
                          refine q_then ?_
                          refine c_cond_f rfl ?_
                          refine c_skip ?_
                          refine q_then ?_
                          refine c_seq ?_
                          refine c_region rfl ?_
                          refine gv rfl (y_faddr off26_2 rfl rfl) ?_
                          refine gv rfl (y_load (k := 4)  one9 rfl rfl rfl) ?_
                          refine gv rfl (y_faddr off26_2 rfl rfl) ?_
                          refine gv rfl (y_load (k := 5)  one9 rfl rfl rfl) ?_
                          refine gv rfl (y_sne rfl rfl) ?_
                          refine gv rfl (y_move rfl) ?_
                          refine g_dec (t := 124) rfl ?_ ?_
                          · intro h124
                            refine g_off (t := 124) rfl rfl rfl rfl ?_
                            refine g_off (t := 124) rfl rfl rfl rfl ?_
                            refine g_off (t := 124) rfl rfl rfl rfl ?_
                            refine g_off (t := 124) rfl rfl rfl rfl ?_
                            refine g_off (t := 124) rfl rfl rfl rfl ?_
                            refine gv rfl (y_pick_t rfl rfl) ?_
                            refine gv rfl (y_move rfl) ?_
                            refine g_off (t := 131) rfl rfl rfl rfl ?_
                            refine g_off (t := 131) rfl rfl rfl rfl ?_
                            refine g_off (t := 131) rfl rfl rfl rfl ?_
                            refine g_off (t := 131) rfl rfl rfl rfl ?_
                            refine g_off (t := 131) rfl rfl rfl rfl ?_
                            refine g_off (t := 131) rfl rfl rfl rfl ?_
                            refine g_und (t := 137) rfl rfl rfl ?_
                            refine g_und (t := 137) rfl rfl rfl ?_
                            refine g_und (t := 137) rfl rfl rfl ?_
                            refine g_und (t := 137) rfl rfl rfl ?_
                            refine g_und (t := 137) rfl rfl rfl ?_
                            refine g_off (t := 131) rfl rfl rfl rfl ?_
                            refine gv rfl (y_pick_t rfl rfl) ?_
                            refine gv rfl (y_assign rfl) ?_
                            refine l_nil ?_
                            refine q_then ?_
                            refine c_ret ?_
                            exact q_ret1 Tryz.results7 rfl () trivial rfl hs_nil
                          · intro h124
                            have hu := hE2 vy (List.mem_of_getElem? hvy) (Decidable.not_not.1 h124)
                            unfold uLt at hu
                            refine g_on (t := 124) rfl rfl ?_
                            refine gv rfl (y_faddr off26_11 rfl rfl) ?_
                            refine g_on (t := 124) rfl rfl ?_
                            refine gv rfl (y_load (k := 4)  one3 rfl rfl rfl) ?_
                            refine g_on (t := 124) rfl rfl ?_
                            refine gv rfl (y_faddr off26_11 rfl rfl) ?_
                            refine g_on (t := 124) rfl rfl ?_
                            refine gv rfl (y_load (k := 5)  one3 rfl rfl rfl) ?_
                            refine g_on (t := 124) rfl rfl ?_
                            refine gv rfl (y_lss rfl rfl) ?_
                            refine gv rfl (y_pick_f rfl rfl) ?_
                            refine gv rfl (y_move rfl) ?_
                            refine g_dec (t := 131) rfl ?_ ?_
                            · intro h131
                              refine g_off (t := 131) rfl rfl rfl rfl ?_
                              refine g_off (t := 131) rfl rfl rfl rfl ?_
                              refine g_off (t := 131) rfl rfl rfl rfl ?_
                              refine g_off (t := 131) rfl rfl rfl rfl ?_
                              refine g_off (t := 131) rfl rfl rfl rfl ?_
                              refine g_off (t := 131) rfl rfl rfl rfl ?_
                              refine g_und (t := 137) rfl rfl rfl ?_
                              refine g_und (t := 137) rfl rfl rfl ?_
                              refine g_und (t := 137) rfl rfl rfl ?_
                              refine g_und (t := 137) rfl rfl rfl ?_
                              refine g_und (t := 137) rfl rfl rfl ?_
                              refine g_off (t := 131) rfl rfl rfl rfl ?_
                              refine gv rfl (y_pick_t rfl rfl) ?_
                              refine gv rfl (y_assign rfl) ?_
                              refine l_nil ?_
                              refine q_then ?_
                              refine c_ret ?_
                              exact q_ret1 Tryz.results7 rfl () trivial rfl hs_nil
                            · intro h131
                              refine g_on (t := 131) rfl rfl ?_
                              refine gv rfl (y_faddr off26_11 rfl rfl) ?_
                              refine g_on (t := 131) rfl rfl ?_
                              refine gv rfl (y_load (k := 4)  one3 rfl rfl rfl) ?_
                              refine g_on (t := 131) rfl rfl ?_
                              refine gv rfl (y_faddr off26_11 rfl rfl) ?_
                              refine g_on (t := 131) rfl rfl ?_
                              refine gv rfl (y_load (k := 5)  one3 rfl rfl rfl) ?_
                              refine g_on (t := 131) rfl rfl ?_
                              refine gv rfl (y_eql rfl rfl) ?_
                              refine g_on (t := 131) rfl rfl ?_
                              refine gv rfl (y_move rfl) ?_
                              refine g_dec (t := 137) rfl ?_ ?_
                              · intro h137
                                refine g_on (t := 137) rfl rfl ?_
                                refine gv rfl (y_faddr off26_12 rfl rfl) ?_
                                refine g_on (t := 137) rfl rfl ?_
                                refine gv rfl (y_load (k := 4)  one3 rfl rfl rfl) ?_
                                refine g_on (t := 137) rfl rfl ?_
                                refine gv rfl (y_faddr off26_12 rfl rfl) ?_
                                refine g_on (t := 137) rfl rfl ?_
                                refine gv rfl (y_load (k := 5)  one3 rfl rfl rfl) ?_
                                refine g_on (t := 137) rfl rfl ?_
                                refine gv rfl (y_lss rfl rfl) ?_
                                refine g_on (t := 131) rfl rfl ?_
                                refine gv rfl (y_pick_t rfl rfl) ?_
                                refine gv rfl (y_pick_f rfl rfl) ?_
                                refine gv rfl (y_assign rfl) ?_
                                refine l_nil ?_
                                refine q_then ?_
                                refine c_ret ?_
                                exact q_ret1 Tryz.results7 rfl () trivial (congrArg Value.bool (decide_eq_true (by omega))) hs_nil
                              · intro h137
                                exfalso; omega

end Go.Gx
