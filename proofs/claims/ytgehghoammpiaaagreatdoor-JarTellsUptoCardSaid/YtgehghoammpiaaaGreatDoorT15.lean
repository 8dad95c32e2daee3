/- This text proves: functions of the program, walked: what each answers, for every input. No condition beyond those that each theorem names. -/
import Derived.Test.YtgehghoammpiaaaGreatDoorProg
import Derived.Test.YtgehghoammpiaaaGreatDoorTStr
import Derived.Test.YtgehghoammpiaaaGreatDoorT14
import Derived.Test.YtgehghoammpiaaaGreatDoorGz4
import Derived.KernelRfl
namespace Go.Gx
open Go.Proofs Go.Maps
theorem ent14 : enters Tryz.prog 14 = true := by kernel_rfl
theorem ent40 : enters Tryz.prog 40 = true := by kernel_rfl
theorem ent41 : enters Tryz.prog 41 = true := by kernel_rfl
theorem ent42 : enters Tryz.prog 42 = true := by kernel_rfl
theorem ent11 : enters Tryz.prog 11 = true := by kernel_rfl

theorem putOf_c {j : Ja} {c : Ck} {now : Int} {A0 : Option Addr} {k0 : Nat} (w : World) (hJ : Sl Ck.cells 13 w A0 j.cks) (hj : j.ok) : Ct Tryz.prog 11 #[.agg (j.arr A0 k0), .agg c.arr, .int .i64 now] w (fun x : Option Addr × Nat => .tuple #[.agg #[.slice x.1 (putJ j c now).cks.length x.2, .int .i64 (putJ j c now).next], .int .i64 (putE j c now)]) (fun x => [.row (.slice x.1 (putJ j c now).cks.length x.2) 26 13 (putJ j c now).cks.length ((putJ j c now).cks.flatMap Ck.cells)]) (fun _ => True) := by
  refine enter (E := [(0, .agg (j.arr A0 k0)), (1, .agg c.arr), (2, .int .i64 now)]) Tryz.func11 rfl Tryz.ntmps11 rfl (by simp) ?_
  refine c_nilrow 26 13 ?_
  refine c_seq ?_
  refine c_region rfl ?_
  refine l_boxA rfl rfl ?_; intro g3
  refine l_boxA rfl rfl ?_; intro g4
  refine l_allocA rfl zero24 ?_; intro g6
  refine gv rfl (y_assign rfl) ?_
  refine l_nil ?_
  refine q_then ?_
  refine c_seq ?_
  refine c_region rfl ?_
  refine gv rfl (y_loadW (k := 2)  agg24 rfl rfl rfl) ?_
  refine l_callU rfl ent14 rfl (fun w hm => refCheck_c w (hJ.below hm.below) hj.1) ?_
  refine gv rfl (y_assign rfl) ?_
  refine l_nil ?_
  refine q_then ?_
  refine c_seq ?_
  refine c_seq ?_
  refine c_region rfl ?_
  refine gv rfl (y_move rfl) ?_
  refine gv rfl (y_eql rfl rfl) ?_
  refine gv rfl (y_move rfl) ?_
  refine g_dec (t := 19) rfl ?_ ?_
  · intro h19
    refine g_on (t := 19) rfl rfl ?_
    refine gv rfl (y_move rfl) ?_
    refine g_on (t := 19) rfl rfl ?_
    refine l_callU rfl ent38 rfl (fun w hm => noMoment_c w) ?_
    refine g_on (t := 19) rfl rfl ?_
    refine gv rfl (y_move rfl) ?_
    refine g_dec (t := 22) rfl ?_ ?_
    · intro h22
      refine g_off (t := 22) rfl rfl rfl rfl ?_
      refine g_off (t := 22) rfl rfl rfl rfl ?_
      refine g_on (t := 19) rfl rfl ?_
      refine gv rfl (y_pick_t rfl rfl) ?_
      refine gv rfl (y_pick_t rfl rfl) ?_
      refine l_nil ?_
      refine q_then ?_
      refine c_cond_t rfl ?_
      refine c_region rfl ?_
      refine gv rfl (y_assign rfl) ?_
      refine l_nil ?_
      refine q_then ?_
      refine c_seq ?_
      refine c_seq ?_
      refine c_region rfl ?_
      refine gv rfl (y_move rfl) ?_
      refine gv rfl (y_eql rfl rfl) ?_
      refine gv rfl (y_move rfl) ?_
      refine g_dec (t := 29) rfl ?_ ?_
      · intro h29
        exact absurd h29 (by decide)
      · intro h29
        refine g_off (t := 29) rfl rfl rfl rfl ?_
        refine g_off (t := 29) rfl rfl rfl rfl ?_
        refine g_off (t := 29) rfl rfl rfl rfl ?_
        refine gv rfl (y_pick_f rfl rfl) ?_
        refine l_nil ?_
        refine q_then ?_
        refine c_cond_f rfl ?_
        refine c_skip ?_
        refine q_then ?_
        refine c_seq ?_
        refine c_seq ?_
        refine c_region rfl ?_
        refine gv rfl (y_move rfl) ?_
        refine gv rfl (y_neq rfl rfl) ?_
        refine l_nil ?_
        refine q_then ?_
        refine c_dec rfl ?_ ?_
        · intro h35
          refine c_seq ?_
          refine c_region rfl ?_
          refine gv rfl (y_build (cs := #[_, _]) (cl := [_, _])  zero24 bld24 rfl rfl rfl rfl rfl) ?_
          refine gv rfl (y_move rfl) ?_
          refine l_storeW (k := 0) (H' := [_, _, _, _]) size24 rfl rfl rfl rfl rfl rfl rfl ?_
          refine gv rfl (y_assign rfl) ?_
          refine l_nil ?_
          refine q_then ?_
          refine c_ret ?_
          refine q_then_ret ?_
          have eE : putE j c now = 3 := by unfold putE; rw [if_neg (fun k => k h19), if_pos (.inl h22)]
          have eJ : putJ j c now = ⟨[], 0⟩ := if_pos (by rw [eE]; first | exact h19 | decide)
          exact q_retA1 (k := 0) Tryz.results11 agg24 rfl rfl rfl rfl (none, 0) trivial (by rw [eE, eJ] <;> rfl) (by rw [eJ]; exact hs_pick (is := [3]) rfl rfl)
        · intro h35
          exact absurd (by decide) h35
    · intro h22
      refine g_on (t := 22) rfl rfl ?_
      refine gv rfl (y_loadW (k := 1)  agg26 rfl rfl rfl) ?_
      refine g_on (t := 22) rfl rfl ?_
      refine l_callU rfl ent39 rfl (fun w hm => noMoments_c (c := c) w) ?_
      refine g_on (t := 19) rfl rfl ?_
      refine gv rfl (y_pick_f rfl rfl) ?_
      refine gv rfl (y_pick_t rfl rfl) ?_
      refine l_nil ?_
      refine q_then ?_
      refine c_dec rfl ?_ ?_
      · intro h26
        refine c_region rfl ?_
        refine gv rfl (y_assign rfl) ?_
        refine l_nil ?_
        refine q_then ?_
        refine c_seq ?_
        refine c_seq ?_
        refine c_region rfl ?_
        refine gv rfl (y_move rfl) ?_
        refine gv rfl (y_eql rfl rfl) ?_
        refine gv rfl (y_move rfl) ?_
        refine g_dec (t := 29) rfl ?_ ?_
        · intro h29
          exact absurd h29 (by decide)
        · intro h29
          refine g_off (t := 29) rfl rfl rfl rfl ?_
          refine g_off (t := 29) rfl rfl rfl rfl ?_
          refine g_off (t := 29) rfl rfl rfl rfl ?_
          refine gv rfl (y_pick_f rfl rfl) ?_
          refine l_nil ?_
          refine q_then ?_
          refine c_cond_f rfl ?_
          refine c_skip ?_
          refine q_then ?_
          refine c_seq ?_
          refine c_seq ?_
          refine c_region rfl ?_
          refine gv rfl (y_move rfl) ?_
          refine gv rfl (y_neq rfl rfl) ?_
          refine l_nil ?_
          refine q_then ?_
          refine c_dec rfl ?_ ?_
          · intro h35
            refine c_seq ?_
            refine c_region rfl ?_
            refine gv rfl (y_build (cs := #[_, _]) (cl := [_, _])  zero24 bld24 rfl rfl rfl rfl rfl) ?_
            refine gv rfl (y_move rfl) ?_
            refine l_storeW (k := 0) (H' := [_, _, _, _]) size24 rfl rfl rfl rfl rfl rfl rfl ?_
            refine gv rfl (y_assign rfl) ?_
            refine l_nil ?_
            refine q_then ?_
            refine c_ret ?_
            refine q_then_ret ?_
            have eE : putE j c now = 3 := by unfold putE; rw [if_neg (fun k => k h19), if_pos (.inr h26)]
            have eJ : putJ j c now = ⟨[], 0⟩ := if_pos (by rw [eE]; first | exact h19 | decide)
            exact q_retA1 (k := 0) Tryz.results11 agg24 rfl rfl rfl rfl (none, 0) trivial (by rw [eE, eJ] <;> rfl) (by rw [eJ]; exact hs_pick (is := [3]) rfl rfl)
          · intro h35
            exact absurd (by decide) h35
      · intro h26
        refine c_skip ?_
        refine q_then ?_
        refine c_seq ?_
        refine c_seq ?_
        refine c_region rfl ?_
        refine gv rfl (y_move rfl) ?_
        refine gv rfl (y_eql rfl rfl) ?_
        refine gv rfl (y_move rfl) ?_
        refine g_dec (t := 29) rfl ?_ ?_
        · intro h29
          refine g_on (t := 29) rfl rfl ?_
          refine gv rfl (y_faddr off24_1 rfl rfl) ?_
          refine g_on (t := 29) rfl rfl ?_
          refine gv rfl (y_load (k := 2)  one3 rfl rfl rfl) ?_
          refine g_on (t := 29) rfl rfl ?_
          refine gv rfl (y_eql rfl rfl) ?_
          refine gv rfl (y_pick_t rfl rfl) ?_
          refine l_nil ?_
          refine q_then ?_
          refine c_dec rfl ?_ ?_
          · intro h33
            refine c_region rfl ?_
            refine gv rfl (y_assign rfl) ?_
            refine l_nil ?_
            refine q_then ?_
            refine c_seq ?_
            refine c_seq ?_
            refine c_region rfl ?_
            refine gv rfl (y_move rfl) ?_
            refine gv rfl (y_neq rfl rfl) ?_
            refine l_nil ?_
            refine q_then ?_
            refine c_dec rfl ?_ ?_
            · intro h35
              refine c_seq ?_
              refine c_region rfl ?_
              refine gv rfl (y_build (cs := #[_, _]) (cl := [_, _])  zero24 bld24 rfl rfl rfl rfl rfl) ?_
              refine gv rfl (y_move rfl) ?_
              refine l_storeW (k := 0) (H' := [_, _, _, _]) size24 rfl rfl rfl rfl rfl rfl rfl ?_
              refine gv rfl (y_assign rfl) ?_
              refine l_nil ?_
              refine q_then ?_
              refine c_ret ?_
              refine q_then_ret ?_
              have eE : putE j c now = 2 := by unfold putE; rw [if_neg (fun k => k h19), if_neg (by rintro (k | k); exact h22 k; exact h26 k), if_pos h33]
              have eJ : putJ j c now = ⟨[], 0⟩ := if_pos (by rw [eE]; first | exact h19 | decide)
              exact q_retA1 (k := 0) Tryz.results11 agg24 rfl rfl rfl rfl (none, 0) trivial (by rw [eE, eJ] <;> rfl) (by rw [eJ]; exact hs_pick (is := [3]) rfl rfl)
            · intro h35
              exact absurd (by decide) h35
          · intro h33
            refine c_skip ?_
            refine q_then ?_
            refine c_seq ?_
            refine c_seq ?_
            refine c_region rfl ?_
            refine gv rfl (y_move rfl) ?_
            refine gv rfl (y_neq rfl rfl) ?_
            refine l_nil ?_
            refine q_then ?_
            refine c_dec rfl ?_ ?_
            · intro h35
              exact absurd h19 h35
            · intro h35
              have hz : putE j c now = 0 := by unfold putE; rw [if_neg (fun k => k h19), if_neg (by rintro (k | k); exact h22 k; exact h26 k), if_neg h33]
              obtain ⟨hz0, hzm, eJ⟩ := putE_ok hz
              have hw := live_well (now := now) hz0
              obtain ⟨_, _, hn0, hn1⟩ := jarErr_iff.1 hz0
              have hll1 := liveL_len now j.cks
              have hll2 := layL_len (liveL now j.cks) j.next c
              have hll3 := liveL_len now (layL (liveL now j.cks) j.next c)
              have hll4 := evictL_len 4 (qU false c.domain) (liveL now (layL (liveL now j.cks) j.next c))
              have hjl := hj.1
              have hjm := jarErr_len hz0
              refine c_skip ?_
              refine q_then ?_
              refine c_seq ?_
              refine c_cut (fun _ => True) (fun x : Nat × Option Addr × Nat => [(2, .int .i64 now), (4, .pointer (some ⟨g4, 0, none⟩)), (6, .pointer (some ⟨g6, 0, none⟩)), (9, .pointer (some ⟨x.1, 0, none⟩))]) (fun x : Nat × Option Addr × Nat => [.blk g4 (.cells (c.arr) 26 (0, 0)), .blk g6 (.cells #[.slice none 0 0, .int .i64 0] 24 (0, 0)), .blk x.1 (.cells #[.slice x.2.1 ((liveL now j.cks) : List Ck).length x.2.2, .int .i64 j.next] 24 (0, 0)), .row (.slice x.2.1 ((liveL now j.cks) : List Ck).length x.2.2) 26 13 ((liveL now j.cks) : List Ck).length (((liveL now j.cks) : List Ck).flatMap Ck.cells)]) ?_ ?_
              · skip
                refine c_drawp (l := #[false, false, false, false, false, false, false, false, false]) 8 (is := [0, 1, 2, 3]) rfl rfl rfl rfl ?_
                refine h_take (l' := #[true, false, false, false, false, false, false, false, false]) 0 rfl (by kernel_rfl) rfl rfl (np_cut (np_then np_post)) (hs_pick (is := [0, 1, 2, 3]) rfl rfl) (y_faddr off24_0 rfl rfl) ?_
                refine h_take (l' := #[true, true, false, false, false, false, false, false, false]) 1 rfl (by kernel_rfl) rfl rfl (np_cut (np_then np_post)) (hs_pick (is := [0, 1, 2, 3]) rfl rfl) (y_load (k := 2)  one22 rfl rfl rfl) ?_
                refine h_take (l' := #[true, true, true, false, false, false, false, false, false]) 2 rfl (by kernel_rfl) rfl rfl (np_cut (np_then np_post)) (hs_pick (is := [0, 1, 2, 3]) rfl rfl) (y_move rfl) ?_
                refine h_take (l' := #[true, true, true, false, true, false, false, false, false]) 4 rfl (by kernel_rfl) rfl rfl (np_cut (np_then np_post)) (hs_pick (is := [0, 1, 2, 3]) rfl rfl) (y_faddr off24_1 rfl rfl) ?_
                refine h_take (l' := #[true, true, true, false, true, true, false, false, false]) 5 rfl (by kernel_rfl) rfl rfl (np_cut (np_then np_post)) (hs_pick (is := [0, 1, 2, 3]) rfl rfl) (y_load (k := 2)  one3 rfl rfl rfl) ?_
                refine h_two (l' := #[true, true, true, true, true, true, false, false, false]) (l'' := #[true, true, true, false, true, true, false, true, false]) 3 7 rfl rfl (by kernel_rfl) rfl rfl ?_ ?_
                · skip
                  refine l_call rfl ent40 rfl (fun w hm => liveOf_c (l := j.cks) w (hJ.below hm.below) hj.1) ?_; rintro x41 h41
                  refine l_nil ?_
                  refine q_step (fun _ => hs_pick (is := [1, 2, 3, 4]) rfl rfl) ?_
                  refine h_take (l' := #[true, true, true, true, true, true, true, false, false]) 6 rfl (by kernel_rfl) rfl rfl (np_cut (np_then np_post)) (hs_pick (is := [1, 2, 3, 4]) rfl rfl) (y_build (cs := #[_, _]) (cl := [_, _])  zero24 bld24 rfl rfl rfl rfl rfl) ?_
                  refine h_only (l' := #[true, true, true, true, true, true, true, true, false]) 7 rfl (by kernel_rfl) rfl ?_
                  refine l_allocA rfl zero24 ?_; intro g9
                  refine l_nil ?_
                  refine q_step (fun _ => hs_pick (is := [2, 3, 4, 5]) rfl rfl) ?_
                  refine h_only (l' := #[true, true, true, true, true, true, true, true, true]) 8 rfl (by kernel_rfl) rfl ?_
                  refine l_storeW (k := 0) (H' := [_, _, _, _, _, _]) size24 rfl rfl rfl rfl rfl rfl rfl ?_
                  refine l_nil ?_
                  refine q_step (fun h => by cases h) ?_
                  refine h_done (by kernel_rfl) ?_
                  exact q_cut (g9, x41.1, x41.2) trivial (sub_cons rfl (sub_cons rfl (sub_cons rfl (sub_cons rfl sub_nil)))) (hs_pick (is := [3, 2, 0, 1]) rfl rfl)
                · skip
                  refine l_allocA rfl zero24 ?_; intro g9
                  refine l_nil ?_
                  refine q_step (fun _ => hs_pick (is := [1, 2, 3, 4]) rfl rfl) ?_
                  refine h_only (l' := #[true, true, true, true, true, true, false, true, false]) 3 rfl (by kernel_rfl) rfl ?_
                  refine l_call rfl ent40 rfl (fun w hm => liveOf_c (l := j.cks) w (hJ.below hm.below) hj.1) ?_; rintro x41 h41
                  refine l_nil ?_
                  refine q_step (fun _ => hs_pick (is := [2, 3, 4, 5]) rfl rfl) ?_
                  refine h_take (l' := #[true, true, true, true, true, true, true, true, false]) 6 rfl (by kernel_rfl) rfl rfl (np_cut (np_then np_post)) (hs_pick (is := [2, 3, 4, 5]) rfl rfl) (y_build (cs := #[_, _]) (cl := [_, _])  zero24 bld24 rfl rfl rfl rfl rfl) ?_
                  refine h_only (l' := #[true, true, true, true, true, true, true, true, true]) 8 rfl (by kernel_rfl) rfl ?_
                  refine l_storeW (k := 1) (H' := [_, _, _, _, _, _]) size24 rfl rfl rfl rfl rfl rfl rfl ?_
                  refine l_nil ?_
                  refine q_step (fun h => by cases h) ?_
                  refine h_done (by kernel_rfl) ?_
                  exact q_cut (g9, x41.1, x41.2) trivial (sub_cons rfl (sub_cons rfl (sub_cons rfl (sub_cons rfl sub_nil)))) (hs_pick (is := [3, 2, 1, 0]) rfl rfl)
              · rintro ⟨g9, A9, k9⟩ _
                try dsimp only
                refine q_then ?_
                refine c_seq ?_
                refine c_region rfl ?_
                refine gv rfl (y_assign rfl) ?_
                refine l_nil ?_
                refine q_then ?_
                refine c_seq ?_
                refine c_seq ?_
                refine c_region rfl ?_
                refine gv rfl (y_assign rfl) ?_
                refine l_nil ?_
                refine q_then ?_
                refine c_block ?_
                refine loop (Ef := [(2, _), (4, _), (6, _), (9, _)]) (Hf := [_, _]) (fun x : Nat × Bool × Int × Int × List Ck => x.1 ≤ (liveL now j.cks).length ∧ PutI (liveL now j.cks) j.next c x.1 x.2.1 ({ c with created := x.2.2.1, no := x.2.2.2.1 } : Ck) x.2.2.2.2) (fun x : Nat × Bool × Int × Int × List Ck => [(11, .int .i64 (x.1 : Int)), (10, .bool x.2.1)]) (fun x : Nat × Bool × Int × Int × List Ck => [.blk g4 (.cells (({ c with created := x.2.2.1, no := x.2.2.2.1 } : Ck).arr) 26 (0, 0)), .row (.slice A9 (liveL now j.cks).length k9) 26 13 (liveL now j.cks).length (x.2.2.2.2.flatMap Ck.cells)]) (fun x : Nat × Bool × Int × Int × List Ck => (liveL now j.cks).length - x.1) (0, false, c.created, c.no, (liveL now j.cks)) ⟨Nat.zero_le _, PutI.start⟩ (sub_cons rfl (sub_cons rfl sub_nil)) (sub_cons rfl (sub_cons rfl (sub_cons rfl (sub_cons rfl sub_nil)))) (hs_pick (is := [0, 3, 1, 2]) rfl rfl) ?_
                rintro ⟨s, b, cr, nn, L⟩ ⟨hs, hI⟩
                dsimp only at hs hI ⊢
                refine c_sub (E' := [(11, _), (10, _), (2, _), (4, _), (6, _), (9, _)]) (sub_cons rfl (sub_cons rfl (sub_cons rfl (sub_cons rfl (sub_cons rfl (sub_cons rfl sub_nil)))))) ?_
                refine c_seq ?_
                refine c_seq ?_
                refine c_region rfl ?_
                refine gv rfl (y_move rfl) ?_
                refine gv rfl (y_faddr off24_0 rfl rfl) ?_
                refine gv rfl (y_load (k := 3)  one22 rfl rfl rfl) ?_
                refine gv rfl (y_len elem22 rfl) ?_
                refine gv rfl (y_lss rfl rfl) ?_
                refine l_nil ?_
                refine q_then ?_
                refine c_dec rfl ?_ ?_
                · intro h49
                  have hlt : s < (liveL now j.cks).length := by omega
                  have hL := hI.len
                  obtain ⟨v, hv⟩ := get_lt (l := L) (i := s) (by omega)
                  refine c_skip ?_
                  refine q_then ?_
                  refine c_seq ?_
                  refine c_block ?_
                  refine c_seq ?_
                  refine c_drawp (l := #[false, false, false, false, false, false, false]) 7 (is := [0, 1, 2, 3]) rfl rfl rfl rfl ?_
                  refine h_take (l' := #[true, false, false, false, false, false, false]) 0 rfl (by kernel_rfl) rfl rfl (np_then (np_block (np_then (np_loop (np_block (np_then np_post)))))) (hs_pick (is := [0, 1, 2, 3]) rfl rfl) (y_faddr off24_0 rfl rfl) ?_
                  refine h_take (l' := #[true, true, false, false, false, false, false]) 1 rfl (by kernel_rfl) rfl rfl (np_then (np_block (np_then (np_loop (np_block (np_then np_post)))))) (hs_pick (is := [0, 1, 2, 3]) rfl rfl) (y_load (k := 3)  one22 rfl rfl rfl) ?_
                  refine h_take (l' := #[true, true, true, false, false, false, false]) 2 rfl (by kernel_rfl) rfl rfl (np_then (np_block (np_then (np_loop (np_block (np_then np_post)))))) (hs_pick (is := [0, 1, 2, 3]) rfl rfl) (y_move rfl) ?_
                  refine h_take (l' := #[true, true, true, true, false, false, false]) 3 rfl (by kernel_rfl) rfl rfl (np_then (np_block (np_then (np_loop (np_block (np_then np_post)))))) (hs_pick (is := [0, 1, 2, 3]) rfl rfl) (y_iaddr_row (k := 1) elem22 size26 rfl (fun _ => rfl) rfl rfl rfl (by omega) hv) ?_
                  refine h_take (l' := #[true, true, true, true, true, false, false]) 4 rfl (by kernel_rfl) rfl rfl (np_then (np_block (np_then (np_loop (np_block (np_then np_post)))))) (hs_pick (is := [0, 1, 2, 3]) rfl rfl) (y_loadA_row (k := 1) agg26 rfl (fun _ => rfl) rfl rfl rfl hv rfl) ?_
                  refine h_take (l' := #[true, true, true, true, true, true, false]) 5 rfl (by kernel_rfl) rfl rfl (np_then (np_block (np_then (np_loop (np_block (np_then np_post)))))) (hs_pick (is := [0, 1, 2, 3]) rfl rfl) (y_loadW (k := 0)  agg26 rfl rfl rfl) ?_
                  refine h_only (l' := #[true, true, true, true, true, true, true]) 6 rfl (by kernel_rfl) rfl ?_
                  refine l_callU rfl ent21 rfl (fun w hm => sameKey_c (a := v) (b := ({ c with created := cr, no := nn } : Ck)) w) ?_
                  refine l_nil ?_
                  refine q_step (fun _ => hs_pick (is := [0, 1, 2, 3]) rfl rfl) ?_
                  refine h_done (by kernel_rfl) ?_
                  refine q_then ?_
                  refine c_bool rfl ?_ ?_
                  · intro h58
                    refine c_seq ?_
                    refine c_region rfl ?_
                    refine gv rfl (y_faddr off24_0 rfl rfl) ?_
                    refine gv rfl (y_load (k := 3)  one22 rfl rfl rfl) ?_
                    refine gv rfl (y_move rfl) ?_
                    refine gv rfl (y_iaddr_row (k := 1) elem22 size26 rfl (fun _ => rfl) rfl rfl rfl (by omega) hv) ?_
                    refine gv rfl (y_faddr_row (k := 1) off26_10 rfl (fun _ => rfl) rfl rfl hv rfl) ?_
                    refine gv rfl (y_load_row (k := 1) one3 rfl (fun _ => rfl) rfl 10 rfl rfl hv rfl) ?_
                    refine gv rfl (y_faddr off26_10 rfl rfl) ?_
                    refine l_store (k := 0) (cs' := ({ c with created := v.created, no := nn } : Ck).arr) (H' := [_, _, _, _]) size3 rfl rfl rfl rfl rfl rfl rfl ?_
                    refine l_nil ?_
                    refine q_then ?_
                    refine c_seq ?_
                    refine c_region rfl ?_
                    refine gv rfl (y_faddr off24_0 rfl rfl) ?_
                    refine gv rfl (y_load (k := 3)  one22 rfl rfl rfl) ?_
                    refine gv rfl (y_move rfl) ?_
                    refine gv rfl (y_iaddr_row (k := 1) elem22 size26 rfl (fun _ => rfl) rfl rfl rfl (by omega) hv) ?_
                    refine gv rfl (y_faddr_row (k := 1) off26_12 rfl (fun _ => rfl) rfl rfl hv rfl) ?_
                    refine gv rfl (y_load_row (k := 1) one3 rfl (fun _ => rfl) rfl 12 rfl rfl hv rfl) ?_
                    refine gv rfl (y_faddr off26_12 rfl rfl) ?_
                    refine l_store (k := 0) (cs' := ({ c with created := v.created, no := v.no } : Ck).arr) (H' := [_, _, _, _]) size3 rfl rfl rfl rfl rfl rfl rfl ?_
                    refine l_nil ?_
                    refine q_then ?_
                    refine c_seq ?_
                    refine c_rowopen (k := 1) rfl (flat_ne Ck.len13 (by decide) (i := s) (by omega)) ?_
                    intro g0 R0 hAe hx1 hx2 hnc hcm
                    subst hAe
                    have hfl := flat_len Ck.len13 L
                    refine c_region rfl ?_
                    refine gv rfl (y_faddr off24_0 rfl rfl) ?_
                    refine gv rfl (y_load (k := 3)  one22 rfl rfl rfl) ?_
                    refine gv rfl (y_move rfl) ?_
                    refine gv rfl (y_loadW (k := 0)  agg26 rfl rfl rfl) ?_
                    refine gv rfl (y_iaddr_own (r := (s * 13)) elem22 size26 rfl rfl (by omega) (by omega) (by simp)) ?_
                    refine l_storeA (k := 1) (cs' := (rowF Ck.cells (L.set s ({ c with created := v.created, no := v.no } : Ck)) R0)) (H' := [_, _, _, _]) size26 rfl rfl rfl rfl rfl (by rw [List.size_toArray, List.length_append, hfl]; omega) (by exact rowF_set (v := ({ c with created := v.created, no := v.no } : Ck)) Ck.len13 (by omega)) rfl ?_
                    refine l_nil ?_
                    refine q_then ?_
                    refine c_rowclose (k := 1) (n := (liveL now j.cks).length) (c := k9) (sz := 13) (xs := (L.set s ({ c with created := v.created, no := v.no } : Ck)).flatMap Ck.cells) rfl (by rw [rowF_len Ck.len13, List.length_set]; omega) hnc hcm (rowF_all Ck.len13 (by rw [List.length_set]; exact hL.symm)) ?_
                    refine c_region rfl ?_
                    refine gv rfl (y_assign rfl) ?_
                    refine l_nil ?_
                    refine q_block (q_then ?_)
                    refine c_region rfl ?_
                    refine gv rfl (y_move rfl) ?_
                    refine gv rfl (y_add rfl rfl (wrap_in (by omega) (by omega))) ?_
                    refine gv rfl (y_assign rfl) ?_
                    refine l_nil ?_
                    exact again (s + 1, true, v.created, v.no, L.set s ({ c with created := v.created, no := v.no } : Ck)) ⟨Nat.succ_le_of_lt hlt, PutI.yes (u := ({ c with created := cr, no := nn } : Ck)) hw hI hv h58⟩ (by omega) (sub_cons rfl (sub_cons rfl sub_nil)) (sub_cons rfl (sub_cons rfl (sub_cons rfl (sub_cons rfl sub_nil)))) (hs_pick (is := [0, 1, 2, 3]) rfl rfl)
                  · intro h58
                    refine c_skip ?_
                    refine q_block (q_then ?_)
                    refine c_region rfl ?_
                    refine gv rfl (y_move rfl) ?_
                    refine gv rfl (y_add rfl rfl (wrap_in (by omega) (by omega))) ?_
                    refine gv rfl (y_assign rfl) ?_
                    refine l_nil ?_
                    exact again (s + 1, b, cr, nn, L) ⟨Nat.succ_le_of_lt hlt, hI.no hv h58⟩ (by omega) (sub_cons rfl (sub_cons rfl sub_nil)) (sub_cons rfl (sub_cons rfl (sub_cons rfl (sub_cons rfl sub_nil)))) (hs_pick (is := [0, 1, 2, 3]) rfl rfl)
                · intro h49
                  have hL := hI.len
                  refine c_exit ?_
                  refine q_then_exit (q_loop_exit (q_block_exit (q_then ?_)))
                  refine c_seq ?_
                  refine c_seq ?_
                  refine c_region rfl ?_
                  refine gv rfl (y_move rfl) ?_
                  refine gv rfl (y_not rfl rfl) ?_
                  refine l_nil ?_
                  refine q_then ?_
                  refine c_cut (fun _ => True) (fun x : Option Addr × Nat × Int × Int => [(2, .int .i64 now), (4, .pointer (some ⟨g4, 0, none⟩)), (6, .pointer (some ⟨g6, 0, none⟩)), (9, .pointer (some ⟨g9, 0, none⟩))]) (fun x : Option Addr × Nat × Int × Int => [.blk g4 (.cells (({ c with created := x.2.2.1, no := x.2.2.2 } : Ck).arr) 26 (0, 0)), .blk g6 (.cells #[.slice none 0 0, .int .i64 0] 24 (0, 0)), .blk g9 (.cells #[.slice x.1 ((layL (liveL now j.cks) j.next c) : List Ck).length x.2.1, .int .i64 (layN (liveL now j.cks) j.next c)] 24 (0, 0)), .row (.slice x.1 ((layL (liveL now j.cks) j.next c) : List Ck).length x.2.1) 26 13 ((layL (liveL now j.cks) j.next c) : List Ck).length (((layL (liveL now j.cks) j.next c) : List Ck).flatMap Ck.cells)]) ?_ ?_
                  · skip
                    refine c_bool rfl ?_ ?_
                    · intro h79
                      refine c_seq ?_
                      refine c_region rfl ?_
                      refine gv rfl (y_faddr off24_1 rfl rfl) ?_
                      refine gv rfl (y_load (k := 3)  one3 rfl rfl rfl) ?_
                      refine gv rfl (y_faddr off26_12 rfl rfl) ?_
                      refine l_store (k := 0) (cs' := ({ c with created := cr, no := j.next } : Ck).arr) (H' := [_, _, _, _]) size3 rfl rfl rfl rfl rfl rfl rfl ?_
                      refine l_nil ?_
                      refine q_then ?_
                      refine c_seq ?_
                      refine c_region rfl ?_
                      refine gv rfl (y_faddr off24_1 rfl rfl) ?_
                      refine gv rfl (y_load (k := 3)  one3 rfl rfl rfl) ?_
                      refine gv rfl (y_add rfl rfl (wrap_in (by omega) (by omega))) ?_
                      refine gv rfl (y_faddr off24_1 rfl rfl) ?_
                      refine l_store (k := 3) (cs' := #[_, _]) (H' := [_, _, _, _]) size3 rfl rfl rfl rfl rfl rfl rfl ?_
                      refine l_nil ?_
                      refine q_then ?_
                      refine c_region rfl ?_
                      refine gv rfl (y_faddr off24_0 rfl rfl) ?_
                      refine gv rfl (y_load (k := 3)  one22 rfl rfl rfl) ?_
                      refine gv rfl (y_loadW (k := 0)  agg26 rfl rfl rfl) ?_
                      refine l_bslice (cl := [_, _, _, _, _, _, _, _, _, _, _, _, _]) rfl elem22 ap26 zero26 rfl rfl rfl rfl rfl rfl rfl ?_; intro g90
                      refine l_append (k := 2) (j := 0) (zs := (L ++ [({ c with created := cr, no := j.next } : Ck)]).flatMap Ck.cells) rfl elem22 ap26 rfl rfl rfl rfl rfl rfl (by omega) (by omega) (by exact app_one (c := ({ c with created := cr, no := j.next } : Ck))) ?_; intro A91 c91
                      refine gv rfl (y_faddr off24_0 rfl rfl) ?_
                      refine l_store (k := 4) (cs' := #[_, _]) (H' := [_, _, _, _, _]) size22 rfl rfl rfl rfl rfl rfl rfl ?_
                      refine l_nil ?_
                      have hb : b = false := by simpa using h79
                      subst hb
                      obtain ⟨hE1, hE2⟩ := hI.end_no (by omega)
                      rw [show (liveL now j.cks).length + 1 = (layL (liveL now j.cks) j.next c).length by rw [← hE1, List.length_append, hL]; rfl, hE2]
                      rw [show L ++ [({ c with created := cr, no := j.next } : Ck)] = (layL (liveL now j.cks) j.next c) from hE1]
                      exact q_cut (A91, c91, cr, j.next) trivial (sub_cons rfl (sub_cons rfl (sub_cons rfl (sub_cons rfl sub_nil)))) (hs_pick (is := [1, 3, 4, 2]) rfl rfl)
                    · intro h79
                      refine c_skip ?_
                      have hb : b = true := by simpa using h79
                      subst hb
                      obtain ⟨hE1, hE2⟩ := hI.end_yes
                      rw [hE2, ← hL, hE1]
                      exact q_cut (A9, k9, cr, nn) trivial (sub_cons rfl (sub_cons rfl (sub_cons rfl (sub_cons rfl sub_nil)))) (hs_pick (is := [0, 2, 3, 1]) rfl rfl)
                  · rintro ⟨A9, k9, cr, nn⟩ _
                    try dsimp only
                    refine q_then ?_
                    refine c_seq ?_
                    refine c_region rfl ?_
                    refine gv rfl (y_faddr off24_0 rfl rfl) ?_
                    refine gv rfl (y_load (k := 2)  one22 rfl rfl rfl) ?_
                    refine gv rfl (y_move rfl) ?_
                    refine l_call rfl ent40 rfl (fun w hm => liveOf_c (l := (layL (liveL now j.cks) j.next c)) w (sl_of_row hm (k := 3) rfl (fun _ => rfl) rfl) (by omega)) ?_; rintro x96 h96
                    refine gv rfl (y_assign rfl) ?_
                    refine l_nil ?_
                    refine q_then ?_
                    refine c_seq ?_
                    refine c_region rfl ?_
                    refine gv rfl (y_move rfl) ?_
                    refine gv rfl (y_faddr off26_2 rfl rfl) ?_
                    refine gv rfl (y_load (k := 1)  one9 rfl rfl rfl) ?_
                    refine l_callU rfl ent41 rfl (fun w hm => leastUsed_c (l := (liveL now (layL (liveL now j.cks) j.next c))) (d := c.domain) (b := false) w (sl_of_row hm (k := 0) rfl (fun _ => rfl) rfl) (by omega)) ?_
                    refine gv rfl (y_move rfl) ?_
                    refine gv rfl (y_extract rfl rfl) ?_
                    refine gv rfl (y_extract rfl rfl) ?_
                    refine gv rfl (y_assign rfl) ?_
                    refine gv rfl (y_assign rfl) ?_
                    refine l_nil ?_
                    refine q_then ?_
                    refine c_seq ?_
                    refine c_block ?_
                    refine loop (Ef := [(4, _), (6, _), (9, _)]) (Hf := [_, _, _, _]) (fun x : List Ck × Option Addr × Nat => evictL 4 (qU false c.domain) x.1 = evictL 4 (qU false c.domain) (liveL now (layL (liveL now j.cks) j.next c)) ∧ x.1.length ≤ (liveL now (layL (liveL now j.cks) j.next c)).length) (fun x : List Ck × Option Addr × Nat => [(12, .slice x.2.1 x.1.length x.2.2), (13, .int .i64 (atU (qU false c.domain) x.1)), (14, .int .i64 ((idxL (qU false c.domain) x.1).length : Int))]) (fun x : List Ck × Option Addr × Nat => [.row (.slice x.2.1 x.1.length x.2.2) 26 13 x.1.length (x.1.flatMap Ck.cells)]) (fun x : List Ck × Option Addr × Nat => x.1.length) ((liveL now (layL (liveL now j.cks) j.next c)), x96.1, x96.2) ⟨rfl, Nat.le_refl _⟩ (sub_cons rfl (sub_cons rfl (sub_cons rfl sub_nil))) (sub_cons rfl (sub_cons rfl (sub_cons rfl sub_nil))) (hs_pick (is := [0, 1, 2, 3, 4]) rfl rfl) ?_
                    rintro ⟨L, A12, k12⟩ ⟨hI, hle⟩
                    dsimp only at hI hle ⊢
                    refine c_sub (E' := [(12, _), (13, _), (14, _), (4, _), (6, _), (9, _)]) (sub_cons rfl (sub_cons rfl (sub_cons rfl (sub_cons rfl (sub_cons rfl (sub_cons rfl sub_nil)))))) ?_
                    refine c_seq ?_
                    refine c_seq ?_
                    refine c_region rfl ?_
                    refine gv rfl (y_move rfl) ?_
                    refine gv rfl (y_gtr rfl rfl) ?_
                    refine l_nil ?_
                    refine q_then ?_
                    refine c_dec rfl ?_ ?_
                    · intro h105
                      have hm4 : ¬ ((idxL (qU false c.domain) L).length : Int) ≤ 4 := by omega
                      have hat := atU_least (by decide) hm4
                      have hlt2 := leastI_lt (by decide) hm4
                      have hst := evictL_step (by decide) hm4
                      have hel : (L.eraseIdx (atU (qU false c.domain) L).toNat).length = L.length - 1 := List.length_eraseIdx_of_lt (by omega)
                      refine c_skip ?_
                      refine q_then ?_
                      refine c_block ?_
                      refine c_seq ?_
                      refine c_region rfl ?_
                      refine gv rfl (y_move rfl) ?_
                      refine gv rfl (y_move rfl) ?_
                      refine l_call rfl ent42 rfl (fun w hm => withoutAt_c (l := L) (p := atU (qU false c.domain) L) w (sl_of_row hm (k := 0) rfl (fun _ => rfl) rfl) (by omega) (row_cap hm (k := 0) rfl) (by omega) (by omega)) ?_; rintro x108 h108
                      refine gv rfl (y_assign rfl) ?_
                      refine l_nil ?_
                      refine q_then ?_
                      refine c_region rfl ?_
                      refine gv rfl (y_move rfl) ?_
                      refine gv rfl (y_faddr off26_2 rfl rfl) ?_
                      refine gv rfl (y_load (k := 2)  one9 rfl rfl rfl) ?_
                      refine l_callU rfl ent41 rfl (fun w hm => leastUsed_c (l := (L.eraseIdx (atU (qU false c.domain) L).toNat)) (d := c.domain) (b := false) w (sl_of_row hm (k := 0) rfl (fun _ => rfl) rfl) (by omega)) ?_
                      refine gv rfl (y_move rfl) ?_
                      refine gv rfl (y_extract rfl rfl) ?_
                      refine gv rfl (y_extract rfl rfl) ?_
                      refine gv rfl (y_assign rfl) ?_
                      refine gv rfl (y_assign rfl) ?_
                      refine l_nil ?_
                      refine q_block ?_
                      exact again ((L.eraseIdx (atU (qU false c.domain) L).toNat), x108.1, x108.2) ⟨by dsimp only; rw [hat, ← hst]; exact hI, by dsimp only; omega⟩ (by dsimp only; omega) (sub_cons rfl (sub_cons rfl (sub_cons rfl sub_nil))) (sub_cons rfl (sub_cons rfl (sub_cons rfl sub_nil))) (hs_pick (is := [0, 2, 3, 4, 5]) rfl rfl)
                    · intro h105
                      have hL4 := atU_stop hI h105
                      subst hL4
                      refine c_exit ?_
                      refine q_then_exit (q_loop_exit (q_block_exit (q_then ?_)))
                      refine c_seq ?_
                      refine c_region rfl ?_
                      refine gv rfl (y_move rfl) ?_
                      refine l_callU rfl ent41 rfl (fun w hm => leastUsed_c (l := (evictL 4 (qU false c.domain) (liveL now (layL (liveL now j.cks) j.next c)))) (d := []) (b := true) w (sl_of_row hm (k := 0) rfl (fun _ => rfl) rfl) (by omega)) ?_
                      refine gv rfl (y_move rfl) ?_
                      refine gv rfl (y_extract rfl rfl) ?_
                      refine gv rfl (y_extract rfl rfl) ?_
                      refine gv rfl (y_assign rfl) ?_
                      refine gv rfl (y_assign rfl) ?_
                      refine l_nil ?_
                      refine q_then ?_
                      refine c_seq ?_
                      refine c_block ?_
                      refine loop (Ef := [(6, _), (9, _)]) (Hf := [_, _, _, _]) (fun x : List Ck × Option Addr × Nat => evictL 12 (qU true []) x.1 = evictL 12 (qU true []) (evictL 4 (qU false c.domain) (liveL now (layL (liveL now j.cks) j.next c))) ∧ x.1.length ≤ (evictL 4 (qU false c.domain) (liveL now (layL (liveL now j.cks) j.next c))).length) (fun x : List Ck × Option Addr × Nat => [(12, .slice x.2.1 x.1.length x.2.2), (13, .int .i64 (atU (qU true []) x.1)), (14, .int .i64 ((idxL (qU true []) x.1).length : Int))]) (fun x : List Ck × Option Addr × Nat => [.row (.slice x.2.1 x.1.length x.2.2) 26 13 x.1.length (x.1.flatMap Ck.cells)]) (fun x : List Ck × Option Addr × Nat => x.1.length) ((evictL 4 (qU false c.domain) (liveL now (layL (liveL now j.cks) j.next c))), A12, k12) ⟨rfl, Nat.le_refl _⟩ (sub_cons rfl (sub_cons rfl (sub_cons rfl sub_nil))) (sub_cons rfl (sub_cons rfl sub_nil)) (hs_pick (is := [0, 1, 2, 3, 4]) rfl rfl) ?_
                      rintro ⟨L, A12, k12⟩ ⟨hI, hle⟩
                      dsimp only at hI hle ⊢
                      refine c_sub (E' := [(12, _), (13, _), (14, _), (6, _), (9, _)]) (sub_cons rfl (sub_cons rfl (sub_cons rfl (sub_cons rfl (sub_cons rfl sub_nil))))) ?_
                      refine c_seq ?_
                      refine c_seq ?_
                      refine c_region rfl ?_
                      refine gv rfl (y_move rfl) ?_
                      refine gv rfl (y_gtr rfl rfl) ?_
                      refine l_nil ?_
                      refine q_then ?_
                      refine c_dec rfl ?_ ?_
                      · intro h122
                        have hm4 : ¬ ((idxL (qU true []) L).length : Int) ≤ 12 := by omega
                        have hat := atU_least (by decide) hm4
                        have hlt2 := leastI_lt (by decide) hm4
                        have hst := evictL_step (by decide) hm4
                        have hel : (L.eraseIdx (atU (qU true []) L).toNat).length = L.length - 1 := List.length_eraseIdx_of_lt (by omega)
                        refine c_skip ?_
                        refine q_then ?_
                        refine c_block ?_
                        refine c_seq ?_
                        refine c_region rfl ?_
                        refine gv rfl (y_move rfl) ?_
                        refine gv rfl (y_move rfl) ?_
                        refine l_call rfl ent42 rfl (fun w hm => withoutAt_c (l := L) (p := atU (qU true []) L) w (sl_of_row hm (k := 0) rfl (fun _ => rfl) rfl) (by omega) (row_cap hm (k := 0) rfl) (by omega) (by omega)) ?_; rintro x125 h125
                        refine gv rfl (y_assign rfl) ?_
                        refine l_nil ?_
                        refine q_then ?_
                        refine c_region rfl ?_
                        refine gv rfl (y_move rfl) ?_
                        refine l_callU rfl ent41 rfl (fun w hm => leastUsed_c (l := (L.eraseIdx (atU (qU true []) L).toNat)) (d := []) (b := true) w (sl_of_row hm (k := 0) rfl (fun _ => rfl) rfl) (by omega)) ?_
                        refine gv rfl (y_move rfl) ?_
                        refine gv rfl (y_extract rfl rfl) ?_
                        refine gv rfl (y_extract rfl rfl) ?_
                        refine gv rfl (y_assign rfl) ?_
                        refine gv rfl (y_assign rfl) ?_
                        refine l_nil ?_
                        refine q_block ?_
                        exact again ((L.eraseIdx (atU (qU true []) L).toNat), x125.1, x125.2) ⟨by dsimp only; rw [hat, ← hst]; exact hI, by dsimp only; omega⟩ (by dsimp only; omega) (sub_cons rfl (sub_cons rfl (sub_cons rfl sub_nil))) (sub_cons rfl (sub_cons rfl sub_nil)) (hs_pick (is := [0, 2, 3, 4, 5]) rfl rfl)
                      · intro h122
                        have hL5 := atU_stop hI h122
                        subst hL5
                        refine c_exit ?_
                        refine q_then_exit (q_loop_exit (q_block_exit (q_then ?_)))
                        refine c_seq ?_
                        refine c_region rfl ?_
                        refine gv rfl (y_move rfl) ?_
                        refine gv rfl (y_faddr off24_0 rfl rfl) ?_
                        refine l_store (k := 3) (cs' := #[_, _]) (H' := [_, _, _, _, _]) size22 rfl rfl rfl rfl rfl rfl rfl ?_
                        refine l_nil ?_
                        refine q_then ?_
                        refine c_seq ?_
                        refine c_region rfl ?_
                        refine gv rfl (y_loadW (k := 3)  agg24 rfl rfl rfl) ?_
                        refine l_storeW (k := 2) (H' := [_, _, _, _, _]) size24 rfl rfl rfl rfl rfl rfl rfl ?_
                        refine gv rfl (y_assign rfl) ?_
                        refine l_nil ?_
                        refine q_then ?_
                        refine c_ret ?_
                        exact q_retA1 (k := 2) Tryz.results11 agg24 rfl rfl rfl rfl (A12, k12) trivial (by rw [hz, eJ]; rfl) (by rw [eJ]; exact hs_pick (is := [0]) rfl rfl)
        · intro h29
          exact absurd h19 h29
  · intro h19
    refine g_off (t := 19) rfl rfl rfl rfl ?_
    refine g_off (t := 19) rfl rfl rfl rfl ?_
    refine g_off (t := 19) rfl rfl rfl rfl ?_
    refine g_und (t := 22) rfl rfl rfl ?_
    refine g_und (t := 22) rfl rfl rfl ?_
    refine g_off (t := 19) rfl rfl rfl rfl ?_
    refine gv rfl (y_pick_f rfl rfl) ?_
    refine l_nil ?_
    refine q_then ?_
    refine c_cond_f rfl ?_
    refine c_skip ?_
    refine q_then ?_
    refine c_seq ?_
    refine c_seq ?_
    refine c_region rfl ?_
    refine gv rfl (y_move rfl) ?_
    refine gv rfl (y_eql rfl rfl) ?_
    refine gv rfl (y_move rfl) ?_
    refine g_dec (t := 29) rfl ?_ ?_
    · intro h29
      exact absurd h29 h19
    · intro h29
      refine g_off (t := 29) rfl rfl rfl rfl ?_
      refine g_off (t := 29) rfl rfl rfl rfl ?_
      refine g_off (t := 29) rfl rfl rfl rfl ?_
      refine gv rfl (y_pick_f rfl rfl) ?_
      refine l_nil ?_
      refine q_then ?_
      refine c_cond_f rfl ?_
      refine c_skip ?_
      refine q_then ?_
      refine c_seq ?_
      refine c_seq ?_
      refine c_region rfl ?_
      refine gv rfl (y_move rfl) ?_
      refine gv rfl (y_neq rfl rfl) ?_
      refine l_nil ?_
      refine q_then ?_
      refine c_dec rfl ?_ ?_
      · intro h35
        refine c_seq ?_
        refine c_region rfl ?_
        refine gv rfl (y_build (cs := #[_, _]) (cl := [_, _])  zero24 bld24 rfl rfl rfl rfl rfl) ?_
        refine gv rfl (y_move rfl) ?_
        refine l_storeW (k := 0) (H' := [_, _, _, _]) size24 rfl rfl rfl rfl rfl rfl rfl ?_
        refine gv rfl (y_assign rfl) ?_
        refine l_nil ?_
        refine q_then ?_
        refine c_ret ?_
        refine q_then_ret ?_
        have eE : putE j c now = jarErr j := if_pos h19
        have eJ : putJ j c now = ⟨[], 0⟩ := if_pos (by rw [eE]; first | exact h19 | decide)
        exact q_retA1 (k := 0) Tryz.results11 agg24 rfl rfl rfl rfl (none, 0) trivial (by rw [eE, eJ] <;> rfl) (by rw [eJ]; exact hs_pick (is := [3]) rfl rfl)
      · intro h35
        exact absurd h19 h35

theorem jarTells_c {ad : List UInt8 → Bool} {j : Ja} {c : Ck} {now : Int} {A0 : Option Addr} {k0 : Nat} (w : World) (hAd : AddrIs Tryz.prog 107 w ad) (had : ad wsh = false) (hJ : Sl Ck.cells 13 w A0 j.cks) (hj : j.ok) (hk0 : A0 = none → k0 = 0) (hc : c.fits) : Cv Tryz.prog 3 #[.agg (j.arr A0 k0), .agg c.arr, .int .i64 now] w (.bool true) := by
  refine enter (E := [(0, .agg (j.arr A0 k0)), (1, .agg c.arr), (2, .int .i64 now)]) Tryz.func3 rfl Tryz.ntmps3 rfl (by simp) ?_
  have hok := putJ_ok (now := now) hj hc
  refine c_seq ?_
  refine c_region rfl ?_
  refine l_boxA rfl rfl ?_; intro g3
  refine l_boxA rfl rfl ?_; intro g4
  refine gv rfl (y_assign rfl) ?_
  refine l_nil ?_
  refine q_then ?_
  refine c_seq ?_
  refine c_region rfl ?_
  refine gv rfl (y_loadW (k := 1)  agg24 rfl rfl rfl) ?_
  refine gv rfl (y_loadW (k := 0)  agg26 rfl rfl rfl) ?_
  refine gv rfl (y_move rfl) ?_
  refine l_call rfl ent10 rfl (fun w hm => put_c (j := j) (c := c) w (hJ.below hm.below) hj hk0) ?_; rintro x15 h15
  refine gv rfl (y_move rfl) ?_
  refine gv rfl (y_extract rfl rfl) ?_
  refine gv rfl (y_extract rfl rfl) ?_
  refine l_allocA rfl zero24 ?_; intro g7
  refine l_storeW (k := 0) (H' := [_, _, _, _]) size24 rfl rfl rfl rfl rfl rfl rfl ?_
  refine gv rfl (y_assign rfl) ?_
  refine l_nil ?_
  refine q_then ?_
  refine c_seq ?_
  refine c_region rfl ?_
  refine gv rfl (y_loadW (k := 3)  agg24 rfl rfl rfl) ?_
  refine gv rfl (y_loadW (k := 2)  agg26 rfl rfl rfl) ?_
  refine gv rfl (y_move rfl) ?_
  refine l_call rfl ent11 rfl (fun w hm => putOf_c (j := j) (c := c) w (hJ.below hm.below) hj) ?_; rintro x22 h22
  refine gv rfl (y_move rfl) ?_
  refine gv rfl (y_extract rfl rfl) ?_
  refine gv rfl (y_extract rfl rfl) ?_
  refine l_allocA rfl zero24 ?_; intro g9
  refine l_storeW (k := 0) (H' := [_, _, _, _, _, _]) size24 rfl rfl rfl rfl rfl rfl rfl ?_
  refine gv rfl (y_assign rfl) ?_
  refine l_nil ?_
  refine q_then ?_
  refine c_seq ?_
  refine c_drawp (l := #[false, false, false, false, false, false, false, false, false, false, false, false, false, false, false, false, false, false, false]) 19 (is := [0, 1, 2, 3, 4, 5]) rfl rfl rfl rfl ?_
  refine h_only (l' := #[true, false, false, false, false, false, false, false, false, false, false, false, false, false, false, false, false, false, false]) 0 rfl (by kernel_rfl) rfl ?_
  refine l_callU rfl ent12 rfl (fun w hm => jarBegun_c w (hAd.above hm.below) had) ?_
  refine l_nil ?_
  refine q_step (fun _ => hs_pick (is := [0, 1, 2, 3, 4, 5]) rfl rfl) ?_
  refine h_take (l' := #[true, true, false, false, false, false, false, false, false, false, false, false, false, false, false, false, false, false, false]) 1 rfl (by kernel_rfl) rfl rfl (np_then np_post) (hs_pick (is := [0, 1, 2, 3, 4, 5]) rfl rfl) (y_move rfl) ?_
  refine h_takeg (t := 26) (l' := #[true, true, true, false, false, false, false, false, false, false, false, false, false, false, false, false, false, false, false]) 2 rfl (by kernel_rfl) rfl rfl (np_then np_post) (hs_pick (is := [0, 1, 2, 3, 4, 5]) rfl rfl) rfl rfl (y_loadW (k := 5)  agg24 rfl rfl rfl) ?_
  refine h_takeg (t := 26) (l' := #[true, true, true, false, true, false, false, false, false, false, false, false, false, false, false, false, false, false, false]) 4 rfl (by kernel_rfl) rfl rfl (np_then np_post) (hs_pick (is := [0, 1, 2, 3, 4, 5]) rfl rfl) rfl rfl (y_loadW (k := 5)  agg24 rfl rfl rfl) ?_
  refine h_only (l' := #[true, true, true, true, true, false, false, false, false, false, false, false, false, false, false, false, false, false, false]) 3 rfl (by kernel_rfl) rfl ?_
  refine g_on (t := 26) rfl rfl ?_
  refine l_callU rfl ent13 rfl (fun w hm => jarCheck_c (j := j) w (hJ.below hm.below) hj) ?_
  refine l_nil ?_
  refine q_step (fun _ => hs_pick (is := [0, 1, 2, 3, 4, 5]) rfl rfl) ?_
  refine h_only (l' := #[true, true, true, true, true, true, false, false, false, false, false, false, false, false, false, false, false, false, false]) 5 rfl (by kernel_rfl) rfl ?_
  refine g_on (t := 26) rfl rfl ?_
  refine l_callU rfl ent14 rfl (fun w hm => refCheck_c (j := j) w (hJ.below hm.below) hj.1) ?_
  refine l_nil ?_
  refine q_step (fun _ => hs_pick (is := [0, 1, 2, 3, 4, 5]) rfl rfl) ?_
  refine h_takeg (t := 26) (l' := #[true, true, true, true, true, true, true, false, false, false, false, false, false, false, false, false, false, false, false]) 6 rfl (by kernel_rfl) rfl rfl (np_then np_post) (hs_pick (is := [0, 1, 2, 3, 4, 5]) rfl rfl) rfl rfl (y_eql rfl rfl) ?_
  refine h_take (l' := #[true, true, true, true, true, true, true, true, false, false, false, false, false, false, false, false, false, false, false]) 7 rfl (by kernel_rfl) rfl rfl (np_then np_post) (hs_pick (is := [0, 1, 2, 3, 4, 5]) rfl rfl) (y_pick_t rfl rfl) ?_
  refine h_take (l' := #[true, true, true, true, true, true, true, true, true, false, false, false, false, false, false, false, false, false, false]) 8 rfl (by kernel_rfl) rfl rfl (np_then np_post) (hs_pick (is := [0, 1, 2, 3, 4, 5]) rfl rfl) (y_move rfl) ?_
  refine h_dec (t := 33) rfl ?_ ?_
  · intro h33
    refine h_takeg (t := 33) (l' := #[true, true, true, true, true, true, true, true, true, true, false, false, false, false, false, false, false, false, false]) 9 rfl (by kernel_rfl) rfl rfl (np_then np_post) (hs_pick (is := [0, 1, 2, 3, 4, 5]) rfl rfl) rfl rfl (y_loadW (k := 2)  agg24 rfl rfl rfl) ?_
    refine h_takeg (t := 33) (l' := #[true, true, true, true, true, true, true, true, true, true, true, false, false, false, false, false, false, false, false]) 10 rfl (by kernel_rfl) rfl rfl (np_then np_post) (hs_pick (is := [0, 1, 2, 3, 4, 5]) rfl rfl) rfl rfl (y_loadW (k := 0)  agg24 rfl rfl rfl) ?_
    refine h_only (l' := #[true, true, true, true, true, true, true, true, true, true, true, true, false, false, false, false, false, false, false]) 11 rfl (by kernel_rfl) rfl ?_
    refine g_on (t := 33) rfl rfl ?_
    refine l_callU rfl ent15 rfl (fun w hm => sameJa_c (j := (putJ j c now)) (h := (putJ j c now)) w (sl_of_row hm (k := 3) rfl (fun _ => rfl) rfl) (sl_of_row hm (k := 1) rfl (fun _ => rfl) rfl) hok.1) ?_
    refine l_nil ?_
    refine q_step (fun _ => hs_pick (is := [0, 1, 2, 3, 4, 5]) rfl rfl) ?_
    refine h_take (l' := #[true, true, true, true, true, true, true, true, true, true, true, true, true, false, false, false, false, false, false]) 12 rfl (by kernel_rfl) rfl rfl (np_then np_post) (hs_pick (is := [0, 1, 2, 3, 4, 5]) rfl rfl) (y_pick_t rfl rfl) ?_
    refine h_take (l' := #[true, true, true, true, true, true, true, true, true, true, true, true, true, true, false, false, false, false, false]) 13 rfl (by kernel_rfl) rfl rfl (np_then np_post) (hs_pick (is := [0, 1, 2, 3, 4, 5]) rfl rfl) (y_move rfl) ?_
    refine h_bool (t := 38) rfl ?_ ?_
    · intro h38
      refine h_takeg (t := 38) (l' := #[true, true, true, true, true, true, true, true, true, true, true, true, true, true, true, false, false, false, false]) 14 rfl (by kernel_rfl) rfl rfl (np_then np_post) (hs_pick (is := [0, 1, 2, 3, 4, 5]) rfl rfl) rfl rfl (y_move rfl) ?_
      refine h_takeg (t := 38) (l' := #[true, true, true, true, true, true, true, true, true, true, true, true, true, true, true, true, false, false, false]) 15 rfl (by kernel_rfl) rfl rfl (np_then np_post) (hs_pick (is := [0, 1, 2, 3, 4, 5]) rfl rfl) rfl rfl (y_move rfl) ?_
      refine h_takeg (t := 38) (l' := #[true, true, true, true, true, true, true, true, true, true, true, true, true, true, true, true, true, false, false]) 16 rfl (by kernel_rfl) rfl rfl (np_then np_post) (hs_pick (is := [0, 1, 2, 3, 4, 5]) rfl rfl) rfl rfl (y_eql rfl rfl) ?_
      refine h_take (l' := #[true, true, true, true, true, true, true, true, true, true, true, true, true, true, true, true, true, true, false]) 17 rfl (by kernel_rfl) rfl rfl (np_then np_post) (hs_pick (is := [0, 1, 2, 3, 4, 5]) rfl rfl) (y_pick_t rfl rfl) ?_
      refine h_take (l' := #[true, true, true, true, true, true, true, true, true, true, true, true, true, true, true, true, true, true, true]) 18 rfl (by kernel_rfl) rfl rfl (np_then np_post) (hs_pick (is := [0, 1, 2, 3, 4, 5]) rfl rfl) (y_assign rfl) ?_
      refine h_done (by kernel_rfl) ?_
      refine q_then ?_
      refine c_ret ?_
      exact q_ret1 Tryz.results3 rfl () trivial (congrArg Value.bool (decide_eq_true rfl)) hs_nil
    · intro h38
      simp at h38
  · intro h33
    exact absurd rfl h33

end Go.Gx
