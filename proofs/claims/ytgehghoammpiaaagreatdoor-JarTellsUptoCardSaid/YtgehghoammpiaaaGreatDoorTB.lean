/- This text proves: functions of the program, walked: what each answers, for every input. No condition beyond those that each theorem names. -/
import Derived.Test.YtgehghoammpiaaaGreatDoorProg
import Derived.Test.YtgehghoammpiaaaGreatDoorT0
import Derived.Test.YtgehghoammpiaaaGreatDoorGy6
import Derived.KernelRfl
namespace Go.Gx
open Go.Proofs Go.Maps
theorem zero26 : zeroOf Tryz.prog 26 = some (.agg #[.string (B []), .string (B []), .string (B []), .string (B []), .bool false, .bool false, .bool false, .bool false, .int .i64 0, .int .i64 0, .int .i64 0, .int .i64 0, .int .i64 0]) := by kernel_rfl
theorem ent114 : enters Tryz.prog 114 = true := by kernel_rfl
theorem ent76 : enters Tryz.prog 76 = true := by kernel_rfl
theorem ent109 : enters Tryz.prog 109 = true := by kernel_rfl
theorem ent110 : enters Tryz.prog 110 = true := by kernel_rfl
theorem ent111 : enters Tryz.prog 111 = true := by kernel_rfl
theorem ent88 : enters Tryz.prog 88 = true := by kernel_rfl
theorem ent89 : enters Tryz.prog 89 = true := by kernel_rfl
theorem ent19 : enters Tryz.prog 19 = true := by kernel_rfl
theorem off24_0 : fieldOff Tryz.prog 24 0 = some 0 := by kernel_rfl
theorem one22 : oneT Tryz.prog 22 = true := by kernel_rfl
theorem ap26 : apT Tryz.prog 26 13 112 = true := by kernel_rfl
theorem size22 : sizeT Tryz.prog 22 1 = true := by kernel_rfl
theorem zero24 : zeroOf Tryz.prog 24 = some (.agg #[.slice none 0 0, .int .i64 0]) := by kernel_rfl
theorem off24_1 : fieldOff Tryz.prog 24 1 = some 1 := by kernel_rfl
theorem bld24 : bldT Tryz.prog 24 = some [(0, 1), (1, 1)] := by kernel_rfl
theorem size24 : sizeT Tryz.prog 24 2 = true := by kernel_rfl
theorem ent91 : enters Tryz.prog 91 = true := by kernel_rfl
theorem ent92 : enters Tryz.prog 92 = true := by kernel_rfl
theorem ent90 : enters Tryz.prog 90 = true := by kernel_rfl
theorem agg24 : aggT Tryz.prog 24 2 = true := by kernel_rfl
theorem map72 : mapT Tryz.prog 72 77 3 = true := by kernel_rfl
theorem map73 : mapT Tryz.prog 73 3 3 = true := by kernel_rfl
theorem map74 : mapT Tryz.prog 74 9 3 = true := by kernel_rfl
theorem s3K : s3T Tryz.prog 77 = true := by kernel_rfl
theorem laidOut : laidOutB Tryz.prog = true := by kernel_rfl
theorem ent45 : enters Tryz.prog 45 = true := by kernel_rfl
theorem zero3 : zeroOf Tryz.prog 3 = some (.int .i64 0) := by kernel_rfl
theorem i64T3 : i64T Tryz.prog 3 = true := by kernel_rfl
theorem off26_12 : fieldOff Tryz.prog 26 12 = some 12 := by kernel_rfl
theorem ent31 : enters Tryz.prog 31 = true := by kernel_rfl
theorem ent13 : enters Tryz.prog 13 = true := by kernel_rfl
theorem ent55 : enters Tryz.prog 55 = true := by kernel_rfl
theorem ent56 : enters Tryz.prog 56 = true := by kernel_rfl
theorem ent18 : enters Tryz.prog 18 = true := by kernel_rfl
theorem bld26 : bldT Tryz.prog 26 = some [(0, 1), (1, 1), (2, 1), (3, 1), (4, 1), (5, 1), (6, 1), (7, 1), (8, 1), (9, 1), (10, 1), (11, 1), (12, 1)] := by kernel_rfl
theorem zero49 : zeroOf Tryz.prog 49 = some (.agg #[.slice none 0 0, .int .i64 0, .int .i64 0, .int .i64 0, .int .i64 0, .int .i64 0, .int .i64 0, .int .i64 0, .int .i64 0, .int .i64 0, .int .i64 0, .int .i64 0, .int .i64 0]) := by kernel_rfl
theorem bld116 : bldT Tryz.prog 116 = some [(0, 1), (1, 1), (2, 1), (3, 1)] := by kernel_rfl
theorem ap116 : apT Tryz.prog 116 4 40 = true := by kernel_rfl
theorem zero47 : zeroOf Tryz.prog 47 = some (.agg #[.int .i64 0, .int .i64 0, .int .i64 0, .int .i64 0, .int .i64 0, .int .i64 0, .int .i64 0, .int .i64 0, .int .i64 0, .int .i64 0, .int .i64 0]) := by kernel_rfl
theorem bld47 : bldT Tryz.prog 47 = some [(0, 1), (1, 1), (2, 1), (3, 1), (4, 1), (5, 1), (6, 1), (7, 1), (8, 1), (9, 1), (10, 1)] := by kernel_rfl
theorem bld49 : bldT Tryz.prog 49 = some [(0, 1), (1, 1), (2, 11)] := by kernel_rfl
theorem size49 : sizeT Tryz.prog 49 13 = true := by kernel_rfl
theorem zero53 : zeroOf Tryz.prog 53 = some (.agg #[.int .i64 0, .bool false, .bool false, .bool false, .bool false, .bool false, .bool false, .bool false, .bool false, .bool false, .bool false, .slice none 0 0]) := by kernel_rfl
theorem zero50 : zeroOf Tryz.prog 50 = some (.agg #[.bool false, .bool false, .bool false, .bool false, .bool false, .bool false, .bool false, .bool false, .bool false, .bool false]) := by kernel_rfl
theorem bld50 : bldT Tryz.prog 50 = some [(0, 1), (1, 1), (2, 1), (3, 1), (4, 1), (5, 1), (6, 1), (7, 1), (8, 1), (9, 1)] := by kernel_rfl
theorem ap3 : apT Tryz.prog 3 1 8 = true := by kernel_rfl
theorem bld53 : bldT Tryz.prog 53 = some [(0, 1), (1, 10), (11, 1)] := by kernel_rfl
theorem size53 : sizeT Tryz.prog 53 12 = true := by kernel_rfl
theorem ent43 : enters Tryz.prog 43 = true := by kernel_rfl
theorem ent62 : enters Tryz.prog 62 = true := by kernel_rfl
theorem ent63 : enters Tryz.prog 63 = true := by kernel_rfl
theorem ent24 : enters Tryz.prog 24 = true := by kernel_rfl
theorem ent64 : enters Tryz.prog 64 = true := by kernel_rfl
theorem keyed77 : Keyed Tryz.prog 77 := Maps.Keyed.of_law (deep_law_laid laidOut (m := 2) (by omega) (of_decide_eq_true (by kernel_rfl)) (by kernel_rfl) (by kernel_rfl))
theorem keyed3 : Keyed Tryz.prog 3 := Maps.int_keyed Tryz.underlying3
theorem keyed9 : Keyed Tryz.prog 9 := Maps.string_keyed Tryz.underlying9

theorem clamped_c {ad : List UInt8 → Bool} {p : Po} {A : Option Addr} {k : Nat} {c : Ck} (w : World) (hAd : AddrIs Tryz.prog 107 w ad) (hP : Sl Ru.cells 4 w A p.rules) (hp : p.ok) (hc : c.ok) (hg : p.good) (hM : isM c.created) : Cv Tryz.prog 92 #[.agg (p.arr A k), .agg c.arr] w (.agg (clampF ad p c).arr) := by
  refine enter (E := [(0, .agg (p.arr A k)), (1, .agg c.arr)]) Tryz.func92 rfl Tryz.ntmps92 rfl (by simp) ?_
  refine c_seq ?_
  refine c_region rfl ?_
  refine l_boxA rfl rfl ?_; intro g2
  refine l_boxA rfl rfl ?_; intro g3
  refine l_allocA rfl zero26 ?_; intro g4
  refine l_nil ?_
  refine q_then ?_
  refine c_seq ?_
  refine c_drawp (l := #[false, false, false, false, false, false, false, false]) 7 (is := [0, 1, 2]) rfl rfl rfl rfl ?_
  refine h_take (l' := #[true, false, false, false, false, false, false, false]) 0 rfl (by kernel_rfl) rfl rfl (np_then np_post) (hs_pick (is := [0, 1, 2]) rfl rfl) (y_faddr off26_9 rfl rfl) ?_
  refine h_take (l' := #[true, true, false, false, false, false, false, false]) 1 rfl (by kernel_rfl) rfl rfl (np_then np_post) (hs_pick (is := [0, 1, 2]) rfl rfl) (y_load (k := 1)  one3 rfl rfl rfl) ?_
  refine h_take (l' := #[true, true, true, false, false, false, false, false]) 2 rfl (by kernel_rfl) rfl rfl (np_then np_post) (hs_pick (is := [0, 1, 2]) rfl rfl) (y_loadW (k := 2)  agg49 rfl rfl rfl) ?_
  refine h_take (l' := #[true, true, true, true, false, false, false, false]) 3 rfl (by kernel_rfl) rfl rfl (np_then np_post) (hs_pick (is := [0, 1, 2]) rfl rfl) (y_loadW (k := 1)  agg26 rfl rfl rfl) ?_
  refine h_only (l' := #[true, true, true, true, true, false, false, false]) 4 rfl (by kernel_rfl) rfl ?_
  refine l_callU rfl ent114 rfl (fun w hm => capRaw_c w (hAd.above hm.below) (hP.below hm.below) hp hc hg hM) ?_
  refine l_nil ?_
  refine q_step (fun _ => hs_pick (is := [0, 1, 2]) rfl rfl) ?_
  refine h_take (l' := #[true, true, true, true, true, true, false, false]) 5 rfl (by kernel_rfl) rfl rfl (np_then np_post) (hs_pick (is := [0, 1, 2]) rfl rfl) (y_min rfl rfl rfl) ?_
  refine h_take (l' := #[true, true, true, true, true, true, true, false]) 6 rfl (by kernel_rfl) rfl rfl (np_then np_post) (hs_pick (is := [0, 1, 2]) rfl rfl) (y_faddr off26_9 rfl rfl) ?_
  refine h_only (l' := #[true, true, true, true, true, true, true, true]) 7 rfl (by kernel_rfl) rfl ?_
  refine l_store (k := 1) (cs' := #[_, _, _, _, _, _, _, _, _, _, _, _, _]) (H' := [_, _, _]) size3 rfl rfl rfl rfl rfl rfl rfl ?_
  refine l_nil ?_
  refine q_step (fun h => by cases h) ?_
  refine h_done (by kernel_rfl) ?_
  refine q_then ?_
  refine c_seq ?_
  refine c_region rfl ?_
  refine gv rfl (y_loadW (k := 1)  agg26 rfl rfl rfl) ?_
  refine l_storeW (k := 0) (H' := [_, _, _]) size26 rfl rfl rfl rfl rfl rfl rfl ?_
  refine l_nil ?_
  refine q_then ?_
  refine c_ret ?_
  exact q_retA (k := 0) Tryz.results92 agg26 rfl rfl rfl () trivial (congrArg Value.agg (by have e : min c.expiry (capF ad p c) = if capF ad p c < c.expiry then capF ad p c else c.expiry := (by omega); simp only [clampF, Ck.arr, Ck.cells, e])) hs_nil

theorem polCheck_c {p : Po} {A : Option Addr} {k : Nat} (w : World) (hP : Sl Ru.cells 4 w A p.rules) (hp : p.ok) : Cv Tryz.prog 88 #[.agg (p.arr A k)] w (.int .i64 (polErr p)) := by
  refine enter (E := [(0, .agg (p.arr A k))]) Tryz.func88 rfl Tryz.ntmps88 rfl (by simp) ?_
  have hpl := hp.1
  refine c_seq ?_
  refine c_region rfl ?_
  refine l_boxA rfl rfl ?_; intro g1
  refine gv rfl (y_assign rfl) ?_
  refine l_nil ?_
  refine q_then ?_
  refine c_seq ?_
  refine c_seq ?_
  refine c_region rfl ?_
  refine gv rfl (y_faddr off49_0 rfl rfl) ?_
  refine gv rfl (y_load (k := 0)  one46 rfl rfl rfl) ?_
  refine gv rfl (y_len elem46 rfl) ?_
  refine gv rfl (y_gtr rfl rfl) ?_
  refine l_nil ?_
  refine q_then ?_
  refine c_dec rfl ?_ ?_
  · intro h8
    refine c_seq ?_
    refine c_region rfl ?_
    refine gv rfl (y_assign rfl) ?_
    refine l_nil ?_
    refine q_then ?_
    refine c_ret ?_
    refine q_then_ret ?_
    exact q_ret1 Tryz.results88 rfl () trivial (congrArg (Value.int .i64) (by first | (rw [polErr, if_pos (by omega)]; done) | exact (polErr_at (by omega) hI hlt e7 (ru1_7 (by omega)) (by decide)).symm | exact (polErr_at (by omega) hI hlt e7 (ru1_1 (by omega) (by simp [*])) (by decide)).symm | exact (polErr_at (by omega) hI hlt e7 (ru1_3 (by omega) (by simp [*]) (by omega)) (by decide)).symm | (rw [polErr_end (by omega) hI (by omega)]; simp only [*]; simp; done) | (rw [polErr_end (by omega) hI (by omega)]; simp [*]; done) | (rw [polErr_end (by omega) hI (by omega), if_pos (by omega)]))) hs_nil
  · intro h8
    refine c_skip ?_
    refine q_then ?_
    refine c_seq ?_
    refine c_seq ?_
    refine c_region rfl ?_
    refine gv rfl (y_faddr off49_0 rfl rfl) ?_
    refine gv rfl (y_load (k := 0)  one46 rfl rfl rfl) ?_
    refine gv rfl (y_len elem46 rfl) ?_
    refine gv rfl (y_move rfl) ?_
    refine l_nil ?_
    refine q_then ?_
    refine c_block ?_
    refine loop (Ef := [(1, _), (10, _), (11, _)]) (Hf := [_]) (fun s : Nat => s ≤ p.rules.length ∧ ∀ j, j < s → ruAt p j = 0) (fun s : Nat => [(12, .int .i64 (s : Int))]) (fun s : Nat => []) (fun s : Nat => p.rules.length - s) 0 ⟨by omega, none_yet⟩ (sub_cons rfl sub_nil) (sub_cons rfl (sub_cons rfl (sub_cons rfl sub_nil))) (hs_pick (is := [0]) rfl rfl) ?_
    rintro s ⟨hs, hI⟩
    refine c_sub (E' := [(12, _), (1, _), (10, _), (11, _)]) (sub_cons rfl (sub_cons rfl (sub_cons rfl (sub_cons rfl sub_nil)))) ?_
    refine c_seq ?_
    refine c_region rfl ?_
    refine gv rfl (y_lss rfl rfl) ?_
    refine l_nil ?_
    refine q_then ?_
    refine c_seq ?_
    refine c_dec rfl ?_ ?_
    · intro h13
      have hlt : s < p.rules.length := by omega
      obtain ⟨v, hv⟩ := get_lt hlt
      have e7 : ruAt p s = ru1 v := by unfold ruAt; rw [getD_of_get hv]
      have hvt := hp.2 v (List.mem_of_getElem? hv)
      refine c_skip ?_
      refine q_then ?_
      refine c_seq ?_
      refine c_block ?_
      refine c_seq ?_
      refine c_region rfl ?_
      refine gve rfl (y_iaddr elem46 size116 hP rfl rfl rfl (by omega) hv) ?_; rintro _ ⟨p14, rfl, hp14⟩
      refine gv rfl (y_loadA_el agg116 rfl hp14 rfl) ?_
      refine l_allocA rfl zero116 ?_; intro g4
      refine l_storeW (k := 0) (H' := [_, _]) size116 rfl rfl rfl rfl rfl rfl rfl ?_
      refine l_nil ?_
      refine q_then ?_
      refine c_block ?_
      refine c_seq ?_
      refine c_region rfl ?_
      refine gv rfl (y_faddr off116_0 rfl rfl) ?_
      refine gv rfl (y_load (k := 0)  one3 rfl rfl rfl) ?_
      refine gv rfl (y_lss rfl rfl) ?_
      refine gv rfl (y_move rfl) ?_
      refine g_dec (t := 20) rfl ?_ ?_
      · intro h20
        refine g_off (t := 20) rfl rfl rfl rfl ?_
        refine g_off (t := 20) rfl rfl rfl rfl ?_
        refine g_off (t := 20) rfl rfl rfl rfl ?_
        refine gv rfl (y_pick_t rfl rfl) ?_
        refine gv rfl (y_assign rfl) ?_
        refine l_nil ?_
        refine q_then ?_
        refine c_cond_t rfl ?_
        refine c_seq ?_
        refine c_region rfl ?_
        refine gv rfl (y_assign rfl) ?_
        refine l_nil ?_
        refine q_then ?_
        refine c_ret ?_
        refine q_block_ret (q_block_ret (q_then_ret (q_loop_ret (q_block_ret (q_then_ret ?_)))))
        exact q_ret1 Tryz.results88 rfl () trivial (congrArg (Value.int .i64) (by first | (rw [polErr, if_pos (by omega)]; done) | exact (polErr_at (by omega) hI hlt e7 (ru1_7 (by omega)) (by decide)).symm | exact (polErr_at (by omega) hI hlt e7 (ru1_1 (by omega) (by simp [*])) (by decide)).symm | exact (polErr_at (by omega) hI hlt e7 (ru1_3 (by omega) (by simp [*]) (by omega)) (by decide)).symm | (rw [polErr_end (by omega) hI (by omega)]; simp only [*]; simp; done) | (rw [polErr_end (by omega) hI (by omega)]; simp [*]; done) | (rw [polErr_end (by omega) hI (by omega), if_pos (by omega)]))) hs_nil
      · intro h20
        refine g_on (t := 20) rfl rfl ?_
        refine gv rfl (y_faddr off116_0 rfl rfl) ?_
        refine g_on (t := 20) rfl rfl ?_
        refine gv rfl (y_load (k := 0)  one3 rfl rfl rfl) ?_
        refine g_on (t := 20) rfl rfl ?_
        refine gv rfl (y_gtr rfl rfl) ?_
        refine gv rfl (y_pick_f rfl rfl) ?_
        refine gv rfl (y_assign rfl) ?_
        refine l_nil ?_
        refine q_then ?_
        refine c_dec rfl ?_ ?_
        · intro h16
          refine c_seq ?_
          refine c_region rfl ?_
          refine gv rfl (y_assign rfl) ?_
          refine l_nil ?_
          refine q_then ?_
          refine c_ret ?_
          refine q_block_ret (q_block_ret (q_then_ret (q_loop_ret (q_block_ret (q_then_ret ?_)))))
          exact q_ret1 Tryz.results88 rfl () trivial (congrArg (Value.int .i64) (by first | (rw [polErr, if_pos (by omega)]; done) | exact (polErr_at (by omega) hI hlt e7 (ru1_7 (by omega)) (by decide)).symm | exact (polErr_at (by omega) hI hlt e7 (ru1_1 (by omega) (by simp [*])) (by decide)).symm | exact (polErr_at (by omega) hI hlt e7 (ru1_3 (by omega) (by simp [*]) (by omega)) (by decide)).symm | (rw [polErr_end (by omega) hI (by omega)]; simp only [*]; simp; done) | (rw [polErr_end (by omega) hI (by omega)]; simp [*]; done) | (rw [polErr_end (by omega) hI (by omega), if_pos (by omega)]))) hs_nil
        · intro h16
          refine c_seq ?_
          refine c_seq ?_
          refine c_region rfl ?_
          refine gv rfl (y_faddr off116_1 rfl rfl) ?_
          refine gv rfl (y_load (k := 0)  one9 rfl rfl rfl) ?_
          refine gv rfl (y_seq rfl rfl) ?_
          refine gv rfl (y_assign rfl) ?_
          refine l_nil ?_
          refine q_then ?_
          refine c_dec rfl ?_ ?_
          · intro h25
            refine c_skip ?_
            refine q_then ?_
            refine c_cond_t rfl ?_
            refine c_seq ?_
            refine c_region rfl ?_
            refine gv rfl (y_assign rfl) ?_
            refine l_nil ?_
            refine q_then ?_
            refine c_ret ?_
            refine q_block_ret (q_block_ret (q_then_ret (q_loop_ret (q_block_ret (q_then_ret ?_)))))
            exact q_ret1 Tryz.results88 rfl () trivial (congrArg (Value.int .i64) (by first | (rw [polErr, if_pos (by omega)]; done) | exact (polErr_at (by omega) hI hlt e7 (ru1_7 (by omega)) (by decide)).symm | exact (polErr_at (by omega) hI hlt e7 (ru1_1 (by omega) (by simp [*])) (by decide)).symm | exact (polErr_at (by omega) hI hlt e7 (ru1_3 (by omega) (by simp [*]) (by omega)) (by decide)).symm | (rw [polErr_end (by omega) hI (by omega)]; simp only [*]; simp; done) | (rw [polErr_end (by omega) hI (by omega)]; simp [*]; done) | (rw [polErr_end (by omega) hI (by omega), if_pos (by omega)]))) hs_nil
          · intro h25
            refine c_seq ?_
            refine c_region rfl ?_
            refine gv rfl (y_faddr off116_1 rfl rfl) ?_
            refine gv rfl (y_load (k := 0)  one9 rfl rfl rfl) ?_
            refine gv rfl (y_slen Tryz.underlying9 rfl rfl) ?_
            refine gv rfl (y_gtr rfl rfl) ?_
            refine gv rfl (y_assign rfl) ?_
            refine l_nil ?_
            refine q_then ?_
            refine c_dec rfl ?_ ?_
            · intro h25
              refine c_skip ?_
              refine q_then ?_
              refine c_cond_t rfl ?_
              refine c_seq ?_
              refine c_region rfl ?_
              refine gv rfl (y_assign rfl) ?_
              refine l_nil ?_
              refine q_then ?_
              refine c_ret ?_
              refine q_block_ret (q_block_ret (q_then_ret (q_loop_ret (q_block_ret (q_then_ret ?_)))))
              exact q_ret1 Tryz.results88 rfl () trivial (congrArg (Value.int .i64) (by first | (rw [polErr, if_pos (by omega)]; done) | exact (polErr_at (by omega) hI hlt e7 (ru1_7 (by omega)) (by decide)).symm | exact (polErr_at (by omega) hI hlt e7 (ru1_1 (by omega) (by simp [*])) (by decide)).symm | exact (polErr_at (by omega) hI hlt e7 (ru1_3 (by omega) (by simp [*]) (by omega)) (by decide)).symm | (rw [polErr_end (by omega) hI (by omega)]; simp only [*]; simp; done) | (rw [polErr_end (by omega) hI (by omega)]; simp [*]; done) | (rw [polErr_end (by omega) hI (by omega), if_pos (by omega)]))) hs_nil
            · intro h25
              refine c_region rfl ?_
              refine gv rfl (y_faddr off116_0 rfl rfl) ?_
              refine gv rfl (y_load (k := 0)  one3 rfl rfl rfl) ?_
              refine gv rfl (y_eql rfl rfl) ?_
              refine gv rfl (y_move rfl) ?_
              refine g_dec (t := 36) rfl ?_ ?_
              · intro h36
                refine g_on (t := 36) rfl rfl ?_
                refine gv rfl (y_faddr off116_1 rfl rfl) ?_
                refine g_on (t := 36) rfl rfl ?_
                refine gv rfl (y_load (k := 0)  one9 rfl rfl rfl) ?_
                refine g_on (t := 36) rfl rfl ?_
                refine l_callU rfl ent76 rfl (fun w hm => host_c w hvt) ?_
                refine g_on (t := 36) rfl rfl ?_
                refine gv rfl (y_not rfl rfl) ?_
                refine gv rfl (y_pick_t rfl rfl) ?_
                refine gv rfl (y_assign rfl) ?_
                refine l_nil ?_
                refine q_then ?_
                refine c_bool rfl ?_ ?_
                · intro h25
                  refine c_seq ?_
                  refine c_region rfl ?_
                  refine gv rfl (y_assign rfl) ?_
                  refine l_nil ?_
                  refine q_then ?_
                  refine c_ret ?_
                  refine q_block_ret (q_block_ret (q_then_ret (q_loop_ret (q_block_ret (q_then_ret ?_)))))
                  exact q_ret1 Tryz.results88 rfl () trivial (congrArg (Value.int .i64) (by first | (rw [polErr, if_pos (by omega)]; done) | exact (polErr_at (by omega) hI hlt e7 (ru1_7 (by omega)) (by decide)).symm | exact (polErr_at (by omega) hI hlt e7 (ru1_1 (by omega) (by simp [*])) (by decide)).symm | exact (polErr_at (by omega) hI hlt e7 (ru1_3 (by omega) (by simp [*]) (by omega)) (by decide)).symm | (rw [polErr_end (by omega) hI (by omega)]; simp only [*]; simp; done) | (rw [polErr_end (by omega) hI (by omega)]; simp [*]; done) | (rw [polErr_end (by omega) hI (by omega), if_pos (by omega)]))) hs_nil
                · intro h25
                  refine c_seq ?_
                  refine c_seq ?_
                  refine c_region rfl ?_
                  refine gv rfl (y_faddr off116_2 rfl rfl) ?_
                  refine gv rfl (y_load (k := 0)  one3 rfl rfl rfl) ?_
                  refine l_callU rfl ent109 rfl (fun w hm => purpose_c w) ?_
                  refine gv rfl (y_not rfl rfl) ?_
                  refine gv rfl (y_assign rfl) ?_
                  refine l_nil ?_
                  refine q_then ?_
                  refine c_ndec rfl ?_ ?_
                  · intro h42
                    refine c_skip ?_
                    refine q_then ?_
                    refine c_cond_t rfl ?_
                    refine c_seq ?_
                    refine c_region rfl ?_
                    refine gv rfl (y_assign rfl) ?_
                    refine l_nil ?_
                    refine q_then ?_
                    refine c_ret ?_
                    refine q_block_ret (q_block_ret (q_then_ret (q_loop_ret (q_block_ret (q_then_ret ?_)))))
                    exact q_ret1 Tryz.results88 rfl () trivial (congrArg (Value.int .i64) (by first | (rw [polErr, if_pos (by omega)]; done) | exact (polErr_at (by omega) hI hlt e7 (ru1_7 (by omega)) (by decide)).symm | exact (polErr_at (by omega) hI hlt e7 (ru1_1 (by omega) (by simp [*])) (by decide)).symm | exact (polErr_at (by omega) hI hlt e7 (ru1_3 (by omega) (by simp [*]) (by omega)) (by decide)).symm | (rw [polErr_end (by omega) hI (by omega)]; simp only [*]; simp; done) | (rw [polErr_end (by omega) hI (by omega)]; simp [*]; done) | (rw [polErr_end (by omega) hI (by omega), if_pos (by omega)]))) hs_nil
                  · intro h42
                    refine c_region rfl ?_
                    refine gv rfl (y_faddr off116_3 rfl rfl) ?_
                    refine gv rfl (y_load (k := 0)  one3 rfl rfl rfl) ?_
                    refine gv rfl (y_lss rfl rfl) ?_
                    refine gv rfl (y_move rfl) ?_
                    refine g_dec (t := 50) rfl ?_ ?_
                    · intro h50
                      refine g_off (t := 50) rfl rfl rfl rfl ?_
                      refine g_off (t := 50) rfl rfl rfl rfl ?_
                      refine g_off (t := 50) rfl rfl rfl rfl ?_
                      refine gv rfl (y_pick_t rfl rfl) ?_
                      refine gv rfl (y_assign rfl) ?_
                      refine l_nil ?_
                      refine q_then ?_
                      refine c_cond_t rfl ?_
                      refine c_seq ?_
                      refine c_region rfl ?_
                      refine gv rfl (y_assign rfl) ?_
                      refine l_nil ?_
                      refine q_then ?_
                      refine c_ret ?_
                      refine q_block_ret (q_block_ret (q_then_ret (q_loop_ret (q_block_ret (q_then_ret ?_)))))
                      exact q_ret1 Tryz.results88 rfl () trivial (congrArg (Value.int .i64) (by first | (rw [polErr, if_pos (by omega)]; done) | exact (polErr_at (by omega) hI hlt e7 (ru1_7 (by omega)) (by decide)).symm | exact (polErr_at (by omega) hI hlt e7 (ru1_1 (by omega) (by simp [*])) (by decide)).symm | exact (polErr_at (by omega) hI hlt e7 (ru1_3 (by omega) (by simp [*]) (by omega)) (by decide)).symm | (rw [polErr_end (by omega) hI (by omega)]; simp only [*]; simp; done) | (rw [polErr_end (by omega) hI (by omega)]; simp [*]; done) | (rw [polErr_end (by omega) hI (by omega), if_pos (by omega)]))) hs_nil
                    · intro h50
                      refine g_on (t := 50) rfl rfl ?_
                      refine gv rfl (y_faddr off116_3 rfl rfl) ?_
                      refine g_on (t := 50) rfl rfl ?_
                      refine gv rfl (y_load (k := 0)  one3 rfl rfl rfl) ?_
                      refine g_on (t := 50) rfl rfl ?_
                      refine gv rfl (y_gtr rfl rfl) ?_
                      refine gv rfl (y_pick_f rfl rfl) ?_
                      refine gv rfl (y_assign rfl) ?_
                      refine l_nil ?_
                      refine q_then ?_
                      refine c_dec rfl ?_ ?_
                      · intro h42
                        refine c_seq ?_
                        refine c_region rfl ?_
                        refine gv rfl (y_assign rfl) ?_
                        refine l_nil ?_
                        refine q_then ?_
                        refine c_ret ?_
                        refine q_block_ret (q_block_ret (q_then_ret (q_loop_ret (q_block_ret (q_then_ret ?_)))))
                        exact q_ret1 Tryz.results88 rfl () trivial (congrArg (Value.int .i64) (by first | (rw [polErr, if_pos (by omega)]; done) | exact (polErr_at (by omega) hI hlt e7 (ru1_7 (by omega)) (by decide)).symm | exact (polErr_at (by omega) hI hlt e7 (ru1_1 (by omega) (by simp [*])) (by decide)).symm | exact (polErr_at (by omega) hI hlt e7 (ru1_3 (by omega) (by simp [*]) (by omega)) (by decide)).symm | (rw [polErr_end (by omega) hI (by omega)]; simp only [*]; simp; done) | (rw [polErr_end (by omega) hI (by omega)]; simp [*]; done) | (rw [polErr_end (by omega) hI (by omega), if_pos (by omega)]))) hs_nil
                      · intro h42
                        refine c_skip ?_
                        refine q_block (q_block (q_then ?_))
                        refine c_region rfl ?_
                        refine gv rfl (y_add rfl rfl (wrap_in (by omega) (by omega))) ?_
                        refine gv rfl (y_move rfl) ?_
                        refine l_nil ?_
                        exact again (s + 1) ⟨by omega, step_all hI (by rw [e7]; exact ru1_0 (by omega) (by simp [*]) (by omega))⟩ (by omega) (sub_cons rfl sub_nil) (sub_cons rfl (sub_cons rfl (sub_cons rfl sub_nil))) (hs_pick (is := [1]) rfl rfl)
              · intro h36
                refine g_off (t := 36) rfl rfl rfl rfl ?_
                refine g_off (t := 36) rfl rfl rfl rfl ?_
                refine g_off (t := 36) rfl rfl rfl rfl ?_
                refine g_off (t := 36) rfl rfl rfl rfl ?_
                refine gv rfl (y_pick_f rfl rfl) ?_
                refine gv rfl (y_assign rfl) ?_
                refine l_nil ?_
                refine q_then ?_
                refine c_cond_f rfl ?_
                refine c_seq ?_
                refine c_seq ?_
                refine c_region rfl ?_
                refine gv rfl (y_faddr off116_2 rfl rfl) ?_
                refine gv rfl (y_load (k := 0)  one3 rfl rfl rfl) ?_
                refine l_callU rfl ent109 rfl (fun w hm => purpose_c w) ?_
                refine gv rfl (y_not rfl rfl) ?_
                refine gv rfl (y_assign rfl) ?_
                refine l_nil ?_
                refine q_then ?_
                refine c_ndec rfl ?_ ?_
                · intro h42
                  refine c_skip ?_
                  refine q_then ?_
                  refine c_cond_t rfl ?_
                  refine c_seq ?_
                  refine c_region rfl ?_
                  refine gv rfl (y_assign rfl) ?_
                  refine l_nil ?_
                  refine q_then ?_
                  refine c_ret ?_
                  refine q_block_ret (q_block_ret (q_then_ret (q_loop_ret (q_block_ret (q_then_ret ?_)))))
                  exact q_ret1 Tryz.results88 rfl () trivial (congrArg (Value.int .i64) (by first | (rw [polErr, if_pos (by omega)]; done) | exact (polErr_at (by omega) hI hlt e7 (ru1_7 (by omega)) (by decide)).symm | exact (polErr_at (by omega) hI hlt e7 (ru1_1 (by omega) (by simp [*])) (by decide)).symm | exact (polErr_at (by omega) hI hlt e7 (ru1_3 (by omega) (by simp [*]) (by omega)) (by decide)).symm | (rw [polErr_end (by omega) hI (by omega)]; simp only [*]; simp; done) | (rw [polErr_end (by omega) hI (by omega)]; simp [*]; done) | (rw [polErr_end (by omega) hI (by omega), if_pos (by omega)]))) hs_nil
                · intro h42
                  refine c_region rfl ?_
                  refine gv rfl (y_faddr off116_3 rfl rfl) ?_
                  refine gv rfl (y_load (k := 0)  one3 rfl rfl rfl) ?_
                  refine gv rfl (y_lss rfl rfl) ?_
                  refine gv rfl (y_move rfl) ?_
                  refine g_dec (t := 50) rfl ?_ ?_
                  · intro h50
                    refine g_off (t := 50) rfl rfl rfl rfl ?_
                    refine g_off (t := 50) rfl rfl rfl rfl ?_
                    refine g_off (t := 50) rfl rfl rfl rfl ?_
                    refine gv rfl (y_pick_t rfl rfl) ?_
                    refine gv rfl (y_assign rfl) ?_
                    refine l_nil ?_
                    refine q_then ?_
                    refine c_cond_t rfl ?_
                    refine c_seq ?_
                    refine c_region rfl ?_
                    refine gv rfl (y_assign rfl) ?_
                    refine l_nil ?_
                    refine q_then ?_
                    refine c_ret ?_
                    refine q_block_ret (q_block_ret (q_then_ret (q_loop_ret (q_block_ret (q_then_ret ?_)))))
                    exact q_ret1 Tryz.results88 rfl () trivial (congrArg (Value.int .i64) (by first | (rw [polErr, if_pos (by omega)]; done) | exact (polErr_at (by omega) hI hlt e7 (ru1_7 (by omega)) (by decide)).symm | exact (polErr_at (by omega) hI hlt e7 (ru1_1 (by omega) (by simp [*])) (by decide)).symm | exact (polErr_at (by omega) hI hlt e7 (ru1_3 (by omega) (by simp [*]) (by omega)) (by decide)).symm | (rw [polErr_end (by omega) hI (by omega)]; simp only [*]; simp; done) | (rw [polErr_end (by omega) hI (by omega)]; simp [*]; done) | (rw [polErr_end (by omega) hI (by omega), if_pos (by omega)]))) hs_nil
                  · intro h50
                    refine g_on (t := 50) rfl rfl ?_
                    refine gv rfl (y_faddr off116_3 rfl rfl) ?_
                    refine g_on (t := 50) rfl rfl ?_
                    refine gv rfl (y_load (k := 0)  one3 rfl rfl rfl) ?_
                    refine g_on (t := 50) rfl rfl ?_
                    refine gv rfl (y_gtr rfl rfl) ?_
                    refine gv rfl (y_pick_f rfl rfl) ?_
                    refine gv rfl (y_assign rfl) ?_
                    refine l_nil ?_
                    refine q_then ?_
                    refine c_dec rfl ?_ ?_
                    · intro h42
                      refine c_seq ?_
                      refine c_region rfl ?_
                      refine gv rfl (y_assign rfl) ?_
                      refine l_nil ?_
                      refine q_then ?_
                      refine c_ret ?_
                      refine q_block_ret (q_block_ret (q_then_ret (q_loop_ret (q_block_ret (q_then_ret ?_)))))
                      exact q_ret1 Tryz.results88 rfl () trivial (congrArg (Value.int .i64) (by first | (rw [polErr, if_pos (by omega)]; done) | exact (polErr_at (by omega) hI hlt e7 (ru1_7 (by omega)) (by decide)).symm | exact (polErr_at (by omega) hI hlt e7 (ru1_1 (by omega) (by simp [*])) (by decide)).symm | exact (polErr_at (by omega) hI hlt e7 (ru1_3 (by omega) (by simp [*]) (by omega)) (by decide)).symm | (rw [polErr_end (by omega) hI (by omega)]; simp only [*]; simp; done) | (rw [polErr_end (by omega) hI (by omega)]; simp [*]; done) | (rw [polErr_end (by omega) hI (by omega), if_pos (by omega)]))) hs_nil
                    · intro h42
                      refine c_skip ?_
                      refine q_block (q_block (q_then ?_))
                      refine c_region rfl ?_
                      refine gv rfl (y_add rfl rfl (wrap_in (by omega) (by omega))) ?_
                      refine gv rfl (y_move rfl) ?_
                      refine l_nil ?_
                      exact again (s + 1) ⟨by omega, step_all hI (by rw [e7]; exact ru1_0 (by omega) (by simp [*]) (by omega))⟩ (by omega) (sub_cons rfl sub_nil) (sub_cons rfl (sub_cons rfl (sub_cons rfl sub_nil))) (hs_pick (is := [1]) rfl rfl)
    · intro h13
      refine c_exit ?_
      refine q_then_exit (q_loop_exit (q_block_exit (q_then ?_)))
      refine c_seq ?_
      refine c_seq ?_
      refine c_region rfl ?_
      refine gv rfl (y_faddr off49_1 rfl rfl) ?_
      refine gv rfl (y_load (k := 0)  one3 rfl rfl rfl) ?_
      refine l_callU rfl ent109 rfl (fun w hm => purpose_c w) ?_
      refine gv rfl (y_not rfl rfl) ?_
      refine gv rfl (y_move rfl) ?_
      refine g_ndec (t := 60) rfl ?_ ?_
      · intro h60
        refine g_off (t := 60) rfl rfl rfl rfl ?_
        refine g_off (t := 60) rfl rfl rfl rfl ?_
        refine g_off (t := 60) rfl rfl rfl rfl ?_
        refine gv rfl (y_pick_t rfl rfl) ?_
        refine l_nil ?_
        refine q_then ?_
        refine c_cond_t rfl ?_
        refine c_seq ?_
        refine c_region rfl ?_
        refine gv rfl (y_assign rfl) ?_
        refine l_nil ?_
        refine q_then ?_
        refine c_ret ?_
        refine q_then_ret ?_
        exact q_ret1 Tryz.results88 rfl () trivial (congrArg (Value.int .i64) (by first | (rw [polErr, if_pos (by omega)]; done) | exact (polErr_at (by omega) hI hlt e7 (ru1_7 (by omega)) (by decide)).symm | exact (polErr_at (by omega) hI hlt e7 (ru1_1 (by omega) (by simp [*])) (by decide)).symm | exact (polErr_at (by omega) hI hlt e7 (ru1_3 (by omega) (by simp [*]) (by omega)) (by decide)).symm | (rw [polErr_end (by omega) hI (by omega)]; simp only [*]; simp; done) | (rw [polErr_end (by omega) hI (by omega)]; simp [*]; done) | (rw [polErr_end (by omega) hI (by omega), if_pos (by omega)]))) hs_nil
      · intro h60
        refine g_on (t := 60) rfl rfl ?_
        refine gv rfl (y_faddr off49_2 rfl rfl) ?_
        refine g_on (t := 60) rfl rfl ?_
        refine gv rfl (y_sarr arr47 size3 rfl rfl) ?_
        refine g_on (t := 60) rfl rfl ?_
        refine l_callU rfl ent110 rfl (fun w hm => conFn_int_c (l := capsL p) (p := fun n => decide (n < 1 ∨ n > 1000000000)) w (sl_of_el (el_of_blk hm (k := 0) rfl) (capsL p) 2 (capsL_at p A k)) (by simp [capsL]) (fun x _ => FnV.named ent111 (fun w2 _ => capBad_c w2))) ?_
        refine gv rfl (y_pick_f rfl rfl) ?_
        refine l_nil ?_
        refine q_then ?_
        refine c_bool rfl ?_ ?_
        · intro h64
          refine c_seq ?_
          refine c_region rfl ?_
          refine gv rfl (y_assign rfl) ?_
          refine l_nil ?_
          refine q_then ?_
          refine c_ret ?_
          refine q_then_ret ?_
          exact q_ret1 Tryz.results88 rfl () trivial (congrArg (Value.int .i64) (by first | (rw [polErr, if_pos (by omega)]; done) | exact (polErr_at (by omega) hI hlt e7 (ru1_7 (by omega)) (by decide)).symm | exact (polErr_at (by omega) hI hlt e7 (ru1_1 (by omega) (by simp [*])) (by decide)).symm | exact (polErr_at (by omega) hI hlt e7 (ru1_3 (by omega) (by simp [*]) (by omega)) (by decide)).symm | (rw [polErr_end (by omega) hI (by omega)]; simp only [*]; simp; done) | (rw [polErr_end (by omega) hI (by omega)]; simp [*]; done) | (rw [polErr_end (by omega) hI (by omega), if_pos (by omega)]))) hs_nil
        · intro h64
          refine c_skip ?_
          refine q_then ?_
          refine c_seq ?_
          refine c_region rfl ?_
          refine gv rfl (y_assign rfl) ?_
          refine l_nil ?_
          refine q_then ?_
          refine c_ret ?_
          exact q_ret1 Tryz.results88 rfl () trivial (congrArg (Value.int .i64) (by first | (rw [polErr, if_pos (by omega)]; done) | exact (polErr_at (by omega) hI hlt e7 (ru1_7 (by omega)) (by decide)).symm | exact (polErr_at (by omega) hI hlt e7 (ru1_1 (by omega) (by simp [*])) (by decide)).symm | exact (polErr_at (by omega) hI hlt e7 (ru1_3 (by omega) (by simp [*]) (by omega)) (by decide)).symm | (rw [polErr_end (by omega) hI (by omega)]; simp only [*]; simp; done) | (rw [polErr_end (by omega) hI (by omega)]; simp [*]; done) | (rw [polErr_end (by omega) hI (by omega), if_pos (by omega)]))) hs_nil

theorem right_c {p : Po} {A A2 : Option Addr} {k k2 : Nat} {g : Co} (w : World) (hP : Sl Ru.cells 4 w A p.rules) (hp : p.ok) (hA : Sl i1 1 w A2 g.vs) (hlen : g.vs.length ≤ 1073741824) : Cv Tryz.prog 55 #[.agg (p.arr A k), .agg (g.arr A2 k2)] w (.int .i64 (rightE p g)) := by
  refine enter (E := [(0, .agg (p.arr A k)), (1, .agg (g.arr A2 k2))]) Tryz.func55 rfl Tryz.ntmps55 rfl (by simp) ?_
  refine c_seq ?_
  refine c_region rfl ?_
  refine l_boxA rfl rfl ?_; intro g2
  refine l_boxA rfl rfl ?_; intro g3
  refine gv rfl (y_assign rfl) ?_
  refine l_nil ?_
  refine q_then ?_
  refine c_seq ?_
  refine c_seq ?_
  refine c_region rfl ?_
  refine gv rfl (y_loadW (k := 1)  agg49 rfl rfl rfl) ?_
  refine l_callU rfl ent88 rfl (fun w hm => polCheck_c w (hP.below hm.below) hp) ?_
  refine gv rfl (y_assign rfl) ?_
  refine l_nil ?_
  refine q_then ?_
  refine c_seq ?_
  refine c_region rfl ?_
  refine gv rfl (y_move rfl) ?_
  refine gv rfl (y_neq rfl rfl) ?_
  refine l_nil ?_
  refine q_then ?_
  refine c_dec rfl ?_ ?_
  · intro h9
    refine c_seq ?_
    refine c_region rfl ?_
    refine gv rfl (y_move rfl) ?_
    refine gv rfl (y_assign rfl) ?_
    refine l_nil ?_
    refine q_then ?_
    refine c_ret ?_
    refine q_then_ret ?_
    exact q_ret1 Tryz.results55 rfl () trivial (congrArg (Value.int .i64) (by unfold rightE; first | rw [if_pos h9] | rw [if_neg h9])) hs_nil
  · intro h9
    refine c_skip ?_
    refine q_then ?_
    refine c_seq ?_
    refine c_region rfl ?_
    refine gv rfl (y_loadW (k := 0)  agg53 rfl rfl rfl) ?_
    refine l_callU rfl ent89 rfl (fun w hm => conCheck_c w (hA.below hm.below) (Nat.le_trans hlen (by decide))) ?_
    refine gv rfl (y_assign rfl) ?_
    refine l_nil ?_
    refine q_then ?_
    refine c_ret ?_
    exact q_ret1 Tryz.results55 rfl () trivial (congrArg (Value.int .i64) (by unfold rightE; first | rw [if_pos h9] | rw [if_neg h9])) hs_nil

theorem rawKeep_m {c : Ck} {now next : Int} {gn go : Nat} {L : List Ck} {A : Option Addr} {k : Nat} {F : List Res} (w : World) (hL : L.length ≤ 1073741824) : Cm Tryz.prog 90 #[.agg c.arr, .pointer (some ⟨gn, 0, none⟩), .pointer (some ⟨go, 0, none⟩)] w ([.blk gn (.cells #[.int .i64 now] 3 (0, 0)), .blk go (.cells #[.slice A L.length k, .int .i64 next] 24 (0, 0)), .row (.slice A L.length k) 26 13 L.length (L.flatMap Ck.cells)] ++ F) (fun x : Option Addr × Nat => .tuple #[]) (fun x => [.blk gn (.cells #[.int .i64 now] 3 (0, 0)), .blk go (.cells #[.slice x.1 (addL (decide (c.expiry > now)) L c).length x.2, .int .i64 next] 24 (0, 0)), .row (.slice x.1 (addL (decide (c.expiry > now)) L c).length x.2) 26 13 (addL (decide (c.expiry > now)) L c).length ((addL (decide (c.expiry > now)) L c).flatMap Ck.cells)] ++ F) (fun _ => True) := by
  refine enterM (E := [(0, .agg c.arr), (1, .pointer (some ⟨gn, 0, none⟩)), (2, .pointer (some ⟨go, 0, none⟩))]) Tryz.func90 rfl Tryz.ntmps90 rfl (by simp) ?_
  refine c_seq ?_
  refine c_region rfl ?_
  refine l_boxA rfl rfl ?_; intro g3
  refine l_nil ?_
  refine q_then ?_
  refine c_seq ?_
  refine c_region rfl ?_
  refine gv rfl (y_loadW (k := 0)  agg26 rfl rfl rfl) ?_
  refine gv rfl (y_load (k := 1)  one3 rfl rfl rfl) ?_
  refine l_callU rfl ent19 rfl (fun w hm => live_c w) ?_
  refine l_nil ?_
  refine q_then ?_
  refine c_dec rfl ?_ ?_
  · intro h6
    refine c_region rfl ?_
    refine gv rfl (y_faddr off24_0 rfl rfl) ?_
    refine gv rfl (y_load (k := 2)  one22 rfl rfl rfl) ?_
    refine gv rfl (y_loadW (k := 0)  agg26 rfl rfl rfl) ?_
    refine l_bslice (cl := [_, _, _, _, _, _, _, _, _, _, _, _, _]) rfl elem22 ap26 zero26 rfl rfl rfl rfl rfl rfl rfl ?_; intro g10
    refine l_append (k := 4) (j := 0) (zs := (L ++ [c]).flatMap Ck.cells) rfl elem22 ap26 rfl rfl rfl rfl rfl rfl (by omega) (by omega) app_one ?_; intro A11 c11
    refine gv rfl (y_faddr off24_0 rfl rfl) ?_
    refine l_store (k := 3) (cs' := #[_, _]) (H' := _ :: _ :: _ :: _ :: _ :: F) size22 rfl rfl rfl rfl rfl rfl rfl ?_
    refine l_nil ?_
    exact q_ret0 (.inr rfl) rfl (A11, c11) trivial rfl (by rw [addL_t h6, len_snoc]; exact hs_app (B := [_, _, _, _, _]) (is := [2, 3, 4]) rfl rfl)
  · intro h6
    refine c_skip ?_
    exact q_ret0 (.inr rfl) rfl (A, k) trivial rfl (by rw [addL_f h6]; exact hs_app (B := [_, _, _, _]) (is := [1, 2, 3]) rfl rfl)

theorem raw_c {ad : List UInt8 → Bool} {j : Ja} {p : Po} {g : Co} {now : Int} {A0 A A2 : Option Addr} {k0 k k2 : Nat} (w : World) (hAd : AddrIs Tryz.prog 107 w ad) (hJ : Sl Ck.cells 13 w A0 j.cks) (hj : j.ok) (hP : Sl Ru.cells 4 w A p.rules) (hp : p.ok) (hA : Sl i1 1 w A2 g.vs) (hlen : g.vs.length ≤ 1073741824) (hg : p.good) (hM : ∀ c ∈ j.cks, isM c.created) : Ct Tryz.prog 56 #[.agg (j.arr A0 k0), .agg (p.arr A k), .agg (g.arr A2 k2), .int .i64 now] w (fun x : Option Addr × Nat => .agg #[.slice x.1 (keepL ad p g now j.cks).length x.2, .int .i64 j.next]) (fun x => [.row (.slice x.1 (keepL ad p g now j.cks).length x.2) 26 13 (keepL ad p g now j.cks).length ((keepL ad p g now j.cks).flatMap Ck.cells)]) (fun _ => True) := by
  refine enter (E := [(0, .agg (j.arr A0 k0)), (1, .agg (p.arr A k)), (2, .agg (g.arr A2 k2)), (3, .int .i64 now)]) Tryz.func56 rfl Tryz.ntmps56 rfl (by simp) ?_
  have hjl := hj.1
  refine c_seq ?_
  refine c_region rfl ?_
  refine l_boxA rfl rfl ?_; intro g4
  refine l_boxA rfl rfl ?_; intro g5
  refine l_boxA rfl rfl ?_; intro g6
  refine l_box1 rfl rfl rfl ?_; intro g7
  refine l_allocA rfl zero24 ?_; intro g8
  refine l_nil ?_
  refine q_then ?_
  refine c_seq ?_
  refine c_region rfl ?_
  refine gv rfl (y_faddr off24_1 rfl rfl) ?_
  refine gv rfl (y_load (k := 4)  one3 rfl rfl rfl) ?_
  refine gv rfl (y_build (cs := #[_, _]) (cl := [_, _])  zero24 bld24 rfl rfl rfl rfl rfl) ?_
  refine l_allocA rfl zero24 ?_; intro g9
  refine l_storeW (k := 0) (H' := [_, _, _, _, _, _]) size24 rfl rfl rfl rfl rfl rfl rfl ?_
  refine l_nil ?_
  refine q_then ?_
  refine c_seq ?_
  refine c_region rfl ?_
  refine gv rfl (y_mkfn rfl) ?_
  refine gv rfl (y_assign rfl) ?_
  refine l_nil ?_
  refine q_then ?_
  refine c_seq ?_
  refine c_seq ?_
  refine c_region rfl ?_
  refine gv rfl (y_faddr off24_0 rfl rfl) ?_
  refine gv rfl (y_load (k := 5)  one22 rfl rfl rfl) ?_
  refine gv rfl (y_len elem22 rfl) ?_
  refine gv rfl (y_move rfl) ?_
  refine l_nil ?_
  refine q_then ?_
  refine c_block ?_
  refine c_nilrow 26 13 ?_
  refine loop (Ef := [(5, _), (6, _), (8, _), (9, _), (10, _), (18, _), (19, _)]) (Hf := [_, _, _, _, _]) (fun x : Nat × Option Addr × Nat => x.1 ≤ j.cks.length) (fun x : Nat × Option Addr × Nat => [(20, .int .i64 (x.1 : Int))]) (fun x : Nat × Option Addr × Nat => [.blk g9 (.cells #[.slice x.2.1 (keepL ad p g now (j.cks.take x.1)).length x.2.2, .int .i64 j.next] 24 (0, 0)), .row (.slice x.2.1 (keepL ad p g now (j.cks.take x.1)).length x.2.2) 26 13 (keepL ad p g now (j.cks.take x.1)).length ((keepL ad p g now (j.cks.take x.1)).flatMap Ck.cells)]) (fun x : Nat × Option Addr × Nat => j.cks.length - x.1) (0, none, 0) (Nat.zero_le _) (sub_cons rfl sub_nil) (sub_cons rfl (sub_cons rfl (sub_cons rfl (sub_cons rfl (sub_cons rfl (sub_cons rfl (sub_cons rfl sub_nil))))))) (hs_pick (is := [1, 0, 2, 3, 4, 5, 6]) rfl rfl) ?_
  rintro ⟨s, A9, k9⟩ hs
  dsimp only at hs ⊢
  refine c_sub (E' := [(20, _), (5, _), (6, _), (8, _), (9, _), (10, _), (18, _), (19, _)]) (sub_cons rfl (sub_cons rfl (sub_cons rfl (sub_cons rfl (sub_cons rfl (sub_cons rfl (sub_cons rfl (sub_cons rfl sub_nil)))))))) ?_
  refine c_seq ?_
  refine c_region rfl ?_
  refine gv rfl (y_lss rfl rfl) ?_
  refine l_nil ?_
  refine q_then ?_
  refine c_seq ?_
  refine c_dec rfl ?_ ?_
  · intro h21
    have hlt : s < j.cks.length := by omega
    obtain ⟨v, hv⟩ := get_lt hlt
    have hvok := hj.2.1 v (List.mem_of_getElem? hv)
    refine c_skip ?_
    refine q_then ?_
    refine c_seq ?_
    refine c_block ?_
    refine c_seq ?_
    refine c_region rfl ?_
    refine gve rfl (y_iaddr elem22 size26 hJ rfl rfl rfl (by omega) hv) ?_; rintro _ ⟨p22, rfl, hp22⟩
    refine gv rfl (y_loadA_el agg26 rfl hp22 rfl) ?_
    refine l_allocA rfl zero26 ?_; intro g12
    refine l_storeW (k := 0) (H' := [_, _, _, _, _, _, _, _]) size26 rfl rfl rfl rfl rfl rfl rfl ?_
    refine l_nil ?_
    refine q_then ?_
    refine c_seq ?_
    refine c_region rfl ?_
    refine gv rfl (y_loadW (k := 6)  agg49 rfl rfl rfl) ?_
    refine gv rfl (y_loadW (k := 5)  agg53 rfl rfl rfl) ?_
    refine gv rfl (y_loadW (k := 0)  agg26 rfl rfl rfl) ?_
    refine l_callU rfl ent91 rfl (fun w hm => lets_c w (hAd.above hm.below) (hP.below hm.below) hp (hA.below hm.below) (Nat.le_trans hlen (by decide)) hvok) ?_
    refine l_nil ?_
    refine q_then ?_
    refine c_bool rfl ?_ ?_
    · intro h27
      refine c_region rfl ?_
      refine gv rfl (y_move rfl) ?_
      refine gv rfl (y_loadW (k := 6)  agg49 rfl rfl rfl) ?_
      refine gv rfl (y_loadW (k := 0)  agg26 rfl rfl rfl) ?_
      refine l_callU rfl ent92 rfl (fun w hm => clamped_c w (hAd.above hm.below) (hP.below hm.below) hp hvok hg (hM v (List.mem_of_getElem? hv))) ?_
      refine l_hs (hs_pick (is := [4, 1, 2, 0, 3, 5, 6, 7]) rfl rfl) ?_
      refine l_callM (fs := []) rfl ent90 rfl rfl (rawKeep_m _ (by have := keepL_len ad p g now (j.cks.take s); have := List.length_take_le s j.cks; omega)) ?_; rintro ⟨A32, c32⟩ _
      refine l_nil ?_
      refine q_block (q_then ?_)
      refine c_region rfl ?_
      refine gv rfl (y_add rfl rfl (wrap_in (by omega) (by omega))) ?_
      refine gv rfl (y_move rfl) ?_
      refine l_nil ?_
      rw [← keepL_snoc h27, ← take_snoc hv]
      exact again (s + 1, A32, c32) (Nat.succ_le_of_lt hlt) (by omega) (sub_cons rfl sub_nil) (sub_cons rfl (sub_cons rfl (sub_cons rfl (sub_cons rfl (sub_cons rfl (sub_cons rfl (sub_cons rfl sub_nil))))))) (hs_pick (is := [1, 2, 4, 0, 5, 6, 7]) rfl rfl)
    · intro h27
      refine c_skip ?_
      refine q_block (q_then ?_)
      refine c_region rfl ?_
      refine gv rfl (y_add rfl rfl (wrap_in (by omega) (by omega))) ?_
      refine gv rfl (y_move rfl) ?_
      refine l_nil ?_
      rw [← keepL_not h27, ← take_snoc hv]
      exact again (s + 1, A9, k9) (Nat.succ_le_of_lt hlt) (by omega) (sub_cons rfl sub_nil) (sub_cons rfl (sub_cons rfl (sub_cons rfl (sub_cons rfl (sub_cons rfl (sub_cons rfl (sub_cons rfl sub_nil))))))) (hs_pick (is := [1, 2, 3, 4, 5, 6, 7]) rfl rfl)
  · intro h21
    refine c_exit ?_
    refine q_then_exit (q_loop_exit (q_block_exit (q_then ?_)))
    refine c_seq ?_
    refine c_region rfl ?_
    refine gv rfl (y_loadW (k := 0)  agg24 rfl rfl rfl) ?_
    refine l_storeW (k := 2) (H' := [_, _, _, _, _, _, _]) size24 rfl rfl rfl rfl rfl rfl rfl ?_
    refine l_nil ?_
    refine q_then ?_
    refine c_ret ?_
    have e9 : j.cks.take s = j.cks := List.take_of_length_le (by omega)
    rw [e9]
    exact q_retA (k := 2) Tryz.results56 agg24 rfl rfl rfl (A9, k9) trivial rfl (hs_pick (is := [1]) rfl rfl)

theorem jarCheck_c {j : Ja} {A0 : Option Addr} {k0 : Nat} (w : World) (hJ : Sl Ck.cells 13 w A0 j.cks) (hj : j.ok) : Cv Tryz.prog 13 #[.agg (j.arr A0 k0)] w (.int .i64 (jarErr j)) := by
  refine enter (E := [(0, .agg (j.arr A0 k0))]) Tryz.func13 rfl Tryz.ntmps13 rfl (by simp) ?_
  refine c_seq ?_
  refine c_region rfl ?_
  refine l_boxA rfl rfl ?_; intro g1
  refine gv rfl (y_assign rfl) ?_
  refine l_nil ?_
  refine q_then ?_
  refine c_seq ?_
  refine c_seq ?_
  refine c_region rfl ?_
  refine gv rfl (y_faddr off24_0 rfl rfl) ?_
  refine gv rfl (y_load (k := 0)  one22 rfl rfl rfl) ?_
  refine gv rfl (y_len elem22 rfl) ?_
  refine gv rfl (y_gtr rfl rfl) ?_
  refine l_nil ?_
  refine q_then ?_
  refine c_dec rfl ?_ ?_
  · intro h15
    refine c_seq ?_
    refine c_region rfl ?_
    refine gv rfl (y_assign rfl) ?_
    refine l_nil ?_
    refine q_then ?_
    refine c_ret ?_
    refine q_then_ret ?_
    exact q_ret1 Tryz.results13 rfl () trivial (congrArg (Value.int .i64) (by rw [jarErr, if_pos (by omega)])) hs_nil
  · intro h15
    refine c_skip ?_
    refine q_then ?_
    refine c_seq ?_
    refine c_region rfl ?_
    refine l_mkmap 77 (plainElem Tryz.prog 3) rfl ?_; intro g16
    refine l_mkmap 3 (plainElem Tryz.prog 3) rfl ?_; intro g17
    refine l_mkmap 9 (plainElem Tryz.prog 3) rfl ?_; intro g18
    refine gv rfl (y_assign rfl) ?_
    refine gv rfl (y_assign rfl) ?_
    refine gv rfl (y_assign rfl) ?_
    refine l_nil ?_
    refine q_then ?_
    refine c_seq ?_
    refine c_seq ?_
    refine c_region rfl ?_
    refine gv rfl (y_faddr off24_0 rfl rfl) ?_
    refine gv rfl (y_load (k := 3)  one22 rfl rfl rfl) ?_
    refine gv rfl (y_len elem22 rfl) ?_
    refine gv rfl (y_move rfl) ?_
    refine l_nil ?_
    refine q_then ?_
    refine c_block ?_
    refine loop (Ef := [(1, _), (3, _), (4, _), (5, _), (20, _), (21, _)]) (Hf := [_]) (fun s : Nat => s ≤ j.cks.length ∧ ∀ i, i < s → ckAt j i = 0) (fun s : Nat => [(22, .int .i64 (s : Int))]) (fun s : Nat => [.obj g16 (MapIs Tryz.prog 77 (plainElem Tryz.prog 3) s (fillD keyK (j.cks.take s))), .obj g17 (MapIs Tryz.prog 3 (plainElem Tryz.prog 3) s (fillD (fun c => Lit.int .i64 c.no) (j.cks.take s))), .obj g18 (MapIs Tryz.prog 9 (plainElem Tryz.prog 3) s (perD (j.cks.take s)))]) (fun s : Nat => j.cks.length - s) 0 ⟨by omega, none_yet⟩ (sub_cons rfl sub_nil) (sub_cons rfl (sub_cons rfl (sub_cons rfl (sub_cons rfl (sub_cons rfl (sub_cons rfl sub_nil)))))) (hs_pick (is := [2, 1, 0, 3]) rfl rfl) ?_
    rintro s ⟨hs, hI⟩
    refine c_sub (E' := [(22, _), (1, _), (3, _), (4, _), (5, _), (20, _), (21, _)]) (sub_cons rfl (sub_cons rfl (sub_cons rfl (sub_cons rfl (sub_cons rfl (sub_cons rfl (sub_cons rfl sub_nil))))))) ?_
    refine c_seq ?_
    refine c_region rfl ?_
    refine gv rfl (y_lss rfl rfl) ?_
    refine l_nil ?_
    refine q_then ?_
    refine c_seq ?_
    refine c_dec rfl ?_ ?_
    · intro h23
      have hlt : s < j.cks.length := by omega
      obtain ⟨v, hv⟩ := get_lt hlt
      have hvk := hj.2.1 v (List.mem_of_getElem? hv)
      have hvx := hj.2.2 v (List.mem_of_getElem? hv)
      have e7 : ckAt j s = ckE (j.cks.take s) j.next v := by unfold ckAt; rw [getD_of_get hv]
      have ek : Maps.has (fillD keyK (j.cks.take s)) (keyK v) = (j.cks.take s).any (fun a => keyEq a v) := has_fillD (by trivial) (fun a ha => keyK_inj keyed77 s3K (hj.2.1 a (List.mem_of_mem_take ha)) (hj.2.2 a (List.mem_of_mem_take ha)).1 hvk hvx.1)
      have en : Maps.has (fillD (fun c => Lit.int .i64 c.no) (j.cks.take s)) (Lit.int .i64 v.no) = (j.cks.take s).any (fun a => decide (a.no = v.no)) := has_fillD (by trivial) (fun a _ => by simp)
      have ed := cnt_perD (j.cks.take s) v.domain
      have etl : (j.cks.take s).length = s := by simp; omega
      refine c_skip ?_
      refine q_then ?_
      refine c_seq ?_
      refine c_block ?_
      refine c_seq ?_
      refine c_region rfl ?_
      refine gv rfl (y_move rfl) ?_
      refine gve rfl (y_iaddr elem22 size26 hJ rfl rfl rfl (by omega) hv) ?_; rintro _ ⟨p25, rfl, hp25⟩
      refine gv rfl (y_loadA_el agg26 rfl hp25 rfl) ?_
      refine l_allocA rfl zero26 ?_; intro g7
      refine gv rfl (y_assign rfl) ?_
      refine l_storeW (k := 0) (H' := [_, _, _, _, _]) size26 rfl rfl rfl rfl rfl rfl rfl ?_
      refine l_nil ?_
      refine q_then ?_
      refine c_seq ?_
      refine c_region rfl ?_
      refine gv rfl (y_move rfl) ?_
      refine gv rfl (y_loadW (k := 0)  agg26 rfl rfl rfl) ?_
      refine l_callU rfl ent45 rfl (fun w hm => keyOf_c w) ?_
      refine gv rfl (y_lookIok (k0 := 1) map72 keyed77 i64T3 rfl rfl rfl zero3 (keyK_of s3K hvk hvx.1)) ?_
      refine gv rfl (y_move rfl) ?_
      refine gv rfl (y_extract rfl rfl) ?_
      refine gv rfl (y_extract rfl rfl) ?_
      refine gv rfl (y_assign rfl) ?_
      refine gv rfl (y_assign rfl) ?_
      refine l_nil ?_
      refine q_then ?_
      refine c_seq ?_
      refine c_region rfl ?_
      refine gv rfl (y_move rfl) ?_
      refine gv rfl (y_faddr off26_12 rfl rfl) ?_
      refine gv rfl (y_load (k := 0)  one3 rfl rfl rfl) ?_
      refine gv rfl (y_lookIok (k0 := 2) map73 keyed3 i64T3 rfl rfl rfl zero3 (Maps.keyOf_int_mk Tryz.underlying3 (wf_i64 hvx.2.1 hvx.2.2))) ?_
      refine gv rfl (y_move rfl) ?_
      refine gv rfl (y_extract rfl rfl) ?_
      refine gv rfl (y_extract rfl rfl) ?_
      refine gv rfl (y_assign rfl) ?_
      refine gv rfl (y_assign rfl) ?_
      refine l_nil ?_
      refine q_then ?_
      refine c_seq ?_
      refine c_block ?_
      refine c_seq ?_
      refine c_region rfl ?_
      refine gv rfl (y_loadW (k := 0)  agg26 rfl rfl rfl) ?_
      refine l_callU rfl ent31 rfl (fun w hm => moments_c w) ?_
      refine gv rfl (y_not rfl rfl) ?_
      refine gv rfl (y_assign rfl) ?_
      refine l_nil ?_
      refine q_then ?_
      refine c_ndec rfl ?_ ?_
      · intro h41
        refine c_seq ?_
        refine c_region rfl ?_
        refine gv rfl (y_assign rfl) ?_
        refine l_nil ?_
        refine q_then ?_
        refine c_ret ?_
        refine q_block_ret (q_then_ret (q_block_ret (q_then_ret (q_loop_ret (q_block_ret (q_then_ret ?_))))))
        exact q_ret1 Tryz.results13 rfl () trivial (congrArg (Value.int .i64) (jarErr_at (by omega) hI hlt e7 (if_pos h41) (by decide)).symm) hs_nil
      · intro h41
        refine c_seq ?_
        refine c_region rfl ?_
        refine gv rfl (y_faddr off26_12 rfl rfl) ?_
        refine gv rfl (y_load (k := 0)  one3 rfl rfl rfl) ?_
        refine gv rfl (y_lss rfl rfl) ?_
        refine gv rfl (y_move rfl) ?_
        refine g_dec (t := 49) rfl ?_ ?_
        · intro h49
          refine g_off (t := 49) rfl rfl rfl rfl ?_
          refine g_off (t := 49) rfl rfl rfl rfl ?_
          refine g_off (t := 49) rfl rfl rfl rfl ?_
          refine g_off (t := 49) rfl rfl rfl rfl ?_
          refine g_off (t := 49) rfl rfl rfl rfl ?_
          refine gv rfl (y_pick_t rfl rfl) ?_
          refine gv rfl (y_assign rfl) ?_
          refine l_nil ?_
          refine q_then ?_
          refine c_cond_t rfl ?_
          refine c_seq ?_
          refine c_region rfl ?_
          refine gv rfl (y_assign rfl) ?_
          refine l_nil ?_
          refine q_then ?_
          refine c_ret ?_
          refine q_block_ret (q_then_ret (q_block_ret (q_then_ret (q_loop_ret (q_block_ret (q_then_ret ?_))))))
          exact q_ret1 Tryz.results13 rfl () trivial (congrArg (Value.int .i64) (jarErr_at (by omega) hI hlt e7 (ckE_4 h41 (by omega)) (by decide)).symm) hs_nil
        · intro h49
          refine g_on (t := 49) rfl rfl ?_
          refine gv rfl (y_faddr off26_12 rfl rfl) ?_
          refine g_on (t := 49) rfl rfl ?_
          refine gv rfl (y_load (k := 0)  one3 rfl rfl rfl) ?_
          refine g_on (t := 49) rfl rfl ?_
          refine gv rfl (y_faddr off24_1 rfl rfl) ?_
          refine g_on (t := 49) rfl rfl ?_
          refine gv rfl (y_load (k := 4)  one3 rfl rfl rfl) ?_
          refine g_on (t := 49) rfl rfl ?_
          refine gv rfl (y_geq rfl rfl) ?_
          refine gv rfl (y_pick_f rfl rfl) ?_
          refine gv rfl (y_assign rfl) ?_
          refine l_nil ?_
          refine q_then ?_
          refine c_dec rfl ?_ ?_
          · intro h45
            refine c_seq ?_
            refine c_region rfl ?_
            refine gv rfl (y_assign rfl) ?_
            refine l_nil ?_
            refine q_then ?_
            refine c_ret ?_
            refine q_block_ret (q_then_ret (q_block_ret (q_then_ret (q_loop_ret (q_block_ret (q_then_ret ?_))))))
            exact q_ret1 Tryz.results13 rfl () trivial (congrArg (Value.int .i64) (jarErr_at (by omega) hI hlt e7 (ckE_4 h41 (by omega)) (by decide)).symm) hs_nil
          · intro h45
            refine c_seq ?_
            refine c_region rfl ?_
            refine gv rfl (y_move rfl) ?_
            refine gv rfl (y_move rfl) ?_
            refine g_bool (t := 58) rfl ?_ ?_
            · intro h58
              rw [ek] at h58
              refine g_off (t := 58) rfl rfl rfl rfl ?_
              refine gv rfl (y_pick_t rfl rfl) ?_
              refine gv rfl (y_assign rfl) ?_
              refine l_nil ?_
              refine q_then ?_
              refine c_cond_t rfl ?_
              refine c_seq ?_
              refine c_region rfl ?_
              refine gv rfl (y_assign rfl) ?_
              refine l_nil ?_
              refine q_then ?_
              refine c_ret ?_
              refine q_block_ret (q_then_ret (q_block_ret (q_then_ret (q_loop_ret (q_block_ret (q_then_ret ?_))))))
              exact q_ret1 Tryz.results13 rfl () trivial (congrArg (Value.int .i64) (jarErr_at (by omega) hI hlt e7 (ckE_6 h41 (by omega) (.inl h58)) (by decide)).symm) hs_nil
            · intro h58
              rw [ek] at h58
              refine g_on (t := 58) rfl rfl ?_
              refine gv rfl (y_move rfl) ?_
              refine gv rfl (y_pick_f rfl rfl) ?_
              refine gv rfl (y_assign rfl) ?_
              refine l_nil ?_
              refine q_then ?_
              refine c_bool rfl ?_ ?_
              · intro h56
                rw [en] at h56
                refine c_seq ?_
                refine c_region rfl ?_
                refine gv rfl (y_assign rfl) ?_
                refine l_nil ?_
                refine q_then ?_
                refine c_ret ?_
                refine q_block_ret (q_then_ret (q_block_ret (q_then_ret (q_loop_ret (q_block_ret (q_then_ret ?_))))))
                exact q_ret1 Tryz.results13 rfl () trivial (congrArg (Value.int .i64) (jarErr_at (by omega) hI hlt e7 (ckE_6 h41 (by omega) (.inr h56)) (by decide)).symm) hs_nil
              · intro h56
                rw [en] at h56
                refine c_seq ?_
                refine c_region rfl ?_
                refine gv rfl (y_move rfl) ?_
                refine gv rfl (y_faddr off26_2 rfl rfl) ?_
                refine gv rfl (y_load (k := 0)  one9 rfl rfl rfl) ?_
                refine gv rfl (y_lookI (k0 := 3) map74 keyed9 i64T3 rfl rfl rfl zero3 (keyOf_dom hvk Tryz.underlying9)) ?_
                refine gv rfl (y_eql rfl rfl) ?_
                refine gv rfl (y_assign rfl) ?_
                refine l_nil ?_
                refine q_then ?_
                refine c_dec rfl ?_ ?_
                · intro h61
                  rw [ed] at h61
                  refine c_seq ?_
                  refine c_region rfl ?_
                  refine gv rfl (y_assign rfl) ?_
                  refine l_nil ?_
                  refine q_then ?_
                  refine c_ret ?_
                  refine q_block_ret (q_then_ret (q_block_ret (q_then_ret (q_loop_ret (q_block_ret (q_then_ret ?_))))))
                  exact q_ret1 Tryz.results13 rfl () trivial (congrArg (Value.int .i64) (jarErr_at (by omega) hI hlt e7 (ckE_2 h41 (by omega) (by simp [h58, h56]) (by omega)) (by decide)).symm) hs_nil
                · intro h61
                  rw [ed] at h61
                  refine c_skip ?_
                  refine q_block (q_then ?_)
                  refine c_seq ?_
                  refine c_drawp (l := #[false, false, false, false, false, false, false, false, false, false, false, false]) 12 (is := [0, 3, 4]) rfl rfl rfl rfl ?_
                  refine h_take (l' := #[true, false, false, false, false, false, false, false, false, false, false, false]) 0 rfl (by kernel_rfl) rfl rfl (np_then (np_block (np_then (np_loop (np_block (np_then np_post)))))) (hs_pick (is := [0, 3, 4]) rfl rfl) (y_move rfl) ?_
                  refine h_take (l' := #[true, true, false, false, false, false, false, false, false, false, false, false]) 1 rfl (by kernel_rfl) rfl rfl (np_then (np_block (np_then (np_loop (np_block (np_then np_post)))))) (hs_pick (is := [0, 3, 4]) rfl rfl) (y_loadW (k := 0)  agg26 rfl rfl rfl) ?_
                  refine h_take (l' := #[true, true, false, true, false, false, false, false, false, false, false, false]) 3 rfl (by kernel_rfl) rfl rfl (np_then (np_block (np_then (np_loop (np_block (np_then np_post)))))) (hs_pick (is := [0, 3, 4]) rfl rfl) (y_move rfl) ?_
                  refine h_take (l' := #[true, true, false, true, true, false, false, false, false, false, false, false]) 4 rfl (by kernel_rfl) rfl rfl (np_then (np_block (np_then (np_loop (np_block (np_then np_post)))))) (hs_pick (is := [0, 3, 4]) rfl rfl) (y_faddr off26_12 rfl rfl) ?_
                  refine h_take (l' := #[true, true, false, true, true, true, false, false, false, false, false, false]) 5 rfl (by kernel_rfl) rfl rfl (np_then (np_block (np_then (np_loop (np_block (np_then np_post)))))) (hs_pick (is := [0, 3, 4]) rfl rfl) (y_load (k := 0)  one3 rfl rfl rfl) ?_
                  refine h_take (l' := #[true, true, false, true, true, true, true, false, false, false, false, false]) 6 rfl (by kernel_rfl) rfl rfl (np_then (np_block (np_then (np_loop (np_block (np_then np_post)))))) (hs_pick (is := [0, 3, 4]) rfl rfl) (y_move rfl) ?_
                  refine h_take (l' := #[true, true, false, true, true, true, true, true, false, false, false, false]) 7 rfl (by kernel_rfl) rfl rfl (np_then (np_block (np_then (np_loop (np_block (np_then np_post)))))) (hs_pick (is := [0, 3, 4]) rfl rfl) (y_move rfl) ?_
                  refine h_only (l' := #[true, true, true, true, true, true, true, true, false, false, false, false]) 2 rfl (by kernel_rfl) rfl ?_
                  refine l_callU rfl ent45 rfl (fun w hm => keyOf_c w) ?_
                  refine l_nil ?_
                  refine q_step (fun _ => hs_pick (is := [0, 3, 4]) rfl rfl) ?_
                  refine h_only (l' := #[true, true, true, true, true, true, true, true, true, false, false, false]) 8 rfl (by kernel_rfl) rfl ?_
                  refine l_mapentry (k0 := 1) rfl map72 keyed77 rfl rfl rfl zero3 (plainElem_int Tryz.underlying3 (wf_i64 (by omega) (by omega))) (keyK_of s3K hvk hvx.1) (by rw [ek]; exact h58) ?_; intro s75
                  refine l_nil ?_
                  refine q_step (fun _ => hs_pick (is := [0, 3, 4]) rfl rfl) ?_
                  refine h_take (l' := #[true, true, true, true, true, true, true, true, true, true, false, false]) 9 rfl (by kernel_rfl) rfl rfl (np_then (np_block (np_then (np_loop (np_block (np_then np_post)))))) (hs_pick (is := [0, 3, 4]) rfl rfl) (y_extract rfl rfl) ?_
                  refine h_only (l' := #[true, true, true, true, true, true, true, true, true, true, true, false]) 10 rfl (by kernel_rfl) rfl ?_
                  refine l_entrystore (k0 := 1) (dd := .lit (.int .i64 (s : Int))) (H' := [_, _, _, _, _]) map72 keyed77 rfl rfl rfl rfl (by simp [maxLen]; omega) (keyK_of s3K hvk hvx.1) (plainElem_int Tryz.underlying3 (wf_i64 (by omega) (by omega))) rfl ?_
                  refine l_nil ?_
                  refine q_step (fun _ => hs_pick (is := [0, 3, 4]) rfl rfl) ?_
                  refine h_only (l' := #[true, true, true, true, true, true, true, true, true, true, true, true]) 11 rfl (by kernel_rfl) rfl ?_
                  refine l_mapset (k0 := 2) (dd := .lit (.int .i64 (s : Int))) (H' := [_, _, _, _, _]) map73 keyed3 rfl rfl rfl rfl (by simp [maxLen]; omega) (Maps.keyOf_int_mk Tryz.underlying3 (wf_i64 hvx.2.1 hvx.2.2)) (plainElem_int Tryz.underlying3 (wf_i64 (by omega) (by omega))) rfl ?_
                  refine l_nil ?_
                  refine q_step (fun _ => hs_pick (is := [0, 3, 4]) rfl rfl) ?_
                  refine h_done (by kernel_rfl) ?_
                  refine q_then ?_
                  refine c_region rfl ?_
                  refine gv rfl (y_move rfl) ?_
                  refine gv rfl (y_faddr off26_2 rfl rfl) ?_
                  refine gv rfl (y_load (k := 0)  one9 rfl rfl rfl) ?_
                  refine gv rfl (y_lookI (k0 := 3) map74 keyed9 i64T3 rfl rfl rfl zero3 (keyOf_dom hvk Tryz.underlying9)) ?_
                  refine gv rfl (y_add rfl rfl (wrap_in (by rw [ed]; omega) (by rw [ed]; have := List.length_filter_le (fun a => decide (a.domain = v.domain)) (j.cks.take s); omega))) ?_
                  refine l_mapset (k0 := 3) (dd := .lit (.int .i64 (cnt (perD (j.cks.take s)) (.string v.domain) + 1))) (H' := [_, _, _, _, _]) map74 keyed9 rfl rfl rfl rfl (by simp [maxLen]; omega) (keyOf_dom hvk Tryz.underlying9) (plainElem_int Tryz.underlying3 (wf_i64 (by rw [ed]; omega) (by rw [ed]; have := List.length_filter_le (fun a => decide (a.domain = v.domain)) (j.cks.take s); omega))) rfl ?_
                  refine l_nil ?_
                  refine q_block (q_then ?_)
                  refine c_region rfl ?_
                  refine gv rfl (y_add rfl rfl (wrap_in (by omega) (by omega))) ?_
                  refine gv rfl (y_move rfl) ?_
                  refine l_nil ?_
                  have f1 := fillD_snoc keyK (j.cks.take s) v
                  have f2 := fillD_snoc (fun c => Lit.int .i64 c.no) (j.cks.take s) v
                  rw [etl, ← take_snoc hv] at f1 f2
                  rw [← f1, ← f2, ← perD_snoc, ← take_snoc hv]
                  exact again (s + 1) ⟨by omega, step_all hI (by rw [e7]; exact ckE_0 h41 (by omega) (by simp [h58, h56]) (by omega))⟩ (by omega) (sub_cons rfl sub_nil) (sub_cons rfl (sub_cons rfl (sub_cons rfl (sub_cons rfl (sub_cons rfl (sub_cons rfl sub_nil)))))) (hs_pick (is := [1, 2, 3, 4]) rfl rfl)
    · intro h23
      refine c_exit ?_
      refine q_then_exit (q_loop_exit (q_block_exit (q_then ?_)))
      refine c_seq ?_
      refine c_seq ?_
      refine c_region rfl ?_
      refine gv rfl (y_faddr off24_1 rfl rfl) ?_
      refine gv rfl (y_load (k := 3)  one3 rfl rfl rfl) ?_
      refine gv rfl (y_lss rfl rfl) ?_
      refine gv rfl (y_move rfl) ?_
      refine g_dec (t := 86) rfl ?_ ?_
      · intro h86
        refine g_off (t := 86) rfl rfl rfl rfl ?_
        refine g_off (t := 86) rfl rfl rfl rfl ?_
        refine g_off (t := 86) rfl rfl rfl rfl ?_
        refine gv rfl (y_pick_t rfl rfl) ?_
        refine l_nil ?_
        refine q_then ?_
        refine c_cond_t rfl ?_
        refine c_seq ?_
        refine c_region rfl ?_
        refine gv rfl (y_assign rfl) ?_
        refine l_nil ?_
        refine q_then ?_
        refine c_ret ?_
        refine q_then_ret ?_
        exact q_ret1 Tryz.results13 rfl () trivial (congrArg (Value.int .i64) (by rw [jarErr_end (by omega) hI (by omega), if_pos (by omega)])) hs_nil
      · intro h86
        refine g_on (t := 86) rfl rfl ?_
        refine gv rfl (y_faddr off24_1 rfl rfl) ?_
        refine g_on (t := 86) rfl rfl ?_
        refine gv rfl (y_load (k := 3)  one3 rfl rfl rfl) ?_
        refine g_on (t := 86) rfl rfl ?_
        refine gv rfl (y_gtr rfl rfl) ?_
        refine gv rfl (y_pick_f rfl rfl) ?_
        refine l_nil ?_
        refine q_then ?_
        refine c_dec rfl ?_ ?_
        · intro h90
          refine c_seq ?_
          refine c_region rfl ?_
          refine gv rfl (y_assign rfl) ?_
          refine l_nil ?_
          refine q_then ?_
          refine c_ret ?_
          refine q_then_ret ?_
          exact q_ret1 Tryz.results13 rfl () trivial (congrArg (Value.int .i64) (by rw [jarErr_end (by omega) hI (by omega), if_pos (by omega)])) hs_nil
        · intro h90
          refine c_skip ?_
          refine q_then ?_
          refine c_seq ?_
          refine c_region rfl ?_
          refine gv rfl (y_assign rfl) ?_
          refine l_nil ?_
          refine q_then ?_
          refine c_ret ?_
          exact q_ret1 Tryz.results13 rfl () trivial (congrArg (Value.int .i64) (by rw [jarErr_end (by omega) hI (by omega), if_neg (by omega)])) hs_nil

theorem purge_c {ad : List UInt8 → Bool} {j : Ja} {p : Po} {g : Co} {now : Int} {A0 A A2 : Option Addr} {k0 k k2 : Nat} (w : World) (hAd : AddrIs Tryz.prog 107 w ad) (hJ : Sl Ck.cells 13 w A0 j.cks) (hj : j.ok) (hP : Sl Ru.cells 4 w A p.rules) (hp : p.ok) (hA : Sl i1 1 w A2 g.vs) (hlen : g.vs.length ≤ 1073741824) : Ct Tryz.prog 24 #[.agg (j.arr A0 k0), .agg (p.arr A k), .agg (g.arr A2 k2), .int .i64 now] w (fun x : Option Addr × Nat => .tuple #[.agg #[.slice x.1 (purgeJ ad j p g now).cks.length x.2, .int .i64 (purgeJ ad j p g now).next], .int .i64 (purgeN ad j p g now), .int .i64 (purgeE j p g now)]) (fun x => [.row (.slice x.1 (purgeJ ad j p g now).cks.length x.2) 26 13 (purgeJ ad j p g now).cks.length ((purgeJ ad j p g now).cks.flatMap Ck.cells)]) (fun _ => True) := by
  refine enter (E := [(0, .agg (j.arr A0 k0)), (1, .agg (p.arr A k)), (2, .agg (g.arr A2 k2)), (3, .int .i64 now)]) Tryz.func24 rfl Tryz.ntmps24 rfl (by simp) ?_
  have hjl := hj.1
  have hkl := keepL_len ad p g now j.cks
  refine c_nilrow 26 13 ?_
  refine c_seq ?_
  refine c_region rfl ?_
  refine l_boxA rfl rfl ?_; intro g4
  refine l_boxA rfl rfl ?_; intro g5
  refine l_boxA rfl rfl ?_; intro g6
  refine l_allocA rfl zero24 ?_; intro g8
  refine gv rfl (y_assign rfl) ?_
  refine gv rfl (y_assign rfl) ?_
  refine l_nil ?_
  refine q_then ?_
  refine c_seq ?_
  refine c_region rfl ?_
  refine gv rfl (y_loadW (k := 3)  agg24 rfl rfl rfl) ?_
  refine l_callU rfl ent13 rfl (fun w hm => jarCheck_c w (hJ.below hm.below) hj) ?_
  refine gv rfl (y_assign rfl) ?_
  refine l_nil ?_
  refine q_then ?_
  refine c_seq ?_
  refine c_seq ?_
  refine c_region rfl ?_
  refine gv rfl (y_move rfl) ?_
  refine gv rfl (y_eql rfl rfl) ?_
  refine l_nil ?_
  refine q_then ?_
  refine c_dec rfl ?_ ?_
  · intro h16
    refine c_region rfl ?_
    refine gv rfl (y_loadW (k := 2)  agg49 rfl rfl rfl) ?_
    refine gv rfl (y_loadW (k := 1)  agg53 rfl rfl rfl) ?_
    refine l_callU rfl ent55 rfl (fun w hm => right_c w (hP.below hm.below) hp (hA.below hm.below) hlen) ?_
    refine gv rfl (y_assign rfl) ?_
    refine l_nil ?_
    refine q_then ?_
    refine c_seq ?_
    refine c_seq ?_
    refine c_region rfl ?_
    refine gv rfl (y_move rfl) ?_
    refine gv rfl (y_eql rfl rfl) ?_
    refine gv rfl (y_move rfl) ?_
    refine g_dec (t := 22) rfl ?_ ?_
    · intro h22
      refine g_on (t := 22) rfl rfl ?_
      refine gv rfl (y_move rfl) ?_
      refine g_on (t := 22) rfl rfl ?_
      refine l_callU rfl ent30 rfl (fun w hm => is_c w) ?_
      refine g_on (t := 22) rfl rfl ?_
      refine gv rfl (y_not rfl rfl) ?_
      refine gv rfl (y_pick_t rfl rfl) ?_
      refine l_nil ?_
      refine q_then ?_
      refine c_ndec rfl ?_ ?_
      · intro h26
        refine c_region rfl ?_
        refine gv rfl (y_assign rfl) ?_
        refine l_nil ?_
        refine q_then ?_
        refine c_seq ?_
        refine c_seq ?_
        refine c_region rfl ?_
        refine gv rfl (y_move rfl) ?_
        refine gv rfl (y_neq rfl rfl) ?_
        refine l_nil ?_
        refine q_then ?_
        refine c_dec rfl ?_ ?_
        · intro h28
          refine c_seq ?_
          refine c_region rfl ?_
          refine gv rfl (y_build (cs := #[_, _]) (cl := [_, _])  zero24 bld24 rfl rfl rfl rfl rfl) ?_
          refine gv rfl (y_move rfl) ?_
          refine l_storeW (k := 0) (H' := [_, _, _, _, _]) size24 rfl rfl rfl rfl rfl rfl rfl ?_
          refine gv rfl (y_assign rfl) ?_
          refine gv rfl (y_assign rfl) ?_
          refine l_nil ?_
          refine q_then ?_
          refine c_ret ?_
          refine q_then_ret ?_
          have eE : purgeE j p g now = 3 := by unfold purgeE; rw [if_neg (by omega), if_neg (by omega), if_pos h26]
          have eJ : purgeJ ad j p g now = ⟨[], 0⟩ := if_pos (by rw [eE]; exact (by decide))
          have eN : purgeN ad j p g now = 0 := if_pos (by rw [eE]; exact (by decide))
          exact q_retA2 (k := 0) Tryz.results24 agg24 rfl rfl rfl rfl rfl (none, 0) trivial (by rw [eE, eJ, eN] <;> rfl) (by rw [eJ]; exact hs_pick (is := [4]) rfl rfl)
        · intro h28
          exact absurd (by decide) h28
      · intro h26
        refine c_skip ?_
        refine q_then ?_
        refine c_seq ?_
        refine c_seq ?_
        refine c_region rfl ?_
        refine gv rfl (y_move rfl) ?_
        refine gv rfl (y_neq rfl rfl) ?_
        refine l_nil ?_
        refine q_then ?_
        refine c_dec rfl ?_ ?_
        · intro h28
          exact absurd h22 h28
        · intro h28
          refine c_skip ?_
          refine q_then ?_
          refine c_seq ?_
          refine c_region rfl ?_
          refine gv rfl (y_loadW (k := 3)  agg24 rfl rfl rfl) ?_
          refine gv rfl (y_loadW (k := 2)  agg49 rfl rfl rfl) ?_
          refine gv rfl (y_loadW (k := 1)  agg53 rfl rfl rfl) ?_
          refine gv rfl (y_move rfl) ?_
          refine l_call rfl ent56 rfl (fun w hm => raw_c w (hAd.above hm.below) (hJ.below hm.below) hj (hP.below hm.below) hp (hA.below hm.below) hlen (pol_good (right_pol h22).1) (jarErr_isM h16)) ?_; rintro x35 h35
          refine l_allocA rfl zero24 ?_; intro g12
          refine l_storeW (k := 0) (H' := [_, _, _, _, _, _, _]) size24 rfl rfl rfl rfl rfl rfl rfl ?_
          refine l_nil ?_
          refine q_then ?_
          refine c_seq ?_
          refine c_drawp (l := #[false, false, false, false, false, false, false, false, false, false, false]) 9 (is := [0, 1, 3, 4, 5, 6]) rfl rfl rfl rfl ?_
          refine h_take (l' := #[true, false, false, false, false, false, false, false, false, false, false]) 0 rfl (by kernel_rfl) rfl rfl (np_then np_post) (hs_pick (is := [0, 1, 3, 4, 5, 6]) rfl rfl) (y_loadW (k := 0)  agg24 rfl rfl rfl) ?_
          refine h_take (l' := #[true, true, false, false, false, false, false, false, false, false, false]) 1 rfl (by kernel_rfl) rfl rfl (np_then np_post) (hs_pick (is := [0, 1, 3, 4, 5, 6]) rfl rfl) (y_faddr off24_0 rfl rfl) ?_
          refine h_take (l' := #[true, true, true, false, false, false, false, false, false, false, false]) 2 rfl (by kernel_rfl) rfl rfl (np_then np_post) (hs_pick (is := [0, 1, 3, 4, 5, 6]) rfl rfl) (y_load (k := 4)  one22 rfl rfl rfl) ?_
          refine h_take (l' := #[true, true, true, true, false, false, false, false, false, false, false]) 3 rfl (by kernel_rfl) rfl rfl (np_then np_post) (hs_pick (is := [0, 1, 3, 4, 5, 6]) rfl rfl) (y_len elem22 rfl) ?_
          refine h_take (l' := #[true, true, true, true, true, false, false, false, false, false, false]) 4 rfl (by kernel_rfl) rfl rfl (np_then np_post) (hs_pick (is := [0, 1, 3, 4, 5, 6]) rfl rfl) (y_faddr off24_0 rfl rfl) ?_
          refine h_take (l' := #[true, true, true, true, true, true, false, false, false, false, false]) 5 rfl (by kernel_rfl) rfl rfl (np_then np_post) (hs_pick (is := [0, 1, 3, 4, 5, 6]) rfl rfl) (y_load (k := 0)  one22 rfl rfl rfl) ?_
          refine h_take (l' := #[true, true, true, true, true, true, true, false, false, false, false]) 6 rfl (by kernel_rfl) rfl rfl (np_then np_post) (hs_pick (is := [0, 1, 3, 4, 5, 6]) rfl rfl) (y_len elem22 rfl) ?_
          refine h_take (l' := #[true, true, true, true, true, true, true, true, false, false, false]) 7 rfl (by kernel_rfl) rfl rfl (np_then np_post) (hs_pick (is := [0, 1, 3, 4, 5, 6]) rfl rfl) (y_sub_ rfl rfl (wrap_in (by omega) (by omega))) ?_
          refine h_only (l' := #[true, true, true, true, true, true, true, true, true, false, false]) 8 rfl (by kernel_rfl) rfl ?_
          refine l_storeW (k := 2) (H' := [_, _, _, _, _, _, _]) size24 rfl rfl rfl rfl rfl rfl rfl ?_
          refine l_nil ?_
          refine q_step (fun _ => hs_pick (is := [0, 1, 3, 4, 5, 6]) rfl rfl) ?_
          refine h_only (l' := #[true, true, true, true, true, true, true, true, true, true, false]) 9 rfl (by kernel_rfl) rfl ?_
          refine gv rfl (y_assign rfl) ?_
          refine l_nil ?_
          refine q_step (fun h => by cases h) ?_
          refine h_only (l' := #[true, true, true, true, true, true, true, true, true, true, true]) 10 rfl (by kernel_rfl) rfl ?_
          refine gv rfl (y_assign rfl) ?_
          refine l_nil ?_
          refine q_step (fun h => by cases h) ?_
          refine h_done (by kernel_rfl) ?_
          refine q_then ?_
          refine c_ret ?_
          have eE : purgeE j p g now = 0 := by unfold purgeE; rw [if_neg (by omega), if_neg (by omega), if_neg (fun h => h h26)]
          have eJ : purgeJ ad j p g now = ⟨keepL ad p g now j.cks, j.next⟩ := if_neg (by rw [eE]; simp)
          have eN : purgeN ad j p g now = j.cks.length - (keepL ad p g now j.cks).length := if_neg (by rw [eE]; simp)
          exact q_retA2 (k := 2) Tryz.results24 agg24 rfl rfl rfl rfl rfl x35 trivial (by rw [eE, eJ, eN] <;> rfl) (by rw [eJ]; exact hs_pick (is := [1]) rfl rfl)
    · intro h22
      refine g_off (t := 22) rfl rfl rfl rfl ?_
      refine g_off (t := 22) rfl rfl rfl rfl ?_
      refine g_off (t := 22) rfl rfl rfl rfl ?_
      refine gv rfl (y_pick_f rfl rfl) ?_
      refine l_nil ?_
      refine q_then ?_
      refine c_cond_f rfl ?_
      refine c_skip ?_
      refine q_then ?_
      refine c_seq ?_
      refine c_seq ?_
      refine c_region rfl ?_
      refine gv rfl (y_move rfl) ?_
      refine gv rfl (y_neq rfl rfl) ?_
      refine l_nil ?_
      refine q_then ?_
      refine c_dec rfl ?_ ?_
      · intro h28
        refine c_seq ?_
        refine c_region rfl ?_
        refine gv rfl (y_build (cs := #[_, _]) (cl := [_, _])  zero24 bld24 rfl rfl rfl rfl rfl) ?_
        refine gv rfl (y_move rfl) ?_
        refine l_storeW (k := 0) (H' := [_, _, _, _, _]) size24 rfl rfl rfl rfl rfl rfl rfl ?_
        refine gv rfl (y_assign rfl) ?_
        refine gv rfl (y_assign rfl) ?_
        refine l_nil ?_
        refine q_then ?_
        refine c_ret ?_
        refine q_then_ret ?_
        have eE : purgeE j p g now = rightE p g := by unfold purgeE; rw [if_neg (by omega), if_pos h22]
        have eJ : purgeJ ad j p g now = ⟨[], 0⟩ := if_pos (by rw [eE]; exact h22)
        have eN : purgeN ad j p g now = 0 := if_pos (by rw [eE]; exact h22)
        exact q_retA2 (k := 0) Tryz.results24 agg24 rfl rfl rfl rfl rfl (none, 0) trivial (by rw [eE, eJ, eN] <;> rfl) (by rw [eJ]; exact hs_pick (is := [4]) rfl rfl)
      · intro h28
        exact (h28 h22).elim
  · intro h16
    refine c_skip ?_
    refine q_then ?_
    refine c_seq ?_
    refine c_seq ?_
    refine c_region rfl ?_
    refine gv rfl (y_move rfl) ?_
    refine gv rfl (y_eql rfl rfl) ?_
    refine gv rfl (y_move rfl) ?_
    refine g_dec (t := 22) rfl ?_ ?_
    · intro h22
      exact absurd h22 h16
    · intro h22
      refine g_off (t := 22) rfl rfl rfl rfl ?_
      refine g_off (t := 22) rfl rfl rfl rfl ?_
      refine g_off (t := 22) rfl rfl rfl rfl ?_
      refine gv rfl (y_pick_f rfl rfl) ?_
      refine l_nil ?_
      refine q_then ?_
      refine c_cond_f rfl ?_
      refine c_skip ?_
      refine q_then ?_
      refine c_seq ?_
      refine c_seq ?_
      refine c_region rfl ?_
      refine gv rfl (y_move rfl) ?_
      refine gv rfl (y_neq rfl rfl) ?_
      refine l_nil ?_
      refine q_then ?_
      refine c_dec rfl ?_ ?_
      · intro h28
        refine c_seq ?_
        refine c_region rfl ?_
        refine gv rfl (y_build (cs := #[_, _]) (cl := [_, _])  zero24 bld24 rfl rfl rfl rfl rfl) ?_
        refine gv rfl (y_move rfl) ?_
        refine l_storeW (k := 0) (H' := [_, _, _, _, _]) size24 rfl rfl rfl rfl rfl rfl rfl ?_
        refine gv rfl (y_assign rfl) ?_
        refine gv rfl (y_assign rfl) ?_
        refine l_nil ?_
        refine q_then ?_
        refine c_ret ?_
        refine q_then_ret ?_
        have eE : purgeE j p g now = jarErr j := by unfold purgeE; rw [if_pos h16]
        have eJ : purgeJ ad j p g now = ⟨[], 0⟩ := if_pos (by rw [eE]; exact h16)
        have eN : purgeN ad j p g now = 0 := if_pos (by rw [eE]; exact h16)
        exact q_retA2 (k := 0) Tryz.results24 agg24 rfl rfl rfl rfl rfl (none, 0) trivial (by rw [eE, eJ, eN] <;> rfl) (by rw [eJ]; exact hs_pick (is := [4]) rfl rfl)
      · intro h28
        exact (h28 h16).elim

theorem sameJa_c {j h : Ja} {A A2 : Option Addr} {k k2 : Nat} (w : World) (hA : Sl Ck.cells 13 w A j.cks) (hA2 : Sl Ck.cells 13 w A2 h.cks) (hlen : j.cks.length ≤ 1073741824) : Cv Tryz.prog 15 #[.agg (j.arr A k), .agg (h.arr A2 k2)] w (.bool (decide (j.next = h.next) && decide (j.cks = h.cks))) := by
  refine enter (E := [(0, .agg (j.arr A k)), (1, .agg (h.arr A2 k2))]) Tryz.func15 rfl Tryz.ntmps15 rfl (by simp) ?_
  refine c_seq ?_
  refine c_region rfl ?_
  refine l_boxA rfl rfl ?_; intro g2
  refine l_boxA rfl rfl ?_; intro g3
  refine gv rfl (y_assign rfl) ?_
  refine l_nil ?_
  refine q_then ?_
  refine c_seq ?_
  refine c_region rfl ?_
  refine gv rfl (y_faddr off24_1 rfl rfl) ?_
  refine gv rfl (y_load (k := 1)  one3 rfl rfl rfl) ?_
  refine gv rfl (y_faddr off24_1 rfl rfl) ?_
  refine gv rfl (y_load (k := 0)  one3 rfl rfl rfl) ?_
  refine gv rfl (y_eql rfl rfl) ?_
  refine gv rfl (y_move rfl) ?_
  refine g_dec (t := 10) rfl ?_ ?_
  · intro h10
    refine g_on (t := 10) rfl rfl ?_
    refine gv rfl (y_faddr off24_0 rfl rfl) ?_
    refine g_on (t := 10) rfl rfl ?_
    refine gv rfl (y_load (k := 1)  one22 rfl rfl rfl) ?_
    refine g_on (t := 10) rfl rfl ?_
    refine gv rfl (y_faddr off24_0 rfl rfl) ?_
    refine g_on (t := 10) rfl rfl ?_
    refine gv rfl (y_load (k := 0)  one22 rfl rfl rfl) ?_
    refine g_on (t := 10) rfl rfl ?_
    refine l_callU rfl ent18 rfl (fun w hm => sameCks_c w (hA.below hm.below) (hA2.below hm.below) (Nat.le_trans hlen (by decide))) ?_
    refine gv rfl (y_pick_t rfl rfl) ?_
    refine gv rfl (y_assign rfl) ?_
    refine l_nil ?_
    refine q_then ?_
    refine c_ret ?_
    exact q_ret1 Tryz.results15 rfl () trivial (congrArg Value.bool (by simp [h10])) hs_nil
  · intro h10
    refine g_off (t := 10) rfl rfl rfl rfl ?_
    refine g_off (t := 10) rfl rfl rfl rfl ?_
    refine g_off (t := 10) rfl rfl rfl rfl ?_
    refine g_off (t := 10) rfl rfl rfl rfl ?_
    refine g_off (t := 10) rfl rfl rfl rfl ?_
    refine gv rfl (y_pick_f rfl rfl) ?_
    refine gv rfl (y_assign rfl) ?_
    refine l_nil ?_
    refine q_then ?_
    refine c_ret ?_
    exact q_ret1 Tryz.results15 rfl () trivial (congrArg Value.bool (by simp [h10])) hs_nil

theorem gate_c {ad : List UInt8 → Bool} {p : Po} {g : Co} {c : Ck} {A A2 : Option Addr} {k k2 : Nat} (w : World) (hAd : AddrIs Tryz.prog 107 w ad) (hP : Sl Ru.cells 4 w A p.rules) (hp : p.ok) (hA : Sl i1 1 w A2 g.vs) (hlen : g.vs.length ≤ 1073741824) (hc : c.ok) : Cv Tryz.prog 64 #[.agg (p.arr A k), .agg (g.arr A2 k2), .agg c.arr] w (.tuple #[.agg (gateC ad p g c).arr, .int .i64 (gateE ad p g c)]) := by
  refine enter (E := [(0, .agg (p.arr A k)), (1, .agg (g.arr A2 k2)), (2, .agg c.arr)]) Tryz.func64 rfl Tryz.ntmps64 rfl (by simp) ?_
  refine c_seq ?_
  refine c_region rfl ?_
  refine l_boxA rfl rfl ?_; intro g3
  refine l_boxA rfl rfl ?_; intro g4
  refine l_boxA rfl rfl ?_; intro g5
  refine l_allocA rfl zero26 ?_; intro g6
  refine gv rfl (y_assign rfl) ?_
  refine l_nil ?_
  refine q_then ?_
  refine c_seq ?_
  refine c_region rfl ?_
  refine gv rfl (y_loadW (k := 3)  agg49 rfl rfl rfl) ?_
  refine gv rfl (y_loadW (k := 2)  agg53 rfl rfl rfl) ?_
  refine l_callU rfl ent55 rfl (fun w hm => right_c w (hP.below hm.below) hp (hA.below hm.below) hlen) ?_
  refine gv rfl (y_assign rfl) ?_
  refine l_nil ?_
  refine q_then ?_
  refine c_seq ?_
  refine c_block ?_
  refine c_seq ?_
  refine c_region rfl ?_
  refine gv rfl (y_move rfl) ?_
  refine gv rfl (y_neq rfl rfl) ?_
  refine gv rfl (y_assign rfl) ?_
  refine l_nil ?_
  refine q_then ?_
  refine c_dec rfl ?_ ?_
  · intro h12
    refine c_skip ?_
    refine q_block (q_then ?_)
    refine c_seq ?_
    refine c_seq ?_
    refine c_region rfl ?_
    refine gv rfl (y_move rfl) ?_
    refine gv rfl (y_neq rfl rfl) ?_
    refine l_nil ?_
    refine q_then ?_
    refine c_dec rfl ?_ ?_
    · intro h27
      refine c_seq ?_
      refine c_region rfl ?_
      refine gv rfl (y_build (cs := #[_, _, _, _, _, _, _, _, _, _, _, _, _]) (cl := [_, _, _, _, _, _, _, _, _, _, _, _, _])  zero26 bld26 rfl rfl rfl rfl rfl) ?_
      refine gv rfl (y_move rfl) ?_
      refine l_storeW (k := 0) (H' := [_, _, _, _]) size26 rfl rfl rfl rfl rfl rfl rfl ?_
      refine gv rfl (y_assign rfl) ?_
      refine l_nil ?_
      refine q_then ?_
      refine c_ret ?_
      refine q_then_ret ?_
      have eE : gateE ad p g c = rightE p g := by unfold gateE; rw [if_pos h12]
      have eC : gateC ad p g c = .none_ := if_pos (by rw [eE]; exact h12)
      exact q_retA1 (k := 0) Tryz.results64 agg26 rfl rfl rfl rfl () trivial (by rw [eE, eC] <;> rfl) hs_nil
    · intro h27
      exact (h27 h12).elim
  · intro h12
    refine c_seq ?_
    refine c_region rfl ?_
    refine gv rfl (y_faddr off26_10 rfl rfl) ?_
    refine gv rfl (y_load (k := 1)  one3 rfl rfl rfl) ?_
    refine l_callU rfl ent30 rfl (fun w hm => is_c w) ?_
    refine gv rfl (y_not rfl rfl) ?_
    refine gv rfl (y_assign rfl) ?_
    refine l_nil ?_
    refine q_then ?_
    refine c_ndec rfl ?_ ?_
    · intro h15
      refine c_region rfl ?_
      refine gv rfl (y_assign rfl) ?_
      refine l_nil ?_
      refine q_block (q_then ?_)
      refine c_seq ?_
      refine c_seq ?_
      refine c_region rfl ?_
      refine gv rfl (y_move rfl) ?_
      refine gv rfl (y_neq rfl rfl) ?_
      refine l_nil ?_
      refine q_then ?_
      refine c_dec rfl ?_ ?_
      · intro h27
        refine c_seq ?_
        refine c_region rfl ?_
        refine gv rfl (y_build (cs := #[_, _, _, _, _, _, _, _, _, _, _, _, _]) (cl := [_, _, _, _, _, _, _, _, _, _, _, _, _])  zero26 bld26 rfl rfl rfl rfl rfl) ?_
        refine gv rfl (y_move rfl) ?_
        refine l_storeW (k := 0) (H' := [_, _, _, _]) size26 rfl rfl rfl rfl rfl rfl rfl ?_
        refine gv rfl (y_assign rfl) ?_
        refine l_nil ?_
        refine q_then ?_
        refine c_ret ?_
        refine q_then_ret ?_
        have eE : gateE ad p g c = 3 := by unfold gateE; rw [if_neg h12, if_pos h15]
        have eC : gateC ad p g c = .none_ := if_pos (by rw [eE]; decide)
        exact q_retA1 (k := 0) Tryz.results64 agg26 rfl rfl rfl rfl () trivial (by rw [eE, eC] <;> rfl) hs_nil
      · intro h27
        exact absurd (by decide) h27
    · intro h15
      refine c_seq ?_
      refine c_region rfl ?_
      refine gv rfl (y_loadW (k := 3)  agg49 rfl rfl rfl) ?_
      refine gv rfl (y_loadW (k := 2)  agg53 rfl rfl rfl) ?_
      refine gv rfl (y_loadW (k := 1)  agg26 rfl rfl rfl) ?_
      refine l_callU rfl ent91 rfl (fun w hm => lets_c w (hAd.above hm.below) (hP.below hm.below) hp (hA.below hm.below) (Nat.le_trans hlen (by decide)) hc) ?_
      refine gv rfl (y_not rfl rfl) ?_
      refine gv rfl (y_assign rfl) ?_
      refine l_nil ?_
      refine q_then ?_
      refine c_bool rfl ?_ ?_
      · intro h20
        refine c_region rfl ?_
        refine gv rfl (y_assign rfl) ?_
        refine l_nil ?_
        refine q_block (q_then ?_)
        refine c_seq ?_
        refine c_seq ?_
        refine c_region rfl ?_
        refine gv rfl (y_move rfl) ?_
        refine gv rfl (y_neq rfl rfl) ?_
        refine l_nil ?_
        refine q_then ?_
        refine c_dec rfl ?_ ?_
        · intro h27
          refine c_seq ?_
          refine c_region rfl ?_
          refine gv rfl (y_build (cs := #[_, _, _, _, _, _, _, _, _, _, _, _, _]) (cl := [_, _, _, _, _, _, _, _, _, _, _, _, _])  zero26 bld26 rfl rfl rfl rfl rfl) ?_
          refine gv rfl (y_move rfl) ?_
          refine l_storeW (k := 0) (H' := [_, _, _, _]) size26 rfl rfl rfl rfl rfl rfl rfl ?_
          refine gv rfl (y_assign rfl) ?_
          refine l_nil ?_
          refine q_then ?_
          refine c_ret ?_
          refine q_then_ret ?_
          have eE : gateE ad p g c = 8 := by unfold gateE; rw [if_neg h12, if_neg (fun h => h h15), if_pos h20]
          have eC : gateC ad p g c = .none_ := if_pos (by rw [eE]; decide)
          exact q_retA1 (k := 0) Tryz.results64 agg26 rfl rfl rfl rfl () trivial (by rw [eE, eC] <;> rfl) hs_nil
        · intro h27
          exact absurd (by decide) h27
      · intro h20
        refine c_skip ?_
        refine q_block (q_then ?_)
        refine c_seq ?_
        refine c_seq ?_
        refine c_region rfl ?_
        refine gv rfl (y_move rfl) ?_
        refine gv rfl (y_neq rfl rfl) ?_
        refine l_nil ?_
        refine q_then ?_
        refine c_dec rfl ?_ ?_
        · intro h27
          exact absurd h27 h12
        · intro h27
          refine c_skip ?_
          refine q_then ?_
          refine c_seq ?_
          refine c_region rfl ?_
          refine gv rfl (y_loadW (k := 3)  agg49 rfl rfl rfl) ?_
          refine gv rfl (y_loadW (k := 1)  agg26 rfl rfl rfl) ?_
          refine l_callU rfl ent92 rfl (fun w hm => clamped_c w (hAd.above hm.below) (hP.below hm.below) hp hc (pol_good (right_pol (Decidable.not_not.1 h12)).1) h15) ?_
          refine l_storeW (k := 0) (H' := [_, _, _, _]) size26 rfl rfl rfl rfl rfl rfl rfl ?_
          refine gv rfl (y_assign rfl) ?_
          refine l_nil ?_
          refine q_then ?_
          refine c_ret ?_
          have eE : gateE ad p g c = 0 := by unfold gateE; rw [if_neg h12, if_neg (fun h => h h15), if_neg (by rw [h20]; simp)]
          have eC : gateC ad p g c = clampF ad p c := if_neg (by rw [eE]; simp)
          exact q_retA1 (k := 0) Tryz.results64 agg26 rfl rfl rfl rfl () trivial (by rw [eE, eC] <;> rfl) hs_nil

theorem ident_c  (w : World) : Cv Tryz.prog 43 #[] w (.agg identC.arr) := by
  refine enter (E := []) Tryz.func43 rfl Tryz.ntmps43 rfl (by simp) ?_
  refine c_seq ?_
  refine c_region rfl ?_
  refine l_allocA rfl zero26 ?_; intro g0
  refine l_nil ?_
  refine q_then ?_
  refine c_seq ?_
  refine c_region rfl ?_
  refine gv rfl (y_build (cs := #[_, _, _, _, _, _, _, _, _, _, _, _, _]) (cl := [_, _, _, _, _, _, _, _, _, _, _, _, _])  zero26 bld26 rfl rfl rfl rfl rfl) ?_
  refine l_storeW (k := 0) (H' := [_]) size26 rfl rfl rfl rfl rfl rfl rfl ?_
  refine l_nil ?_
  refine q_then ?_
  refine c_ret ?_
  exact q_retA (k := 0) Tryz.results43 agg26 rfl rfl rfl () trivial rfl hs_nil

theorem rules_c  (w : World) : Ct Tryz.prog 62 #[] w (fun x : Nat => .agg (rulesP.arr (some ⟨x, 0, none⟩) 3)) (fun x => [.blk x (.cells (rulesP.rules.flatMap Ru.cells).toArray 116 (0, 0))]) (fun _ => True) := by
  refine enter (E := []) Tryz.func62 rfl Tryz.ntmps62 rfl (by simp) ?_
  refine c_seq ?_
  refine c_region rfl ?_
  refine l_allocA rfl zero49 ?_; intro g0
  refine l_nil ?_
  refine q_then ?_
  refine c_seq ?_
  refine c_region rfl ?_
  refine gv rfl (y_build (cs := #[_, _, _, _]) (cl := [_, _, _, _])  zero116 bld116 rfl rfl rfl rfl rfl) ?_
  refine gv rfl (y_build (cs := #[_, _, _, _]) (cl := [_, _, _, _])  zero116 bld116 rfl rfl rfl rfl rfl) ?_
  refine gv rfl (y_build (cs := #[_, _, _, _]) (cl := [_, _, _, _])  zero116 bld116 rfl rfl rfl rfl rfl) ?_
  refine l_bslice (cl := [_, _, _, _, _, _, _, _, _, _, _, _]) rfl elem46 ap116 zero116 rfl rfl rfl rfl rfl rfl rfl ?_; intro g4
  refine gv rfl (y_build (cs := #[_, _, _, _, _, _, _, _, _, _, _]) (cl := [_, _, _, _, _, _, _, _, _, _, _])  zero47 bld47 rfl rfl rfl rfl rfl) ?_
  refine gv rfl (y_build (cs := #[_, _, _, _, _, _, _, _, _, _, _, _, _]) (cl := [_, _, _, _, _, _, _, _, _, _, _, _, _])  zero49 bld49 rfl rfl rfl rfl rfl) ?_
  refine l_storeW (k := 1) (H' := [_, _]) size49 rfl rfl rfl rfl rfl rfl rfl ?_
  refine l_nil ?_
  refine q_then ?_
  refine c_ret ?_
  exact q_retA (k := 1) Tryz.results62 agg49 rfl rfl rfl g4 trivial rfl (hs_pick (is := [0]) rfl rfl)

theorem agreed_c  (w : World) : Ct Tryz.prog 63 #[] w (fun x : Nat => .agg (agreedG.arr (some ⟨x, 0, none⟩) 4)) (fun x => [.blk x (.cells (agreedG.vs.flatMap i1).toArray 3 (0, 0))]) (fun _ => True) := by
  refine enter (E := []) Tryz.func63 rfl Tryz.ntmps63 rfl (by simp) ?_
  refine c_seq ?_
  refine c_region rfl ?_
  refine l_allocA rfl zero53 ?_; intro g0
  refine l_nil ?_
  refine q_then ?_
  refine c_seq ?_
  refine c_region rfl ?_
  refine gv rfl (y_build (cs := #[_, _, _, _, _, _, _, _, _, _]) (cl := [_, _, _, _, _, _, _, _, _, _])  zero50 bld50 rfl rfl rfl rfl rfl) ?_
  refine l_bslice (cl := [_, _, _, _]) rfl elem51 ap3 zero3 rfl rfl rfl rfl rfl rfl rfl ?_; intro g2
  refine gv rfl (y_build (cs := #[_, _, _, _, _, _, _, _, _, _, _, _]) (cl := [_, _, _, _, _, _, _, _, _, _, _, _])  zero53 bld53 rfl rfl rfl rfl rfl) ?_
  refine l_storeW (k := 1) (H' := [_, _]) size53 rfl rfl rfl rfl rfl rfl rfl ?_
  refine l_nil ?_
  refine q_then ?_
  refine c_ret ?_
  exact q_retA (k := 1) Tryz.results63 agg53 rfl rfl rfl g2 trivial rfl (hs_pick (is := [0]) rfl rfl)

theorem purgeBegun_c {ad : List UInt8 → Bool} (w : World) (hAd : AddrIs Tryz.prog 107 w ad) : Cv Tryz.prog 26 #[] w (.bool true) := by
  refine enter (E := []) Tryz.func26 rfl Tryz.ntmps26 rfl (by simp) ?_
  refine c_seq ?_
  refine c_region rfl ?_
  refine gv rfl (y_assign rfl) ?_
  refine l_nil ?_
  refine q_then ?_
  refine c_seq ?_
  refine c_region rfl ?_
  refine l_callU rfl ent43 rfl (fun w hm => ident_c w) ?_
  refine l_allocA rfl zero26 ?_; intro g1
  refine l_storeW (k := 0) (H' := [_]) size26 rfl rfl rfl rfl rfl rfl rfl ?_
  refine l_nil ?_
  refine q_then ?_
  refine c_seq ?_
  refine c_region rfl ?_
  refine gv rfl (y_faddr off26_0 rfl rfl) ?_
  refine l_store (k := 0) (cs' := #[_, _, _, _, _, _, _, _, _, _, _, _, _]) (H' := [_]) size9 rfl rfl rfl rfl rfl rfl rfl ?_
  refine gv rfl (y_faddr off26_12 rfl rfl) ?_
  refine l_store (k := 0) (cs' := #[_, _, _, _, _, _, _, _, _, _, _, _, _]) (H' := [_]) size3 rfl rfl rfl rfl rfl rfl rfl ?_
  refine gv rfl (y_faddr off26_9 rfl rfl) ?_
  refine l_store (k := 0) (cs' := #[_, _, _, _, _, _, _, _, _, _, _, _, _]) (H' := [_]) size3 rfl rfl rfl rfl rfl rfl rfl ?_
  refine l_nil ?_
  refine q_then ?_
  refine c_seq ?_
  refine c_cut (fun _ => True) (fun x : Nat × Nat × Nat => [(1, .pointer (some ⟨x.1, 0, none⟩)), (2, .pointer (some ⟨x.2.1, 0, none⟩))]) (fun x : Nat × Nat × Nat => [.blk x.1 (.cells adC.arr 26 (0, 0)), .blk x.2.1 (.cells #[.slice (some ⟨x.2.2, 0, none⟩) 2 2, .int .i64 2] 24 (0, 0)), .blk x.2.2 (.cells (jB.cks.flatMap Ck.cells).toArray 26 (0, 0))]) ?_ ?_
  · skip
    refine c_drawp (l := #[false, false, false, false, false, false]) 5 (is := [0]) rfl rfl rfl rfl ?_
    refine h_take (l' := #[false, true, false, false, false, false]) 1 rfl (by kernel_rfl) rfl rfl (np_cut (np_then np_post)) (hs_pick (is := [0]) rfl rfl) (y_loadW (k := 0)  agg26 rfl rfl rfl) ?_
    refine h_two (l' := #[true, true, false, false, false, false]) (l'' := #[false, true, false, false, true, false]) 0 4 rfl rfl (by kernel_rfl) rfl rfl ?_ ?_
    · skip
      refine l_callU rfl ent43 rfl (fun w hm => ident_c w) ?_
      refine l_nil ?_
      refine q_step (fun _ => hs_pick (is := [0]) rfl rfl) ?_
      refine h_two (l' := #[true, true, true, false, false, false]) (l'' := #[true, true, false, false, true, false]) 2 4 rfl rfl (by kernel_rfl) rfl rfl ?_ ?_
      · skip
        refine l_bslice (cl := [_, _, _, _, _, _, _, _, _, _, _, _, _, _, _, _, _, _, _, _, _, _, _, _, _, _]) rfl elem22 ap26 zero26 rfl rfl rfl rfl rfl rfl rfl ?_; intro g19
        refine l_nil ?_
        refine q_step (fun _ => hs_pick (is := [1]) rfl rfl) ?_
        refine h_take (l' := #[true, true, true, true, false, false]) 3 rfl (by kernel_rfl) rfl rfl (np_cut (np_then np_post)) (hs_pick (is := [1]) rfl rfl) (y_build (cs := #[_, _]) (cl := [_, _])  zero24 bld24 rfl rfl rfl rfl rfl) ?_
        refine h_only (l' := #[true, true, true, true, true, false]) 4 rfl (by kernel_rfl) rfl ?_
        refine l_allocA rfl zero24 ?_; intro g2
        refine l_nil ?_
        refine q_step (fun _ => hs_pick (is := [2]) rfl rfl) ?_
        refine h_only (l' := #[true, true, true, true, true, true]) 5 rfl (by kernel_rfl) rfl ?_
        refine l_storeW (k := 0) (H' := [_, _, _]) size24 rfl rfl rfl rfl rfl rfl rfl ?_
        refine l_nil ?_
        refine q_step (fun h => by cases h) ?_
        refine h_done (by kernel_rfl) ?_
        exact q_cut (g1, g2, g19) trivial (sub_cons rfl (sub_cons rfl sub_nil)) (hs_pick (is := [2, 0, 1]) rfl rfl)
      · skip
        refine l_allocA rfl zero24 ?_; intro g2
        refine l_nil ?_
        refine q_step (fun _ => hs_pick (is := [1]) rfl rfl) ?_
        refine h_only (l' := #[true, true, true, false, true, false]) 2 rfl (by kernel_rfl) rfl ?_
        refine l_bslice (cl := [_, _, _, _, _, _, _, _, _, _, _, _, _, _, _, _, _, _, _, _, _, _, _, _, _, _]) rfl elem22 ap26 zero26 rfl rfl rfl rfl rfl rfl rfl ?_; intro g19
        refine l_nil ?_
        refine q_step (fun _ => hs_pick (is := [2]) rfl rfl) ?_
        refine h_take (l' := #[true, true, true, true, true, false]) 3 rfl (by kernel_rfl) rfl rfl (np_cut (np_then np_post)) (hs_pick (is := [2]) rfl rfl) (y_build (cs := #[_, _]) (cl := [_, _])  zero24 bld24 rfl rfl rfl rfl rfl) ?_
        refine h_only (l' := #[true, true, true, true, true, true]) 5 rfl (by kernel_rfl) rfl ?_
        refine l_storeW (k := 1) (H' := [_, _, _]) size24 rfl rfl rfl rfl rfl rfl rfl ?_
        refine l_nil ?_
        refine q_step (fun h => by cases h) ?_
        refine h_done (by kernel_rfl) ?_
        exact q_cut (g1, g2, g19) trivial (sub_cons rfl (sub_cons rfl sub_nil)) (hs_pick (is := [2, 1, 0]) rfl rfl)
    · skip
      refine l_allocA rfl zero24 ?_; intro g2
      refine l_nil ?_
      refine q_step (fun _ => hs_pick (is := [1]) rfl rfl) ?_
      refine h_only (l' := #[true, true, false, false, true, false]) 0 rfl (by kernel_rfl) rfl ?_
      refine l_callU rfl ent43 rfl (fun w hm => ident_c w) ?_
      refine l_nil ?_
      refine q_step (fun _ => hs_pick (is := [1]) rfl rfl) ?_
      refine h_only (l' := #[true, true, true, false, true, false]) 2 rfl (by kernel_rfl) rfl ?_
      refine l_bslice (cl := [_, _, _, _, _, _, _, _, _, _, _, _, _, _, _, _, _, _, _, _, _, _, _, _, _, _]) rfl elem22 ap26 zero26 rfl rfl rfl rfl rfl rfl rfl ?_; intro g19
      refine l_nil ?_
      refine q_step (fun _ => hs_pick (is := [2]) rfl rfl) ?_
      refine h_take (l' := #[true, true, true, true, true, false]) 3 rfl (by kernel_rfl) rfl rfl (np_cut (np_then np_post)) (hs_pick (is := [2]) rfl rfl) (y_build (cs := #[_, _]) (cl := [_, _])  zero24 bld24 rfl rfl rfl rfl rfl) ?_
      refine h_only (l' := #[true, true, true, true, true, true]) 5 rfl (by kernel_rfl) rfl ?_
      refine l_storeW (k := 1) (H' := [_, _, _]) size24 rfl rfl rfl rfl rfl rfl rfl ?_
      refine l_nil ?_
      refine q_step (fun h => by cases h) ?_
      refine h_done (by kernel_rfl) ?_
      exact q_cut (g1, g2, g19) trivial (sub_cons rfl (sub_cons rfl sub_nil)) (hs_pick (is := [2, 1, 0]) rfl rfl)
  · rintro ⟨g1, g2, g19⟩ _
    try dsimp only
    refine q_then ?_
    refine c_seq ?_
    refine c_cut (fun _ => True) (fun x : Nat × Option Addr × Nat => [(1, .pointer (some ⟨g1, 0, none⟩)), (2, .pointer (some ⟨g2, 0, none⟩)), (3, .pointer (some ⟨x.1, 0, none⟩)), (4, .int .i64 0), (5, .int .i64 0)]) (fun x : Nat × Option Addr × Nat => [.blk g1 (.cells adC.arr 26 (0, 0)), .blk g2 (.cells #[.slice (some ⟨g19, 0, none⟩) 2 2, .int .i64 2] 24 (0, 0)), .blk g19 (.cells (jB.cks.flatMap Ck.cells).toArray 26 (0, 0)), .blk x.1 (.cells #[.slice x.2.1 2 x.2.2, .int .i64 2] 24 (0, 0)), .row (.slice x.2.1 2 x.2.2) 26 13 2 (([identC, adC1] : List Ck).flatMap Ck.cells)]) ?_ ?_
    · skip
      refine c_drawp (l := #[false, false, false, false, false, false, false, false, false, false, false, false]) 12 (is := [0, 1, 2]) rfl rfl rfl rfl ?_
      refine h_take (l' := #[true, false, false, false, false, false, false, false, false, false, false, false]) 0 rfl (by kernel_rfl) rfl rfl (np_cut (np_then np_post)) (hs_pick (is := [0, 1, 2]) rfl rfl) (y_loadW (k := 1)  agg24 rfl rfl rfl) ?_
      refine h_two (l' := #[true, true, false, false, false, false, false, false, false, false, false, false]) (l'' := #[true, false, false, false, false, false, false, false, true, false, false, false]) 1 8 rfl rfl (by kernel_rfl) rfl rfl ?_ ?_
      · skip
        refine l_call rfl ent62 rfl (fun w hm => rules_c w) ?_; rintro x23 h23
        refine l_nil ?_
        refine q_step (fun _ => hs_pick (is := [1, 2, 3]) rfl rfl) ?_
        refine h_two (l' := #[true, true, true, false, false, false, false, false, false, false, false, false]) (l'' := #[true, true, false, false, false, false, false, false, true, false, false, false]) 2 8 rfl rfl (by kernel_rfl) rfl rfl ?_ ?_
        · skip
          refine l_call rfl ent63 rfl (fun w hm => agreed_c w) ?_; rintro x24 h24
          refine l_nil ?_
          refine q_step (fun _ => hs_pick (is := [2, 3, 4]) rfl rfl) ?_
          refine h_two (l' := #[true, true, true, true, false, false, false, false, false, false, false, false]) (l'' := #[true, true, true, false, false, false, false, false, true, false, false, false]) 3 8 rfl rfl (by kernel_rfl) rfl rfl ?_ ?_
          · skip
            refine l_call rfl ent24 rfl (fun w hm => purge_c (j := jB) (p := rulesP) (g := agreedG) w (hAd.above hm.below) (sl_of_blk hm (k := 4) (l := jB.cks) rfl rfl (fun _ => rfl)) jB_ok (sl_of_blk hm (k := 1) (l := rulesP.rules) rfl rfl (fun _ => rfl)) rulesP_ok (sl_of_blk hm (k := 0) (l := agreedG.vs) rfl rfl (fun _ => rfl)) (by decide)) ?_; rintro x25 h25
            refine l_nil ?_
            refine q_step (fun _ => hs_pick (is := [3, 4, 5]) rfl rfl) ?_
            refine h_take (l' := #[true, true, true, true, true, false, false, false, false, false, false, false]) 4 rfl (by kernel_rfl) rfl rfl (np_cut (np_then np_post)) (hs_pick (is := [3, 4, 5]) rfl rfl) (y_move rfl) ?_
            refine h_take (l' := #[true, true, true, true, true, true, false, false, false, false, false, false]) 5 rfl (by kernel_rfl) rfl rfl (np_cut (np_then np_post)) (hs_pick (is := [3, 4, 5]) rfl rfl) (y_extract rfl rfl) ?_
            refine h_take (l' := #[true, true, true, true, true, true, true, false, false, false, false, false]) 6 rfl (by kernel_rfl) rfl rfl (np_cut (np_then np_post)) (hs_pick (is := [3, 4, 5]) rfl rfl) (y_extract rfl rfl) ?_
            refine h_take (l' := #[true, true, true, true, true, true, true, true, false, false, false, false]) 7 rfl (by kernel_rfl) rfl rfl (np_cut (np_then np_post)) (hs_pick (is := [3, 4, 5]) rfl rfl) (y_extract rfl rfl) ?_
            refine h_only (l' := #[true, true, true, true, true, true, true, true, true, false, false, false]) 8 rfl (by kernel_rfl) rfl ?_
            refine l_allocA rfl zero24 ?_; intro g3
            refine l_nil ?_
            refine q_step (fun _ => hs_pick (is := [4, 5, 6]) rfl rfl) ?_
            refine h_only (l' := #[true, true, true, true, true, true, true, true, true, true, false, false]) 9 rfl (by kernel_rfl) rfl ?_
            refine l_storeW (k := 0) (H' := [_, _, _, _, _, _, _]) size24 rfl rfl rfl rfl rfl rfl rfl ?_
            refine l_nil ?_
            refine q_step (fun _ => hs_pick (is := [4, 5, 6]) rfl rfl) ?_
            refine h_take (l' := #[true, true, true, true, true, true, true, true, true, true, true, false]) 10 rfl (by kernel_rfl) rfl rfl (np_cut (np_then np_post)) (hs_pick (is := [4, 5, 6]) rfl rfl) (y_assign rfl) ?_
            refine h_take (l' := #[true, true, true, true, true, true, true, true, true, true, true, true]) 11 rfl (by kernel_rfl) rfl rfl (np_cut (np_then np_post)) (hs_pick (is := [4, 5, 6]) rfl rfl) (y_assign rfl) ?_
            refine h_done (by kernel_rfl) ?_
            rw [bN1, bE1, bJ1]
            exact q_cut (g3, x25.1, x25.2) trivial (sub_cons rfl (sub_cons rfl (sub_cons rfl (sub_cons rfl (sub_cons rfl sub_nil))))) (hs_pick (is := [4, 5, 6, 0, 1]) rfl rfl)
          · skip
            refine l_allocA rfl zero24 ?_; intro g3
            refine l_nil ?_
            refine q_step (fun _ => hs_pick (is := [3, 4, 5]) rfl rfl) ?_
            refine h_only (l' := #[true, true, true, true, false, false, false, false, true, false, false, false]) 3 rfl (by kernel_rfl) rfl ?_
            refine l_call rfl ent24 rfl (fun w hm => purge_c (j := jB) (p := rulesP) (g := agreedG) w (hAd.above hm.below) (sl_of_blk hm (k := 5) (l := jB.cks) rfl rfl (fun _ => rfl)) jB_ok (sl_of_blk hm (k := 2) (l := rulesP.rules) rfl rfl (fun _ => rfl)) rulesP_ok (sl_of_blk hm (k := 1) (l := agreedG.vs) rfl rfl (fun _ => rfl)) (by decide)) ?_; rintro x25 h25
            refine l_nil ?_
            refine q_step (fun _ => hs_pick (is := [4, 5, 6]) rfl rfl) ?_
            refine h_take (l' := #[true, true, true, true, true, false, false, false, true, false, false, false]) 4 rfl (by kernel_rfl) rfl rfl (np_cut (np_then np_post)) (hs_pick (is := [4, 5, 6]) rfl rfl) (y_move rfl) ?_
            refine h_take (l' := #[true, true, true, true, true, true, false, false, true, false, false, false]) 5 rfl (by kernel_rfl) rfl rfl (np_cut (np_then np_post)) (hs_pick (is := [4, 5, 6]) rfl rfl) (y_extract rfl rfl) ?_
            refine h_take (l' := #[true, true, true, true, true, true, true, false, true, false, false, false]) 6 rfl (by kernel_rfl) rfl rfl (np_cut (np_then np_post)) (hs_pick (is := [4, 5, 6]) rfl rfl) (y_extract rfl rfl) ?_
            refine h_take (l' := #[true, true, true, true, true, true, true, true, true, false, false, false]) 7 rfl (by kernel_rfl) rfl rfl (np_cut (np_then np_post)) (hs_pick (is := [4, 5, 6]) rfl rfl) (y_extract rfl rfl) ?_
            refine h_only (l' := #[true, true, true, true, true, true, true, true, true, true, false, false]) 9 rfl (by kernel_rfl) rfl ?_
            refine l_storeW (k := 1) (H' := [_, _, _, _, _, _, _]) size24 rfl rfl rfl rfl rfl rfl rfl ?_
            refine l_nil ?_
            refine q_step (fun _ => hs_pick (is := [4, 5, 6]) rfl rfl) ?_
            refine h_take (l' := #[true, true, true, true, true, true, true, true, true, true, true, false]) 10 rfl (by kernel_rfl) rfl rfl (np_cut (np_then np_post)) (hs_pick (is := [4, 5, 6]) rfl rfl) (y_assign rfl) ?_
            refine h_take (l' := #[true, true, true, true, true, true, true, true, true, true, true, true]) 11 rfl (by kernel_rfl) rfl rfl (np_cut (np_then np_post)) (hs_pick (is := [4, 5, 6]) rfl rfl) (y_assign rfl) ?_
            refine h_done (by kernel_rfl) ?_
            rw [bN1, bE1, bJ1]
            exact q_cut (g3, x25.1, x25.2) trivial (sub_cons rfl (sub_cons rfl (sub_cons rfl (sub_cons rfl (sub_cons rfl sub_nil))))) (hs_pick (is := [4, 5, 6, 1, 0]) rfl rfl)
        · skip
          refine l_allocA rfl zero24 ?_; intro g3
          refine l_nil ?_
          refine q_step (fun _ => hs_pick (is := [2, 3, 4]) rfl rfl) ?_
          refine h_only (l' := #[true, true, true, false, false, false, false, false, true, false, false, false]) 2 rfl (by kernel_rfl) rfl ?_
          refine l_call rfl ent63 rfl (fun w hm => agreed_c w) ?_; rintro x24 h24
          refine l_nil ?_
          refine q_step (fun _ => hs_pick (is := [3, 4, 5]) rfl rfl) ?_
          refine h_only (l' := #[true, true, true, true, false, false, false, false, true, false, false, false]) 3 rfl (by kernel_rfl) rfl ?_
          refine l_call rfl ent24 rfl (fun w hm => purge_c (j := jB) (p := rulesP) (g := agreedG) w (hAd.above hm.below) (sl_of_blk hm (k := 5) (l := jB.cks) rfl rfl (fun _ => rfl)) jB_ok (sl_of_blk hm (k := 2) (l := rulesP.rules) rfl rfl (fun _ => rfl)) rulesP_ok (sl_of_blk hm (k := 0) (l := agreedG.vs) rfl rfl (fun _ => rfl)) (by decide)) ?_; rintro x25 h25
          refine l_nil ?_
          refine q_step (fun _ => hs_pick (is := [4, 5, 6]) rfl rfl) ?_
          refine h_take (l' := #[true, true, true, true, true, false, false, false, true, false, false, false]) 4 rfl (by kernel_rfl) rfl rfl (np_cut (np_then np_post)) (hs_pick (is := [4, 5, 6]) rfl rfl) (y_move rfl) ?_
          refine h_take (l' := #[true, true, true, true, true, true, false, false, true, false, false, false]) 5 rfl (by kernel_rfl) rfl rfl (np_cut (np_then np_post)) (hs_pick (is := [4, 5, 6]) rfl rfl) (y_extract rfl rfl) ?_
          refine h_take (l' := #[true, true, true, true, true, true, true, false, true, false, false, false]) 6 rfl (by kernel_rfl) rfl rfl (np_cut (np_then np_post)) (hs_pick (is := [4, 5, 6]) rfl rfl) (y_extract rfl rfl) ?_
          refine h_take (l' := #[true, true, true, true, true, true, true, true, true, false, false, false]) 7 rfl (by kernel_rfl) rfl rfl (np_cut (np_then np_post)) (hs_pick (is := [4, 5, 6]) rfl rfl) (y_extract rfl rfl) ?_
          refine h_only (l' := #[true, true, true, true, true, true, true, true, true, true, false, false]) 9 rfl (by kernel_rfl) rfl ?_
          refine l_storeW (k := 2) (H' := [_, _, _, _, _, _, _]) size24 rfl rfl rfl rfl rfl rfl rfl ?_
          refine l_nil ?_
          refine q_step (fun _ => hs_pick (is := [4, 5, 6]) rfl rfl) ?_
          refine h_take (l' := #[true, true, true, true, true, true, true, true, true, true, true, false]) 10 rfl (by kernel_rfl) rfl rfl (np_cut (np_then np_post)) (hs_pick (is := [4, 5, 6]) rfl rfl) (y_assign rfl) ?_
          refine h_take (l' := #[true, true, true, true, true, true, true, true, true, true, true, true]) 11 rfl (by kernel_rfl) rfl rfl (np_cut (np_then np_post)) (hs_pick (is := [4, 5, 6]) rfl rfl) (y_assign rfl) ?_
          refine h_done (by kernel_rfl) ?_
          rw [bN1, bE1, bJ1]
          exact q_cut (g3, x25.1, x25.2) trivial (sub_cons rfl (sub_cons rfl (sub_cons rfl (sub_cons rfl (sub_cons rfl sub_nil))))) (hs_pick (is := [4, 5, 6, 2, 0]) rfl rfl)
      · skip
        refine l_allocA rfl zero24 ?_; intro g3
        refine l_nil ?_
        refine q_step (fun _ => hs_pick (is := [1, 2, 3]) rfl rfl) ?_
        refine h_only (l' := #[true, true, false, false, false, false, false, false, true, false, false, false]) 1 rfl (by kernel_rfl) rfl ?_
        refine l_call rfl ent62 rfl (fun w hm => rules_c w) ?_; rintro x23 h23
        refine l_nil ?_
        refine q_step (fun _ => hs_pick (is := [2, 3, 4]) rfl rfl) ?_
        refine h_only (l' := #[true, true, true, false, false, false, false, false, true, false, false, false]) 2 rfl (by kernel_rfl) rfl ?_
        refine l_call rfl ent63 rfl (fun w hm => agreed_c w) ?_; rintro x24 h24
        refine l_nil ?_
        refine q_step (fun _ => hs_pick (is := [3, 4, 5]) rfl rfl) ?_
        refine h_only (l' := #[true, true, true, true, false, false, false, false, true, false, false, false]) 3 rfl (by kernel_rfl) rfl ?_
        refine l_call rfl ent24 rfl (fun w hm => purge_c (j := jB) (p := rulesP) (g := agreedG) w (hAd.above hm.below) (sl_of_blk hm (k := 5) (l := jB.cks) rfl rfl (fun _ => rfl)) jB_ok (sl_of_blk hm (k := 1) (l := rulesP.rules) rfl rfl (fun _ => rfl)) rulesP_ok (sl_of_blk hm (k := 0) (l := agreedG.vs) rfl rfl (fun _ => rfl)) (by decide)) ?_; rintro x25 h25
        refine l_nil ?_
        refine q_step (fun _ => hs_pick (is := [4, 5, 6]) rfl rfl) ?_
        refine h_take (l' := #[true, true, true, true, true, false, false, false, true, false, false, false]) 4 rfl (by kernel_rfl) rfl rfl (np_cut (np_then np_post)) (hs_pick (is := [4, 5, 6]) rfl rfl) (y_move rfl) ?_
        refine h_take (l' := #[true, true, true, true, true, true, false, false, true, false, false, false]) 5 rfl (by kernel_rfl) rfl rfl (np_cut (np_then np_post)) (hs_pick (is := [4, 5, 6]) rfl rfl) (y_extract rfl rfl) ?_
        refine h_take (l' := #[true, true, true, true, true, true, true, false, true, false, false, false]) 6 rfl (by kernel_rfl) rfl rfl (np_cut (np_then np_post)) (hs_pick (is := [4, 5, 6]) rfl rfl) (y_extract rfl rfl) ?_
        refine h_take (l' := #[true, true, true, true, true, true, true, true, true, false, false, false]) 7 rfl (by kernel_rfl) rfl rfl (np_cut (np_then np_post)) (hs_pick (is := [4, 5, 6]) rfl rfl) (y_extract rfl rfl) ?_
        refine h_only (l' := #[true, true, true, true, true, true, true, true, true, true, false, false]) 9 rfl (by kernel_rfl) rfl ?_
        refine l_storeW (k := 3) (H' := [_, _, _, _, _, _, _]) size24 rfl rfl rfl rfl rfl rfl rfl ?_
        refine l_nil ?_
        refine q_step (fun _ => hs_pick (is := [4, 5, 6]) rfl rfl) ?_
        refine h_take (l' := #[true, true, true, true, true, true, true, true, true, true, true, false]) 10 rfl (by kernel_rfl) rfl rfl (np_cut (np_then np_post)) (hs_pick (is := [4, 5, 6]) rfl rfl) (y_assign rfl) ?_
        refine h_take (l' := #[true, true, true, true, true, true, true, true, true, true, true, true]) 11 rfl (by kernel_rfl) rfl rfl (np_cut (np_then np_post)) (hs_pick (is := [4, 5, 6]) rfl rfl) (y_assign rfl) ?_
        refine h_done (by kernel_rfl) ?_
        rw [bN1, bE1, bJ1]
        exact q_cut (g3, x25.1, x25.2) trivial (sub_cons rfl (sub_cons rfl (sub_cons rfl (sub_cons rfl (sub_cons rfl sub_nil))))) (hs_pick (is := [4, 5, 6, 3, 0]) rfl rfl)
    · rintro ⟨g3, A3, k3⟩ _
      try dsimp only
      refine q_then ?_
      refine c_seq ?_
      refine c_cut (fun _ => True) (fun x : Nat × Option Addr × Nat => [(1, .pointer (some ⟨g1, 0, none⟩)), (2, .pointer (some ⟨g2, 0, none⟩)), (3, .pointer (some ⟨g3, 0, none⟩)), (4, .int .i64 0), (5, .int .i64 0), (6, .pointer (some ⟨x.1, 0, none⟩)), (7, .int .i64 1), (8, .int .i64 0)]) (fun x : Nat × Option Addr × Nat => [.blk g1 (.cells adC.arr 26 (0, 0)), .blk g2 (.cells #[.slice (some ⟨g19, 0, none⟩) 2 2, .int .i64 2] 24 (0, 0)), .blk g19 (.cells (jB.cks.flatMap Ck.cells).toArray 26 (0, 0)), .blk g3 (.cells #[.slice A3 2 k3, .int .i64 2] 24 (0, 0)), .row (.slice A3 2 k3) 26 13 2 (([identC, adC1] : List Ck).flatMap Ck.cells), .blk x.1 (.cells #[.slice x.2.1 1 x.2.2, .int .i64 2] 24 (0, 0)), .row (.slice x.2.1 1 x.2.2) 26 13 1 (([identC] : List Ck).flatMap Ck.cells)]) ?_ ?_
      · skip
        refine c_drawp (l := #[false, false, false, false, false, false, false, false, false, false, false, false]) 12 (is := [0, 1, 2, 3, 4]) rfl rfl rfl rfl ?_
        refine h_take (l' := #[true, false, false, false, false, false, false, false, false, false, false, false]) 0 rfl (by kernel_rfl) rfl rfl (np_cut (np_then np_post)) (hs_pick (is := [0, 1, 2, 3, 4]) rfl rfl) (y_loadW (k := 1)  agg24 rfl rfl rfl) ?_
        refine h_take (l' := #[true, false, true, false, false, false, false, false, false, false, false, false]) 2 rfl (by kernel_rfl) rfl rfl (np_cut (np_then np_post)) (hs_pick (is := [0, 1, 2, 3, 4]) rfl rfl) (y_build (cs := #[_, _, _, _, _, _, _, _, _, _, _, _]) (cl := [_, _, _, _, _, _, _, _, _, _, _, _])  zero53 bld53 rfl rfl rfl rfl rfl) ?_
        refine h_two (l' := #[true, true, true, false, false, false, false, false, false, false, false, false]) (l'' := #[true, false, true, false, false, false, false, false, true, false, false, false]) 1 8 rfl rfl (by kernel_rfl) rfl rfl ?_ ?_
        · skip
          refine l_call rfl ent62 rfl (fun w hm => rules_c w) ?_; rintro x31 h31
          refine l_nil ?_
          refine q_step (fun _ => hs_pick (is := [1, 2, 3, 4, 5]) rfl rfl) ?_
          refine h_two (l' := #[true, true, true, true, false, false, false, false, false, false, false, false]) (l'' := #[true, true, true, false, false, false, false, false, true, false, false, false]) 3 8 rfl rfl (by kernel_rfl) rfl rfl ?_ ?_
          · skip
            refine l_call rfl ent24 rfl (fun w hm => purge_c (j := jB) (p := rulesP) (g := nilG) w (hAd.above hm.below) (sl_of_blk hm (k := 3) (l := jB.cks) rfl rfl (fun _ => rfl)) jB_ok (sl_of_blk hm (k := 0) (l := rulesP.rules) rfl rfl (fun _ => rfl)) rulesP_ok (fun i x h => by simp [nilG] at h) (by decide)) ?_; rintro x33 h33
            refine l_nil ?_
            refine q_step (fun _ => hs_pick (is := [2, 3, 4, 5, 6]) rfl rfl) ?_
            refine h_take (l' := #[true, true, true, true, true, false, false, false, false, false, false, false]) 4 rfl (by kernel_rfl) rfl rfl (np_cut (np_then np_post)) (hs_pick (is := [2, 3, 4, 5, 6]) rfl rfl) (y_move rfl) ?_
            refine h_take (l' := #[true, true, true, true, true, true, false, false, false, false, false, false]) 5 rfl (by kernel_rfl) rfl rfl (np_cut (np_then np_post)) (hs_pick (is := [2, 3, 4, 5, 6]) rfl rfl) (y_extract rfl rfl) ?_
            refine h_take (l' := #[true, true, true, true, true, true, true, false, false, false, false, false]) 6 rfl (by kernel_rfl) rfl rfl (np_cut (np_then np_post)) (hs_pick (is := [2, 3, 4, 5, 6]) rfl rfl) (y_extract rfl rfl) ?_
            refine h_take (l' := #[true, true, true, true, true, true, true, true, false, false, false, false]) 7 rfl (by kernel_rfl) rfl rfl (np_cut (np_then np_post)) (hs_pick (is := [2, 3, 4, 5, 6]) rfl rfl) (y_extract rfl rfl) ?_
            refine h_only (l' := #[true, true, true, true, true, true, true, true, true, false, false, false]) 8 rfl (by kernel_rfl) rfl ?_
            refine l_allocA rfl zero24 ?_; intro g6
            refine l_nil ?_
            refine q_step (fun _ => hs_pick (is := [3, 4, 5, 6, 7]) rfl rfl) ?_
            refine h_only (l' := #[true, true, true, true, true, true, true, true, true, true, false, false]) 9 rfl (by kernel_rfl) rfl ?_
            refine l_storeW (k := 0) (H' := [_, _, _, _, _, _, _, _]) size24 rfl rfl rfl rfl rfl rfl rfl ?_
            refine l_nil ?_
            refine q_step (fun _ => hs_pick (is := [3, 4, 5, 6, 7]) rfl rfl) ?_
            refine h_take (l' := #[true, true, true, true, true, true, true, true, true, true, true, false]) 10 rfl (by kernel_rfl) rfl rfl (np_cut (np_then np_post)) (hs_pick (is := [3, 4, 5, 6, 7]) rfl rfl) (y_assign rfl) ?_
            refine h_take (l' := #[true, true, true, true, true, true, true, true, true, true, true, true]) 11 rfl (by kernel_rfl) rfl rfl (np_cut (np_then np_post)) (hs_pick (is := [3, 4, 5, 6, 7]) rfl rfl) (y_assign rfl) ?_
            refine h_done (by kernel_rfl) ?_
            rw [bN2, bE2, bJ2]
            exact q_cut (g6, x33.1, x33.2) trivial (sub_cons rfl (sub_cons rfl (sub_cons rfl (sub_cons rfl (sub_cons rfl (sub_cons rfl (sub_cons rfl (sub_cons rfl sub_nil)))))))) (hs_pick (is := [3, 4, 5, 6, 7, 0, 1]) rfl rfl)
          · skip
            refine l_allocA rfl zero24 ?_; intro g6
            refine l_nil ?_
            refine q_step (fun _ => hs_pick (is := [2, 3, 4, 5, 6]) rfl rfl) ?_
            refine h_only (l' := #[true, true, true, true, false, false, false, false, true, false, false, false]) 3 rfl (by kernel_rfl) rfl ?_
            refine l_call rfl ent24 rfl (fun w hm => purge_c (j := jB) (p := rulesP) (g := nilG) w (hAd.above hm.below) (sl_of_blk hm (k := 4) (l := jB.cks) rfl rfl (fun _ => rfl)) jB_ok (sl_of_blk hm (k := 1) (l := rulesP.rules) rfl rfl (fun _ => rfl)) rulesP_ok (fun i x h => by simp [nilG] at h) (by decide)) ?_; rintro x33 h33
            refine l_nil ?_
            refine q_step (fun _ => hs_pick (is := [3, 4, 5, 6, 7]) rfl rfl) ?_
            refine h_take (l' := #[true, true, true, true, true, false, false, false, true, false, false, false]) 4 rfl (by kernel_rfl) rfl rfl (np_cut (np_then np_post)) (hs_pick (is := [3, 4, 5, 6, 7]) rfl rfl) (y_move rfl) ?_
            refine h_take (l' := #[true, true, true, true, true, true, false, false, true, false, false, false]) 5 rfl (by kernel_rfl) rfl rfl (np_cut (np_then np_post)) (hs_pick (is := [3, 4, 5, 6, 7]) rfl rfl) (y_extract rfl rfl) ?_
            refine h_take (l' := #[true, true, true, true, true, true, true, false, true, false, false, false]) 6 rfl (by kernel_rfl) rfl rfl (np_cut (np_then np_post)) (hs_pick (is := [3, 4, 5, 6, 7]) rfl rfl) (y_extract rfl rfl) ?_
            refine h_take (l' := #[true, true, true, true, true, true, true, true, true, false, false, false]) 7 rfl (by kernel_rfl) rfl rfl (np_cut (np_then np_post)) (hs_pick (is := [3, 4, 5, 6, 7]) rfl rfl) (y_extract rfl rfl) ?_
            refine h_only (l' := #[true, true, true, true, true, true, true, true, true, true, false, false]) 9 rfl (by kernel_rfl) rfl ?_
            refine l_storeW (k := 1) (H' := [_, _, _, _, _, _, _, _]) size24 rfl rfl rfl rfl rfl rfl rfl ?_
            refine l_nil ?_
            refine q_step (fun _ => hs_pick (is := [3, 4, 5, 6, 7]) rfl rfl) ?_
            refine h_take (l' := #[true, true, true, true, true, true, true, true, true, true, true, false]) 10 rfl (by kernel_rfl) rfl rfl (np_cut (np_then np_post)) (hs_pick (is := [3, 4, 5, 6, 7]) rfl rfl) (y_assign rfl) ?_
            refine h_take (l' := #[true, true, true, true, true, true, true, true, true, true, true, true]) 11 rfl (by kernel_rfl) rfl rfl (np_cut (np_then np_post)) (hs_pick (is := [3, 4, 5, 6, 7]) rfl rfl) (y_assign rfl) ?_
            refine h_done (by kernel_rfl) ?_
            rw [bN2, bE2, bJ2]
            exact q_cut (g6, x33.1, x33.2) trivial (sub_cons rfl (sub_cons rfl (sub_cons rfl (sub_cons rfl (sub_cons rfl (sub_cons rfl (sub_cons rfl (sub_cons rfl sub_nil)))))))) (hs_pick (is := [3, 4, 5, 6, 7, 1, 0]) rfl rfl)
        · skip
          refine l_allocA rfl zero24 ?_; intro g6
          refine l_nil ?_
          refine q_step (fun _ => hs_pick (is := [1, 2, 3, 4, 5]) rfl rfl) ?_
          refine h_only (l' := #[true, true, true, false, false, false, false, false, true, false, false, false]) 1 rfl (by kernel_rfl) rfl ?_
          refine l_call rfl ent62 rfl (fun w hm => rules_c w) ?_; rintro x31 h31
          refine l_nil ?_
          refine q_step (fun _ => hs_pick (is := [2, 3, 4, 5, 6]) rfl rfl) ?_
          refine h_only (l' := #[true, true, true, true, false, false, false, false, true, false, false, false]) 3 rfl (by kernel_rfl) rfl ?_
          refine l_call rfl ent24 rfl (fun w hm => purge_c (j := jB) (p := rulesP) (g := nilG) w (hAd.above hm.below) (sl_of_blk hm (k := 4) (l := jB.cks) rfl rfl (fun _ => rfl)) jB_ok (sl_of_blk hm (k := 0) (l := rulesP.rules) rfl rfl (fun _ => rfl)) rulesP_ok (fun i x h => by simp [nilG] at h) (by decide)) ?_; rintro x33 h33
          refine l_nil ?_
          refine q_step (fun _ => hs_pick (is := [3, 4, 5, 6, 7]) rfl rfl) ?_
          refine h_take (l' := #[true, true, true, true, true, false, false, false, true, false, false, false]) 4 rfl (by kernel_rfl) rfl rfl (np_cut (np_then np_post)) (hs_pick (is := [3, 4, 5, 6, 7]) rfl rfl) (y_move rfl) ?_
          refine h_take (l' := #[true, true, true, true, true, true, false, false, true, false, false, false]) 5 rfl (by kernel_rfl) rfl rfl (np_cut (np_then np_post)) (hs_pick (is := [3, 4, 5, 6, 7]) rfl rfl) (y_extract rfl rfl) ?_
          refine h_take (l' := #[true, true, true, true, true, true, true, false, true, false, false, false]) 6 rfl (by kernel_rfl) rfl rfl (np_cut (np_then np_post)) (hs_pick (is := [3, 4, 5, 6, 7]) rfl rfl) (y_extract rfl rfl) ?_
          refine h_take (l' := #[true, true, true, true, true, true, true, true, true, false, false, false]) 7 rfl (by kernel_rfl) rfl rfl (np_cut (np_then np_post)) (hs_pick (is := [3, 4, 5, 6, 7]) rfl rfl) (y_extract rfl rfl) ?_
          refine h_only (l' := #[true, true, true, true, true, true, true, true, true, true, false, false]) 9 rfl (by kernel_rfl) rfl ?_
          refine l_storeW (k := 2) (H' := [_, _, _, _, _, _, _, _]) size24 rfl rfl rfl rfl rfl rfl rfl ?_
          refine l_nil ?_
          refine q_step (fun _ => hs_pick (is := [3, 4, 5, 6, 7]) rfl rfl) ?_
          refine h_take (l' := #[true, true, true, true, true, true, true, true, true, true, true, false]) 10 rfl (by kernel_rfl) rfl rfl (np_cut (np_then np_post)) (hs_pick (is := [3, 4, 5, 6, 7]) rfl rfl) (y_assign rfl) ?_
          refine h_take (l' := #[true, true, true, true, true, true, true, true, true, true, true, true]) 11 rfl (by kernel_rfl) rfl rfl (np_cut (np_then np_post)) (hs_pick (is := [3, 4, 5, 6, 7]) rfl rfl) (y_assign rfl) ?_
          refine h_done (by kernel_rfl) ?_
          rw [bN2, bE2, bJ2]
          exact q_cut (g6, x33.1, x33.2) trivial (sub_cons rfl (sub_cons rfl (sub_cons rfl (sub_cons rfl (sub_cons rfl (sub_cons rfl (sub_cons rfl (sub_cons rfl sub_nil)))))))) (hs_pick (is := [3, 4, 5, 6, 7, 2, 0]) rfl rfl)
      · rintro ⟨g6, A6, k6⟩ _
        try dsimp only
        refine q_then ?_
        refine c_seq ?_
        refine c_cut (fun _ => True) (fun x : Unit => [(1, .pointer (some ⟨g1, 0, none⟩)), (2, .pointer (some ⟨g2, 0, none⟩)), (3, .pointer (some ⟨g3, 0, none⟩)), (4, .int .i64 0), (5, .int .i64 0), (6, .pointer (some ⟨g6, 0, none⟩)), (7, .int .i64 1), (8, .int .i64 0), (10, .int .i64 8)]) (fun x : Unit => [.blk g1 (.cells adC.arr 26 (0, 0)), .blk g2 (.cells #[.slice (some ⟨g19, 0, none⟩) 2 2, .int .i64 2] 24 (0, 0)), .blk g19 (.cells (jB.cks.flatMap Ck.cells).toArray 26 (0, 0)), .blk g3 (.cells #[.slice A3 2 k3, .int .i64 2] 24 (0, 0)), .row (.slice A3 2 k3) 26 13 2 (([identC, adC1] : List Ck).flatMap Ck.cells), .blk g6 (.cells #[.slice A6 1 k6, .int .i64 2] 24 (0, 0)), .row (.slice A6 1 k6) 26 13 1 (([identC] : List Ck).flatMap Ck.cells)]) ?_ ?_
        · skip
          refine c_drawp (l := #[false, false, false, false, false, false, false, false, false, false]) 10 (is := [0, 1, 2, 3, 4, 5, 6]) rfl rfl rfl rfl ?_
          refine h_take (l' := #[false, true, false, false, false, false, false, false, false, false]) 1 rfl (by kernel_rfl) rfl rfl (np_cut (np_then np_post)) (hs_pick (is := [0, 1, 2, 3, 4, 5, 6]) rfl rfl) (y_build (cs := #[_, _, _, _, _, _, _, _, _, _, _, _]) (cl := [_, _, _, _, _, _, _, _, _, _, _, _])  zero53 bld53 rfl rfl rfl rfl rfl) ?_
          refine h_take (l' := #[false, true, true, false, false, false, false, false, false, false]) 2 rfl (by kernel_rfl) rfl rfl (np_cut (np_then np_post)) (hs_pick (is := [0, 1, 2, 3, 4, 5, 6]) rfl rfl) (y_loadW (k := 0)  agg26 rfl rfl rfl) ?_
          refine h_two (l' := #[true, true, true, false, false, false, false, false, false, false]) (l'' := #[false, true, true, false, false, false, false, true, false, false]) 0 7 rfl rfl (by kernel_rfl) rfl rfl ?_ ?_
          · skip
            refine l_call rfl ent62 rfl (fun w hm => rules_c w) ?_; rintro x38 h38
            refine l_nil ?_
            refine q_step (fun _ => hs_pick (is := [1, 2, 3, 4, 5, 6, 7]) rfl rfl) ?_
            refine h_two (l' := #[true, true, true, true, false, false, false, false, false, false]) (l'' := #[true, true, true, false, false, false, false, true, false, false]) 3 7 rfl rfl (by kernel_rfl) rfl rfl ?_ ?_
            · skip
              refine l_callU rfl ent64 rfl (fun w hm => gate_c (p := rulesP) (g := nilG) (c := adC) w (hAd.above hm.below) (sl_of_blk hm (k := 0) (l := rulesP.rules) rfl rfl (fun _ => rfl)) rulesP_ok (fun i x h => by simp [nilG] at h) (by decide) adC_ok) ?_
              refine l_nil ?_
              refine q_step (fun _ => hs_pick (is := [1, 2, 3, 4, 5, 6, 7]) rfl rfl) ?_
              refine h_take (l' := #[true, true, true, true, true, false, false, false, false, false]) 4 rfl (by kernel_rfl) rfl rfl (np_cut (np_then np_post)) (hs_pick (is := [1, 2, 3, 4, 5, 6, 7]) rfl rfl) (y_move rfl) ?_
              refine h_take (l' := #[true, true, true, true, true, true, false, false, false, false]) 5 rfl (by kernel_rfl) rfl rfl (np_cut (np_then np_post)) (hs_pick (is := [1, 2, 3, 4, 5, 6, 7]) rfl rfl) (y_extract rfl rfl) ?_
              refine h_take (l' := #[true, true, true, true, true, true, true, false, false, false]) 6 rfl (by kernel_rfl) rfl rfl (np_cut (np_then np_post)) (hs_pick (is := [1, 2, 3, 4, 5, 6, 7]) rfl rfl) (y_extract rfl rfl) ?_
              refine h_only (l' := #[true, true, true, true, true, true, true, true, false, false]) 7 rfl (by kernel_rfl) rfl ?_
              refine l_allocA rfl zero26 ?_; intro g9
              refine l_nil ?_
              refine q_step (fun _ => hs_pick (is := [2, 3, 4, 5, 6, 7, 8]) rfl rfl) ?_
              refine h_only (l' := #[true, true, true, true, true, true, true, true, true, false]) 8 rfl (by kernel_rfl) rfl ?_
              refine l_storeW (k := 0) (H' := [_, _, _, _, _, _, _, _, _]) size26 rfl rfl rfl rfl rfl rfl rfl ?_
              refine l_nil ?_
              refine q_step (fun _ => hs_pick (is := [2, 3, 4, 5, 6, 7, 8]) rfl rfl) ?_
              refine h_take (l' := #[true, true, true, true, true, true, true, true, true, true]) 9 rfl (by kernel_rfl) rfl rfl (np_cut (np_then np_post)) (hs_pick (is := [2, 3, 4, 5, 6, 7, 8]) rfl rfl) (y_assign rfl) ?_
              refine h_done (by kernel_rfl) ?_
              rw [bG1, bH1]
              exact q_cut () trivial (sub_cons rfl (sub_cons rfl (sub_cons rfl (sub_cons rfl (sub_cons rfl (sub_cons rfl (sub_cons rfl (sub_cons rfl (sub_cons rfl sub_nil))))))))) (hs_pick (is := [2, 3, 4, 5, 6, 7, 8]) rfl rfl)
            · skip
              refine l_allocA rfl zero26 ?_; intro g9
              refine l_nil ?_
              refine q_step (fun _ => hs_pick (is := [2, 3, 4, 5, 6, 7, 8]) rfl rfl) ?_
              refine h_only (l' := #[true, true, true, true, false, false, false, true, false, false]) 3 rfl (by kernel_rfl) rfl ?_
              refine l_callU rfl ent64 rfl (fun w hm => gate_c (p := rulesP) (g := nilG) (c := adC) w (hAd.above hm.below) (sl_of_blk hm (k := 1) (l := rulesP.rules) rfl rfl (fun _ => rfl)) rulesP_ok (fun i x h => by simp [nilG] at h) (by decide) adC_ok) ?_
              refine l_nil ?_
              refine q_step (fun _ => hs_pick (is := [2, 3, 4, 5, 6, 7, 8]) rfl rfl) ?_
              refine h_take (l' := #[true, true, true, true, true, false, false, true, false, false]) 4 rfl (by kernel_rfl) rfl rfl (np_cut (np_then np_post)) (hs_pick (is := [2, 3, 4, 5, 6, 7, 8]) rfl rfl) (y_move rfl) ?_
              refine h_take (l' := #[true, true, true, true, true, true, false, true, false, false]) 5 rfl (by kernel_rfl) rfl rfl (np_cut (np_then np_post)) (hs_pick (is := [2, 3, 4, 5, 6, 7, 8]) rfl rfl) (y_extract rfl rfl) ?_
              refine h_take (l' := #[true, true, true, true, true, true, true, true, false, false]) 6 rfl (by kernel_rfl) rfl rfl (np_cut (np_then np_post)) (hs_pick (is := [2, 3, 4, 5, 6, 7, 8]) rfl rfl) (y_extract rfl rfl) ?_
              refine h_only (l' := #[true, true, true, true, true, true, true, true, true, false]) 8 rfl (by kernel_rfl) rfl ?_
              refine l_storeW (k := 0) (H' := [_, _, _, _, _, _, _, _, _]) size26 rfl rfl rfl rfl rfl rfl rfl ?_
              refine l_nil ?_
              refine q_step (fun _ => hs_pick (is := [2, 3, 4, 5, 6, 7, 8]) rfl rfl) ?_
              refine h_take (l' := #[true, true, true, true, true, true, true, true, true, true]) 9 rfl (by kernel_rfl) rfl rfl (np_cut (np_then np_post)) (hs_pick (is := [2, 3, 4, 5, 6, 7, 8]) rfl rfl) (y_assign rfl) ?_
              refine h_done (by kernel_rfl) ?_
              rw [bG1, bH1]
              exact q_cut () trivial (sub_cons rfl (sub_cons rfl (sub_cons rfl (sub_cons rfl (sub_cons rfl (sub_cons rfl (sub_cons rfl (sub_cons rfl (sub_cons rfl sub_nil))))))))) (hs_pick (is := [2, 3, 4, 5, 6, 7, 8]) rfl rfl)
          · skip
            refine l_allocA rfl zero26 ?_; intro g9
            refine l_nil ?_
            refine q_step (fun _ => hs_pick (is := [1, 2, 3, 4, 5, 6, 7]) rfl rfl) ?_
            refine h_only (l' := #[true, true, true, false, false, false, false, true, false, false]) 0 rfl (by kernel_rfl) rfl ?_
            refine l_call rfl ent62 rfl (fun w hm => rules_c w) ?_; rintro x38 h38
            refine l_nil ?_
            refine q_step (fun _ => hs_pick (is := [2, 3, 4, 5, 6, 7, 8]) rfl rfl) ?_
            refine h_only (l' := #[true, true, true, true, false, false, false, true, false, false]) 3 rfl (by kernel_rfl) rfl ?_
            refine l_callU rfl ent64 rfl (fun w hm => gate_c (p := rulesP) (g := nilG) (c := adC) w (hAd.above hm.below) (sl_of_blk hm (k := 0) (l := rulesP.rules) rfl rfl (fun _ => rfl)) rulesP_ok (fun i x h => by simp [nilG] at h) (by decide) adC_ok) ?_
            refine l_nil ?_
            refine q_step (fun _ => hs_pick (is := [2, 3, 4, 5, 6, 7, 8]) rfl rfl) ?_
            refine h_take (l' := #[true, true, true, true, true, false, false, true, false, false]) 4 rfl (by kernel_rfl) rfl rfl (np_cut (np_then np_post)) (hs_pick (is := [2, 3, 4, 5, 6, 7, 8]) rfl rfl) (y_move rfl) ?_
            refine h_take (l' := #[true, true, true, true, true, true, false, true, false, false]) 5 rfl (by kernel_rfl) rfl rfl (np_cut (np_then np_post)) (hs_pick (is := [2, 3, 4, 5, 6, 7, 8]) rfl rfl) (y_extract rfl rfl) ?_
            refine h_take (l' := #[true, true, true, true, true, true, true, true, false, false]) 6 rfl (by kernel_rfl) rfl rfl (np_cut (np_then np_post)) (hs_pick (is := [2, 3, 4, 5, 6, 7, 8]) rfl rfl) (y_extract rfl rfl) ?_
            refine h_only (l' := #[true, true, true, true, true, true, true, true, true, false]) 8 rfl (by kernel_rfl) rfl ?_
            refine l_storeW (k := 1) (H' := [_, _, _, _, _, _, _, _, _]) size26 rfl rfl rfl rfl rfl rfl rfl ?_
            refine l_nil ?_
            refine q_step (fun _ => hs_pick (is := [2, 3, 4, 5, 6, 7, 8]) rfl rfl) ?_
            refine h_take (l' := #[true, true, true, true, true, true, true, true, true, true]) 9 rfl (by kernel_rfl) rfl rfl (np_cut (np_then np_post)) (hs_pick (is := [2, 3, 4, 5, 6, 7, 8]) rfl rfl) (y_assign rfl) ?_
            refine h_done (by kernel_rfl) ?_
            rw [bG1, bH1]
            exact q_cut () trivial (sub_cons rfl (sub_cons rfl (sub_cons rfl (sub_cons rfl (sub_cons rfl (sub_cons rfl (sub_cons rfl (sub_cons rfl (sub_cons rfl sub_nil))))))))) (hs_pick (is := [2, 3, 4, 5, 6, 7, 8]) rfl rfl)
        · rintro ⟨⟩ _
          try dsimp only
          refine q_then ?_
          refine c_seq ?_
          refine c_cut (fun _ => True) (fun x : Nat => [(1, .pointer (some ⟨g1, 0, none⟩)), (2, .pointer (some ⟨g2, 0, none⟩)), (3, .pointer (some ⟨g3, 0, none⟩)), (4, .int .i64 0), (5, .int .i64 0), (6, .pointer (some ⟨g6, 0, none⟩)), (7, .int .i64 1), (8, .int .i64 0), (10, .int .i64 8), (11, .pointer (some ⟨x, 0, none⟩)), (12, .int .i64 0)]) (fun x : Nat => [.blk g1 (.cells adC.arr 26 (0, 0)), .blk g2 (.cells #[.slice (some ⟨g19, 0, none⟩) 2 2, .int .i64 2] 24 (0, 0)), .blk g19 (.cells (jB.cks.flatMap Ck.cells).toArray 26 (0, 0)), .blk g3 (.cells #[.slice A3 2 k3, .int .i64 2] 24 (0, 0)), .row (.slice A3 2 k3) 26 13 2 (([identC, adC1] : List Ck).flatMap Ck.cells), .blk g6 (.cells #[.slice A6 1 k6, .int .i64 2] 24 (0, 0)), .row (.slice A6 1 k6) 26 13 1 (([identC] : List Ck).flatMap Ck.cells), .blk x (.cells adC1.arr 26 (0, 0))]) ?_ ?_
          · skip
            refine c_drawp (l := #[false, false, false, false, false, false, false, false, false, false]) 10 (is := [0, 1, 2, 3, 4, 5, 6]) rfl rfl rfl rfl ?_
            refine h_take (l' := #[false, false, true, false, false, false, false, false, false, false]) 2 rfl (by kernel_rfl) rfl rfl (np_cut (np_then np_post)) (hs_pick (is := [0, 1, 2, 3, 4, 5, 6]) rfl rfl) (y_loadW (k := 0)  agg26 rfl rfl rfl) ?_
            refine h_two (l' := #[true, false, true, false, false, false, false, false, false, false]) (l'' := #[false, false, true, false, false, false, false, true, false, false]) 0 7 rfl rfl (by kernel_rfl) rfl rfl ?_ ?_
            · skip
              refine l_call rfl ent62 rfl (fun w hm => rules_c w) ?_; rintro x45 h45
              refine l_nil ?_
              refine q_step (fun _ => hs_pick (is := [1, 2, 3, 4, 5, 6, 7]) rfl rfl) ?_
              refine h_two (l' := #[true, true, true, false, false, false, false, false, false, false]) (l'' := #[true, false, true, false, false, false, false, true, false, false]) 1 7 rfl rfl (by kernel_rfl) rfl rfl ?_ ?_
              · skip
                refine l_call rfl ent63 rfl (fun w hm => agreed_c w) ?_; rintro x46 h46
                refine l_nil ?_
                refine q_step (fun _ => hs_pick (is := [2, 3, 4, 5, 6, 7, 8]) rfl rfl) ?_
                refine h_two (l' := #[true, true, true, true, false, false, false, false, false, false]) (l'' := #[true, true, true, false, false, false, false, true, false, false]) 3 7 rfl rfl (by kernel_rfl) rfl rfl ?_ ?_
                · skip
                  refine l_callU rfl ent64 rfl (fun w hm => gate_c (p := rulesP) (g := agreedG) (c := adC) w (hAd.above hm.below) (sl_of_blk hm (k := 1) (l := rulesP.rules) rfl rfl (fun _ => rfl)) rulesP_ok (sl_of_blk hm (k := 0) (l := agreedG.vs) rfl rfl (fun _ => rfl)) (by decide) adC_ok) ?_
                  refine l_nil ?_
                  refine q_step (fun _ => hs_pick (is := [2, 3, 4, 5, 6, 7, 8]) rfl rfl) ?_
                  refine h_take (l' := #[true, true, true, true, true, false, false, false, false, false]) 4 rfl (by kernel_rfl) rfl rfl (np_cut (np_then np_post)) (hs_pick (is := [2, 3, 4, 5, 6, 7, 8]) rfl rfl) (y_move rfl) ?_
                  refine h_take (l' := #[true, true, true, true, true, true, false, false, false, false]) 5 rfl (by kernel_rfl) rfl rfl (np_cut (np_then np_post)) (hs_pick (is := [2, 3, 4, 5, 6, 7, 8]) rfl rfl) (y_extract rfl rfl) ?_
                  refine h_take (l' := #[true, true, true, true, true, true, true, false, false, false]) 6 rfl (by kernel_rfl) rfl rfl (np_cut (np_then np_post)) (hs_pick (is := [2, 3, 4, 5, 6, 7, 8]) rfl rfl) (y_extract rfl rfl) ?_
                  refine h_only (l' := #[true, true, true, true, true, true, true, true, false, false]) 7 rfl (by kernel_rfl) rfl ?_
                  refine l_allocA rfl zero26 ?_; intro g11
                  refine l_nil ?_
                  refine q_step (fun _ => hs_pick (is := [3, 4, 5, 6, 7, 8, 9]) rfl rfl) ?_
                  refine h_only (l' := #[true, true, true, true, true, true, true, true, true, false]) 8 rfl (by kernel_rfl) rfl ?_
                  refine l_storeW (k := 0) (H' := [_, _, _, _, _, _, _, _, _, _]) size26 rfl rfl rfl rfl rfl rfl rfl ?_
                  refine l_nil ?_
                  refine q_step (fun _ => hs_pick (is := [3, 4, 5, 6, 7, 8, 9]) rfl rfl) ?_
                  refine h_take (l' := #[true, true, true, true, true, true, true, true, true, true]) 9 rfl (by kernel_rfl) rfl rfl (np_cut (np_then np_post)) (hs_pick (is := [3, 4, 5, 6, 7, 8, 9]) rfl rfl) (y_assign rfl) ?_
                  refine h_done (by kernel_rfl) ?_
                  rw [bG2, bH2]
                  exact q_cut g11 trivial (sub_cons rfl (sub_cons rfl (sub_cons rfl (sub_cons rfl (sub_cons rfl (sub_cons rfl (sub_cons rfl (sub_cons rfl (sub_cons rfl (sub_cons rfl (sub_cons rfl sub_nil))))))))))) (hs_pick (is := [3, 4, 5, 6, 7, 8, 9, 0]) rfl rfl)
                · skip
                  refine l_allocA rfl zero26 ?_; intro g11
                  refine l_nil ?_
                  refine q_step (fun _ => hs_pick (is := [3, 4, 5, 6, 7, 8, 9]) rfl rfl) ?_
                  refine h_only (l' := #[true, true, true, true, false, false, false, true, false, false]) 3 rfl (by kernel_rfl) rfl ?_
                  refine l_callU rfl ent64 rfl (fun w hm => gate_c (p := rulesP) (g := agreedG) (c := adC) w (hAd.above hm.below) (sl_of_blk hm (k := 2) (l := rulesP.rules) rfl rfl (fun _ => rfl)) rulesP_ok (sl_of_blk hm (k := 1) (l := agreedG.vs) rfl rfl (fun _ => rfl)) (by decide) adC_ok) ?_
                  refine l_nil ?_
                  refine q_step (fun _ => hs_pick (is := [3, 4, 5, 6, 7, 8, 9]) rfl rfl) ?_
                  refine h_take (l' := #[true, true, true, true, true, false, false, true, false, false]) 4 rfl (by kernel_rfl) rfl rfl (np_cut (np_then np_post)) (hs_pick (is := [3, 4, 5, 6, 7, 8, 9]) rfl rfl) (y_move rfl) ?_
                  refine h_take (l' := #[true, true, true, true, true, true, false, true, false, false]) 5 rfl (by kernel_rfl) rfl rfl (np_cut (np_then np_post)) (hs_pick (is := [3, 4, 5, 6, 7, 8, 9]) rfl rfl) (y_extract rfl rfl) ?_
                  refine h_take (l' := #[true, true, true, true, true, true, true, true, false, false]) 6 rfl (by kernel_rfl) rfl rfl (np_cut (np_then np_post)) (hs_pick (is := [3, 4, 5, 6, 7, 8, 9]) rfl rfl) (y_extract rfl rfl) ?_
                  refine h_only (l' := #[true, true, true, true, true, true, true, true, true, false]) 8 rfl (by kernel_rfl) rfl ?_
                  refine l_storeW (k := 0) (H' := [_, _, _, _, _, _, _, _, _, _]) size26 rfl rfl rfl rfl rfl rfl rfl ?_
                  refine l_nil ?_
                  refine q_step (fun _ => hs_pick (is := [3, 4, 5, 6, 7, 8, 9]) rfl rfl) ?_
                  refine h_take (l' := #[true, true, true, true, true, true, true, true, true, true]) 9 rfl (by kernel_rfl) rfl rfl (np_cut (np_then np_post)) (hs_pick (is := [3, 4, 5, 6, 7, 8, 9]) rfl rfl) (y_assign rfl) ?_
                  refine h_done (by kernel_rfl) ?_
                  rw [bG2, bH2]
                  exact q_cut g11 trivial (sub_cons rfl (sub_cons rfl (sub_cons rfl (sub_cons rfl (sub_cons rfl (sub_cons rfl (sub_cons rfl (sub_cons rfl (sub_cons rfl (sub_cons rfl (sub_cons rfl sub_nil))))))))))) (hs_pick (is := [3, 4, 5, 6, 7, 8, 9, 0]) rfl rfl)
              · skip
                refine l_allocA rfl zero26 ?_; intro g11
                refine l_nil ?_
                refine q_step (fun _ => hs_pick (is := [2, 3, 4, 5, 6, 7, 8]) rfl rfl) ?_
                refine h_only (l' := #[true, true, true, false, false, false, false, true, false, false]) 1 rfl (by kernel_rfl) rfl ?_
                refine l_call rfl ent63 rfl (fun w hm => agreed_c w) ?_; rintro x46 h46
                refine l_nil ?_
                refine q_step (fun _ => hs_pick (is := [3, 4, 5, 6, 7, 8, 9]) rfl rfl) ?_
                refine h_only (l' := #[true, true, true, true, false, false, false, true, false, false]) 3 rfl (by kernel_rfl) rfl ?_
                refine l_callU rfl ent64 rfl (fun w hm => gate_c (p := rulesP) (g := agreedG) (c := adC) w (hAd.above hm.below) (sl_of_blk hm (k := 2) (l := rulesP.rules) rfl rfl (fun _ => rfl)) rulesP_ok (sl_of_blk hm (k := 0) (l := agreedG.vs) rfl rfl (fun _ => rfl)) (by decide) adC_ok) ?_
                refine l_nil ?_
                refine q_step (fun _ => hs_pick (is := [3, 4, 5, 6, 7, 8, 9]) rfl rfl) ?_
                refine h_take (l' := #[true, true, true, true, true, false, false, true, false, false]) 4 rfl (by kernel_rfl) rfl rfl (np_cut (np_then np_post)) (hs_pick (is := [3, 4, 5, 6, 7, 8, 9]) rfl rfl) (y_move rfl) ?_
                refine h_take (l' := #[true, true, true, true, true, true, false, true, false, false]) 5 rfl (by kernel_rfl) rfl rfl (np_cut (np_then np_post)) (hs_pick (is := [3, 4, 5, 6, 7, 8, 9]) rfl rfl) (y_extract rfl rfl) ?_
                refine h_take (l' := #[true, true, true, true, true, true, true, true, false, false]) 6 rfl (by kernel_rfl) rfl rfl (np_cut (np_then np_post)) (hs_pick (is := [3, 4, 5, 6, 7, 8, 9]) rfl rfl) (y_extract rfl rfl) ?_
                refine h_only (l' := #[true, true, true, true, true, true, true, true, true, false]) 8 rfl (by kernel_rfl) rfl ?_
                refine l_storeW (k := 1) (H' := [_, _, _, _, _, _, _, _, _, _]) size26 rfl rfl rfl rfl rfl rfl rfl ?_
                refine l_nil ?_
                refine q_step (fun _ => hs_pick (is := [3, 4, 5, 6, 7, 8, 9]) rfl rfl) ?_
                refine h_take (l' := #[true, true, true, true, true, true, true, true, true, true]) 9 rfl (by kernel_rfl) rfl rfl (np_cut (np_then np_post)) (hs_pick (is := [3, 4, 5, 6, 7, 8, 9]) rfl rfl) (y_assign rfl) ?_
                refine h_done (by kernel_rfl) ?_
                rw [bG2, bH2]
                exact q_cut g11 trivial (sub_cons rfl (sub_cons rfl (sub_cons rfl (sub_cons rfl (sub_cons rfl (sub_cons rfl (sub_cons rfl (sub_cons rfl (sub_cons rfl (sub_cons rfl (sub_cons rfl sub_nil))))))))))) (hs_pick (is := [3, 4, 5, 6, 7, 8, 9, 1]) rfl rfl)
            · skip
              refine l_allocA rfl zero26 ?_; intro g11
              refine l_nil ?_
              refine q_step (fun _ => hs_pick (is := [1, 2, 3, 4, 5, 6, 7]) rfl rfl) ?_
              refine h_only (l' := #[true, false, true, false, false, false, false, true, false, false]) 0 rfl (by kernel_rfl) rfl ?_
              refine l_call rfl ent62 rfl (fun w hm => rules_c w) ?_; rintro x45 h45
              refine l_nil ?_
              refine q_step (fun _ => hs_pick (is := [2, 3, 4, 5, 6, 7, 8]) rfl rfl) ?_
              refine h_only (l' := #[true, true, true, false, false, false, false, true, false, false]) 1 rfl (by kernel_rfl) rfl ?_
              refine l_call rfl ent63 rfl (fun w hm => agreed_c w) ?_; rintro x46 h46
              refine l_nil ?_
              refine q_step (fun _ => hs_pick (is := [3, 4, 5, 6, 7, 8, 9]) rfl rfl) ?_
              refine h_only (l' := #[true, true, true, true, false, false, false, true, false, false]) 3 rfl (by kernel_rfl) rfl ?_
              refine l_callU rfl ent64 rfl (fun w hm => gate_c (p := rulesP) (g := agreedG) (c := adC) w (hAd.above hm.below) (sl_of_blk hm (k := 1) (l := rulesP.rules) rfl rfl (fun _ => rfl)) rulesP_ok (sl_of_blk hm (k := 0) (l := agreedG.vs) rfl rfl (fun _ => rfl)) (by decide) adC_ok) ?_
              refine l_nil ?_
              refine q_step (fun _ => hs_pick (is := [3, 4, 5, 6, 7, 8, 9]) rfl rfl) ?_
              refine h_take (l' := #[true, true, true, true, true, false, false, true, false, false]) 4 rfl (by kernel_rfl) rfl rfl (np_cut (np_then np_post)) (hs_pick (is := [3, 4, 5, 6, 7, 8, 9]) rfl rfl) (y_move rfl) ?_
              refine h_take (l' := #[true, true, true, true, true, true, false, true, false, false]) 5 rfl (by kernel_rfl) rfl rfl (np_cut (np_then np_post)) (hs_pick (is := [3, 4, 5, 6, 7, 8, 9]) rfl rfl) (y_extract rfl rfl) ?_
              refine h_take (l' := #[true, true, true, true, true, true, true, true, false, false]) 6 rfl (by kernel_rfl) rfl rfl (np_cut (np_then np_post)) (hs_pick (is := [3, 4, 5, 6, 7, 8, 9]) rfl rfl) (y_extract rfl rfl) ?_
              refine h_only (l' := #[true, true, true, true, true, true, true, true, true, false]) 8 rfl (by kernel_rfl) rfl ?_
              refine l_storeW (k := 2) (H' := [_, _, _, _, _, _, _, _, _, _]) size26 rfl rfl rfl rfl rfl rfl rfl ?_
              refine l_nil ?_
              refine q_step (fun _ => hs_pick (is := [3, 4, 5, 6, 7, 8, 9]) rfl rfl) ?_
              refine h_take (l' := #[true, true, true, true, true, true, true, true, true, true]) 9 rfl (by kernel_rfl) rfl rfl (np_cut (np_then np_post)) (hs_pick (is := [3, 4, 5, 6, 7, 8, 9]) rfl rfl) (y_assign rfl) ?_
              refine h_done (by kernel_rfl) ?_
              rw [bG2, bH2]
              exact q_cut g11 trivial (sub_cons rfl (sub_cons rfl (sub_cons rfl (sub_cons rfl (sub_cons rfl (sub_cons rfl (sub_cons rfl (sub_cons rfl (sub_cons rfl (sub_cons rfl (sub_cons rfl sub_nil))))))))))) (hs_pick (is := [3, 4, 5, 6, 7, 8, 9, 2]) rfl rfl)
          · rintro g11 _
            try dsimp only
            refine q_then ?_
            refine c_seq ?_
            refine c_drawp (l := #[false, false, false, false, false, false, false, false, false, false, false, false, false, false, false, false, false, false, false, false, false, false, false, false, false, false, false, false, false, false, false, false, false, false, false, false, false, false, false, false, false, false, false, false, false, false, false, false, false, false, false, false, false, false, false, false]) 56 (is := [0, 1, 2, 3, 4, 5, 6, 7]) rfl rfl rfl rfl ?_
            refine h_take (l' := #[true, false, false, false, false, false, false, false, false, false, false, false, false, false, false, false, false, false, false, false, false, false, false, false, false, false, false, false, false, false, false, false, false, false, false, false, false, false, false, false, false, false, false, false, false, false, false, false, false, false, false, false, false, false, false, false]) 0 rfl (by kernel_rfl) rfl rfl (np_then np_post) (hs_pick (is := [0, 1, 2, 3, 4, 5, 6, 7]) rfl rfl) (y_move rfl) ?_
            refine h_take (l' := #[true, true, false, false, false, false, false, false, false, false, false, false, false, false, false, false, false, false, false, false, false, false, false, false, false, false, false, false, false, false, false, false, false, false, false, false, false, false, false, false, false, false, false, false, false, false, false, false, false, false, false, false, false, false, false, false]) 1 rfl (by kernel_rfl) rfl rfl (np_then np_post) (hs_pick (is := [0, 1, 2, 3, 4, 5, 6, 7]) rfl rfl) (y_eql rfl rfl) ?_
            refine h_take (l' := #[true, true, true, false, false, false, false, false, false, false, false, false, false, false, false, false, false, false, false, false, false, false, false, false, false, false, false, false, false, false, false, false, false, false, false, false, false, false, false, false, false, false, false, false, false, false, false, false, false, false, false, false, false, false, false, false]) 2 rfl (by kernel_rfl) rfl rfl (np_then np_post) (hs_pick (is := [0, 1, 2, 3, 4, 5, 6, 7]) rfl rfl) (y_move rfl) ?_
            refine h_dec (t := 53) rfl ?_ ?_
            · intro h53
              refine h_takeg (t := 53) (l' := #[true, true, true, true, false, false, false, false, false, false, false, false, false, false, false, false, false, false, false, false, false, false, false, false, false, false, false, false, false, false, false, false, false, false, false, false, false, false, false, false, false, false, false, false, false, false, false, false, false, false, false, false, false, false, false, false]) 3 rfl (by kernel_rfl) rfl rfl (np_then np_post) (hs_pick (is := [0, 1, 2, 3, 4, 5, 6, 7]) rfl rfl) rfl rfl (y_move rfl) ?_
              refine h_takeg (t := 53) (l' := #[true, true, true, true, true, false, false, false, false, false, false, false, false, false, false, false, false, false, false, false, false, false, false, false, false, false, false, false, false, false, false, false, false, false, false, false, false, false, false, false, false, false, false, false, false, false, false, false, false, false, false, false, false, false, false, false]) 4 rfl (by kernel_rfl) rfl rfl (np_then np_post) (hs_pick (is := [0, 1, 2, 3, 4, 5, 6, 7]) rfl rfl) rfl rfl (y_eql rfl rfl) ?_
              refine h_take (l' := #[true, true, true, true, true, true, false, false, false, false, false, false, false, false, false, false, false, false, false, false, false, false, false, false, false, false, false, false, false, false, false, false, false, false, false, false, false, false, false, false, false, false, false, false, false, false, false, false, false, false, false, false, false, false, false, false]) 5 rfl (by kernel_rfl) rfl rfl (np_then np_post) (hs_pick (is := [0, 1, 2, 3, 4, 5, 6, 7]) rfl rfl) (y_pick_t rfl rfl) ?_
              refine h_take (l' := #[true, true, true, true, true, true, true, false, false, false, false, false, false, false, false, false, false, false, false, false, false, false, false, false, false, false, false, false, false, false, false, false, false, false, false, false, false, false, false, false, false, false, false, false, false, false, false, false, false, false, false, false, false, false, false, false]) 6 rfl (by kernel_rfl) rfl rfl (np_then np_post) (hs_pick (is := [0, 1, 2, 3, 4, 5, 6, 7]) rfl rfl) (y_move rfl) ?_
              refine h_dec (t := 57) rfl ?_ ?_
              · intro h57
                refine h_takeg (t := 57) (l' := #[true, true, true, true, true, true, true, true, false, false, false, false, false, false, false, false, false, false, false, false, false, false, false, false, false, false, false, false, false, false, false, false, false, false, false, false, false, false, false, false, false, false, false, false, false, false, false, false, false, false, false, false, false, false, false, false]) 7 rfl (by kernel_rfl) rfl rfl (np_then np_post) (hs_pick (is := [0, 1, 2, 3, 4, 5, 6, 7]) rfl rfl) rfl rfl (y_faddr off24_0 rfl rfl) ?_
                refine h_takeg (t := 57) (l' := #[true, true, true, true, true, true, true, true, true, false, false, false, false, false, false, false, false, false, false, false, false, false, false, false, false, false, false, false, false, false, false, false, false, false, false, false, false, false, false, false, false, false, false, false, false, false, false, false, false, false, false, false, false, false, false, false]) 8 rfl (by kernel_rfl) rfl rfl (np_then np_post) (hs_pick (is := [0, 1, 2, 3, 4, 5, 6, 7]) rfl rfl) rfl rfl (y_load (k := 3)  one22 rfl rfl rfl) ?_
                refine h_takeg (t := 57) (l' := #[true, true, true, true, true, true, true, true, true, true, false, false, false, false, false, false, false, false, false, false, false, false, false, false, false, false, false, false, false, false, false, false, false, false, false, false, false, false, false, false, false, false, false, false, false, false, false, false, false, false, false, false, false, false, false, false]) 9 rfl (by kernel_rfl) rfl rfl (np_then np_post) (hs_pick (is := [0, 1, 2, 3, 4, 5, 6, 7]) rfl rfl) rfl rfl (y_len elem22 rfl) ?_
                refine h_takeg (t := 57) (l' := #[true, true, true, true, true, true, true, true, true, true, true, false, false, false, false, false, false, false, false, false, false, false, false, false, false, false, false, false, false, false, false, false, false, false, false, false, false, false, false, false, false, false, false, false, false, false, false, false, false, false, false, false, false, false, false, false]) 10 rfl (by kernel_rfl) rfl rfl (np_then np_post) (hs_pick (is := [0, 1, 2, 3, 4, 5, 6, 7]) rfl rfl) rfl rfl (y_eql rfl rfl) ?_
                refine h_take (l' := #[true, true, true, true, true, true, true, true, true, true, true, true, false, false, false, false, false, false, false, false, false, false, false, false, false, false, false, false, false, false, false, false, false, false, false, false, false, false, false, false, false, false, false, false, false, false, false, false, false, false, false, false, false, false, false, false]) 11 rfl (by kernel_rfl) rfl rfl (np_then np_post) (hs_pick (is := [0, 1, 2, 3, 4, 5, 6, 7]) rfl rfl) (y_pick_t rfl rfl) ?_
                refine h_take (l' := #[true, true, true, true, true, true, true, true, true, true, true, true, true, false, false, false, false, false, false, false, false, false, false, false, false, false, false, false, false, false, false, false, false, false, false, false, false, false, false, false, false, false, false, false, false, false, false, false, false, false, false, false, false, false, false, false]) 12 rfl (by kernel_rfl) rfl rfl (np_then np_post) (hs_pick (is := [0, 1, 2, 3, 4, 5, 6, 7]) rfl rfl) (y_move rfl) ?_
                refine h_dec (t := 63) rfl ?_ ?_
                · intro h63
                  refine h_takeg (t := 63) (l' := #[true, true, true, true, true, true, true, true, true, true, true, true, true, true, false, false, false, false, false, false, false, false, false, false, false, false, false, false, false, false, false, false, false, false, false, false, false, false, false, false, false, false, false, false, false, false, false, false, false, false, false, false, false, false, false, false]) 13 rfl (by kernel_rfl) rfl rfl (np_then np_post) (hs_pick (is := [0, 1, 2, 3, 4, 5, 6, 7]) rfl rfl) rfl rfl (y_faddr off24_0 rfl rfl) ?_
                  refine h_takeg (t := 63) (l' := #[true, true, true, true, true, true, true, true, true, true, true, true, true, true, true, false, false, false, false, false, false, false, false, false, false, false, false, false, false, false, false, false, false, false, false, false, false, false, false, false, false, false, false, false, false, false, false, false, false, false, false, false, false, false, false, false]) 14 rfl (by kernel_rfl) rfl rfl (np_then np_post) (hs_pick (is := [0, 1, 2, 3, 4, 5, 6, 7]) rfl rfl) rfl rfl (y_load (k := 3)  one22 rfl rfl rfl) ?_
                  refine h_takeg (t := 63) (l' := #[true, true, true, true, true, true, true, true, true, true, true, true, true, true, true, true, false, false, false, false, false, false, false, false, false, false, false, false, false, false, false, false, false, false, false, false, false, false, false, false, false, false, false, false, false, false, false, false, false, false, false, false, false, false, false, false]) 15 rfl (by kernel_rfl) rfl rfl (np_then np_post) (hs_pick (is := [0, 1, 2, 3, 4, 5, 6, 7]) rfl rfl) rfl rfl (y_iaddr_row (k := 4) elem22 size26 rfl (fun _ => rfl) rfl rfl rfl (by decide) rfl) ?_
                  refine h_takeg (t := 63) (l' := #[true, true, true, true, true, true, true, true, true, true, true, true, true, true, true, true, true, false, false, false, false, false, false, false, false, false, false, false, false, false, false, false, false, false, false, false, false, false, false, false, false, false, false, false, false, false, false, false, false, false, false, false, false, false, false, false]) 16 rfl (by kernel_rfl) rfl rfl (np_then np_post) (hs_pick (is := [0, 1, 2, 3, 4, 5, 6, 7]) rfl rfl) rfl rfl (y_faddr_row (k := 4) (i := 1) off26_9 rfl (fun _ => rfl) rfl rfl rfl rfl) ?_
                  refine h_takeg (t := 63) (l' := #[true, true, true, true, true, true, true, true, true, true, true, true, true, true, true, true, true, true, false, false, false, false, false, false, false, false, false, false, false, false, false, false, false, false, false, false, false, false, false, false, false, false, false, false, false, false, false, false, false, false, false, false, false, false, false, false]) 17 rfl (by kernel_rfl) rfl rfl (np_then np_post) (hs_pick (is := [0, 1, 2, 3, 4, 5, 6, 7]) rfl rfl) rfl rfl (y_load_row (k := 4) (i := 1) one3 rfl (fun _ => rfl) rfl 9 rfl rfl rfl rfl) ?_
                  refine h_takeg (t := 63) (l' := #[true, true, true, true, true, true, true, true, true, true, true, true, true, true, true, true, true, true, true, false, false, false, false, false, false, false, false, false, false, false, false, false, false, false, false, false, false, false, false, false, false, false, false, false, false, false, false, false, false, false, false, false, false, false, false, false]) 18 rfl (by kernel_rfl) rfl rfl (np_then np_post) (hs_pick (is := [0, 1, 2, 3, 4, 5, 6, 7]) rfl rfl) rfl rfl (y_eql rfl rfl) ?_
                  refine h_take (l' := #[true, true, true, true, true, true, true, true, true, true, true, true, true, true, true, true, true, true, true, true, false, false, false, false, false, false, false, false, false, false, false, false, false, false, false, false, false, false, false, false, false, false, false, false, false, false, false, false, false, false, false, false, false, false, false, false]) 19 rfl (by kernel_rfl) rfl rfl (np_then np_post) (hs_pick (is := [0, 1, 2, 3, 4, 5, 6, 7]) rfl rfl) (y_pick_t rfl rfl) ?_
                  refine h_take (l' := #[true, true, true, true, true, true, true, true, true, true, true, true, true, true, true, true, true, true, true, true, true, false, false, false, false, false, false, false, false, false, false, false, false, false, false, false, false, false, false, false, false, false, false, false, false, false, false, false, false, false, false, false, false, false, false, false]) 20 rfl (by kernel_rfl) rfl rfl (np_then np_post) (hs_pick (is := [0, 1, 2, 3, 4, 5, 6, 7]) rfl rfl) (y_move rfl) ?_
                  refine h_dec (t := 71) rfl ?_ ?_
                  · intro h71
                    refine h_takeg (t := 71) (l' := #[true, true, true, true, true, true, true, true, true, true, true, true, true, true, true, true, true, true, true, true, true, true, false, false, false, false, false, false, false, false, false, false, false, false, false, false, false, false, false, false, false, false, false, false, false, false, false, false, false, false, false, false, false, false, false, false]) 21 rfl (by kernel_rfl) rfl rfl (np_then np_post) (hs_pick (is := [0, 1, 2, 3, 4, 5, 6, 7]) rfl rfl) rfl rfl (y_move rfl) ?_
                    refine h_takeg (t := 71) (l' := #[true, true, true, true, true, true, true, true, true, true, true, true, true, true, true, true, true, true, true, true, true, true, true, false, false, false, false, false, false, false, false, false, false, false, false, false, false, false, false, false, false, false, false, false, false, false, false, false, false, false, false, false, false, false, false, false]) 22 rfl (by kernel_rfl) rfl rfl (np_then np_post) (hs_pick (is := [0, 1, 2, 3, 4, 5, 6, 7]) rfl rfl) rfl rfl (y_eql rfl rfl) ?_
                    refine h_take (l' := #[true, true, true, true, true, true, true, true, true, true, true, true, true, true, true, true, true, true, true, true, true, true, true, true, false, false, false, false, false, false, false, false, false, false, false, false, false, false, false, false, false, false, false, false, false, false, false, false, false, false, false, false, false, false, false, false]) 23 rfl (by kernel_rfl) rfl rfl (np_then np_post) (hs_pick (is := [0, 1, 2, 3, 4, 5, 6, 7]) rfl rfl) (y_pick_t rfl rfl) ?_
                    refine h_take (l' := #[true, true, true, true, true, true, true, true, true, true, true, true, true, true, true, true, true, true, true, true, true, true, true, true, true, false, false, false, false, false, false, false, false, false, false, false, false, false, false, false, false, false, false, false, false, false, false, false, false, false, false, false, false, false, false, false]) 24 rfl (by kernel_rfl) rfl rfl (np_then np_post) (hs_pick (is := [0, 1, 2, 3, 4, 5, 6, 7]) rfl rfl) (y_move rfl) ?_
                    refine h_dec (t := 75) rfl ?_ ?_
                    · intro h75
                      refine h_takeg (t := 75) (l' := #[true, true, true, true, true, true, true, true, true, true, true, true, true, true, true, true, true, true, true, true, true, true, true, true, true, true, false, false, false, false, false, false, false, false, false, false, false, false, false, false, false, false, false, false, false, false, false, false, false, false, false, false, false, false, false, false]) 25 rfl (by kernel_rfl) rfl rfl (np_then np_post) (hs_pick (is := [0, 1, 2, 3, 4, 5, 6, 7]) rfl rfl) rfl rfl (y_move rfl) ?_
                      refine h_takeg (t := 75) (l' := #[true, true, true, true, true, true, true, true, true, true, true, true, true, true, true, true, true, true, true, true, true, true, true, true, true, true, true, false, false, false, false, false, false, false, false, false, false, false, false, false, false, false, false, false, false, false, false, false, false, false, false, false, false, false, false, false]) 26 rfl (by kernel_rfl) rfl rfl (np_then np_post) (hs_pick (is := [0, 1, 2, 3, 4, 5, 6, 7]) rfl rfl) rfl rfl (y_eql rfl rfl) ?_
                      refine h_take (l' := #[true, true, true, true, true, true, true, true, true, true, true, true, true, true, true, true, true, true, true, true, true, true, true, true, true, true, true, true, false, false, false, false, false, false, false, false, false, false, false, false, false, false, false, false, false, false, false, false, false, false, false, false, false, false, false, false]) 27 rfl (by kernel_rfl) rfl rfl (np_then np_post) (hs_pick (is := [0, 1, 2, 3, 4, 5, 6, 7]) rfl rfl) (y_pick_t rfl rfl) ?_
                      refine h_take (l' := #[true, true, true, true, true, true, true, true, true, true, true, true, true, true, true, true, true, true, true, true, true, true, true, true, true, true, true, true, true, false, false, false, false, false, false, false, false, false, false, false, false, false, false, false, false, false, false, false, false, false, false, false, false, false, false, false]) 28 rfl (by kernel_rfl) rfl rfl (np_then np_post) (hs_pick (is := [0, 1, 2, 3, 4, 5, 6, 7]) rfl rfl) (y_move rfl) ?_
                      refine h_dec (t := 79) rfl ?_ ?_
                      · intro h79
                        refine h_takeg (t := 79) (l' := #[true, true, true, true, true, true, true, true, true, true, true, true, true, true, true, true, true, true, true, true, true, true, true, true, true, true, true, true, true, true, false, false, false, false, false, false, false, false, false, false, false, false, false, false, false, false, false, false, false, false, false, false, false, false, false, false]) 29 rfl (by kernel_rfl) rfl rfl (np_then np_post) (hs_pick (is := [0, 1, 2, 3, 4, 5, 6, 7]) rfl rfl) rfl rfl (y_faddr off24_0 rfl rfl) ?_
                        refine h_takeg (t := 79) (l' := #[true, true, true, true, true, true, true, true, true, true, true, true, true, true, true, true, true, true, true, true, true, true, true, true, true, true, true, true, true, true, true, false, false, false, false, false, false, false, false, false, false, false, false, false, false, false, false, false, false, false, false, false, false, false, false, false]) 30 rfl (by kernel_rfl) rfl rfl (np_then np_post) (hs_pick (is := [0, 1, 2, 3, 4, 5, 6, 7]) rfl rfl) rfl rfl (y_load (k := 5)  one22 rfl rfl rfl) ?_
                        refine h_takeg (t := 79) (l' := #[true, true, true, true, true, true, true, true, true, true, true, true, true, true, true, true, true, true, true, true, true, true, true, true, true, true, true, true, true, true, true, true, false, false, false, false, false, false, false, false, false, false, false, false, false, false, false, false, false, false, false, false, false, false, false, false]) 31 rfl (by kernel_rfl) rfl rfl (np_then np_post) (hs_pick (is := [0, 1, 2, 3, 4, 5, 6, 7]) rfl rfl) rfl rfl (y_len elem22 rfl) ?_
                        refine h_takeg (t := 79) (l' := #[true, true, true, true, true, true, true, true, true, true, true, true, true, true, true, true, true, true, true, true, true, true, true, true, true, true, true, true, true, true, true, true, true, false, false, false, false, false, false, false, false, false, false, false, false, false, false, false, false, false, false, false, false, false, false, false]) 32 rfl (by kernel_rfl) rfl rfl (np_then np_post) (hs_pick (is := [0, 1, 2, 3, 4, 5, 6, 7]) rfl rfl) rfl rfl (y_eql rfl rfl) ?_
                        refine h_take (l' := #[true, true, true, true, true, true, true, true, true, true, true, true, true, true, true, true, true, true, true, true, true, true, true, true, true, true, true, true, true, true, true, true, true, true, false, false, false, false, false, false, false, false, false, false, false, false, false, false, false, false, false, false, false, false, false, false]) 33 rfl (by kernel_rfl) rfl rfl (np_then np_post) (hs_pick (is := [0, 1, 2, 3, 4, 5, 6, 7]) rfl rfl) (y_pick_t rfl rfl) ?_
                        refine h_take (l' := #[true, true, true, true, true, true, true, true, true, true, true, true, true, true, true, true, true, true, true, true, true, true, true, true, true, true, true, true, true, true, true, true, true, true, true, false, false, false, false, false, false, false, false, false, false, false, false, false, false, false, false, false, false, false, false, false]) 34 rfl (by kernel_rfl) rfl rfl (np_then np_post) (hs_pick (is := [0, 1, 2, 3, 4, 5, 6, 7]) rfl rfl) (y_move rfl) ?_
                        refine h_dec (t := 85) rfl ?_ ?_
                        · intro h85
                          refine h_takeg (t := 85) (l' := #[true, true, true, true, true, true, true, true, true, true, true, true, true, true, true, true, true, true, true, true, true, true, true, true, true, true, true, true, true, true, true, true, true, true, true, true, false, false, false, false, false, false, false, false, false, false, false, false, false, false, false, false, false, false, false, false]) 35 rfl (by kernel_rfl) rfl rfl (np_then np_post) (hs_pick (is := [0, 1, 2, 3, 4, 5, 6, 7]) rfl rfl) rfl rfl (y_faddr off24_0 rfl rfl) ?_
                          refine h_takeg (t := 85) (l' := #[true, true, true, true, true, true, true, true, true, true, true, true, true, true, true, true, true, true, true, true, true, true, true, true, true, true, true, true, true, true, true, true, true, true, true, true, true, false, false, false, false, false, false, false, false, false, false, false, false, false, false, false, false, false, false, false]) 36 rfl (by kernel_rfl) rfl rfl (np_then np_post) (hs_pick (is := [0, 1, 2, 3, 4, 5, 6, 7]) rfl rfl) rfl rfl (y_load (k := 5)  one22 rfl rfl rfl) ?_
                          refine h_takeg (t := 85) (l' := #[true, true, true, true, true, true, true, true, true, true, true, true, true, true, true, true, true, true, true, true, true, true, true, true, true, true, true, true, true, true, true, true, true, true, true, true, true, true, false, false, false, false, false, false, false, false, false, false, false, false, false, false, false, false, false, false]) 37 rfl (by kernel_rfl) rfl rfl (np_then np_post) (hs_pick (is := [0, 1, 2, 3, 4, 5, 6, 7]) rfl rfl) rfl rfl (y_iaddr_row (k := 6) elem22 size26 rfl (fun _ => rfl) rfl rfl rfl (by decide) rfl) ?_
                          refine h_takeg (t := 85) (l' := #[true, true, true, true, true, true, true, true, true, true, true, true, true, true, true, true, true, true, true, true, true, true, true, true, true, true, true, true, true, true, true, true, true, true, true, true, true, true, true, false, false, false, false, false, false, false, false, false, false, false, false, false, false, false, false, false]) 38 rfl (by kernel_rfl) rfl rfl (np_then np_post) (hs_pick (is := [0, 1, 2, 3, 4, 5, 6, 7]) rfl rfl) rfl rfl (y_loadA_row (k := 6) (i := 0) agg26 rfl (fun _ => rfl) rfl rfl rfl rfl rfl) ?_
                          refine h_only (l' := #[true, true, true, true, true, true, true, true, true, true, true, true, true, true, true, true, true, true, true, true, true, true, true, true, true, true, true, true, true, true, true, true, true, true, true, true, true, true, true, true, false, false, false, false, false, false, false, false, false, false, false, false, false, false, false, false]) 39 rfl (by kernel_rfl) rfl ?_
                          refine g_on (t := 85) rfl rfl ?_
                          refine l_callU rfl ent43 rfl (fun w hm => ident_c w) ?_
                          refine l_nil ?_
                          refine q_step (fun _ => hs_pick (is := [0, 1, 2, 3, 4, 5, 6, 7]) rfl rfl) ?_
                          refine h_takeg (t := 85) (l' := #[true, true, true, true, true, true, true, true, true, true, true, true, true, true, true, true, true, true, true, true, true, true, true, true, true, true, true, true, true, true, true, true, true, true, true, true, true, true, true, true, true, false, false, false, false, false, false, false, false, false, false, false, false, false, false, false]) 40 rfl (by kernel_rfl) rfl rfl (np_then np_post) (hs_pick (is := [0, 1, 2, 3, 4, 5, 6, 7]) rfl rfl) rfl rfl (y_eqS (flat26 _ _ _ _ _ _ _ _ _ _ _ _ _) rfl rfl (Ck.eqc _ _)) ?_
                          refine h_take (l' := #[true, true, true, true, true, true, true, true, true, true, true, true, true, true, true, true, true, true, true, true, true, true, true, true, true, true, true, true, true, true, true, true, true, true, true, true, true, true, true, true, true, true, false, false, false, false, false, false, false, false, false, false, false, false, false, false]) 41 rfl (by kernel_rfl) rfl rfl (np_then np_post) (hs_pick (is := [0, 1, 2, 3, 4, 5, 6, 7]) rfl rfl) (y_pick_t rfl rfl) ?_
                          refine h_take (l' := #[true, true, true, true, true, true, true, true, true, true, true, true, true, true, true, true, true, true, true, true, true, true, true, true, true, true, true, true, true, true, true, true, true, true, true, true, true, true, true, true, true, true, true, false, false, false, false, false, false, false, false, false, false, false, false, false]) 42 rfl (by kernel_rfl) rfl rfl (np_then np_post) (hs_pick (is := [0, 1, 2, 3, 4, 5, 6, 7]) rfl rfl) (y_move rfl) ?_
                          refine h_dec (t := 93) rfl ?_ ?_
                          · intro h93
                            refine h_takeg (t := 93) (l' := #[true, true, true, true, true, true, true, true, true, true, true, true, true, true, true, true, true, true, true, true, true, true, true, true, true, true, true, true, true, true, true, true, true, true, true, true, true, true, true, true, true, true, true, true, false, false, false, false, false, false, false, false, false, false, false, false]) 43 rfl (by kernel_rfl) rfl rfl (np_then np_post) (hs_pick (is := [0, 1, 2, 3, 4, 5, 6, 7]) rfl rfl) rfl rfl (y_move rfl) ?_
                            refine h_takeg (t := 93) (l' := #[true, true, true, true, true, true, true, true, true, true, true, true, true, true, true, true, true, true, true, true, true, true, true, true, true, true, true, true, true, true, true, true, true, true, true, true, true, true, true, true, true, true, true, true, true, false, false, false, false, false, false, false, false, false, false, false]) 44 rfl (by kernel_rfl) rfl rfl (np_then np_post) (hs_pick (is := [0, 1, 2, 3, 4, 5, 6, 7]) rfl rfl) rfl rfl (y_eql rfl rfl) ?_
                            refine h_take (l' := #[true, true, true, true, true, true, true, true, true, true, true, true, true, true, true, true, true, true, true, true, true, true, true, true, true, true, true, true, true, true, true, true, true, true, true, true, true, true, true, true, true, true, true, true, true, true, false, false, false, false, false, false, false, false, false, false]) 45 rfl (by kernel_rfl) rfl rfl (np_then np_post) (hs_pick (is := [0, 1, 2, 3, 4, 5, 6, 7]) rfl rfl) (y_pick_t rfl rfl) ?_
                            refine h_take (l' := #[true, true, true, true, true, true, true, true, true, true, true, true, true, true, true, true, true, true, true, true, true, true, true, true, true, true, true, true, true, true, true, true, true, true, true, true, true, true, true, true, true, true, true, true, true, true, true, false, false, false, false, false, false, false, false, false]) 46 rfl (by kernel_rfl) rfl rfl (np_then np_post) (hs_pick (is := [0, 1, 2, 3, 4, 5, 6, 7]) rfl rfl) (y_move rfl) ?_
                            refine h_dec (t := 97) rfl ?_ ?_
                            · intro h97
                              refine h_takeg (t := 97) (l' := #[true, true, true, true, true, true, true, true, true, true, true, true, true, true, true, true, true, true, true, true, true, true, true, true, true, true, true, true, true, true, true, true, true, true, true, true, true, true, true, true, true, true, true, true, true, true, true, true, false, false, false, false, false, false, false, false]) 47 rfl (by kernel_rfl) rfl rfl (np_then np_post) (hs_pick (is := [0, 1, 2, 3, 4, 5, 6, 7]) rfl rfl) rfl rfl (y_move rfl) ?_
                              refine h_takeg (t := 97) (l' := #[true, true, true, true, true, true, true, true, true, true, true, true, true, true, true, true, true, true, true, true, true, true, true, true, true, true, true, true, true, true, true, true, true, true, true, true, true, true, true, true, true, true, true, true, true, true, true, true, true, false, false, false, false, false, false, false]) 48 rfl (by kernel_rfl) rfl rfl (np_then np_post) (hs_pick (is := [0, 1, 2, 3, 4, 5, 6, 7]) rfl rfl) rfl rfl (y_eql rfl rfl) ?_
                              refine h_take (l' := #[true, true, true, true, true, true, true, true, true, true, true, true, true, true, true, true, true, true, true, true, true, true, true, true, true, true, true, true, true, true, true, true, true, true, true, true, true, true, true, true, true, true, true, true, true, true, true, true, true, true, false, false, false, false, false, false]) 49 rfl (by kernel_rfl) rfl rfl (np_then np_post) (hs_pick (is := [0, 1, 2, 3, 4, 5, 6, 7]) rfl rfl) (y_pick_t rfl rfl) ?_
                              refine h_take (l' := #[true, true, true, true, true, true, true, true, true, true, true, true, true, true, true, true, true, true, true, true, true, true, true, true, true, true, true, true, true, true, true, true, true, true, true, true, true, true, true, true, true, true, true, true, true, true, true, true, true, true, true, false, false, false, false, false]) 50 rfl (by kernel_rfl) rfl rfl (np_then np_post) (hs_pick (is := [0, 1, 2, 3, 4, 5, 6, 7]) rfl rfl) (y_move rfl) ?_
                              refine h_dec (t := 101) rfl ?_ ?_
                              · intro h101
                                refine h_takeg (t := 101) (l' := #[true, true, true, true, true, true, true, true, true, true, true, true, true, true, true, true, true, true, true, true, true, true, true, true, true, true, true, true, true, true, true, true, true, true, true, true, true, true, true, true, true, true, true, true, true, true, true, true, true, true, true, true, false, false, false, false]) 51 rfl (by kernel_rfl) rfl rfl (np_then np_post) (hs_pick (is := [0, 1, 2, 3, 4, 5, 6, 7]) rfl rfl) rfl rfl (y_faddr off26_9 rfl rfl) ?_
                                refine h_takeg (t := 101) (l' := #[true, true, true, true, true, true, true, true, true, true, true, true, true, true, true, true, true, true, true, true, true, true, true, true, true, true, true, true, true, true, true, true, true, true, true, true, true, true, true, true, true, true, true, true, true, true, true, true, true, true, true, true, true, false, false, false]) 52 rfl (by kernel_rfl) rfl rfl (np_then np_post) (hs_pick (is := [0, 1, 2, 3, 4, 5, 6, 7]) rfl rfl) rfl rfl (y_load (k := 7)  one3 rfl rfl rfl) ?_
                                refine h_takeg (t := 101) (l' := #[true, true, true, true, true, true, true, true, true, true, true, true, true, true, true, true, true, true, true, true, true, true, true, true, true, true, true, true, true, true, true, true, true, true, true, true, true, true, true, true, true, true, true, true, true, true, true, true, true, true, true, true, true, true, false, false]) 53 rfl (by kernel_rfl) rfl rfl (np_then np_post) (hs_pick (is := [0, 1, 2, 3, 4, 5, 6, 7]) rfl rfl) rfl rfl (y_eql rfl rfl) ?_
                                refine h_take (l' := #[true, true, true, true, true, true, true, true, true, true, true, true, true, true, true, true, true, true, true, true, true, true, true, true, true, true, true, true, true, true, true, true, true, true, true, true, true, true, true, true, true, true, true, true, true, true, true, true, true, true, true, true, true, true, true, false]) 54 rfl (by kernel_rfl) rfl rfl (np_then np_post) (hs_pick (is := [0, 1, 2, 3, 4, 5, 6, 7]) rfl rfl) (y_pick_t rfl rfl) ?_
                                refine h_take (l' := #[true, true, true, true, true, true, true, true, true, true, true, true, true, true, true, true, true, true, true, true, true, true, true, true, true, true, true, true, true, true, true, true, true, true, true, true, true, true, true, true, true, true, true, true, true, true, true, true, true, true, true, true, true, true, true, true]) 55 rfl (by kernel_rfl) rfl rfl (np_then np_post) (hs_pick (is := [0, 1, 2, 3, 4, 5, 6, 7]) rfl rfl) (y_assign rfl) ?_
                                refine h_done (by kernel_rfl) ?_
                                refine q_then ?_
                                refine c_ret ?_
                                exact q_ret1 Tryz.results26 rfl () trivial rfl hs_nil
                              · intro h101
                                exact absurd (by decide) h101
                            · intro h97
                              exact absurd (by decide) h97
                          · intro h93
                            exact absurd (by decide) h93
                        · intro h85
                          exact absurd (by decide) h85
                      · intro h79
                        exact absurd (by decide) h79
                    · intro h75
                      exact absurd (by decide) h75
                  · intro h71
                    exact absurd (by decide) h71
                · intro h63
                  exact absurd (by decide) h63
              · intro h57
                exact absurd (by decide) h57
            · intro h53
              exact absurd (by decide) h53

end Go.Gx
