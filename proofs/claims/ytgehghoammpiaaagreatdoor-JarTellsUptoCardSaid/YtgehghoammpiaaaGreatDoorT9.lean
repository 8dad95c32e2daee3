/- This text proves: functions of the program, walked: what each answers, for every input. No condition beyond those that each theorem names. -/
import Derived.Test.YtgehghoammpiaaaGreatDoorProg
import Derived.Test.YtgehghoammpiaaaGreatDoorTStr
import Derived.Test.YtgehghoammpiaaaGreatDoorT8
import Derived.Test.YtgehghoammpiaaaGreatDoorGy9
import Derived.KernelRfl
namespace Go.Gx
open Go.Proofs Go.Maps
theorem zero35 : zeroOf Tryz.prog 35 = some (.agg #[.string (B []), .string (B []), .bool false, .bool false, .bool false]) := by kernel_rfl
theorem bld35 : bldT Tryz.prog 35 = some [(0, 1), (1, 1), (2, 1), (3, 1), (4, 1)] := by kernel_rfl
theorem size35 : sizeT Tryz.prog 35 5 = true := by kernel_rfl
theorem ent10 : enters Tryz.prog 10 = true := by kernel_rfl
theorem off26_1 : fieldOff Tryz.prog 26 1 = some 1 := by kernel_rfl
theorem ent44 : enters Tryz.prog 44 = true := by kernel_rfl
theorem ent16 : enters Tryz.prog 16 = true := by kernel_rfl

theorem shop_c  (w : World) : Cv Tryz.prog 44 #[] w (.agg shopF.arr) := by
  refine enter (E := []) Tryz.func44 rfl Tryz.ntmps44 rfl (by simp) ?_
  refine c_seq ?_
  refine c_region rfl ?_
  refine l_allocA rfl zero35 ?_; intro g0
  refine l_nil ?_
  refine q_then ?_
  refine c_seq ?_
  refine c_region rfl ?_
  refine gv rfl (y_build (cs := #[_, _, _, _, _]) (cl := [_, _, _, _, _])  zero35 bld35 rfl rfl rfl rfl rfl) ?_
  refine l_storeW (k := 0) (H' := [_]) size35 rfl rfl rfl rfl rfl rfl rfl ?_
  refine l_nil ?_
  refine q_then ?_
  refine c_ret ?_
  exact q_retA (k := 0) Tryz.results44 agg35 rfl rfl rfl () trivial rfl hs_nil

theorem jarBegun_c {ad : List UInt8 → Bool} (w : World) (hAd : AddrIs Tryz.prog 107 w ad) (had : ad wsh = false) : Cv Tryz.prog 12 #[] w (.bool true) := by
  refine enter (E := []) Tryz.func12 rfl Tryz.ntmps12 rfl (by simp) ?_
  refine c_seq ?_
  refine c_region rfl ?_
  refine gv rfl (y_assign rfl) ?_
  refine l_nil ?_
  refine q_then ?_
  refine c_seq ?_
  refine c_region rfl ?_
  refine gv rfl (y_build (cs := #[_, _]) (cl := [_, _])  zero24 bld24 rfl rfl rfl rfl rfl) ?_
  refine l_callU rfl ent43 rfl (fun w hm => ident_c w) ?_
  refine l_call rfl ent10 rfl (fun w hm => put_c (j := jE) (c := identC) (A0 := none) (k0 := 0) w (fun i x h => by simp [jE] at h) jE_ok (fun _ => rfl)) ?_; rintro x14 h14
  rw [jp1, pe1]
  refine gv rfl (y_move rfl) ?_
  refine gv rfl (y_extract rfl rfl) ?_
  refine gv rfl (y_extract rfl rfl) ?_
  refine l_allocA rfl zero24 ?_; intro g1
  refine l_storeW (k := 0) (H' := [_, _]) size24 rfl rfl rfl rfl rfl rfl rfl ?_
  refine gv rfl (y_assign rfl) ?_
  refine l_nil ?_
  refine q_then ?_
  refine c_seq ?_
  refine c_region rfl ?_
  refine l_callU rfl ent43 rfl (fun w hm => ident_c w) ?_
  refine l_allocA rfl zero26 ?_; intro g3
  refine l_storeW (k := 0) (H' := [_, _, _]) size26 rfl rfl rfl rfl rfl rfl rfl ?_
  refine l_nil ?_
  refine q_then ?_
  refine c_seq ?_
  refine c_region rfl ?_
  refine gv rfl (y_faddr off26_1 rfl rfl) ?_
  refine l_store (k := 0) (cs' := #[_, _, _, _, _, _, _, _, _, _, _, _, _]) (H' := [_, _, _]) size9 rfl rfl rfl rfl rfl rfl rfl ?_
  refine gv rfl (y_faddr off26_10 rfl rfl) ?_
  refine l_store (k := 0) (cs' := #[_, _, _, _, _, _, _, _, _, _, _, _, _]) (H' := [_, _, _]) size3 rfl rfl rfl rfl rfl rfl rfl ?_
  refine gv rfl (y_faddr off26_11 rfl rfl) ?_
  refine l_store (k := 0) (cs' := c8.arr) (H' := [_, _, _]) size3 rfl rfl rfl rfl rfl rfl rfl ?_
  refine l_nil ?_
  refine q_then ?_
  refine c_seq ?_
  refine c_region rfl ?_
  refine gv rfl (y_loadW (k := 1)  agg24 rfl rfl rfl) ?_
  refine gv rfl (y_loadW (k := 0)  agg26 rfl rfl rfl) ?_
  refine l_call rfl ent10 rfl (fun w hm => put_c (j := jA) (c := c8) w (sl_of_row hm (k := 2) rfl (fun _ => rfl) rfl) jA_ok (fun h => row_nilcap hm (k := 2) rfl h)) ?_; rintro x24 h24
  rw [jp2, pe2]
  refine gv rfl (y_move rfl) ?_
  refine gv rfl (y_extract rfl rfl) ?_
  refine gv rfl (y_extract rfl rfl) ?_
  refine l_allocA rfl zero24 ?_; intro g4
  refine l_storeW (k := 0) (H' := [_, _, _, _, _]) size24 rfl rfl rfl rfl rfl rfl rfl ?_
  refine gv rfl (y_assign rfl) ?_
  refine l_nil ?_
  refine q_then ?_
  refine c_seq ?_
  refine c_cut (fun _ => True) (fun x : Nat × (Option Addr × Nat) × (Option Addr × Nat) => [(1, .pointer (some ⟨g1, 0, none⟩)), (2, .int .i64 0), (4, .pointer (some ⟨g4, 0, none⟩)), (5, .int .i64 0), (6, .pointer (some ⟨x.1, 0, none⟩)), (7, .slice x.2.2.1 ([u8] : List Ck).length x.2.2.2), (8, .int .i64 0)]) (fun x : Nat × (Option Addr × Nat) × (Option Addr × Nat) => [.blk g1 (.cells #[.slice x14.1 (jA.cks : List Ck).length x14.2, .int .i64 1] 24 (0, 0)), .row (.slice x14.1 (jA.cks : List Ck).length x14.2) 26 13 (jA.cks : List Ck).length ((jA.cks : List Ck).flatMap Ck.cells), .blk g4 (.cells #[.slice x24.1 (jK.cks : List Ck).length x24.2, .int .i64 1] 24 (0, 0)), .row (.slice x24.1 (jK.cks : List Ck).length x24.2) 26 13 (jK.cks : List Ck).length ((jK.cks : List Ck).flatMap Ck.cells), .blk x.1 (.cells #[.slice x.2.1.1 (jU.cks : List Ck).length x.2.1.2, .int .i64 1] 24 (0, 0)), .row (.slice x.2.1.1 (jU.cks : List Ck).length x.2.1.2) 26 13 (jU.cks : List Ck).length ((jU.cks : List Ck).flatMap Ck.cells), .row (.slice x.2.2.1 ([u8] : List Ck).length x.2.2.2) 26 13 ([u8] : List Ck).length (([u8] : List Ck).flatMap Ck.cells)]) ?_ ?_
  · skip
    refine c_drawp (l := #[false, false, false, false, false, false, false, false, false, false, false]) 11 (is := [0, 1, 2, 3, 4]) rfl rfl rfl rfl ?_
    refine h_take (l' := #[true, false, false, false, false, false, false, false, false, false, false]) 0 rfl (by kernel_rfl) rfl rfl (np_cut (np_then np_post)) (hs_pick (is := [0, 1, 2, 3, 4]) rfl rfl) (y_loadW (k := 0)  agg24 rfl rfl rfl) ?_
    refine h_two (l' := #[true, true, false, false, false, false, false, false, false, false, false]) (l'' := #[true, false, false, false, false, false, false, true, false, false, false]) 1 7 rfl rfl (by kernel_rfl) rfl rfl ?_ ?_
    · skip
      refine l_callU rfl ent44 rfl (fun w hm => shop_c w) ?_
      refine l_nil ?_
      refine q_step (fun _ => hs_pick (is := [0, 1, 2, 3, 4]) rfl rfl) ?_
      refine h_two (l' := #[true, true, true, false, false, false, false, false, false, false, false]) (l'' := #[true, true, false, false, false, false, false, true, false, false, false]) 2 7 rfl rfl (by kernel_rfl) rfl rfl ?_ ?_
      · skip
        refine l_call rfl ent16 rfl (fun w hm => get_c (j := jK) (f := shopF) w (hAd.above hm.below) (sl_of_row hm (k := 1) rfl (fun _ => rfl) rfl) jK_ok (fun h => row_nilcap hm (k := 1) rfl h) (by decide)) ?_; rintro x30 h30
        rw [gj1 had, gl1 had, ge1]
        refine l_nil ?_
        refine q_step (fun _ => hs_pick (is := [2, 3, 4, 5, 6]) rfl rfl) ?_
        refine h_take (l' := #[true, true, true, true, false, false, false, false, false, false, false]) 3 rfl (by kernel_rfl) rfl rfl (np_cut (np_then np_post)) (hs_pick (is := [2, 3, 4, 5, 6]) rfl rfl) (y_move rfl) ?_
        refine h_take (l' := #[true, true, true, true, true, false, false, false, false, false, false]) 4 rfl (by kernel_rfl) rfl rfl (np_cut (np_then np_post)) (hs_pick (is := [2, 3, 4, 5, 6]) rfl rfl) (y_extract rfl rfl) ?_
        refine h_take (l' := #[true, true, true, true, true, true, false, false, false, false, false]) 5 rfl (by kernel_rfl) rfl rfl (np_cut (np_then np_post)) (hs_pick (is := [2, 3, 4, 5, 6]) rfl rfl) (y_extract rfl rfl) ?_
        refine h_take (l' := #[true, true, true, true, true, true, true, false, false, false, false]) 6 rfl (by kernel_rfl) rfl rfl (np_cut (np_then np_post)) (hs_pick (is := [2, 3, 4, 5, 6]) rfl rfl) (y_extract rfl rfl) ?_
        refine h_only (l' := #[true, true, true, true, true, true, true, true, false, false, false]) 7 rfl (by kernel_rfl) rfl ?_
        refine l_allocA rfl zero24 ?_; intro g6
        refine l_nil ?_
        refine q_step (fun _ => hs_pick (is := [3, 4, 5, 6, 7]) rfl rfl) ?_
        refine h_only (l' := #[true, true, true, true, true, true, true, true, true, false, false]) 8 rfl (by kernel_rfl) rfl ?_
        refine l_storeW (k := 0) (H' := [_, _, _, _, _, _, _, _]) size24 rfl rfl rfl rfl rfl rfl rfl ?_
        refine l_nil ?_
        refine q_step (fun _ => hs_pick (is := [3, 4, 5, 6, 7]) rfl rfl) ?_
        refine h_take (l' := #[true, true, true, true, true, true, true, true, true, true, false]) 9 rfl (by kernel_rfl) rfl rfl (np_cut (np_then np_post)) (hs_pick (is := [3, 4, 5, 6, 7]) rfl rfl) (y_assign rfl) ?_
        refine h_take (l' := #[true, true, true, true, true, true, true, true, true, true, true]) 10 rfl (by kernel_rfl) rfl rfl (np_cut (np_then np_post)) (hs_pick (is := [3, 4, 5, 6, 7]) rfl rfl) (y_assign rfl) ?_
        refine h_done (by kernel_rfl) ?_
        exact q_cut (g6, x30) trivial (sub_cons rfl (sub_cons rfl (sub_cons rfl (sub_cons rfl (sub_cons rfl (sub_cons rfl (sub_cons rfl sub_nil))))))) (hs_pick (is := [6, 7, 3, 4, 0, 1, 2]) rfl rfl)
      · skip
        refine l_allocA rfl zero24 ?_; intro g6
        refine l_nil ?_
        refine q_step (fun _ => hs_pick (is := [1, 2, 3, 4, 5]) rfl rfl) ?_
        refine h_only (l' := #[true, true, true, false, false, false, false, true, false, false, false]) 2 rfl (by kernel_rfl) rfl ?_
        refine l_call rfl ent16 rfl (fun w hm => get_c (j := jK) (f := shopF) w (hAd.above hm.below) (sl_of_row hm (k := 2) rfl (fun _ => rfl) rfl) jK_ok (fun h => row_nilcap hm (k := 2) rfl h) (by decide)) ?_; rintro x30 h30
        rw [gj1 had, gl1 had, ge1]
        refine l_nil ?_
        refine q_step (fun _ => hs_pick (is := [3, 4, 5, 6, 7]) rfl rfl) ?_
        refine h_take (l' := #[true, true, true, true, false, false, false, true, false, false, false]) 3 rfl (by kernel_rfl) rfl rfl (np_cut (np_then np_post)) (hs_pick (is := [3, 4, 5, 6, 7]) rfl rfl) (y_move rfl) ?_
        refine h_take (l' := #[true, true, true, true, true, false, false, true, false, false, false]) 4 rfl (by kernel_rfl) rfl rfl (np_cut (np_then np_post)) (hs_pick (is := [3, 4, 5, 6, 7]) rfl rfl) (y_extract rfl rfl) ?_
        refine h_take (l' := #[true, true, true, true, true, true, false, true, false, false, false]) 5 rfl (by kernel_rfl) rfl rfl (np_cut (np_then np_post)) (hs_pick (is := [3, 4, 5, 6, 7]) rfl rfl) (y_extract rfl rfl) ?_
        refine h_take (l' := #[true, true, true, true, true, true, true, true, false, false, false]) 6 rfl (by kernel_rfl) rfl rfl (np_cut (np_then np_post)) (hs_pick (is := [3, 4, 5, 6, 7]) rfl rfl) (y_extract rfl rfl) ?_
        refine h_only (l' := #[true, true, true, true, true, true, true, true, true, false, false]) 8 rfl (by kernel_rfl) rfl ?_
        refine l_storeW (k := 2) (H' := [_, _, _, _, _, _, _, _]) size24 rfl rfl rfl rfl rfl rfl rfl ?_
        refine l_nil ?_
        refine q_step (fun _ => hs_pick (is := [3, 4, 5, 6, 7]) rfl rfl) ?_
        refine h_take (l' := #[true, true, true, true, true, true, true, true, true, true, false]) 9 rfl (by kernel_rfl) rfl rfl (np_cut (np_then np_post)) (hs_pick (is := [3, 4, 5, 6, 7]) rfl rfl) (y_assign rfl) ?_
        refine h_take (l' := #[true, true, true, true, true, true, true, true, true, true, true]) 10 rfl (by kernel_rfl) rfl rfl (np_cut (np_then np_post)) (hs_pick (is := [3, 4, 5, 6, 7]) rfl rfl) (y_assign rfl) ?_
        refine h_done (by kernel_rfl) ?_
        exact q_cut (g6, x30) trivial (sub_cons rfl (sub_cons rfl (sub_cons rfl (sub_cons rfl (sub_cons rfl (sub_cons rfl (sub_cons rfl sub_nil))))))) (hs_pick (is := [6, 7, 3, 4, 2, 0, 1]) rfl rfl)
    · skip
      refine l_allocA rfl zero24 ?_; intro g6
      refine l_nil ?_
      refine q_step (fun _ => hs_pick (is := [1, 2, 3, 4, 5]) rfl rfl) ?_
      refine h_only (l' := #[true, true, false, false, false, false, false, true, false, false, false]) 1 rfl (by kernel_rfl) rfl ?_
      refine l_callU rfl ent44 rfl (fun w hm => shop_c w) ?_
      refine l_nil ?_
      refine q_step (fun _ => hs_pick (is := [1, 2, 3, 4, 5]) rfl rfl) ?_
      refine h_only (l' := #[true, true, true, false, false, false, false, true, false, false, false]) 2 rfl (by kernel_rfl) rfl ?_
      refine l_call rfl ent16 rfl (fun w hm => get_c (j := jK) (f := shopF) w (hAd.above hm.below) (sl_of_row hm (k := 2) rfl (fun _ => rfl) rfl) jK_ok (fun h => row_nilcap hm (k := 2) rfl h) (by decide)) ?_; rintro x30 h30
      rw [gj1 had, gl1 had, ge1]
      refine l_nil ?_
      refine q_step (fun _ => hs_pick (is := [3, 4, 5, 6, 7]) rfl rfl) ?_
      refine h_take (l' := #[true, true, true, true, false, false, false, true, false, false, false]) 3 rfl (by kernel_rfl) rfl rfl (np_cut (np_then np_post)) (hs_pick (is := [3, 4, 5, 6, 7]) rfl rfl) (y_move rfl) ?_
      refine h_take (l' := #[true, true, true, true, true, false, false, true, false, false, false]) 4 rfl (by kernel_rfl) rfl rfl (np_cut (np_then np_post)) (hs_pick (is := [3, 4, 5, 6, 7]) rfl rfl) (y_extract rfl rfl) ?_
      refine h_take (l' := #[true, true, true, true, true, true, false, true, false, false, false]) 5 rfl (by kernel_rfl) rfl rfl (np_cut (np_then np_post)) (hs_pick (is := [3, 4, 5, 6, 7]) rfl rfl) (y_extract rfl rfl) ?_
      refine h_take (l' := #[true, true, true, true, true, true, true, true, false, false, false]) 6 rfl (by kernel_rfl) rfl rfl (np_cut (np_then np_post)) (hs_pick (is := [3, 4, 5, 6, 7]) rfl rfl) (y_extract rfl rfl) ?_
      refine h_only (l' := #[true, true, true, true, true, true, true, true, true, false, false]) 8 rfl (by kernel_rfl) rfl ?_
      refine l_storeW (k := 2) (H' := [_, _, _, _, _, _, _, _]) size24 rfl rfl rfl rfl rfl rfl rfl ?_
      refine l_nil ?_
      refine q_step (fun _ => hs_pick (is := [3, 4, 5, 6, 7]) rfl rfl) ?_
      refine h_take (l' := #[true, true, true, true, true, true, true, true, true, true, false]) 9 rfl (by kernel_rfl) rfl rfl (np_cut (np_then np_post)) (hs_pick (is := [3, 4, 5, 6, 7]) rfl rfl) (y_assign rfl) ?_
      refine h_take (l' := #[true, true, true, true, true, true, true, true, true, true, true]) 10 rfl (by kernel_rfl) rfl rfl (np_cut (np_then np_post)) (hs_pick (is := [3, 4, 5, 6, 7]) rfl rfl) (y_assign rfl) ?_
      refine h_done (by kernel_rfl) ?_
      exact q_cut (g6, x30) trivial (sub_cons rfl (sub_cons rfl (sub_cons rfl (sub_cons rfl (sub_cons rfl (sub_cons rfl (sub_cons rfl sub_nil))))))) (hs_pick (is := [6, 7, 3, 4, 2, 0, 1]) rfl rfl)
  · rintro ⟨g6, x30⟩ _
    try dsimp only
    refine q_then ?_
    refine c_seq ?_
    refine c_cut (fun _ => True) (fun x : Nat × (Option Addr × Nat) => [(1, .pointer (some ⟨g1, 0, none⟩)), (2, .int .i64 0), (4, .pointer (some ⟨g4, 0, none⟩)), (5, .int .i64 0), (6, .pointer (some ⟨g6, 0, none⟩)), (7, .slice x30.2.1 ([u8] : List Ck).length x30.2.2), (8, .int .i64 0), (9, .pointer (some ⟨x.1, 0, none⟩)), (10, .int .i64 0)]) (fun x : Nat × (Option Addr × Nat) => [.blk g1 (.cells #[.slice x14.1 (jA.cks : List Ck).length x14.2, .int .i64 1] 24 (0, 0)), .row (.slice x14.1 (jA.cks : List Ck).length x14.2) 26 13 (jA.cks : List Ck).length ((jA.cks : List Ck).flatMap Ck.cells), .blk g4 (.cells #[.slice x24.1 (jK.cks : List Ck).length x24.2, .int .i64 1] 24 (0, 0)), .row (.slice x24.1 (jK.cks : List Ck).length x24.2) 26 13 (jK.cks : List Ck).length ((jK.cks : List Ck).flatMap Ck.cells), .blk g6 (.cells #[.slice x30.1.1 (jU.cks : List Ck).length x30.1.2, .int .i64 1] 24 (0, 0)), .row (.slice x30.1.1 (jU.cks : List Ck).length x30.1.2) 26 13 (jU.cks : List Ck).length ((jU.cks : List Ck).flatMap Ck.cells), .row (.slice x30.2.1 ([u8] : List Ck).length x30.2.2) 26 13 ([u8] : List Ck).length (([u8] : List Ck).flatMap Ck.cells), .blk x.1 (.cells #[.slice x.2.1 ([] : List Ck).length x.2.2, .int .i64 2] 24 (0, 0)), .row (.slice x.2.1 ([] : List Ck).length x.2.2) 26 13 ([] : List Ck).length (([] : List Ck).flatMap Ck.cells)]) ?_ ?_
    · skip
      refine c_drawp (l := #[false, false, false, false, false, false, false, false, false]) 9 (is := [0, 1, 2, 3, 4, 5, 6]) rfl rfl rfl rfl ?_
      refine h_take (l' := #[true, false, false, false, false, false, false, false, false]) 0 rfl (by kernel_rfl) rfl rfl (np_cut (np_then np_post)) (hs_pick (is := [0, 1, 2, 3, 4, 5, 6]) rfl rfl) (y_loadW (k := 2)  agg24 rfl rfl rfl) ?_
      refine h_two (l' := #[true, true, false, false, false, false, false, false, false]) (l'' := #[true, false, false, false, false, false, true, false, false]) 1 6 rfl rfl (by kernel_rfl) rfl rfl ?_ ?_
      · skip
        refine l_callU rfl ent43 rfl (fun w hm => ident_c w) ?_
        refine l_nil ?_
        refine q_step (fun _ => hs_pick (is := [0, 1, 2, 3, 4, 5, 6]) rfl rfl) ?_
        refine h_two (l' := #[true, true, true, false, false, false, false, false, false]) (l'' := #[true, true, false, false, false, false, true, false, false]) 2 6 rfl rfl (by kernel_rfl) rfl rfl ?_ ?_
        · skip
          refine l_call rfl ent10 rfl (fun w hm => put_c (j := jK) (c := identC) w (sl_of_row hm (k := 3) rfl (fun _ => rfl) rfl) jK_ok (fun h => row_nilcap hm (k := 3) rfl h)) ?_; rintro x37 h37
          rw [jp3, pe3]
          refine l_nil ?_
          refine q_step (fun _ => hs_pick (is := [1, 2, 3, 4, 5, 6, 7]) rfl rfl) ?_
          refine h_take (l' := #[true, true, true, true, false, false, false, false, false]) 3 rfl (by kernel_rfl) rfl rfl (np_cut (np_then np_post)) (hs_pick (is := [1, 2, 3, 4, 5, 6, 7]) rfl rfl) (y_move rfl) ?_
          refine h_take (l' := #[true, true, true, true, true, false, false, false, false]) 4 rfl (by kernel_rfl) rfl rfl (np_cut (np_then np_post)) (hs_pick (is := [1, 2, 3, 4, 5, 6, 7]) rfl rfl) (y_extract rfl rfl) ?_
          refine h_take (l' := #[true, true, true, true, true, true, false, false, false]) 5 rfl (by kernel_rfl) rfl rfl (np_cut (np_then np_post)) (hs_pick (is := [1, 2, 3, 4, 5, 6, 7]) rfl rfl) (y_extract rfl rfl) ?_
          refine h_only (l' := #[true, true, true, true, true, true, true, false, false]) 6 rfl (by kernel_rfl) rfl ?_
          refine l_allocA rfl zero24 ?_; intro g9
          refine l_nil ?_
          refine q_step (fun _ => hs_pick (is := [2, 3, 4, 5, 6, 7, 8]) rfl rfl) ?_
          refine h_only (l' := #[true, true, true, true, true, true, true, true, false]) 7 rfl (by kernel_rfl) rfl ?_
          refine l_storeW (k := 0) (H' := [_, _, _, _, _, _, _, _, _]) size24 rfl rfl rfl rfl rfl rfl rfl ?_
          refine l_nil ?_
          refine q_step (fun _ => hs_pick (is := [2, 3, 4, 5, 6, 7, 8]) rfl rfl) ?_
          refine h_take (l' := #[true, true, true, true, true, true, true, true, true]) 8 rfl (by kernel_rfl) rfl rfl (np_cut (np_then np_post)) (hs_pick (is := [2, 3, 4, 5, 6, 7, 8]) rfl rfl) (y_assign rfl) ?_
          refine h_done (by kernel_rfl) ?_
          exact q_cut (g9, x37) trivial (sub_cons rfl (sub_cons rfl (sub_cons rfl (sub_cons rfl (sub_cons rfl (sub_cons rfl (sub_cons rfl (sub_cons rfl (sub_cons rfl sub_nil))))))))) (hs_pick (is := [2, 3, 4, 5, 6, 7, 8, 0, 1]) rfl rfl)
        · skip
          refine l_allocA rfl zero24 ?_; intro g9
          refine l_nil ?_
          refine q_step (fun _ => hs_pick (is := [1, 2, 3, 4, 5, 6, 7]) rfl rfl) ?_
          refine h_only (l' := #[true, true, true, false, false, false, true, false, false]) 2 rfl (by kernel_rfl) rfl ?_
          refine l_call rfl ent10 rfl (fun w hm => put_c (j := jK) (c := identC) w (sl_of_row hm (k := 4) rfl (fun _ => rfl) rfl) jK_ok (fun h => row_nilcap hm (k := 4) rfl h)) ?_; rintro x37 h37
          rw [jp3, pe3]
          refine l_nil ?_
          refine q_step (fun _ => hs_pick (is := [2, 3, 4, 5, 6, 7, 8]) rfl rfl) ?_
          refine h_take (l' := #[true, true, true, true, false, false, true, false, false]) 3 rfl (by kernel_rfl) rfl rfl (np_cut (np_then np_post)) (hs_pick (is := [2, 3, 4, 5, 6, 7, 8]) rfl rfl) (y_move rfl) ?_
          refine h_take (l' := #[true, true, true, true, true, false, true, false, false]) 4 rfl (by kernel_rfl) rfl rfl (np_cut (np_then np_post)) (hs_pick (is := [2, 3, 4, 5, 6, 7, 8]) rfl rfl) (y_extract rfl rfl) ?_
          refine h_take (l' := #[true, true, true, true, true, true, true, false, false]) 5 rfl (by kernel_rfl) rfl rfl (np_cut (np_then np_post)) (hs_pick (is := [2, 3, 4, 5, 6, 7, 8]) rfl rfl) (y_extract rfl rfl) ?_
          refine h_only (l' := #[true, true, true, true, true, true, true, true, false]) 7 rfl (by kernel_rfl) rfl ?_
          refine l_storeW (k := 1) (H' := [_, _, _, _, _, _, _, _, _]) size24 rfl rfl rfl rfl rfl rfl rfl ?_
          refine l_nil ?_
          refine q_step (fun _ => hs_pick (is := [2, 3, 4, 5, 6, 7, 8]) rfl rfl) ?_
          refine h_take (l' := #[true, true, true, true, true, true, true, true, true]) 8 rfl (by kernel_rfl) rfl rfl (np_cut (np_then np_post)) (hs_pick (is := [2, 3, 4, 5, 6, 7, 8]) rfl rfl) (y_assign rfl) ?_
          refine h_done (by kernel_rfl) ?_
          exact q_cut (g9, x37) trivial (sub_cons rfl (sub_cons rfl (sub_cons rfl (sub_cons rfl (sub_cons rfl (sub_cons rfl (sub_cons rfl (sub_cons rfl (sub_cons rfl sub_nil))))))))) (hs_pick (is := [2, 3, 4, 5, 6, 7, 8, 1, 0]) rfl rfl)
      · skip
        refine l_allocA rfl zero24 ?_; intro g9
        refine l_nil ?_
        refine q_step (fun _ => hs_pick (is := [1, 2, 3, 4, 5, 6, 7]) rfl rfl) ?_
        refine h_only (l' := #[true, true, false, false, false, false, true, false, false]) 1 rfl (by kernel_rfl) rfl ?_
        refine l_callU rfl ent43 rfl (fun w hm => ident_c w) ?_
        refine l_nil ?_
        refine q_step (fun _ => hs_pick (is := [1, 2, 3, 4, 5, 6, 7]) rfl rfl) ?_
        refine h_only (l' := #[true, true, true, false, false, false, true, false, false]) 2 rfl (by kernel_rfl) rfl ?_
        refine l_call rfl ent10 rfl (fun w hm => put_c (j := jK) (c := identC) w (sl_of_row hm (k := 4) rfl (fun _ => rfl) rfl) jK_ok (fun h => row_nilcap hm (k := 4) rfl h)) ?_; rintro x37 h37
        rw [jp3, pe3]
        refine l_nil ?_
        refine q_step (fun _ => hs_pick (is := [2, 3, 4, 5, 6, 7, 8]) rfl rfl) ?_
        refine h_take (l' := #[true, true, true, true, false, false, true, false, false]) 3 rfl (by kernel_rfl) rfl rfl (np_cut (np_then np_post)) (hs_pick (is := [2, 3, 4, 5, 6, 7, 8]) rfl rfl) (y_move rfl) ?_
        refine h_take (l' := #[true, true, true, true, true, false, true, false, false]) 4 rfl (by kernel_rfl) rfl rfl (np_cut (np_then np_post)) (hs_pick (is := [2, 3, 4, 5, 6, 7, 8]) rfl rfl) (y_extract rfl rfl) ?_
        refine h_take (l' := #[true, true, true, true, true, true, true, false, false]) 5 rfl (by kernel_rfl) rfl rfl (np_cut (np_then np_post)) (hs_pick (is := [2, 3, 4, 5, 6, 7, 8]) rfl rfl) (y_extract rfl rfl) ?_
        refine h_only (l' := #[true, true, true, true, true, true, true, true, false]) 7 rfl (by kernel_rfl) rfl ?_
        refine l_storeW (k := 1) (H' := [_, _, _, _, _, _, _, _, _]) size24 rfl rfl rfl rfl rfl rfl rfl ?_
        refine l_nil ?_
        refine q_step (fun _ => hs_pick (is := [2, 3, 4, 5, 6, 7, 8]) rfl rfl) ?_
        refine h_take (l' := #[true, true, true, true, true, true, true, true, true]) 8 rfl (by kernel_rfl) rfl rfl (np_cut (np_then np_post)) (hs_pick (is := [2, 3, 4, 5, 6, 7, 8]) rfl rfl) (y_assign rfl) ?_
        refine h_done (by kernel_rfl) ?_
        exact q_cut (g9, x37) trivial (sub_cons rfl (sub_cons rfl (sub_cons rfl (sub_cons rfl (sub_cons rfl (sub_cons rfl (sub_cons rfl (sub_cons rfl (sub_cons rfl sub_nil))))))))) (hs_pick (is := [2, 3, 4, 5, 6, 7, 8, 1, 0]) rfl rfl)
    · rintro ⟨g9, x37⟩ _
      try dsimp only
      refine q_then ?_
      refine c_seq ?_
      refine c_region rfl ?_
      refine gv rfl (y_move rfl) ?_
      refine gv rfl (y_eql rfl rfl) ?_
      refine gv rfl (y_move rfl) ?_
      refine g_dec (t := 42) rfl ?_ ?_
      · intro h42
        refine g_on (t := 42) rfl rfl ?_
        refine gv rfl (y_faddr off24_0 rfl rfl) ?_
        refine g_on (t := 42) rfl rfl ?_
        refine gv rfl (y_load (k := 0)  one22 rfl rfl rfl) ?_
        refine g_on (t := 42) rfl rfl ?_
        refine gv rfl (y_len elem22 rfl) ?_
        refine g_on (t := 42) rfl rfl ?_
        refine gv rfl (y_eql rfl rfl) ?_
        refine gv rfl (y_pick_t rfl rfl) ?_
        refine gv rfl (y_move rfl) ?_
        refine g_dec (t := 48) rfl ?_ ?_
        · intro h48
          refine g_on (t := 48) rfl rfl ?_
          refine gv rfl (y_faddr off24_1 rfl rfl) ?_
          refine g_on (t := 48) rfl rfl ?_
          refine gv rfl (y_load (k := 0)  one3 rfl rfl rfl) ?_
          refine g_on (t := 48) rfl rfl ?_
          refine gv rfl (y_eql rfl rfl) ?_
          refine gv rfl (y_pick_t rfl rfl) ?_
          refine gv rfl (y_move rfl) ?_
          refine g_dec (t := 53) rfl ?_ ?_
          · intro h53
            refine g_on (t := 53) rfl rfl ?_
            refine gv rfl (y_move rfl) ?_
            refine g_on (t := 53) rfl rfl ?_
            refine gv rfl (y_eql rfl rfl) ?_
            refine gv rfl (y_pick_t rfl rfl) ?_
            refine gv rfl (y_move rfl) ?_
            refine g_dec (t := 57) rfl ?_ ?_
            · intro h57
              refine g_on (t := 57) rfl rfl ?_
              refine gv rfl (y_faddr off24_0 rfl rfl) ?_
              refine g_on (t := 57) rfl rfl ?_
              refine gv rfl (y_load (k := 2)  one22 rfl rfl rfl) ?_
              refine g_on (t := 57) rfl rfl ?_
              refine gv rfl (y_len elem22 rfl) ?_
              refine g_on (t := 57) rfl rfl ?_
              refine gv rfl (y_eql rfl rfl) ?_
              refine gv rfl (y_pick_t rfl rfl) ?_
              refine gv rfl (y_move rfl) ?_
              refine g_dec (t := 63) rfl ?_ ?_
              · intro h63
                refine g_on (t := 63) rfl rfl ?_
                refine gv rfl (y_faddr off24_0 rfl rfl) ?_
                refine g_on (t := 63) rfl rfl ?_
                refine gv rfl (y_load (k := 2)  one22 rfl rfl rfl) ?_
                refine g_on (t := 63) rfl rfl ?_
                refine gv rfl (y_iaddr_row (k := 3) elem22 size26 rfl (fun _ => rfl) rfl rfl rfl (by decide) rfl) ?_
                refine g_on (t := 63) rfl rfl ?_
                refine gv rfl (y_faddr_row (k := 3) (i := 0) off26_1 rfl (fun _ => rfl) rfl rfl rfl rfl) ?_
                refine g_on (t := 63) rfl rfl ?_
                refine gv rfl (y_load_row (k := 3) (i := 0) one9 rfl (fun _ => rfl) rfl 1 rfl rfl rfl rfl) ?_
                refine g_on (t := 63) rfl rfl ?_
                refine gv rfl (y_seq rfl rfl) ?_
                refine gv rfl (y_pick_t rfl rfl) ?_
                refine gv rfl (y_move rfl) ?_
                refine g_dec (t := 71) rfl ?_ ?_
                · intro h71
                  refine g_on (t := 71) rfl rfl ?_
                  refine gv rfl (y_faddr off24_0 rfl rfl) ?_
                  refine g_on (t := 71) rfl rfl ?_
                  refine gv rfl (y_load (k := 2)  one22 rfl rfl rfl) ?_
                  refine g_on (t := 71) rfl rfl ?_
                  refine gv rfl (y_iaddr_row (k := 3) elem22 size26 rfl (fun _ => rfl) rfl rfl rfl (by decide) rfl) ?_
                  refine g_on (t := 71) rfl rfl ?_
                  refine gv rfl (y_faddr_row (k := 3) (i := 0) off26_10 rfl (fun _ => rfl) rfl rfl rfl rfl) ?_
                  refine g_on (t := 71) rfl rfl ?_
                  refine gv rfl (y_load_row (k := 3) (i := 0) one3 rfl (fun _ => rfl) rfl 10 rfl rfl rfl rfl) ?_
                  refine g_on (t := 71) rfl rfl ?_
                  refine gv rfl (y_eql rfl rfl) ?_
                  refine gv rfl (y_pick_t rfl rfl) ?_
                  refine gv rfl (y_move rfl) ?_
                  refine g_dec (t := 79) rfl ?_ ?_
                  · intro h79
                    refine g_on (t := 79) rfl rfl ?_
                    refine gv rfl (y_move rfl) ?_
                    refine g_on (t := 79) rfl rfl ?_
                    refine gv rfl (y_eql rfl rfl) ?_
                    refine gv rfl (y_pick_t rfl rfl) ?_
                    refine gv rfl (y_move rfl) ?_
                    refine g_dec (t := 83) rfl ?_ ?_
                    · intro h83
                      refine g_on (t := 83) rfl rfl ?_
                      refine gv rfl (y_move rfl) ?_
                      refine g_on (t := 83) rfl rfl ?_
                      refine gv rfl (y_len elem22 rfl) ?_
                      refine g_on (t := 83) rfl rfl ?_
                      refine gv rfl (y_eql rfl rfl) ?_
                      refine gv rfl (y_pick_t rfl rfl) ?_
                      refine gv rfl (y_move rfl) ?_
                      refine g_dec (t := 88) rfl ?_ ?_
                      · intro h88
                        refine g_on (t := 88) rfl rfl ?_
                        refine gv rfl (y_move rfl) ?_
                        refine g_on (t := 88) rfl rfl ?_
                        refine gv rfl (y_iaddr_row (k := 6) elem22 size26 rfl (fun _ => rfl) rfl rfl rfl (by decide) rfl) ?_
                        refine g_on (t := 88) rfl rfl ?_
                        refine gv rfl (y_faddr_row (k := 6) (i := 0) off26_11 rfl (fun _ => rfl) rfl rfl rfl rfl) ?_
                        refine g_on (t := 88) rfl rfl ?_
                        refine gv rfl (y_load_row (k := 6) (i := 0) one3 rfl (fun _ => rfl) rfl 11 rfl rfl rfl rfl) ?_
                        refine g_on (t := 88) rfl rfl ?_
                        refine gv rfl (y_eql rfl rfl) ?_
                        refine gv rfl (y_pick_t rfl rfl) ?_
                        refine gv rfl (y_move rfl) ?_
                        refine g_dec (t := 95) rfl ?_ ?_
                        · intro h95
                          refine g_on (t := 95) rfl rfl ?_
                          refine gv rfl (y_faddr off24_0 rfl rfl) ?_
                          refine g_on (t := 95) rfl rfl ?_
                          refine gv rfl (y_load (k := 4)  one22 rfl rfl rfl) ?_
                          refine g_on (t := 95) rfl rfl ?_
                          refine gv rfl (y_len elem22 rfl) ?_
                          refine g_on (t := 95) rfl rfl ?_
                          refine gv rfl (y_eql rfl rfl) ?_
                          refine gv rfl (y_pick_t rfl rfl) ?_
                          refine gv rfl (y_move rfl) ?_
                          refine g_dec (t := 101) rfl ?_ ?_
                          · intro h101
                            refine g_on (t := 101) rfl rfl ?_
                            refine gv rfl (y_faddr off24_0 rfl rfl) ?_
                            refine g_on (t := 101) rfl rfl ?_
                            refine gv rfl (y_load (k := 4)  one22 rfl rfl rfl) ?_
                            refine g_on (t := 101) rfl rfl ?_
                            refine gv rfl (y_iaddr_row (k := 5) elem22 size26 rfl (fun _ => rfl) rfl rfl rfl (by decide) rfl) ?_
                            refine g_on (t := 101) rfl rfl ?_
                            refine gv rfl (y_faddr_row (k := 5) (i := 0) off26_11 rfl (fun _ => rfl) rfl rfl rfl rfl) ?_
                            refine g_on (t := 101) rfl rfl ?_
                            refine gv rfl (y_load_row (k := 5) (i := 0) one3 rfl (fun _ => rfl) rfl 11 rfl rfl rfl rfl) ?_
                            refine g_on (t := 101) rfl rfl ?_
                            refine gv rfl (y_eql rfl rfl) ?_
                            refine gv rfl (y_pick_t rfl rfl) ?_
                            refine gv rfl (y_move rfl) ?_
                            refine g_dec (t := 109) rfl ?_ ?_
                            · intro h109
                              refine g_on (t := 109) rfl rfl ?_
                              refine gv rfl (y_move rfl) ?_
                              refine g_on (t := 109) rfl rfl ?_
                              refine gv rfl (y_eql rfl rfl) ?_
                              refine gv rfl (y_pick_t rfl rfl) ?_
                              refine gv rfl (y_move rfl) ?_
                              refine g_dec (t := 113) rfl ?_ ?_
                              · intro h113
                                refine g_on (t := 113) rfl rfl ?_
                                refine gv rfl (y_faddr off24_0 rfl rfl) ?_
                                refine g_on (t := 113) rfl rfl ?_
                                refine gv rfl (y_load (k := 7)  one22 rfl rfl rfl) ?_
                                refine g_on (t := 113) rfl rfl ?_
                                refine gv rfl (y_len elem22 rfl) ?_
                                refine g_on (t := 113) rfl rfl ?_
                                refine gv rfl (y_eql rfl rfl) ?_
                                refine gv rfl (y_pick_t rfl rfl) ?_
                                refine gv rfl (y_move rfl) ?_
                                refine g_dec (t := 119) rfl ?_ ?_
                                · intro h119
                                  refine g_on (t := 119) rfl rfl ?_
                                  refine l_callU rfl ent43 rfl (fun w hm => ident_c w) ?_
                                  refine g_on (t := 119) rfl rfl ?_
                                  refine l_bslice (cl := [_, _, _, _, _, _, _, _, _, _, _, _, _]) rfl elem22 ap26 zero26 rfl rfl rfl rfl rfl rfl rfl ?_; intro g121
                                  refine g_on (t := 119) rfl rfl ?_
                                  refine gv rfl (y_build (cs := #[_, _]) (cl := [_, _])  zero24 bld24 rfl rfl rfl rfl rfl) ?_
                                  refine g_on (t := 119) rfl rfl ?_
                                  refine l_callU rfl ent13 rfl (fun w hm => jarCheck_c (j := jI) w (sl_of_blk hm (k := 0) (l := jI.cks) rfl rfl (fun _ => rfl)) jI_ok) ?_
                                  rw [jc4]
                                  refine g_on (t := 119) rfl rfl ?_
                                  refine gv rfl (y_eql rfl rfl) ?_
                                  refine gv rfl (y_pick_t rfl rfl) ?_
                                  refine gv rfl (y_assign rfl) ?_
                                  refine l_nil ?_
                                  refine q_then ?_
                                  refine c_ret ?_
                                  exact q_ret1 Tryz.results12 rfl () trivial rfl hs_nil
                                · intro h119
                                  exact absurd (by decide) h119
                              · intro h113
                                exact absurd (by decide) h113
                            · intro h109
                              exact absurd (by decide) h109
                          · intro h101
                            exact absurd (by decide) h101
                        · intro h95
                          exact absurd (by decide) h95
                      · intro h88
                        exact absurd (by decide) h88
                    · intro h83
                      exact absurd (by decide) h83
                  · intro h79
                    exact absurd (by decide) h79
                · intro h71
                  exact absurd (by decide) h71
              · intro h63
                exact absurd (by decide) h63
            · intro h57
              exact absurd (by decide) h57
          · intro h53
            exact absurd (by decide) h53
        · intro h48
          exact absurd (by decide) h48
      · intro h42
        exact absurd (by decide) h42

end Go.Gx
