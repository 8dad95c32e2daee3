/- This text proves: functions of the program, walked: what each answers, for every input. No condition beyond those that each theorem names. -/
import Derived.Test.YtgehghoammpiaaaGreatDoorProg
import Derived.Test.YtgehghoammpiaaaGreatDoorT2
import Derived.Test.YtgehghoammpiaaaGreatDoorGy6
import Derived.KernelRfl
namespace Go.Gx
open Go.Proofs Go.Maps
theorem ent57 : enters Tryz.prog 57 = true := by kernel_rfl
theorem zero66 : zeroOf Tryz.prog 66 = some (.agg #[.slice none 0 0, .int .i64 0, .int .i64 0]) := by kernel_rfl
theorem bld66 : bldT Tryz.prog 66 = some [(0, 2), (2, 1)] := by kernel_rfl
theorem ent68 : enters Tryz.prog 68 = true := by kernel_rfl
theorem ent69 : enters Tryz.prog 69 = true := by kernel_rfl
theorem ent71 : enters Tryz.prog 71 = true := by kernel_rfl

theorem own_c {j : Ja} {now : Int} {A0 : Option Addr} {k0 : Nat} (w : World) (hJ : Sl Ck.cells 13 w A0 j.cks) (hlen : j.cks.length ≤ 1073741824) (hk0 : A0 = none → k0 = 0) : Ct Tryz.prog 32 #[.agg (j.arr A0 k0), .int .i64 now] w (fun x : Nat × Option Addr × Nat => .pointer (some ⟨x.1, 0, none⟩)) (fun x => [.blk x.1 (.cells #[.slice x.2.1 j.cks.length x.2.2, .int .i64 j.next, .int .i64 now] 66 (0, 0)), .row (.slice x.2.1 j.cks.length x.2.2) 26 13 j.cks.length (j.cks.flatMap Ck.cells)]) (fun _ => True) := by
  refine enter (E := [(0, .agg (j.arr A0 k0)), (1, .int .i64 now)]) Tryz.func32 rfl Tryz.ntmps32 rfl (by simp) ?_
  refine c_seq ?_
  refine c_region rfl ?_
  refine l_boxA rfl rfl ?_; intro g2
  refine gv rfl (y_assign rfl) ?_
  refine l_nil ?_
  refine q_then ?_
  refine c_seq ?_
  refine c_drawp (l := #[false, false, false, false, false, false, false, false, false, false]) 10 (is := [0]) rfl rfl rfl rfl ?_
  refine h_take (l' := #[true, false, false, false, false, false, false, false, false, false]) 0 rfl (by kernel_rfl) rfl rfl (np_then np_post) (hs_pick (is := [0]) rfl rfl) (y_faddr off24_0 rfl rfl) ?_
  refine h_take (l' := #[true, true, false, false, false, false, false, false, false, false]) 1 rfl (by kernel_rfl) rfl rfl (np_then np_post) (hs_pick (is := [0]) rfl rfl) (y_load (k := 0)  one22 rfl rfl rfl) ?_
  refine h_take (l' := #[true, true, false, true, false, false, false, false, false, false]) 3 rfl (by kernel_rfl) rfl rfl (np_then np_post) (hs_pick (is := [0]) rfl rfl) (y_faddr off24_1 rfl rfl) ?_
  refine h_take (l' := #[true, true, false, true, true, false, false, false, false, false]) 4 rfl (by kernel_rfl) rfl rfl (np_then np_post) (hs_pick (is := [0]) rfl rfl) (y_load (k := 0)  one3 rfl rfl rfl) ?_
  refine h_take (l' := #[true, true, false, true, true, false, true, false, false, false]) 6 rfl (by kernel_rfl) rfl rfl (np_then np_post) (hs_pick (is := [0]) rfl rfl) (y_move rfl) ?_
  refine h_only (l' := #[true, true, true, true, true, false, true, false, false, false]) 2 rfl (by kernel_rfl) rfl ?_
  refine l_call rfl ent57 rfl (fun w hm => cloneCk_c w (hJ.below hm.below) hlen hk0) ?_; rintro x7 h7
  refine l_nil ?_
  refine q_step (fun _ => hs_pick (is := [1]) rfl rfl) ?_
  refine h_take (l' := #[true, true, true, true, true, true, true, false, false, false]) 5 rfl (by kernel_rfl) rfl rfl (np_then np_post) (hs_pick (is := [1]) rfl rfl) (y_build (cs := #[_, _]) (cl := [_, _])  zero24 bld24 rfl rfl rfl rfl rfl) ?_
  refine h_take (l' := #[true, true, true, true, true, true, true, true, false, false]) 7 rfl (by kernel_rfl) rfl rfl (np_then np_post) (hs_pick (is := [1]) rfl rfl) (y_build (cs := #[_, _, _]) (cl := [_, _, _])  zero66 bld66 rfl rfl rfl rfl rfl) ?_
  refine h_only (l' := #[true, true, true, true, true, true, true, true, true, false]) 8 rfl (by kernel_rfl) rfl ?_
  refine l_boxA rfl rfl ?_; intro g13
  refine l_nil ?_
  refine q_step (fun _ => hs_pick (is := [2]) rfl rfl) ?_
  refine h_take (l' := #[true, true, true, true, true, true, true, true, true, true]) 9 rfl (by kernel_rfl) rfl rfl (np_then np_post) (hs_pick (is := [2]) rfl rfl) (y_assign rfl) ?_
  refine h_done (by kernel_rfl) ?_
  refine q_then ?_
  refine c_ret ?_
  exact q_ret1 Tryz.results32 rfl (g13, x7) trivial rfl (hs_pick (is := [0, 1]) rfl rfl)

theorem expire_m {l : List Ck} {next now : Int} {go k : Nat} {A : Option Addr} {F : List Res} (w : World) (hlen : l.length ≤ 1073741824) : Cm Tryz.prog 33 #[.pointer (some ⟨go, 0, none⟩)] w (.blk go (.cells #[.slice A l.length k, .int .i64 next, .int .i64 now] 66 (0, 0)) :: .row (.slice A l.length k) 26 13 l.length (l.flatMap Ck.cells) :: F) (fun x : Option Addr × Nat => .tuple #[]) (fun x => .blk go (.cells #[.slice x.1 (liveL now l).length x.2, .int .i64 next, .int .i64 now] 66 (0, 0)) :: .row (.slice x.1 (liveL now l).length x.2) 26 13 (liveL now l).length ((liveL now l).flatMap Ck.cells) :: F) (fun _ => True) := by
  refine enterM (E := [(0, .pointer (some ⟨go, 0, none⟩))]) Tryz.func33 rfl Tryz.ntmps33 rfl (by simp) ?_
  refine c_seq ?_
  refine c_region rfl ?_
  refine l_box1 rfl rfl rfl ?_; intro g1
  refine l_nil ?_
  refine q_then ?_
  refine c_drawp (l := #[false, false, false, false, false, false, false, false, false, false, false, false]) 8 (is := [0, 1]) rfl rfl rfl rfl ?_
  refine h_take (l' := #[true, false, false, false, false, false, false, false, false, false, false, false]) 0 rfl (by kernel_rfl) rfl rfl np_post (hs_pick (is := [0, 1]) rfl rfl) (y_load (k := 0)  one61 rfl rfl rfl) ?_
  refine h_take (l' := #[true, true, false, false, false, false, false, false, false, false, false, false]) 1 rfl (by kernel_rfl) rfl rfl np_post (hs_pick (is := [0, 1]) rfl rfl) (y_load (k := 0)  one61 rfl rfl rfl) ?_
  refine h_take (l' := #[true, true, true, false, false, false, false, false, false, false, false, false]) 2 rfl (by kernel_rfl) rfl rfl np_post (hs_pick (is := [0, 1]) rfl rfl) (y_nilCheck rfl) ?_
  refine h_take (l' := #[true, true, true, true, false, false, false, false, false, false, false, false]) 3 rfl (by kernel_rfl) rfl rfl np_post (hs_pick (is := [0, 1]) rfl rfl) (y_faddr off66_0 rfl rfl) ?_
  refine h_take (l' := #[true, true, true, true, true, false, false, false, false, false, false, false]) 4 rfl (by kernel_rfl) rfl rfl np_post (hs_pick (is := [0, 1]) rfl rfl) (y_faddr off24_0 rfl rfl) ?_
  refine h_take (l' := #[true, true, true, true, true, true, false, false, false, false, false, false]) 5 rfl (by kernel_rfl) rfl rfl np_post (hs_pick (is := [0, 1]) rfl rfl) (y_load (k := 1)  one22 rfl rfl rfl) ?_
  refine h_take (l' := #[true, true, true, true, true, true, true, false, false, false, false, false]) 6 rfl (by kernel_rfl) rfl rfl np_post (hs_pick (is := [0, 1]) rfl rfl) (y_mkfn rfl) ?_
  refine h_only (l' := #[true, true, true, true, true, true, true, true, false, false, false, false]) 7 rfl (by kernel_rfl) rfl ?_
  refine l_hs (hs_app (A := [_, _, _]) (B := [_, _, _]) (is := [2, 0, 1]) rfl rfl) ?_
  refine l_callM (fs := []) rfl ent68 rfl rfl (delCk_m (l := l) (p := fun x => !decide (x.expiry > now)) _ hlen (fun x hx => FnH.mk (fs := []) (cs := [_]) ent69 (fun w1 hm1 => expire1_c w1 (el_of_blk hm1 (k := 0) rfl) (el_of_blk hm1 (k := 1) rfl)))) ?_; rintro ⟨A9, c9⟩ _
  refine l_nil ?_
  refine q_step (fun _ => hs_pick (is := [1, 2]) rfl rfl) ?_
  refine h_only (l' := #[true, true, true, true, true, true, true, true, true, false, false, false]) 8 rfl (by kernel_rfl) rfl ?_
  refine gv rfl (y_nilCheck rfl) ?_
  refine l_nil ?_
  refine q_step (fun h => by cases h) ?_
  refine h_only (l' := #[true, true, true, true, true, true, true, true, true, true, false, false]) 9 rfl (by kernel_rfl) rfl ?_
  refine gv rfl (y_faddr off66_0 rfl rfl) ?_
  refine l_nil ?_
  refine q_step (fun h => by cases h) ?_
  refine h_only (l' := #[true, true, true, true, true, true, true, true, true, true, true, false]) 10 rfl (by kernel_rfl) rfl ?_
  refine gv rfl (y_faddr off24_0 rfl rfl) ?_
  refine l_nil ?_
  refine q_step (fun h => by cases h) ?_
  refine h_only (l' := #[true, true, true, true, true, true, true, true, true, true, true, true]) 11 rfl (by kernel_rfl) rfl ?_
  refine l_store (k := 2) (cs' := #[_, _, _]) (H' := _ :: _ :: _ :: F) size22 rfl rfl rfl rfl rfl rfl rfl ?_
  refine l_nil ?_
  refine q_step (fun h => by cases h) ?_
  refine h_done (by kernel_rfl) ?_
  exact q_ret0 (.inr rfl) rfl (A9, c9) trivial rfl (by skip; exact hs_app (B := [_, _, _]) (is := [2, 0]) rfl rfl)

theorem rowF_all {α : Type} {f : α → List Value} {sz n : Nat} (hf : ∀ x, (f x).length = sz) {l : List α} {R : List Value} (h : n = l.length) : (rowF f l R).toList.take (n * sz) = l.flatMap f := by
  subst h; rw [rowF_take hf (Nat.le_refl _), List.take_length]
theorem lay_m {c : Ck} {l : List Ck} {next now : Int} {go k : Nat} {A : Option Addr} {F : List Res} (w : World) (hlen : l.length ≤ 1073741823) (hnx : 0 ≤ next ∧ next ≤ 1099511627776) : Cm Tryz.prog 34 #[.pointer (some ⟨go, 0, none⟩), .agg c.arr] w (.blk go (.cells #[.slice A l.length k, .int .i64 next, .int .i64 now] 66 (0, 0)) :: .row (.slice A l.length k) 26 13 l.length (l.flatMap Ck.cells) :: F) (fun x : Option Addr × Nat => .tuple #[]) (fun x => .blk go (.cells #[.slice x.1 (layL l next c).length x.2, .int .i64 (layN l next c), .int .i64 now] 66 (0, 0)) :: .row (.slice x.1 (layL l next c).length x.2) 26 13 (layL l next c).length ((layL l next c).flatMap Ck.cells) :: F) (fun _ => True) := by
  refine enterM (E := [(0, .pointer (some ⟨go, 0, none⟩)), (1, .agg c.arr)]) Tryz.func34 rfl Tryz.ntmps34 rfl (by simp) ?_
  refine c_seq ?_
  refine c_region rfl ?_
  refine l_boxA rfl rfl ?_; intro g3
  refine l_nil ?_
  refine q_then ?_
  refine c_seq ?_
  refine c_region rfl ?_
  refine gv rfl (y_move rfl) ?_
  refine gv rfl (y_nilCheck rfl) ?_
  refine gv rfl (y_faddr off66_0 rfl rfl) ?_
  refine gv rfl (y_faddr off24_0 rfl rfl) ?_
  refine gv rfl (y_load (k := 1)  one22 rfl rfl rfl) ?_
  refine gv rfl (y_mkfn rfl) ?_
  refine l_callU rfl ent70 rfl (fun w hm => idxFn_ck_c (p := fun x => keyEq x c) w (sl_of_row hm (k := 2) rfl (fun _ => rfl) rfl) (Nat.le_trans hlen (by decide)) (fun x hx => FnV.mk (fs := []) (cs := [_]) ent71 (fun w1 hb => lay1_c w1 ((el_of_blk hm (k := 0) rfl).below hb)))) ?_
  refine gv rfl (y_assign rfl) ?_
  refine l_nil ?_
  refine q_then ?_
  refine c_seq ?_
  refine c_seq ?_
  refine c_region rfl ?_
  refine gv rfl (y_move rfl) ?_
  refine gv rfl (y_geq rfl rfl) ?_
  refine l_nil ?_
  refine q_then ?_
  refine c_dec rfl ?_ ?_
  · intro h13
    obtain ⟨i0, e0, hi0⟩ := fidx_pos h13
    obtain ⟨v, hv⟩ := get_lt hi0
    have e1 : (fidx (fun x => keyEq x c) l).toNat = i0 := by omega
    have hv2 : l[(fidx (fun x => keyEq x c) l).toNat]? = some v := by rw [e1]; exact hv
    refine c_seq ?_
    refine c_drawp (l := #[false, false, false, false, false, false, false, false, false, false, false, false, false, false, false, false, false, false, false, false, false, false]) 22 (is := [1, 2]) rfl rfl rfl rfl ?_
    refine h_take (l' := #[true, false, false, false, false, false, false, false, false, false, false, false, false, false, false, false, false, false, false, false, false, false]) 0 rfl (by kernel_rfl) rfl rfl (np_then (np_then np_post)) (hs_pick (is := [1, 2]) rfl rfl) (y_move rfl) ?_
    refine h_take (l' := #[true, true, false, false, false, false, false, false, false, false, false, false, false, false, false, false, false, false, false, false, false, false]) 1 rfl (by kernel_rfl) rfl rfl (np_then (np_then np_post)) (hs_pick (is := [1, 2]) rfl rfl) (y_nilCheck rfl) ?_
    refine h_take (l' := #[true, true, true, false, false, false, false, false, false, false, false, false, false, false, false, false, false, false, false, false, false, false]) 2 rfl (by kernel_rfl) rfl rfl (np_then (np_then np_post)) (hs_pick (is := [1, 2]) rfl rfl) (y_faddr off66_0 rfl rfl) ?_
    refine h_take (l' := #[true, true, true, true, false, false, false, false, false, false, false, false, false, false, false, false, false, false, false, false, false, false]) 3 rfl (by kernel_rfl) rfl rfl (np_then (np_then np_post)) (hs_pick (is := [1, 2]) rfl rfl) (y_faddr off24_0 rfl rfl) ?_
    refine h_take (l' := #[true, true, true, true, true, false, false, false, false, false, false, false, false, false, false, false, false, false, false, false, false, false]) 4 rfl (by kernel_rfl) rfl rfl (np_then (np_then np_post)) (hs_pick (is := [1, 2]) rfl rfl) (y_load (k := 0)  one22 rfl rfl rfl) ?_
    refine h_take (l' := #[true, true, true, true, true, true, false, false, false, false, false, false, false, false, false, false, false, false, false, false, false, false]) 5 rfl (by kernel_rfl) rfl rfl (np_then (np_then np_post)) (hs_pick (is := [1, 2]) rfl rfl) (y_move rfl) ?_
    refine h_take (l' := #[true, true, true, true, true, true, true, false, false, false, false, false, false, false, false, false, false, false, false, false, false, false]) 6 rfl (by kernel_rfl) rfl rfl (np_then (np_then np_post)) (hs_pick (is := [1, 2]) rfl rfl) (y_iaddr_row (k := 1) elem22 size26 rfl (fun _ => rfl) rfl rfl rfl (by omega) hv2) ?_
    refine h_take (l' := #[true, true, true, true, true, true, true, true, false, false, false, false, false, false, false, false, false, false, false, false, false, false]) 7 rfl (by kernel_rfl) rfl rfl (np_then (np_then np_post)) (hs_pick (is := [1, 2]) rfl rfl) (y_faddr_row (k := 1) off26_10 rfl (fun _ => rfl) rfl rfl hv2 rfl) ?_
    refine h_take (l' := #[true, true, true, true, true, true, true, true, true, false, false, false, false, false, false, false, false, false, false, false, false, false]) 8 rfl (by kernel_rfl) rfl rfl (np_then (np_then np_post)) (hs_pick (is := [1, 2]) rfl rfl) (y_load_row (k := 1) one3 rfl (fun _ => rfl) rfl 10 rfl rfl hv2 rfl) ?_
    refine h_take (l' := #[true, true, true, true, true, true, true, true, true, true, false, false, false, false, false, false, false, false, false, false, false, false]) 9 rfl (by kernel_rfl) rfl rfl (np_then (np_then np_post)) (hs_pick (is := [1, 2]) rfl rfl) (y_move rfl) ?_
    refine h_take (l' := #[true, true, true, true, true, true, true, true, true, true, true, false, false, false, false, false, false, false, false, false, false, false]) 10 rfl (by kernel_rfl) rfl rfl (np_then (np_then np_post)) (hs_pick (is := [1, 2]) rfl rfl) (y_nilCheck rfl) ?_
    refine h_take (l' := #[true, true, true, true, true, true, true, true, true, true, true, true, false, false, false, false, false, false, false, false, false, false]) 11 rfl (by kernel_rfl) rfl rfl (np_then (np_then np_post)) (hs_pick (is := [1, 2]) rfl rfl) (y_faddr off66_0 rfl rfl) ?_
    refine h_take (l' := #[true, true, true, true, true, true, true, true, true, true, true, true, true, false, false, false, false, false, false, false, false, false]) 12 rfl (by kernel_rfl) rfl rfl (np_then (np_then np_post)) (hs_pick (is := [1, 2]) rfl rfl) (y_faddr off24_0 rfl rfl) ?_
    refine h_take (l' := #[true, true, true, true, true, true, true, true, true, true, true, true, true, true, false, false, false, false, false, false, false, false]) 13 rfl (by kernel_rfl) rfl rfl (np_then (np_then np_post)) (hs_pick (is := [1, 2]) rfl rfl) (y_load (k := 0)  one22 rfl rfl rfl) ?_
    refine h_take (l' := #[true, true, true, true, true, true, true, true, true, true, true, true, true, true, true, false, false, false, false, false, false, false]) 14 rfl (by kernel_rfl) rfl rfl (np_then (np_then np_post)) (hs_pick (is := [1, 2]) rfl rfl) (y_move rfl) ?_
    refine h_take (l' := #[true, true, true, true, true, true, true, true, true, true, true, true, true, true, true, true, false, false, false, false, false, false]) 15 rfl (by kernel_rfl) rfl rfl (np_then (np_then np_post)) (hs_pick (is := [1, 2]) rfl rfl) (y_iaddr_row (k := 1) elem22 size26 rfl (fun _ => rfl) rfl rfl rfl (by omega) hv2) ?_
    refine h_take (l' := #[true, true, true, true, true, true, true, true, true, true, true, true, true, true, true, true, true, false, false, false, false, false]) 16 rfl (by kernel_rfl) rfl rfl (np_then (np_then np_post)) (hs_pick (is := [1, 2]) rfl rfl) (y_faddr_row (k := 1) off26_12 rfl (fun _ => rfl) rfl rfl hv2 rfl) ?_
    refine h_take (l' := #[true, true, true, true, true, true, true, true, true, true, true, true, true, true, true, true, true, true, false, false, false, false]) 17 rfl (by kernel_rfl) rfl rfl (np_then (np_then np_post)) (hs_pick (is := [1, 2]) rfl rfl) (y_load_row (k := 1) one3 rfl (fun _ => rfl) rfl 12 rfl rfl hv2 rfl) ?_
    refine h_take (l' := #[true, true, true, true, true, true, true, true, true, true, true, true, true, true, true, true, true, true, true, false, false, false]) 18 rfl (by kernel_rfl) rfl rfl (np_then (np_then np_post)) (hs_pick (is := [1, 2]) rfl rfl) (y_faddr off26_10 rfl rfl) ?_
    refine h_only (l' := #[true, true, true, true, true, true, true, true, true, true, true, true, true, true, true, true, true, true, true, true, false, false]) 19 rfl (by kernel_rfl) rfl ?_
    refine l_store (k := 0) (cs' := #[_, _, _, _, _, _, _, _, _, _, _, _, _]) (H' := _ :: _ :: _ :: F) size3 rfl rfl rfl rfl rfl rfl rfl ?_
    refine l_nil ?_
    refine q_step (fun _ => hs_pick (is := [1, 2]) rfl rfl) ?_
    refine h_take (l' := #[true, true, true, true, true, true, true, true, true, true, true, true, true, true, true, true, true, true, true, true, true, false]) 20 rfl (by kernel_rfl) rfl rfl (np_then (np_then np_post)) (hs_pick (is := [1, 2]) rfl rfl) (y_faddr off26_12 rfl rfl) ?_
    refine h_only (l' := #[true, true, true, true, true, true, true, true, true, true, true, true, true, true, true, true, true, true, true, true, true, true]) 21 rfl (by kernel_rfl) rfl ?_
    refine l_store (k := 0) (cs' := #[_, _, _, _, _, _, _, _, _, _, _, _, _]) (H' := _ :: _ :: _ :: F) size3 rfl rfl rfl rfl rfl rfl rfl ?_
    refine l_nil ?_
    refine q_step (fun _ => hs_pick (is := [1, 2]) rfl rfl) ?_
    refine h_done (by kernel_rfl) ?_
    refine q_then ?_
    refine c_seq ?_
    refine c_rowopen (k := 2) rfl (flat_ne Ck.len13 (by decide) hi0) ?_
    intro g0 R0 hAe hx1 hx2 hnc hcm
    subst hAe
    refine c_drawp (l := #[false, false, false, false, false, false, false, false, false]) 8 (is := [0, 1, 2]) rfl rfl rfl rfl ?_
    refine h_take (l' := #[true, false, false, false, false, false, false, false, false]) 0 rfl (by kernel_rfl) rfl rfl (np_then (np_then np_post)) (hs_pick (is := [0, 1, 2]) rfl rfl) (y_move rfl) ?_
    refine h_take (l' := #[true, true, false, false, false, false, false, false, false]) 1 rfl (by kernel_rfl) rfl rfl (np_then (np_then np_post)) (hs_pick (is := [0, 1, 2]) rfl rfl) (y_nilCheck rfl) ?_
    refine h_take (l' := #[true, true, true, false, false, false, false, false, false]) 2 rfl (by kernel_rfl) rfl rfl (np_then (np_then np_post)) (hs_pick (is := [0, 1, 2]) rfl rfl) (y_faddr off66_0 rfl rfl) ?_
    refine h_take (l' := #[true, true, true, true, false, false, false, false, false]) 3 rfl (by kernel_rfl) rfl rfl (np_then (np_then np_post)) (hs_pick (is := [0, 1, 2]) rfl rfl) (y_faddr off24_0 rfl rfl) ?_
    refine h_take (l' := #[true, true, true, true, true, false, false, false, false]) 4 rfl (by kernel_rfl) rfl rfl (np_then (np_then np_post)) (hs_pick (is := [0, 1, 2]) rfl rfl) (y_load (k := 1)  one22 rfl rfl rfl) ?_
    refine h_take (l' := #[true, true, true, true, true, true, false, false, false]) 5 rfl (by kernel_rfl) rfl rfl (np_then (np_then np_post)) (hs_pick (is := [0, 1, 2]) rfl rfl) (y_move rfl) ?_
    refine h_take (l' := #[true, true, true, true, true, true, true, false, false]) 6 rfl (by kernel_rfl) rfl rfl (np_then (np_then np_post)) (hs_pick (is := [0, 1, 2]) rfl rfl) (y_loadW (k := 0)  agg26 rfl rfl rfl) ?_
    refine h_take (l' := #[true, true, true, true, true, true, true, true, false]) 7 rfl (by kernel_rfl) rfl rfl (np_then (np_then np_post)) (hs_pick (is := [0, 1, 2]) rfl rfl) (y_iaddr_own (r := ((fidx (fun x => keyEq x c) l).toNat * 13)) elem22 size26 rfl rfl (by omega) (by omega) (by simp)) ?_
    refine h_only (l' := #[true, true, true, true, true, true, true, true, true]) 8 rfl (by kernel_rfl) rfl ?_
    refine l_storeA (k := 2) (cs' := (rowF Ck.cells (l.set (fidx (fun x => keyEq x c) l).toNat { c with created := v.created, no := v.no }) R0)) (H' := _ :: _ :: _ :: F) size26 rfl rfl rfl rfl rfl (by rw [List.size_toArray, List.length_append, hx1]; omega) (by exact rowF_set (v := { c with created := v.created, no := v.no }) Ck.len13 (by omega)) rfl ?_
    refine l_nil ?_
    refine q_step (fun h => by cases h) ?_
    refine h_done (by kernel_rfl) ?_
    refine q_then ?_
    refine c_rowclose (k := 2) (n := l.length) (c := k) (sz := 13) (xs := (l.set (fidx (fun x => keyEq x c) l).toNat { c with created := v.created, no := v.no }).flatMap Ck.cells) rfl (by rw [rowF_len Ck.len13, List.length_set]; omega) hnc hcm (rowF_all Ck.len13 List.length_set.symm) ?_
    refine c_ret ?_
    refine q_then_ret ?_
    have eL : layL l next c = l.set (fidx (fun x => keyEq x c) l).toNat { c with created := v.created, no := v.no } := by unfold layL; rw [show atI c l = (fidx (fun x => keyEq x c) l) from rfl, if_pos h13, getD_of_get hv2]
    have eN : layN l next c = next := if_pos h13
    exact q_ret0 (.inl rfl) rfl (some ⟨g0, 0, none⟩, k) trivial rfl (by rw [eL, eN, List.length_set]; exact hs_app (B := [_, _, _]) (is := [1, 2]) rfl rfl)
  · intro h13
    refine c_skip ?_
    refine q_then ?_
    refine c_seq ?_
    refine c_region rfl ?_
    refine gv rfl (y_move rfl) ?_
    refine gv rfl (y_nilCheck rfl) ?_
    refine gv rfl (y_faddr off66_0 rfl rfl) ?_
    refine gv rfl (y_faddr off24_1 rfl rfl) ?_
    refine gv rfl (y_load (k := 1)  one3 rfl rfl rfl) ?_
    refine gv rfl (y_faddr off26_12 rfl rfl) ?_
    refine l_store (k := 0) (cs' := #[_, _, _, _, _, _, _, _, _, _, _, _, _]) (H' := _ :: _ :: _ :: F) size3 rfl rfl rfl rfl rfl rfl rfl ?_
    refine l_nil ?_
    refine q_then ?_
    refine c_seq ?_
    refine c_region rfl ?_
    refine gv rfl (y_move rfl) ?_
    refine gv rfl (y_nilCheck rfl) ?_
    refine gv rfl (y_faddr off66_0 rfl rfl) ?_
    refine gv rfl (y_faddr off24_1 rfl rfl) ?_
    refine gv rfl (y_load (k := 1)  one3 rfl rfl rfl) ?_
    refine gv rfl (y_add rfl rfl (wrap_in (by omega) (by omega))) ?_
    refine gv rfl (y_nilCheck rfl) ?_
    refine gv rfl (y_faddr off66_0 rfl rfl) ?_
    refine gv rfl (y_faddr off24_1 rfl rfl) ?_
    refine l_store (k := 1) (cs' := #[_, _, _]) (H' := _ :: _ :: _ :: F) size3 rfl rfl rfl rfl rfl rfl rfl ?_
    refine l_nil ?_
    refine q_then ?_
    refine c_drawp (l := #[false, false, false, false, false, false, false, false, false, false, false, false, false]) 9 (is := [0, 1]) rfl rfl rfl rfl ?_
    refine h_take (l' := #[true, false, false, false, false, false, false, false, false, false, false, false, false]) 0 rfl (by kernel_rfl) rfl rfl np_post (hs_pick (is := [0, 1]) rfl rfl) (y_move rfl) ?_
    refine h_take (l' := #[true, true, false, false, false, false, false, false, false, false, false, false, false]) 1 rfl (by kernel_rfl) rfl rfl np_post (hs_pick (is := [0, 1]) rfl rfl) (y_move rfl) ?_
    refine h_take (l' := #[true, true, true, false, false, false, false, false, false, false, false, false, false]) 2 rfl (by kernel_rfl) rfl rfl np_post (hs_pick (is := [0, 1]) rfl rfl) (y_nilCheck rfl) ?_
    refine h_take (l' := #[true, true, true, true, false, false, false, false, false, false, false, false, false]) 3 rfl (by kernel_rfl) rfl rfl np_post (hs_pick (is := [0, 1]) rfl rfl) (y_faddr off66_0 rfl rfl) ?_
    refine h_take (l' := #[true, true, true, true, true, false, false, false, false, false, false, false, false]) 4 rfl (by kernel_rfl) rfl rfl np_post (hs_pick (is := [0, 1]) rfl rfl) (y_faddr off24_0 rfl rfl) ?_
    refine h_take (l' := #[true, true, true, true, true, true, false, false, false, false, false, false, false]) 5 rfl (by kernel_rfl) rfl rfl np_post (hs_pick (is := [0, 1]) rfl rfl) (y_load (k := 1)  one22 rfl rfl rfl) ?_
    refine h_take (l' := #[true, true, true, true, true, true, true, false, false, false, false, false, false]) 6 rfl (by kernel_rfl) rfl rfl np_post (hs_pick (is := [0, 1]) rfl rfl) (y_loadW (k := 0)  agg26 rfl rfl rfl) ?_
    refine h_only (l' := #[true, true, true, true, true, true, true, true, false, false, false, false, false]) 7 rfl (by kernel_rfl) rfl ?_
    refine l_bslice (cl := [_, _, _, _, _, _, _, _, _, _, _, _, _]) rfl elem22 ap26 zero26 rfl rfl rfl rfl rfl rfl rfl ?_; intro g64
    refine l_nil ?_
    refine q_step (fun _ => hs_pick (is := [1, 2]) rfl rfl) ?_
    refine h_only (l' := #[true, true, true, true, true, true, true, true, true, false, false, false, false]) 8 rfl (by kernel_rfl) rfl ?_
    refine l_append (k := 3) (j := 0) (zs := (l ++ [{ c with no := next }]).flatMap Ck.cells) rfl elem22 ap26 rfl rfl rfl rfl rfl rfl (by omega) (by omega) (by exact app_one (c := { c with no := next })) ?_; intro A65 c65
    refine l_nil ?_
    refine q_step (fun _ => hs_pick (is := [1, 2]) rfl rfl) ?_
    refine h_only (l' := #[true, true, true, true, true, true, true, true, true, true, false, false, false]) 9 rfl (by kernel_rfl) rfl ?_
    refine gv rfl (y_nilCheck rfl) ?_
    refine l_nil ?_
    refine q_step (fun h => by cases h) ?_
    refine h_only (l' := #[true, true, true, true, true, true, true, true, true, true, true, false, false]) 10 rfl (by kernel_rfl) rfl ?_
    refine gv rfl (y_faddr off66_0 rfl rfl) ?_
    refine l_nil ?_
    refine q_step (fun h => by cases h) ?_
    refine h_only (l' := #[true, true, true, true, true, true, true, true, true, true, true, true, false]) 11 rfl (by kernel_rfl) rfl ?_
    refine gv rfl (y_faddr off24_0 rfl rfl) ?_
    refine l_nil ?_
    refine q_step (fun h => by cases h) ?_
    refine h_only (l' := #[true, true, true, true, true, true, true, true, true, true, true, true, true]) 12 rfl (by kernel_rfl) rfl ?_
    refine l_store (k := 2) (cs' := #[_, _, _]) (H' := _ :: _ :: _ :: _ :: F) size22 rfl rfl rfl rfl rfl rfl rfl ?_
    refine l_nil ?_
    refine q_step (fun h => by cases h) ?_
    refine h_done (by kernel_rfl) ?_
    have eL : layL l next c = l ++ [{ c with no := next }] := if_neg h13
    have eN : layN l next c = next + 1 := if_neg h13
    exact q_ret0 (.inr rfl) rfl (A65, c65) trivial rfl (by rw [eL, eN, len_snoc]; exact hs_app (B := [_, _, _, _]) (is := [2, 3]) rfl rfl)

end Go.Gx
