/- This text proves: functions of the program, walked: what each answers, for every input. No condition beyond those that each theorem names. -/
import Derived.Test.YtgehghoammpiaaaGreatDoorTM0
import Derived.Test.YtgehghoammpiaaaGreatDoorProg
import Derived.Test.YtgehghoammpiaaaGreatDoorGP
import Derived.Test.YtgehghoammpiaaaGreatDoorGy6
import Derived.KernelRfl
import Derived.Test.YtgehghoammpiaaaGreatDoorGy7
import Derived.Test.YtgehghoammpiaaaGreatDoorTStr
import Derived.Test.YtgehghoammpiaaaGreatDoorGy9
import Derived.Test.YtgehghoammpiaaaGreatDoorGz0
import Derived.Test.YtgehghoammpiaaaGreatDoorGz1
import Derived.Test.YtgehghoammpiaaaGreatDoorGz2
import Derived.Test.YtgehghoammpiaaaGreatDoorGz3
import Derived.Test.YtgehghoammpiaaaGreatDoorGz4
import Derived.Test.YtgehghoammpiaaaGreatDoorGz7
import Derived.Test.YtgehghoammpiaaaGreatDoorGz8
namespace Go.Gx
open Go.Proofs Go.Maps
theorem sort1_c {a b : Ck} (w : World) : Cv Tryz.prog 59 #[.agg a.arr, .agg b.arr] w (.int .i64 (cmpS a b)) := by
  refine enter (E := [(0, .agg a.arr), (1, .agg b.arr)]) Tryz.func59 rfl Tryz.ntmps59 rfl (by simp) ?_
  refine c_seq ?_
  refine c_region rfl ?_
  refine l_boxA rfl rfl ?_; intro g2
  refine l_boxA rfl rfl ?_; intro g3
  refine gv rfl (y_assign rfl) ?_
  refine l_nil ?_
  refine q_then ?_
  refine c_seq ?_
  refine c_drawp (l := #[false, false, false, false, false, false, false, false, false, false, false, false, false, false, false, false, false, false, false, false]) 20 (is := [0, 1]) rfl rfl rfl rfl ?_
  refine h_take (l' := #[true, false, false, false, false, false, false, false, false, false, false, false, false, false, false, false, false, false, false, false]) 0 rfl (by kernel_rfl) rfl rfl (np_then np_post) (hs_pick (is := [0, 1]) rfl rfl) (y_faddr off26_3 rfl rfl) ?_
  refine h_take (l' := #[true, true, false, false, false, false, false, false, false, false, false, false, false, false, false, false, false, false, false, false]) 1 rfl (by kernel_rfl) rfl rfl (np_then np_post) (hs_pick (is := [0, 1]) rfl rfl) (y_load (k := 0)  one9 rfl rfl rfl) ?_
  refine h_take (l' := #[true, true, true, false, false, false, false, false, false, false, false, false, false, false, false, false, false, false, false, false]) 2 rfl (by kernel_rfl) rfl rfl (np_then np_post) (hs_pick (is := [0, 1]) rfl rfl) (y_slen Tryz.underlying9 rfl rfl) ?_
  refine h_take (l' := #[true, true, true, true, false, false, false, false, false, false, false, false, false, false, false, false, false, false, false, false]) 3 rfl (by kernel_rfl) rfl rfl (np_then np_post) (hs_pick (is := [0, 1]) rfl rfl) (y_faddr off26_3 rfl rfl) ?_
  refine h_take (l' := #[true, true, true, true, true, false, false, false, false, false, false, false, false, false, false, false, false, false, false, false]) 4 rfl (by kernel_rfl) rfl rfl (np_then np_post) (hs_pick (is := [0, 1]) rfl rfl) (y_load (k := 1)  one9 rfl rfl rfl) ?_
  refine h_take (l' := #[true, true, true, true, true, true, false, false, false, false, false, false, false, false, false, false, false, false, false, false]) 5 rfl (by kernel_rfl) rfl rfl (np_then np_post) (hs_pick (is := [0, 1]) rfl rfl) (y_slen Tryz.underlying9 rfl rfl) ?_
  refine h_take (l' := #[true, true, true, true, true, true, false, true, false, false, false, false, false, false, false, false, false, false, false, false]) 7 rfl (by kernel_rfl) rfl rfl (np_then np_post) (hs_pick (is := [0, 1]) rfl rfl) (y_faddr off26_10 rfl rfl) ?_
  refine h_take (l' := #[true, true, true, true, true, true, false, true, true, false, false, false, false, false, false, false, false, false, false, false]) 8 rfl (by kernel_rfl) rfl rfl (np_then np_post) (hs_pick (is := [0, 1]) rfl rfl) (y_load (k := 1)  one3 rfl rfl rfl) ?_
  refine h_take (l' := #[true, true, true, true, true, true, false, true, true, true, false, false, false, false, false, false, false, false, false, false]) 9 rfl (by kernel_rfl) rfl rfl (np_then np_post) (hs_pick (is := [0, 1]) rfl rfl) (y_faddr off26_10 rfl rfl) ?_
  refine h_take (l' := #[true, true, true, true, true, true, false, true, true, true, true, false, false, false, false, false, false, false, false, false]) 10 rfl (by kernel_rfl) rfl rfl (np_then np_post) (hs_pick (is := [0, 1]) rfl rfl) (y_load (k := 0)  one3 rfl rfl rfl) ?_
  refine h_take (l' := #[true, true, true, true, true, true, false, true, true, true, true, false, true, false, false, false, false, false, false, false]) 12 rfl (by kernel_rfl) rfl rfl (np_then np_post) (hs_pick (is := [0, 1]) rfl rfl) (y_faddr off26_12 rfl rfl) ?_
  refine h_take (l' := #[true, true, true, true, true, true, false, true, true, true, true, false, true, true, false, false, false, false, false, false]) 13 rfl (by kernel_rfl) rfl rfl (np_then np_post) (hs_pick (is := [0, 1]) rfl rfl) (y_load (k := 1)  one3 rfl rfl rfl) ?_
  refine h_take (l' := #[true, true, true, true, true, true, false, true, true, true, true, false, true, true, true, false, false, false, false, false]) 14 rfl (by kernel_rfl) rfl rfl (np_then np_post) (hs_pick (is := [0, 1]) rfl rfl) (y_faddr off26_12 rfl rfl) ?_
  refine h_take (l' := #[true, true, true, true, true, true, false, true, true, true, true, false, true, true, true, true, false, false, false, false]) 15 rfl (by kernel_rfl) rfl rfl (np_then np_post) (hs_pick (is := [0, 1]) rfl rfl) (y_load (k := 0)  one3 rfl rfl rfl) ?_
  refine h_only (l' := #[true, true, true, true, true, true, true, true, true, true, true, false, true, true, true, true, false, false, false, false]) 6 rfl (by kernel_rfl) rfl ?_
  refine l_callU rfl ent61 rfl (fun w hm => cmpInt_c w) ?_
  refine l_nil ?_
  refine q_step (fun _ => hs_pick (is := [0, 1]) rfl rfl) ?_
  refine h_only (l' := #[true, true, true, true, true, true, true, true, true, true, true, true, true, true, true, true, false, false, false, false]) 11 rfl (by kernel_rfl) rfl ?_
  refine l_callU rfl ent61 rfl (fun w hm => cmpInt_c w) ?_
  refine l_nil ?_
  refine q_step (fun _ => hs_pick (is := [0, 1]) rfl rfl) ?_
  refine h_only (l' := #[true, true, true, true, true, true, true, true, true, true, true, true, true, true, true, true, true, false, false, false]) 16 rfl (by kernel_rfl) rfl ?_
  refine l_callU rfl ent61 rfl (fun w hm => cmpInt_c w) ?_
  refine l_nil ?_
  refine q_step (fun _ => hs_pick (is := [0, 1]) rfl rfl) ?_
  refine h_only (l' := #[true, true, true, true, true, true, true, true, true, true, true, true, true, true, true, true, true, true, false, false]) 17 rfl (by kernel_rfl) rfl ?_
  refine l_bslice (cl := [_, _, _]) rfl elem51 ap3 zero3 rfl rfl rfl rfl rfl rfl rfl ?_; intro g22
  refine l_nil ?_
  refine q_step (fun _ => hs_pick (is := [1, 2]) rfl rfl) ?_
  refine h_only (l' := #[true, true, true, true, true, true, true, true, true, true, true, true, true, true, true, true, true, true, true, false]) 18 rfl (by kernel_rfl) rfl ?_
  refine l_callU rfl ent60 rfl (fun w hm => orInt_c (l := [cmpF (b.path.length : Int) (a.path.length : Int), cmpF a.created b.created, cmpF a.no b.no]) w (sl_of_blk hm (k := 0) rfl rfl (fun _ => rfl)) (by simp)) ?_
  refine l_nil ?_
  refine q_step (fun _ => hs_pick (is := [1, 2]) rfl rfl) ?_
  refine h_take (l' := #[true, true, true, true, true, true, true, true, true, true, true, true, true, true, true, true, true, true, true, true]) 19 rfl (by kernel_rfl) rfl rfl (np_then np_post) (hs_pick (is := [1, 2]) rfl rfl) (y_assign rfl) ?_
  refine h_done (by kernel_rfl) ?_
  refine q_then ?_
  refine c_ret ?_
  exact q_ret1 Tryz.results59 rfl () trivial rfl hs_nil


theorem insSort_m {l : List Ck} {A : Option Addr} {k : Nat} {fv : Value} {f : Ck → Ck → Int} {F : List Res} (w : World) (hlen : l.length ≤ 1073741824) (Fc : ∀ x y : Ck, FnV Tryz.prog w fv [.agg x.arr, .agg y.arr] (.int .i64 (f x y))) : Cm Tryz.prog 115 #[.slice A l.length k, .int .i64 0, .int .i64 (l.length : Int), fv] w (.row (.slice A l.length k) 26 13 l.length (l.flatMap Ck.cells) :: F) (fun _x : Unit => .tuple #[]) (fun x => .row (.slice A l.length k) 26 13 l.length ((sortL f Ck.none_ l).flatMap Ck.cells) :: F) (fun _ => True) := by
  refine enterM (E := [(0, .slice A l.length k), (1, .int .i64 0), (2, .int .i64 (l.length : Int)), (3, fv)]) Tryz.func115 rfl Tryz.ntmps115 rfl (by simp) ?_
  refine c_seq ?_
  refine c_region rfl ?_
  refine gv rfl (y_move rfl) ?_
  refine gv rfl (y_add rfl rfl (wrap_in (by omega) (by omega))) ?_
  refine gv rfl (y_assign rfl) ?_
  refine l_nil ?_
  refine q_then ?_
  refine c_block ?_
  rw [show l.flatMap Ck.cells = (stL f Ck.none_ l 1).flatMap Ck.cells by rw [stL_start]]
  refine loop (Ef := [(0, _), (1, _), (2, _), (3, _)]) (Hf := [] ++ F) (fun s : Nat => 1 ≤ s) (fun s : Nat => [(8, .int .i64 (s : Int))]) (fun s : Nat => [.row (.slice A l.length k) 26 13 l.length ((stL f Ck.none_ l s).flatMap Ck.cells)]) (fun s : Nat => l.length - s) 1 (Nat.le_refl _) (sub_cons rfl sub_nil) (sub_cons rfl (sub_cons rfl (sub_cons rfl (sub_cons rfl sub_nil)))) (hs_app (A := [_]) (B := [_]) (is := [0]) rfl rfl) ?_
  rintro s hs
  refine c_sub (E' := [(8, _), (0, _), (1, _), (2, _), (3, _)]) (sub_cons rfl (sub_cons rfl (sub_cons rfl (sub_cons rfl (sub_cons rfl sub_nil))))) ?_
  refine c_seq ?_
  refine c_seq ?_
  refine c_region rfl ?_
  refine gv rfl (y_move rfl) ?_
  refine gv rfl (y_move rfl) ?_
  refine gv rfl (y_lss rfl rfl) ?_
  refine l_nil ?_
  refine q_then ?_
  refine c_dec rfl ?_ ?_
  · intro h14
    have hlt : s < l.length := by omega
    obtain ⟨v, hv⟩ := get_lt hlt
    refine c_skip ?_
    refine q_then ?_
    refine c_seq ?_
    refine c_block ?_
    refine c_seq ?_
    have eM := stL_mid (f := f) (d := Ck.none_) hv
    rw [eM]
    refine c_rowopen (k := 0) rfl (flat_ne Ck.len13 (by decide) (i := s) (by rw [← eM, stL_len]; exact hlt)) ?_
    intro g0 R0 hAe hx1 hx2 hnc hcm
    subst hAe
    have hPl := sortT_len f Ck.none_ l s
    have hml : ∀ j, j ≤ s → (midL (sortT f Ck.none_ l s) v (l.drop (s + 1)) j).length = l.length := fun j hj => by rw [midL_len (by rw [hPl]; exact hj), hPl, List.length_drop]; omega
    refine c_region rfl ?_
    refine gv rfl (y_move rfl) ?_
    refine gv rfl (y_assign rfl) ?_
    refine l_nil ?_
    refine q_then ?_
    refine c_block ?_
    refine loop (Ef := [(0, _), (1, _), (2, _), (3, _), (8, _)]) (Hf := [] ++ F) (fun j : Nat => j ≤ s ∧ posI f Ck.none_ (sortT f Ck.none_ l s) v j = posI f Ck.none_ (sortT f Ck.none_ l s) v s) (fun j : Nat => [(9, .int .i64 (j : Int))]) (fun j : Nat => [.blk g0 (.cells (rowF Ck.cells (midL (sortT f Ck.none_ l s) v (l.drop (s + 1)) j) R0) 26 (0, 0))]) (fun j : Nat => j) s ⟨Nat.le_refl _, rfl⟩ (sub_cons rfl sub_nil) (sub_cons rfl (sub_cons rfl (sub_cons rfl (sub_cons rfl (sub_cons rfl sub_nil))))) (hs_app (A := [_]) (B := [_]) (is := [0]) rfl rfl) ?_
    rintro j ⟨hjs, hI2⟩
    refine c_sub (E' := [(9, _), (0, _), (1, _), (2, _), (3, _), (8, _)]) (sub_cons rfl (sub_cons rfl (sub_cons rfl (sub_cons rfl (sub_cons rfl (sub_cons rfl sub_nil)))))) ?_
    refine c_seq ?_
    refine c_seq ?_
    refine c_drawp (l := #[false, false, false, false, false, false, false, false, false, false, false, false, false, false, false, false, false]) 17 (is := [0]) rfl rfl rfl rfl ?_
    refine h_take (l' := #[true, false, false, false, false, false, false, false, false, false, false, false, false, false, false, false, false]) 0 rfl (by kernel_rfl) rfl rfl (np_then (np_then (np_loop (np_block (np_block (np_then (np_loop (np_block np_post)))))))) (hs_pick (is := [0]) rfl rfl) (y_move rfl) ?_
    refine h_take (l' := #[true, true, false, false, false, false, false, false, false, false, false, false, false, false, false, false, false]) 1 rfl (by kernel_rfl) rfl rfl (np_then (np_then (np_loop (np_block (np_block (np_then (np_loop (np_block np_post)))))))) (hs_pick (is := [0]) rfl rfl) (y_move rfl) ?_
    refine h_take (l' := #[true, true, true, false, false, false, false, false, false, false, false, false, false, false, false, false, false]) 2 rfl (by kernel_rfl) rfl rfl (np_then (np_then (np_loop (np_block (np_block (np_then (np_loop (np_block np_post)))))))) (hs_pick (is := [0]) rfl rfl) (y_gtr rfl rfl) ?_
    refine h_take (l' := #[true, true, true, true, false, false, false, false, false, false, false, false, false, false, false, false, false]) 3 rfl (by kernel_rfl) rfl rfl (np_then (np_then (np_loop (np_block (np_block (np_then (np_loop (np_block np_post)))))))) (hs_pick (is := [0]) rfl rfl) (y_move rfl) ?_
    refine h_dec (t := 21) rfl ?_ ?_
    · intro h21
      obtain ⟨i, rfl⟩ : ∃ i, j = i + 1 := ⟨j - 1, by omega⟩
      obtain ⟨y, hy⟩ := get_lt (l := (sortT f Ck.none_ l s)) (i := i) (by rw [hPl]; omega)
      have hat : (midL (sortT f Ck.none_ l s) v (l.drop (s + 1)) (i + 1))[i + 1]? = some v := midL_at (by rw [hPl]; exact hjs)
      have hpre : (midL (sortT f Ck.none_ l s) v (l.drop (s + 1)) (i + 1))[i]? = some y := midL_pre hy
      have hml1 := hml (i + 1) hjs
      have hml0 := hml i (by omega)
      refine h_takeg (t := 21) (l' := #[true, true, true, true, true, false, false, false, false, false, false, false, false, false, false, false, false]) 4 rfl (by kernel_rfl) rfl rfl (np_then (np_then (np_loop (np_block (np_block (np_then (np_loop (np_block np_post)))))))) (hs_pick (is := [0]) rfl rfl) rfl rfl (y_move rfl) ?_
      refine h_takeg (t := 21) (l' := #[true, true, true, true, true, true, false, false, false, false, false, false, false, false, false, false, false]) 5 rfl (by kernel_rfl) rfl rfl (np_then (np_then (np_loop (np_block (np_block (np_then (np_loop (np_block np_post)))))))) (hs_pick (is := [0]) rfl rfl) rfl rfl (y_move rfl) ?_
      refine h_takeg (t := 21) (l' := #[true, true, true, true, true, true, true, false, false, false, false, false, false, false, false, false, false]) 6 rfl (by kernel_rfl) rfl rfl (np_then (np_then (np_loop (np_block (np_block (np_then (np_loop (np_block np_post)))))))) (hs_pick (is := [0]) rfl rfl) rfl rfl (y_move rfl) ?_
      refine h_takeg (t := 21) (l' := #[true, true, true, true, true, true, true, true, false, false, false, false, false, false, false, false, false]) 7 rfl (by kernel_rfl) rfl rfl (np_then (np_then (np_loop (np_block (np_block (np_then (np_loop (np_block np_post)))))))) (hs_pick (is := [0]) rfl rfl) rfl rfl (y_iaddr_own (r := ((i + 1) * 13)) elem22 size26 rfl rfl (by omega) (by omega) (by simp)) ?_
      refine h_takeg (t := 21) (l' := #[true, true, true, true, true, true, true, true, true, false, false, false, false, false, false, false, false]) 8 rfl (by kernel_rfl) rfl rfl (np_then (np_then (np_loop (np_block (np_block (np_then (np_loop (np_block np_post)))))))) (hs_pick (is := [0]) rfl rfl) rfl rfl (y_loadA (k := 0) (vs := v.cells) agg26 rfl rfl rfl (by exact rowF_get Ck.len13 hat)) ?_
      refine h_takeg (t := 21) (l' := #[true, true, true, true, true, true, true, true, true, true, false, false, false, false, false, false, false]) 9 rfl (by kernel_rfl) rfl rfl (np_then (np_then (np_loop (np_block (np_block (np_then (np_loop (np_block np_post)))))))) (hs_pick (is := [0]) rfl rfl) rfl rfl (y_move rfl) ?_
      refine h_takeg (t := 21) (l' := #[true, true, true, true, true, true, true, true, true, true, true, false, false, false, false, false, false]) 10 rfl (by kernel_rfl) rfl rfl (np_then (np_then (np_loop (np_block (np_block (np_then (np_loop (np_block np_post)))))))) (hs_pick (is := [0]) rfl rfl) rfl rfl (y_move rfl) ?_
      refine h_takeg (t := 21) (l' := #[true, true, true, true, true, true, true, true, true, true, true, true, false, false, false, false, false]) 11 rfl (by kernel_rfl) rfl rfl (np_then (np_then (np_loop (np_block (np_block (np_then (np_loop (np_block np_post)))))))) (hs_pick (is := [0]) rfl rfl) rfl rfl (y_sub_ rfl rfl (wrap_in (by omega) (by omega))) ?_
      refine h_takeg (t := 21) (l' := #[true, true, true, true, true, true, true, true, true, true, true, true, true, false, false, false, false]) 12 rfl (by kernel_rfl) rfl rfl (np_then (np_then (np_loop (np_block (np_block (np_then (np_loop (np_block np_post)))))))) (hs_pick (is := [0]) rfl rfl) rfl rfl (y_iaddr_own (r := (i * 13)) elem22 size26 rfl rfl (by omega) (by omega) (by simp)) ?_
      refine h_takeg (t := 21) (l' := #[true, true, true, true, true, true, true, true, true, true, true, true, true, true, false, false, false]) 13 rfl (by kernel_rfl) rfl rfl (np_then (np_then (np_loop (np_block (np_block (np_then (np_loop (np_block np_post)))))))) (hs_pick (is := [0]) rfl rfl) rfl rfl (y_loadA (k := 0) (vs := y.cells) agg26 rfl rfl rfl (by exact rowF_get Ck.len13 hpre)) ?_
      refine h_only (l' := #[true, true, true, true, true, true, true, true, true, true, true, true, true, true, true, false, false]) 14 rfl (by kernel_rfl) rfl ?_
      refine g_on (t := 21) rfl rfl ?_
      refine l_callF rfl rfl rfl (Fc v y) ?_
      refine l_nil ?_
      refine q_step (fun _ => hs_pick (is := [0]) rfl rfl) ?_
      refine h_takeg (t := 21) (l' := #[true, true, true, true, true, true, true, true, true, true, true, true, true, true, true, true, false]) 15 rfl (by kernel_rfl) rfl rfl (np_then (np_then (np_loop (np_block (np_block (np_then (np_loop (np_block np_post)))))))) (hs_pick (is := [0]) rfl rfl) rfl rfl (y_lss rfl rfl) ?_
      refine h_take (l' := #[true, true, true, true, true, true, true, true, true, true, true, true, true, true, true, true, true]) 16 rfl (by kernel_rfl) rfl rfl (np_then (np_then (np_loop (np_block (np_block (np_then (np_loop (np_block np_post)))))))) (hs_pick (is := [0]) rfl rfl) (y_pick_t rfl rfl) ?_
      refine h_done (by kernel_rfl) ?_
      refine q_then ?_
      refine c_dec rfl ?_ ?_
      · intro h34
        refine c_skip ?_
        refine q_then ?_
        refine c_seq ?_
        refine c_block ?_
        refine c_drawp (l := #[false, false, false, false, false, false, false, false, false, false, false, false, false, false, false, false, false, false]) 18 (is := []) rfl rfl rfl rfl ?_
        refine h_take (l' := #[true, false, false, false, false, false, false, false, false, false, false, false, false, false, false, false, false, false]) 0 rfl (by kernel_rfl) rfl rfl (np_block (np_then (np_loop (np_block (np_block (np_then (np_loop (np_block np_post)))))))) (hs_pick (is := []) rfl rfl) (y_move rfl) ?_
        refine h_take (l' := #[true, true, false, false, false, false, false, false, false, false, false, false, false, false, false, false, false, false]) 1 rfl (by kernel_rfl) rfl rfl (np_block (np_then (np_loop (np_block (np_block (np_then (np_loop (np_block np_post)))))))) (hs_pick (is := []) rfl rfl) (y_move rfl) ?_
        refine h_take (l' := #[true, true, true, false, false, false, false, false, false, false, false, false, false, false, false, false, false, false]) 2 rfl (by kernel_rfl) rfl rfl (np_block (np_then (np_loop (np_block (np_block (np_then (np_loop (np_block np_post)))))))) (hs_pick (is := []) rfl rfl) (y_move rfl) ?_
        refine h_take (l' := #[true, true, true, true, false, false, false, false, false, false, false, false, false, false, false, false, false, false]) 3 rfl (by kernel_rfl) rfl rfl (np_block (np_then (np_loop (np_block (np_block (np_then (np_loop (np_block np_post)))))))) (hs_pick (is := []) rfl rfl) (y_move rfl) ?_
        refine h_take (l' := #[true, true, true, true, true, false, false, false, false, false, false, false, false, false, false, false, false, false]) 4 rfl (by kernel_rfl) rfl rfl (np_block (np_then (np_loop (np_block (np_block (np_then (np_loop (np_block np_post)))))))) (hs_pick (is := []) rfl rfl) (y_sub_ rfl rfl (wrap_in (by omega) (by omega))) ?_
        refine h_take (l' := #[true, true, true, true, true, true, false, false, false, false, false, false, false, false, false, false, false, false]) 5 rfl (by kernel_rfl) rfl rfl (np_block (np_then (np_loop (np_block (np_block (np_then (np_loop (np_block np_post)))))))) (hs_pick (is := []) rfl rfl) (y_move rfl) ?_
        refine h_take (l' := #[true, true, true, true, true, true, true, false, false, false, false, false, false, false, false, false, false, false]) 6 rfl (by kernel_rfl) rfl rfl (np_block (np_then (np_loop (np_block (np_block (np_then (np_loop (np_block np_post)))))))) (hs_pick (is := []) rfl rfl) (y_move rfl) ?_
        refine h_take (l' := #[true, true, true, true, true, true, true, true, false, false, false, false, false, false, false, false, false, false]) 7 rfl (by kernel_rfl) rfl rfl (np_block (np_then (np_loop (np_block (np_block (np_then (np_loop (np_block np_post)))))))) (hs_pick (is := []) rfl rfl) (y_sub_ rfl rfl (wrap_in (by omega) (by omega))) ?_
        refine h_take (l' := #[true, true, true, true, true, true, true, true, true, false, false, false, false, false, false, false, false, false]) 8 rfl (by kernel_rfl) rfl rfl (np_block (np_then (np_loop (np_block (np_block (np_then (np_loop (np_block np_post)))))))) (hs_pick (is := []) rfl rfl) (y_iaddr_own (r := (i * 13)) elem22 size26 rfl rfl (by omega) (by omega) (by simp)) ?_
        refine h_take (l' := #[true, true, true, true, true, true, true, true, true, false, true, false, false, false, false, false, false, false]) 10 rfl (by kernel_rfl) rfl rfl (np_block (np_then (np_loop (np_block (np_block (np_then (np_loop (np_block np_post)))))))) (hs_pick (is := []) rfl rfl) (y_move rfl) ?_
        refine h_take (l' := #[true, true, true, true, true, true, true, true, true, false, true, true, false, false, false, false, false, false]) 11 rfl (by kernel_rfl) rfl rfl (np_block (np_then (np_loop (np_block (np_block (np_then (np_loop (np_block np_post)))))))) (hs_pick (is := []) rfl rfl) (y_move rfl) ?_
        refine h_take (l' := #[true, true, true, true, true, true, true, true, true, false, true, true, true, false, false, false, false, false]) 12 rfl (by kernel_rfl) rfl rfl (np_block (np_then (np_loop (np_block (np_block (np_then (np_loop (np_block np_post)))))))) (hs_pick (is := []) rfl rfl) (y_iaddr_own (r := ((i + 1) * 13)) elem22 size26 rfl rfl (by omega) (by omega) (by simp)) ?_
        refine h_two (l' := #[true, true, true, true, true, true, true, true, true, true, true, true, true, false, false, false, false, false]) (l'' := #[true, true, true, true, true, true, true, true, true, false, true, true, true, true, false, false, false, false]) 9 13 rfl rfl (by kernel_rfl) rfl rfl ?_ ?_
        · skip
          refine gv rfl (y_loadA (k := 0) (vs := y.cells) agg26 rfl rfl rfl (by exact rowF_get Ck.len13 hpre)) ?_
          refine l_nil ?_
          refine q_step (fun _ => hs_pick (is := []) rfl rfl) ?_
          refine h_only (l' := #[true, true, true, true, true, true, true, true, true, true, true, true, true, true, false, false, false, false]) 13 rfl (by kernel_rfl) rfl ?_
          refine gv rfl (y_loadA (k := 0) (vs := v.cells) agg26 rfl rfl rfl (by exact rowF_get Ck.len13 hat)) ?_
          refine l_nil ?_
          refine q_step (fun _ => hs_pick (is := []) rfl rfl) ?_
          refine h_take (l' := #[true, true, true, true, true, true, true, true, true, true, true, true, true, true, true, false, false, false]) 14 rfl (by kernel_rfl) rfl rfl (np_block (np_then (np_loop (np_block (np_block (np_then (np_loop (np_block np_post)))))))) (hs_pick (is := []) rfl rfl) (y_iaddr_own (r := ((i + 1) * 13)) elem22 size26 rfl rfl (by omega) (by omega) (by simp)) ?_
          refine h_only (l' := #[true, true, true, true, true, true, true, true, true, true, true, true, true, true, true, true, false, false]) 15 rfl (by kernel_rfl) rfl ?_
          refine l_storeA (k := 0) (cs' := rowF Ck.cells ((midL (sortT f Ck.none_ l s) v (l.drop (s + 1)) (i + 1)).set (i + 1) y) R0) (H' := _ :: F) size26 rfl rfl rfl rfl rfl (by rw [rowF_len Ck.len13, hml1]; omega) (rowF_set Ck.len13 (by rw [hml1]; omega)) rfl ?_
          refine l_nil ?_
          refine q_step (fun _ => hs_pick (is := []) rfl rfl) ?_
          refine h_take (l' := #[true, true, true, true, true, true, true, true, true, true, true, true, true, true, true, true, true, false]) 16 rfl (by kernel_rfl) rfl rfl (np_block (np_then (np_loop (np_block (np_block (np_then (np_loop (np_block np_post)))))))) (hs_pick (is := []) rfl rfl) (y_iaddr_own (r := (i * 13)) elem22 size26 rfl rfl (by omega) (by omega) (by simp)) ?_
          refine h_only (l' := #[true, true, true, true, true, true, true, true, true, true, true, true, true, true, true, true, true, true]) 17 rfl (by kernel_rfl) rfl ?_
          refine l_storeA (k := 0) (cs' := rowF Ck.cells (midL (sortT f Ck.none_ l s) v (l.drop (s + 1)) i) R0) (H' := _ :: F) size26 rfl rfl rfl rfl rfl (by rw [rowF_len Ck.len13, List.length_set, hml1]; omega) (by rw [← midL_swap hy]; exact rowF_set Ck.len13 (by rw [List.length_set, hml1]; omega)) rfl ?_
          refine l_nil ?_
          refine q_step (fun _ => hs_pick (is := []) rfl rfl) ?_
          refine h_done (by kernel_rfl) ?_
          refine q_block (q_then ?_)
          refine c_region rfl ?_
          refine gv rfl (y_move rfl) ?_
          refine gv rfl (y_sub_ rfl rfl (wrap_in (by omega) (by omega))) ?_
          refine gv rfl (y_assign rfl) ?_
          refine l_nil ?_
          rw [show ((i + 1 : Nat) : Int) - 1 = (i : Int) by omega]
          exact again i ⟨by omega, (posI_yes hy h34).symm.trans hI2⟩ (by omega) (sub_cons rfl sub_nil) (sub_cons rfl (sub_cons rfl (sub_cons rfl (sub_cons rfl (sub_cons rfl sub_nil))))) (hs_app (A := [_]) (B := [_]) (is := [0]) rfl rfl)
        · skip
          refine gv rfl (y_loadA (k := 0) (vs := v.cells) agg26 rfl rfl rfl (by exact rowF_get Ck.len13 hat)) ?_
          refine l_nil ?_
          refine q_step (fun _ => hs_pick (is := []) rfl rfl) ?_
          refine h_only (l' := #[true, true, true, true, true, true, true, true, true, true, true, true, true, true, false, false, false, false]) 9 rfl (by kernel_rfl) rfl ?_
          refine gv rfl (y_loadA (k := 0) (vs := y.cells) agg26 rfl rfl rfl (by exact rowF_get Ck.len13 hpre)) ?_
          refine l_nil ?_
          refine q_step (fun _ => hs_pick (is := []) rfl rfl) ?_
          refine h_take (l' := #[true, true, true, true, true, true, true, true, true, true, true, true, true, true, true, false, false, false]) 14 rfl (by kernel_rfl) rfl rfl (np_block (np_then (np_loop (np_block (np_block (np_then (np_loop (np_block np_post)))))))) (hs_pick (is := []) rfl rfl) (y_iaddr_own (r := ((i + 1) * 13)) elem22 size26 rfl rfl (by omega) (by omega) (by simp)) ?_
          refine h_only (l' := #[true, true, true, true, true, true, true, true, true, true, true, true, true, true, true, true, false, false]) 15 rfl (by kernel_rfl) rfl ?_
          refine l_storeA (k := 0) (cs' := rowF Ck.cells ((midL (sortT f Ck.none_ l s) v (l.drop (s + 1)) (i + 1)).set (i + 1) y) R0) (H' := _ :: F) size26 rfl rfl rfl rfl rfl (by rw [rowF_len Ck.len13, hml1]; omega) (rowF_set Ck.len13 (by rw [hml1]; omega)) rfl ?_
          refine l_nil ?_
          refine q_step (fun _ => hs_pick (is := []) rfl rfl) ?_
          refine h_take (l' := #[true, true, true, true, true, true, true, true, true, true, true, true, true, true, true, true, true, false]) 16 rfl (by kernel_rfl) rfl rfl (np_block (np_then (np_loop (np_block (np_block (np_then (np_loop (np_block np_post)))))))) (hs_pick (is := []) rfl rfl) (y_iaddr_own (r := (i * 13)) elem22 size26 rfl rfl (by omega) (by omega) (by simp)) ?_
          refine h_only (l' := #[true, true, true, true, true, true, true, true, true, true, true, true, true, true, true, true, true, true]) 17 rfl (by kernel_rfl) rfl ?_
          refine l_storeA (k := 0) (cs' := rowF Ck.cells (midL (sortT f Ck.none_ l s) v (l.drop (s + 1)) i) R0) (H' := _ :: F) size26 rfl rfl rfl rfl rfl (by rw [rowF_len Ck.len13, List.length_set, hml1]; omega) (by rw [← midL_swap hy]; exact rowF_set Ck.len13 (by rw [List.length_set, hml1]; omega)) rfl ?_
          refine l_nil ?_
          refine q_step (fun _ => hs_pick (is := []) rfl rfl) ?_
          refine h_done (by kernel_rfl) ?_
          refine q_block (q_then ?_)
          refine c_region rfl ?_
          refine gv rfl (y_move rfl) ?_
          refine gv rfl (y_sub_ rfl rfl (wrap_in (by omega) (by omega))) ?_
          refine gv rfl (y_assign rfl) ?_
          refine l_nil ?_
          rw [show ((i + 1 : Nat) : Int) - 1 = (i : Int) by omega]
          exact again i ⟨by omega, (posI_yes hy h34).symm.trans hI2⟩ (by omega) (sub_cons rfl sub_nil) (sub_cons rfl (sub_cons rfl (sub_cons rfl (sub_cons rfl (sub_cons rfl sub_nil))))) (hs_app (A := [_]) (B := [_]) (is := [0]) rfl rfl)
      · intro h34
        refine c_exit ?_
        refine q_then_exit (q_loop_exit (q_block_exit (q_block (q_then ?_))))
        have eS := mid_stop (f := f) (d := Ck.none_) (j := (i + 1)) hv hI2 (posI_no hy h34)
        rw [eS]
        refine c_rowclose (k := 0) (n := l.length) (c := k) (sz := 13) (xs := (stL f Ck.none_ l (s + 1)).flatMap Ck.cells) rfl (by rw [rowF_len Ck.len13, stL_len]; have e9 := hx2; rw [flat_len Ck.len13, hml s (Nat.le_refl _)] at e9; omega) hnc hcm (rowF_all Ck.len13 (stL_len _ _).symm) ?_
        refine c_region rfl ?_
        refine gv rfl (y_move rfl) ?_
        refine gv rfl (y_add rfl rfl (wrap_in (by omega) (by omega))) ?_
        refine gv rfl (y_assign rfl) ?_
        refine l_nil ?_
        exact again (s + 1) (by omega) (by omega) (sub_cons rfl sub_nil) (sub_cons rfl (sub_cons rfl (sub_cons rfl (sub_cons rfl sub_nil)))) (hs_app (A := [_]) (B := [_]) (is := [0]) rfl rfl)
    · intro h21
      refine h_off (t := 21) (l' := #[true, true, true, true, true, false, false, false, false, false, false, false, false, false, false, false, false]) 4 rfl (by kernel_rfl) rfl rfl (np_then (np_then (np_loop (np_block (np_block (np_then (np_loop (np_block np_post)))))))) (hs_pick (is := [0]) rfl rfl) rfl rfl rfl ?_
      refine h_off (t := 21) (l' := #[true, true, true, true, true, true, false, false, false, false, false, false, false, false, false, false, false]) 5 rfl (by kernel_rfl) rfl rfl (np_then (np_then (np_loop (np_block (np_block (np_then (np_loop (np_block np_post)))))))) (hs_pick (is := [0]) rfl rfl) rfl rfl rfl ?_
      refine h_off (t := 21) (l' := #[true, true, true, true, true, true, true, false, false, false, false, false, false, false, false, false, false]) 6 rfl (by kernel_rfl) rfl rfl (np_then (np_then (np_loop (np_block (np_block (np_then (np_loop (np_block np_post)))))))) (hs_pick (is := [0]) rfl rfl) rfl rfl rfl ?_
      refine h_off (t := 21) (l' := #[true, true, true, true, true, true, true, true, false, false, false, false, false, false, false, false, false]) 7 rfl (by kernel_rfl) rfl rfl (np_then (np_then (np_loop (np_block (np_block (np_then (np_loop (np_block np_post)))))))) (hs_pick (is := [0]) rfl rfl) rfl rfl rfl ?_
      refine h_off (t := 21) (l' := #[true, true, true, true, true, true, true, true, true, false, false, false, false, false, false, false, false]) 8 rfl (by kernel_rfl) rfl rfl (np_then (np_then (np_loop (np_block (np_block (np_then (np_loop (np_block np_post)))))))) (hs_pick (is := [0]) rfl rfl) rfl rfl rfl ?_
      refine h_off (t := 21) (l' := #[true, true, true, true, true, true, true, true, true, true, false, false, false, false, false, false, false]) 9 rfl (by kernel_rfl) rfl rfl (np_then (np_then (np_loop (np_block (np_block (np_then (np_loop (np_block np_post)))))))) (hs_pick (is := [0]) rfl rfl) rfl rfl rfl ?_
      refine h_off (t := 21) (l' := #[true, true, true, true, true, true, true, true, true, true, true, false, false, false, false, false, false]) 10 rfl (by kernel_rfl) rfl rfl (np_then (np_then (np_loop (np_block (np_block (np_then (np_loop (np_block np_post)))))))) (hs_pick (is := [0]) rfl rfl) rfl rfl rfl ?_
      refine h_off (t := 21) (l' := #[true, true, true, true, true, true, true, true, true, true, true, true, false, false, false, false, false]) 11 rfl (by kernel_rfl) rfl rfl (np_then (np_then (np_loop (np_block (np_block (np_then (np_loop (np_block np_post)))))))) (hs_pick (is := [0]) rfl rfl) rfl rfl rfl ?_
      refine h_off (t := 21) (l' := #[true, true, true, true, true, true, true, true, true, true, true, true, true, false, false, false, false]) 12 rfl (by kernel_rfl) rfl rfl (np_then (np_then (np_loop (np_block (np_block (np_then (np_loop (np_block np_post)))))))) (hs_pick (is := [0]) rfl rfl) rfl rfl rfl ?_
      refine h_off (t := 21) (l' := #[true, true, true, true, true, true, true, true, true, true, true, true, true, true, false, false, false]) 13 rfl (by kernel_rfl) rfl rfl (np_then (np_then (np_loop (np_block (np_block (np_then (np_loop (np_block np_post)))))))) (hs_pick (is := [0]) rfl rfl) rfl rfl rfl ?_
      refine h_only (l' := #[true, true, true, true, true, true, true, true, true, true, true, true, true, true, true, false, false]) 14 rfl (by kernel_rfl) rfl ?_
      refine g_off (t := 21) rfl rfl rfl rfl ?_
      refine l_nil ?_
      refine q_step (fun _ => hs_pick (is := [0]) rfl rfl) ?_
      refine h_off (t := 21) (l' := #[true, true, true, true, true, true, true, true, true, true, true, true, true, true, true, true, false]) 15 rfl (by kernel_rfl) rfl rfl (np_then (np_then (np_loop (np_block (np_block (np_then (np_loop (np_block np_post)))))))) (hs_pick (is := [0]) rfl rfl) rfl rfl rfl ?_
      refine h_take (l' := #[true, true, true, true, true, true, true, true, true, true, true, true, true, true, true, true, true]) 16 rfl (by kernel_rfl) rfl rfl (np_then (np_then (np_loop (np_block (np_block (np_then (np_loop (np_block np_post)))))))) (hs_pick (is := [0]) rfl rfl) (y_pick_f rfl rfl) ?_
      refine h_done (by kernel_rfl) ?_
      refine q_then ?_
      refine c_cond_f rfl ?_
      refine c_exit ?_
      refine q_then_exit (q_loop_exit (q_block_exit (q_block (q_then ?_))))
      obtain rfl : j = 0 := by omega
      have eS := mid_stop (f := f) (d := Ck.none_) (j := 0) hv hI2 (posI_0 _ _)
      rw [eS]
      refine c_rowclose (k := 0) (n := l.length) (c := k) (sz := 13) (xs := (stL f Ck.none_ l (s + 1)).flatMap Ck.cells) rfl (by rw [rowF_len Ck.len13, stL_len]; have e9 := hx2; rw [flat_len Ck.len13, hml s (Nat.le_refl _)] at e9; omega) hnc hcm (rowF_all Ck.len13 (stL_len _ _).symm) ?_
      refine c_region rfl ?_
      refine gv rfl (y_move rfl) ?_
      refine gv rfl (y_add rfl rfl (wrap_in (by omega) (by omega))) ?_
      refine gv rfl (y_assign rfl) ?_
      refine l_nil ?_
      exact again (s + 1) (by omega) (by omega) (sub_cons rfl sub_nil) (sub_cons rfl (sub_cons rfl (sub_cons rfl (sub_cons rfl sub_nil)))) (hs_app (A := [_]) (B := [_]) (is := [0]) rfl rfl)
  · intro h14
    refine c_exit ?_
    refine q_then_exit (q_loop_exit (q_block_exit ?_))
    have eE := stL_end (f := f) (d := Ck.none_) (l := l) (s := s) (by omega)
    exact q_ret0 (.inr rfl) rfl () trivial rfl (by rw [← eE]; exact hs_app (B := [_]) (is := [0]) rfl rfl)


theorem stable_m {l : List Ck} {A : Option Addr} {k : Nat} {fv : Value} {f : Ck → Ck → Int} {F : List Res} (w : World) (hlen : l.length < 20) (Fc : ∀ x y : Ck, FnV Tryz.prog w fv [.agg x.arr, .agg y.arr] (.int .i64 (f x y))) : Cm Tryz.prog 93 #[.slice A l.length k, .int .i64 (l.length : Int), fv] w (.row (.slice A l.length k) 26 13 l.length (l.flatMap Ck.cells) :: F) (fun _x : Unit => .tuple #[]) (fun x => .row (.slice A l.length k) 26 13 l.length ((sortL f Ck.none_ l).flatMap Ck.cells) :: F) (fun _ => True) := by
  refine enterM (E := [(0, .slice A l.length k), (1, .int .i64 (l.length : Int)), (2, fv)]) Tryz.func93 rfl Tryz.ntmps93 rfl (by simp) ?_
  refine c_seq ?_
  refine c_region rfl ?_
  refine gv rfl (y_assign rfl) ?_
  refine l_nil ?_
  refine q_then ?_
  refine c_seq ?_
  refine c_region rfl ?_
  refine gv rfl (y_move rfl) ?_
  refine gv rfl (y_assign rfl) ?_
  refine gv rfl (y_assign rfl) ?_
  refine l_nil ?_
  refine q_then ?_
  refine c_seq ?_
  refine c_block ?_
  refine loop (Ef := [(0, _), (1, _), (2, _), (6, _)]) (Hf := [_] ++ F) (fun _s : Unit => True) (fun _s : Unit => [(7, .int .i64 0), (8, .int .i64 20)]) (fun _s : Unit => []) (fun _s : Unit => 0) () trivial (sub_cons rfl (sub_cons rfl sub_nil)) (sub_cons rfl (sub_cons rfl (sub_cons rfl (sub_cons rfl sub_nil)))) (hs_app (A := [_]) (B := [_]) (is := [0]) rfl rfl) ?_
  rintro _ _
  refine c_sub (E' := [(7, _), (8, _), (0, _), (1, _), (2, _), (6, _)]) (sub_cons rfl (sub_cons rfl (sub_cons rfl (sub_cons rfl (sub_cons rfl (sub_cons rfl sub_nil)))))) ?_
  refine c_seq ?_
  refine c_seq ?_
  refine c_region rfl ?_
  refine gv rfl (y_move rfl) ?_
  refine gv rfl (y_move rfl) ?_
  refine gv rfl (y_leq rfl rfl) ?_
  refine l_nil ?_
  refine q_then ?_
  refine c_dec rfl ?_ ?_
  · intro h13
    exact absurd h13 (by omega)
  · intro h13
    refine c_exit ?_
    refine q_then_exit (q_loop_exit (q_block_exit (q_then ?_)))
    refine c_seq ?_
    refine c_region rfl ?_
    refine gv rfl (y_move rfl) ?_
    refine gv rfl (y_move rfl) ?_
    refine gv rfl (y_move rfl) ?_
    refine gv rfl (y_move rfl) ?_
    refine l_hs (hs_app (A := [_]) (B := [_]) (is := [0]) rfl rfl) ?_
    refine l_callM (fs := []) rfl ent115 rfl rfl (insSort_m (l := l) _ (by omega) Fc) ?_; rintro ⟨⟩ _
    refine l_nil ?_
    refine q_then ?_
    refine c_block ?_
    refine loop (Ef := [(0, _), (1, _), (2, _)]) (Hf := [_] ++ F) (fun _s : Unit => True) (fun _s : Unit => [(6, .int .i64 20)]) (fun _s : Unit => []) (fun _s : Unit => 0) () trivial (sub_cons rfl sub_nil) (sub_cons rfl (sub_cons rfl (sub_cons rfl sub_nil))) (hs_app (A := [_]) (B := [_]) (is := [0]) rfl rfl) ?_
    rintro _ _
    refine c_sub (E' := [(6, _), (0, _), (1, _), (2, _)]) (sub_cons rfl (sub_cons rfl (sub_cons rfl (sub_cons rfl sub_nil)))) ?_
    refine c_seq ?_
    refine c_seq ?_
    refine c_region rfl ?_
    refine gv rfl (y_move rfl) ?_
    refine gv rfl (y_move rfl) ?_
    refine gv rfl (y_lss rfl rfl) ?_
    refine l_nil ?_
    refine q_then ?_
    refine c_dec rfl ?_ ?_
    · intro h30
      exact absurd h30 (by omega)
    · intro h30
      refine c_exit ?_
      refine q_then_exit (q_loop_exit (q_block_exit ?_))
      exact q_ret0 (.inr rfl) rfl () trivial rfl (by exact hs_app (B := [_]) (is := [0]) rfl rfl)


theorem sortStable_m {l : List Ck} {A : Option Addr} {k : Nat} {fv : Value} {f : Ck → Ck → Int} {F : List Res} (w : World) (hlen : l.length < 20) (Fc : ∀ x y : Ck, FnV Tryz.prog w fv [.agg x.arr, .agg y.arr] (.int .i64 (f x y))) : Cm Tryz.prog 58 #[.slice A l.length k, fv] w (.row (.slice A l.length k) 26 13 l.length (l.flatMap Ck.cells) :: F) (fun _x : Unit => .tuple #[]) (fun x => .row (.slice A l.length k) 26 13 l.length ((sortL f Ck.none_ l).flatMap Ck.cells) :: F) (fun _ => True) := by
  refine enterM (E := [(0, .slice A l.length k), (1, fv)]) Tryz.func58 rfl Tryz.ntmps58 rfl (by simp) ?_
  refine c_region rfl ?_
  refine gv rfl (y_move rfl) ?_
  refine gv rfl (y_move rfl) ?_
  refine gv rfl (y_len elem22 rfl) ?_
  refine gv rfl (y_move rfl) ?_
  refine l_hs (hs_app (A := [_]) (B := [_]) (is := [0]) rfl rfl) ?_
  refine l_callM (fs := []) rfl ent93 rfl rfl (stable_m (l := l) _ hlen Fc) ?_; rintro ⟨⟩ _
  refine l_nil ?_
  exact q_ret0 (.inr rfl) rfl () trivial rfl (by exact hs_app (B := [_]) (is := [0]) rfl rfl)


theorem sortCks_c {l : List Ck} {A : Option Addr} {k : Nat} (w : World) (hA : Sl Ck.cells 13 w A l) (hlen : l.length < 20) (hk0 : A = none → k = 0) : Ct Tryz.prog 25 #[.slice A l.length k] w (fun x : Option Addr × Nat => .slice x.1 (sortC l).length x.2) (fun x => [.row (.slice x.1 (sortC l).length x.2) 26 13 (sortC l).length ((sortC l).flatMap Ck.cells)]) (fun _ => True) := by
  refine enter (E := [(0, .slice A l.length k)]) Tryz.func25 rfl Tryz.ntmps25 rfl (by simp) ?_
  refine c_seq ?_
  refine c_region rfl ?_
  refine gv rfl (y_assign rfl) ?_
  refine l_nil ?_
  refine q_then ?_
  refine c_seq ?_
  refine c_region rfl ?_
  refine gv rfl (y_move rfl) ?_
  refine l_call rfl ent57 rfl (fun w hm => cloneCk_c w (hA.below hm.below) (by omega) hk0) ?_; rintro x5 h5
  refine gv rfl (y_assign rfl) ?_
  refine l_nil ?_
  refine q_then ?_
  refine c_seq ?_
  refine c_region rfl ?_
  refine gv rfl (y_move rfl) ?_
  refine l_hs (hs_pick (is := [0]) rfl rfl) ?_
  refine l_callM (fs := []) rfl ent58 rfl rfl (sortStable_m (l := l) _ hlen (fun x y => FnV.named ent59 (fun w2 _ => sort1_c w2))) ?_; rintro ⟨⟩ _
  refine l_nil ?_
  refine q_then ?_
  refine c_seq ?_
  refine c_region rfl ?_
  refine gv rfl (y_move rfl) ?_
  refine gv rfl (y_assign rfl) ?_
  refine l_nil ?_
  refine q_then ?_
  refine c_ret ?_
  have eS : (sortC l).length = l.length := sortL_len _ _ _
  exact q_ret1 Tryz.results25 rfl x5 trivial (by rw [eS]) (by rw [eS]; exact hs_pick (is := [0]) rfl rfl)

theorem ent78 : enters Tryz.prog 78 = true := by kernel_rfl

theorem ent79 : enters Tryz.prog 79 = true := by kernel_rfl

theorem agg35 : aggT Tryz.prog 35 5 = true := by kernel_rfl

theorem zero82 : zeroOf Tryz.prog 82 = some (.agg #[.string (B []), .string (B []), .bool false, .bool false, .bool false, .int .i64 0]) := by kernel_rfl

theorem bld82 : bldT Tryz.prog 82 = some [(0, 5), (5, 1)] := by kernel_rfl

theorem size82 : sizeT Tryz.prog 82 6 = true := by kernel_rfl

theorem agg82 : aggT Tryz.prog 82 6 = true := by kernel_rfl

theorem zero83 : zeroOf Tryz.prog 83 = some (.agg #[.nilFunc, .nilFunc, .nilFunc, .nilFunc]) := by kernel_rfl

theorem bld83 : bldT Tryz.prog 83 = some [(0, 1), (1, 1), (2, 1), (3, 1)] := by kernel_rfl

theorem arr83 : arrT Tryz.prog 83 4 60 = true := by kernel_rfl

theorem size60 : sizeT Tryz.prog 60 1 = true := by kernel_rfl

theorem one60 : oneT Tryz.prog 60 = true := by kernel_rfl

theorem ent50 : enters Tryz.prog 50 = true := by kernel_rfl

theorem ent51 : enters Tryz.prog 51 = true := by kernel_rfl

theorem ent52 : enters Tryz.prog 52 = true := by kernel_rfl

theorem ent53 : enters Tryz.prog 53 = true := by kernel_rfl

theorem ent46 : enters Tryz.prog 46 = true := by kernel_rfl

theorem ent22 : enters Tryz.prog 22 = true := by kernel_rfl

theorem ent25 : enters Tryz.prog 25 = true := by kernel_rfl


theorem ready_c {f : Fr} {now : Int} (w : World) (hf : f.host.length ≤ 1073741824) : Cv Tryz.prog 46 #[.agg f.arr, .int .i64 now] w (.int .i64 (readyE f now)) := by
  refine enter (E := [(0, .agg f.arr), (1, .int .i64 now)]) Tryz.func46 rfl Tryz.ntmps46 rfl (by simp) ?_
  refine c_seq ?_
  refine c_region rfl ?_
  refine l_boxA rfl rfl ?_; intro g2
  refine gv rfl (y_assign rfl) ?_
  refine l_nil ?_
  refine q_then ?_
  refine c_seq ?_
  refine c_block ?_
  refine c_seq ?_
  refine c_seq ?_
  refine c_region rfl ?_
  refine gv rfl (y_faddr off35_0 rfl rfl) ?_
  refine gv rfl (y_load (k := 0)  one9 rfl rfl rfl) ?_
  refine l_callU rfl ent76 rfl (fun w hm => host_c w hf) ?_
  refine gv rfl (y_not rfl rfl) ?_
  refine gv rfl (y_assign rfl) ?_
  refine l_nil ?_
  refine q_then ?_
  refine c_bool rfl ?_ ?_
  · intro h5
    refine c_skip ?_
    refine q_then ?_
    refine c_cond_t rfl ?_
    refine c_seq ?_
    refine c_region rfl ?_
    refine gv rfl (y_assign rfl) ?_
    refine l_nil ?_
    refine q_then ?_
    refine c_ret ?_
    refine q_block_ret (q_then_ret ?_)
    exact q_ret1 Tryz.results46 rfl () trivial (congrArg (Value.int .i64) (by unfold readyE; rw [if_pos (by first | exact .inl h5 | exact .inr (.inl h5) | exact .inr (.inr (.inl h5)) | exact .inr (.inr (.inr (.inl h5))) | exact .inr (.inr (.inr (.inr h5))))])) hs_nil
  · intro h5
    have q1 := h5
    refine c_seq ?_
    refine c_region rfl ?_
    refine gv rfl (y_faddr off35_1 rfl rfl) ?_
    refine gv rfl (y_load (k := 0)  one9 rfl rfl rfl) ?_
    refine l_callU rfl ent77 rfl (fun w hm => hasPrefix_c (l := f.path) (m := [47]) w) ?_
    refine gv rfl (y_not rfl rfl) ?_
    refine gv rfl (y_assign rfl) ?_
    refine l_nil ?_
    refine q_then ?_
    refine c_ndec rfl ?_ ?_
    · intro h5
      refine c_skip ?_
      refine q_then ?_
      refine c_cond_t rfl ?_
      refine c_seq ?_
      refine c_region rfl ?_
      refine gv rfl (y_assign rfl) ?_
      refine l_nil ?_
      refine q_then ?_
      refine c_ret ?_
      refine q_block_ret (q_then_ret ?_)
      exact q_ret1 Tryz.results46 rfl () trivial (congrArg (Value.int .i64) (by unfold readyE; rw [if_pos (by first | exact .inl h5 | exact .inr (.inl h5) | exact .inr (.inr (.inl h5)) | exact .inr (.inr (.inr (.inl h5))) | exact .inr (.inr (.inr (.inr h5))))])) hs_nil
    · intro h5
      have q2 := h5
      refine c_seq ?_
      refine c_region rfl ?_
      refine gv rfl (y_faddr off35_1 rfl rfl) ?_
      refine gv rfl (y_load (k := 0)  one9 rfl rfl rfl) ?_
      refine l_callU rfl ent78 rfl (fun w hm => let_c w) ?_
      refine gv rfl (y_not rfl rfl) ?_
      refine gv rfl (y_assign rfl) ?_
      refine l_nil ?_
      refine q_then ?_
      refine c_bool rfl ?_ ?_
      · intro h5
        refine c_skip ?_
        refine q_then ?_
        refine c_cond_t rfl ?_
        refine c_seq ?_
        refine c_region rfl ?_
        refine gv rfl (y_assign rfl) ?_
        refine l_nil ?_
        refine q_then ?_
        refine c_ret ?_
        refine q_block_ret (q_then_ret ?_)
        exact q_ret1 Tryz.results46 rfl () trivial (congrArg (Value.int .i64) (by unfold readyE; rw [if_pos (by first | exact .inl h5 | exact .inr (.inl h5) | exact .inr (.inr (.inl h5)) | exact .inr (.inr (.inr (.inl h5))) | exact .inr (.inr (.inr (.inr h5))))])) hs_nil
      · intro h5
        have q3 := h5
        refine c_seq ?_
        refine c_region rfl ?_
        refine gv rfl (y_faddr off35_1 rfl rfl) ?_
        refine gv rfl (y_load (k := 0)  one9 rfl rfl rfl) ?_
        refine l_callU rfl ent79 rfl (fun w hm => contains1_c (l := f.path) (b := 59) w) ?_
        refine gv rfl (y_assign rfl) ?_
        refine l_nil ?_
        refine q_then ?_
        refine c_dec rfl ?_ ?_
        · intro h5
          refine c_skip ?_
          refine q_then ?_
          refine c_cond_t rfl ?_
          refine c_seq ?_
          refine c_region rfl ?_
          refine gv rfl (y_assign rfl) ?_
          refine l_nil ?_
          refine q_then ?_
          refine c_ret ?_
          refine q_block_ret (q_then_ret ?_)
          exact q_ret1 Tryz.results46 rfl () trivial (congrArg (Value.int .i64) (by unfold readyE; rw [if_pos (by first | exact .inl h5 | exact .inr (.inl h5) | exact .inr (.inr (.inl h5)) | exact .inr (.inr (.inr (.inl h5))) | exact .inr (.inr (.inr (.inr h5))))])) hs_nil
        · intro h5
          have q4 := h5
          refine c_region rfl ?_
          refine gv rfl (y_faddr off35_1 rfl rfl) ?_
          refine gv rfl (y_load (k := 0)  one9 rfl rfl rfl) ?_
          refine gv rfl (y_slen Tryz.underlying9 rfl rfl) ?_
          refine gv rfl (y_gtr rfl rfl) ?_
          refine gv rfl (y_assign rfl) ?_
          refine l_nil ?_
          refine q_then ?_
          refine c_dec rfl ?_ ?_
          · intro h5
            refine c_seq ?_
            refine c_region rfl ?_
            refine gv rfl (y_assign rfl) ?_
            refine l_nil ?_
            refine q_then ?_
            refine c_ret ?_
            refine q_block_ret (q_then_ret ?_)
            exact q_ret1 Tryz.results46 rfl () trivial (congrArg (Value.int .i64) (by unfold readyE; rw [if_pos (by first | exact .inl h5 | exact .inr (.inl h5) | exact .inr (.inr (.inl h5)) | exact .inr (.inr (.inr (.inl h5))) | exact .inr (.inr (.inr (.inr h5))))])) hs_nil
          · intro h5
            have q5 := h5
            refine c_seq ?_
            refine c_region rfl ?_
            refine gv rfl (y_move rfl) ?_
            refine l_callU rfl ent30 rfl (fun w hm => is_c w) ?_
            refine gv rfl (y_not rfl rfl) ?_
            refine gv rfl (y_assign rfl) ?_
            refine l_nil ?_
            refine q_then ?_
            refine c_ndec rfl ?_ ?_
            · intro h25
              refine c_seq ?_
              refine c_region rfl ?_
              refine gv rfl (y_assign rfl) ?_
              refine l_nil ?_
              refine q_then ?_
              refine c_ret ?_
              refine q_block_ret (q_then_ret ?_)
              exact q_ret1 Tryz.results46 rfl () trivial (congrArg (Value.int .i64) (by unfold readyE; rw [if_neg (by intro h; rcases h with h | h | h | h | h; rw [q1] at h; cases h; exact h q2; rw [q3] at h; cases h; exact q4 h; exact q5 h), if_pos h25])) hs_nil
            · intro h25
              refine c_skip ?_
              refine q_block (q_then ?_)
              refine c_seq ?_
              refine c_region rfl ?_
              refine gv rfl (y_assign rfl) ?_
              refine l_nil ?_
              refine q_then ?_
              refine c_ret ?_
              exact q_ret1 Tryz.results46 rfl () trivial (congrArg (Value.int .i64) (by unfold readyE; rw [if_neg (by intro h; rcases h with h | h | h | h | h; rw [q1] at h; cases h; exact h q2; rw [q3] at h; cases h; exact q4 h; exact q5 h), if_neg (fun h => h h25)])) hs_nil


def askV (f : Fr) (now : Int) (s : Nat) : Value := .func (.func (if s = 0 then 50 else if s = 1 then 51 else if s = 2 then 52 else 53)) #[.agg (askA f now)] #[]

theorem askV_fn {ad : List UInt8 → Bool} {f : Fr} {now : Int} {c : Ck} {s : Nat} (hs : s < 4) (w : World) (hAd : AddrIs Tryz.prog 107 w ad) (hf : f.host.length ≤ 1073741824) (hc : c.domain.length ≤ 1073741824) (hp : c.path.length ≤ 1073741824) : FnV Tryz.prog w (askV f now s) [.agg c.arr] (.bool (askB ad f now c s)) := by
  match s, hs with
  | 0, _ => exact FnV.mk (fs := [.agg (askA f now)]) (cs := []) ent50 (fun w' hb => askLive_c w')
  | 1, _ => exact FnV.mk (fs := [.agg (askA f now)]) (cs := []) ent51 (fun w' hb => askAt_c w' (hAd.above hb) hf hc)
  | 2, _ => exact FnV.mk (fs := [.agg (askA f now)]) (cs := []) ent52 (fun w' hb => askAlong_c w' hp)
  | 3, _ => exact FnV.mk (fs := [.agg (askA f now)]) (cs := []) ent53 (fun w' hb => askMay_c w')

theorem askV_at {f : Fr} {now : Int} {s : Nat} (hs : s < 4) : (#[askV f now 0, askV f now 1, askV f now 2, askV f now 3] : Array Value)[((s : Int)).toNat]? = some (askV f now s) := by
  match s, hs with
  | 0, _ | 1, _ | 2, _ | 3, _ => rfl

theorem goes_c {ad : List UInt8 → Bool} {f : Fr} {now : Int} {c : Ck} (w : World) (hAd : AddrIs Tryz.prog 107 w ad) (hf : f.host.length ≤ 1073741824) (hc : c.domain.length ≤ 1073741824) (hp : c.path.length ≤ 1073741824) : Cv Tryz.prog 22 #[.agg c.arr, .agg f.arr, .int .i64 now] w (.bool (goesF ad f now c)) := by
  refine enter (E := [(0, .agg c.arr), (1, .agg f.arr), (2, .int .i64 now)]) Tryz.func22 rfl Tryz.ntmps22 rfl (by simp) ?_
  refine c_seq ?_
  refine c_region rfl ?_
  refine l_boxA rfl rfl ?_; intro g3
  refine l_boxA rfl rfl ?_; intro g4
  refine gv rfl (y_assign rfl) ?_
  refine l_nil ?_
  refine q_then ?_
  refine c_seq ?_
  refine c_region rfl ?_
  refine gv rfl (y_loadW (k := 0)  agg35 rfl rfl rfl) ?_
  refine gv rfl (y_move rfl) ?_
  refine gv rfl (y_build (cs := #[_, _, _, _, _, _]) (cl := [_, _, _, _, _, _])  zero82 bld82 rfl rfl rfl rfl rfl) ?_
  refine l_allocA rfl zero82 ?_; intro g7
  refine l_storeW (k := 0) (H' := [_, _, _]) size82 rfl rfl rfl rfl rfl rfl rfl ?_
  refine l_nil ?_
  refine q_then ?_
  refine c_seq ?_
  refine c_seq ?_
  refine c_region rfl ?_
  refine gv rfl (y_loadW (k := 0)  agg82 rfl rfl rfl) ?_
  refine gv rfl (y_mkfn2 rfl rfl) ?_
  refine gv rfl (y_loadW (k := 0)  agg82 rfl rfl rfl) ?_
  refine gv rfl (y_mkfn2 rfl rfl) ?_
  refine gv rfl (y_loadW (k := 0)  agg82 rfl rfl rfl) ?_
  refine gv rfl (y_mkfn2 rfl rfl) ?_
  refine gv rfl (y_loadW (k := 0)  agg82 rfl rfl rfl) ?_
  refine gv rfl (y_mkfn2 rfl rfl) ?_
  refine gv rfl (y_build (cs := #[_, _, _, _]) (cl := [_, _, _, _])  zero83 bld83 rfl rfl rfl rfl rfl) ?_
  refine gv rfl (y_move rfl) ?_
  refine l_nil ?_
  refine q_then ?_
  refine c_block ?_
  refine loop (Ef := [(3, _), (21, _)]) (Hf := [_, _, _]) (fun s : Nat => s ≤ 4 ∧ ∀ j, j < s → askB ad f now c j = true) (fun s : Nat => [(22, .int .i64 (s : Int))]) (fun s : Nat => []) (fun s : Nat => 4 - s) 0 ⟨by omega, none_yet⟩ (sub_cons rfl sub_nil) (sub_cons rfl (sub_cons rfl sub_nil)) (hs_pick (is := [0, 1, 2]) rfl rfl) ?_
  rintro s ⟨hs, hI⟩
  refine c_sub (E' := [(22, _), (3, _), (21, _)]) (sub_cons rfl (sub_cons rfl (sub_cons rfl sub_nil))) ?_
  refine c_seq ?_
  refine c_region rfl ?_
  refine gv rfl (y_lss rfl rfl) ?_
  refine l_nil ?_
  refine q_then ?_
  refine c_seq ?_
  refine c_dec rfl ?_ ?_
  · intro h23
    have hlt : s < 4 := by omega
    refine c_skip ?_
    refine q_then ?_
    refine c_seq ?_
    refine c_block ?_
    refine c_seq ?_
    refine c_region rfl ?_
    refine gv rfl (y_aidx1 arr83 size60 one60 rfl rfl (by omega) (by omega) (askV_at hlt)) ?_
    refine gv rfl (y_assign rfl) ?_
    refine l_nil ?_
    refine q_then ?_
    refine c_seq ?_
    refine c_region rfl ?_
    refine gv rfl (y_move rfl) ?_
    refine gv rfl (y_loadW (k := 2)  agg26 rfl rfl rfl) ?_
    refine l_callF rfl rfl rfl (askV_fn hlt _ hAd hf hc hp) ?_
    refine gv rfl (y_not rfl rfl) ?_
    refine l_nil ?_
    refine q_then ?_
    refine c_bool rfl ?_ ?_
    · intro h28
      refine c_seq ?_
      refine c_region rfl ?_
      refine gv rfl (y_assign rfl) ?_
      refine l_nil ?_
      refine q_then ?_
      refine c_ret ?_
      refine q_block_ret (q_then_ret (q_loop_ret (q_block_ret (q_then_ret ?_))))
      exact q_ret1 Tryz.results22 rfl () trivial (congrArg Value.bool (goesF_no hlt (by simpa using h28)).symm) hs_nil
    · intro h28
      refine c_skip ?_
      refine q_block (q_then ?_)
      refine c_region rfl ?_
      refine gv rfl (y_add rfl rfl (wrap_in (by omega) (by omega))) ?_
      refine gv rfl (y_move rfl) ?_
      refine l_nil ?_
      exact again (s + 1) ⟨by omega, step_all hI (by simpa using h28)⟩ (by omega) (sub_cons rfl sub_nil) (sub_cons rfl (sub_cons rfl sub_nil)) (hs_pick (is := [0, 1, 2]) rfl rfl)
  · intro h23
    refine c_exit ?_
    refine q_then_exit (q_loop_exit (q_block_exit (q_then ?_)))
    refine c_seq ?_
    refine c_region rfl ?_
    refine gv rfl (y_assign rfl) ?_
    refine l_nil ?_
    refine q_then ?_
    refine c_ret ?_
    exact q_ret1 Tryz.results22 rfl () trivial (congrArg Value.bool (goesF_yes (fun i hi => hI i (by omega))).symm) hs_nil


theorem get_c {ad : List UInt8 → Bool} {j : Ja} {f : Fr} {now : Int} {A0 : Option Addr} {k0 : Nat} (w : World) (hAd : AddrIs Tryz.prog 107 w ad) (hJ : Sl Ck.cells 13 w A0 j.cks) (hj : j.ok) (hk0 : A0 = none → k0 = 0) (hf : f.host.length ≤ 1073741824) : Ct Tryz.prog 16 #[.agg (j.arr A0 k0), .agg f.arr, .int .i64 now] w (fun x : (Option Addr × Nat) × (Option Addr × Nat) => .tuple #[.agg #[.slice x.1.1 (getJ ad j f now).cks.length x.1.2, .int .i64 (getJ ad j f now).next], .slice x.2.1 (getL ad j f now).length x.2.2, .int .i64 (getE j f now)]) (fun x => [.row (.slice x.1.1 (getJ ad j f now).cks.length x.1.2) 26 13 (getJ ad j f now).cks.length ((getJ ad j f now).cks.flatMap Ck.cells), .row (.slice x.2.1 (getL ad j f now).length x.2.2) 26 13 (getL ad j f now).length ((getL ad j f now).flatMap Ck.cells)]) (fun _ => True) := by
  refine enter (E := [(0, .agg (j.arr A0 k0)), (1, .agg f.arr), (2, .int .i64 now)]) Tryz.func16 rfl Tryz.ntmps16 rfl (by simp) ?_
  refine c_nilrow 26 13 ?_
  refine c_nilrow 26 13 ?_
  have hjl := hj.1
  refine c_seq ?_
  refine c_region rfl ?_
  refine l_boxA rfl rfl ?_; intro g3
  refine l_boxA rfl rfl ?_; intro g4
  refine l_allocA rfl zero24 ?_; intro g6
  refine gv rfl (y_assign rfl) ?_
  refine gv rfl (y_assign rfl) ?_
  refine l_nil ?_
  refine q_then ?_
  refine c_seq ?_
  refine c_region rfl ?_
  refine gv rfl (y_loadW (k := 2)  agg24 rfl rfl rfl) ?_
  refine l_callU rfl ent13 rfl (fun w hm => jarCheck_c w (hJ.below hm.below) hj) ?_
  refine gv rfl (y_assign rfl) ?_
  refine l_nil ?_
  refine q_then ?_
  refine c_seq ?_
  refine c_seq ?_
  refine c_region rfl ?_
  refine gv rfl (y_move rfl) ?_
  refine gv rfl (y_eql rfl rfl) ?_
  refine l_nil ?_
  refine q_then ?_
  refine c_dec rfl ?_ ?_
  · intro h17
    refine c_region rfl ?_
    refine gv rfl (y_loadW (k := 1)  agg35 rfl rfl rfl) ?_
    refine gv rfl (y_move rfl) ?_
    refine l_callU rfl ent46 rfl (fun w hm => ready_c w hf) ?_
    refine gv rfl (y_assign rfl) ?_
    refine l_nil ?_
    refine q_then ?_
    refine c_seq ?_
    refine c_seq ?_
    refine c_region rfl ?_
    refine gv rfl (y_move rfl) ?_
    refine gv rfl (y_neq rfl rfl) ?_
    refine l_nil ?_
    refine q_then ?_
    refine c_dec rfl ?_ ?_
    · intro h22
      refine c_seq ?_
      refine c_region rfl ?_
      refine gv rfl (y_build (cs := #[_, _]) (cl := [_, _])  zero24 bld24 rfl rfl rfl rfl rfl) ?_
      refine gv rfl (y_move rfl) ?_
      refine l_storeW (k := 0) (H' := [_, _, _, _, _]) size24 rfl rfl rfl rfl rfl rfl rfl ?_
      refine gv rfl (y_assign rfl) ?_
      refine gv rfl (y_assign rfl) ?_
      refine l_nil ?_
      refine q_then ?_
      refine c_ret ?_
      refine q_then_ret ?_
      have eE : getE j f now = readyE f now := by unfold getE; rw [if_neg (fun h => h h17)]
      have eJ : getJ ad j f now = ⟨[], 0⟩ := if_pos (by rw [eE]; exact h22)
      have eL : getL ad j f now = [] := if_pos (by rw [eE]; exact h22)
      exact q_retA2 (k := 0) Tryz.results16 agg24 rfl rfl rfl rfl rfl ((none, 0), (none, 0)) trivial (by rw [eE, eJ, eL] <;> rfl) (by rw [eJ, eL]; exact hs_pick (is := [4, 3]) rfl rfl)
    · intro h22
      have hz : jarErr j = 0 := h17
      obtain ⟨hz1, hz2, hz3⟩ := jarErr_iff.1 hz
      refine c_skip ?_
      refine q_then ?_
      refine c_seq ?_
      refine c_region rfl ?_
      refine gv rfl (y_loadW (k := 2)  agg24 rfl rfl rfl) ?_
      refine gv rfl (y_move rfl) ?_
      refine l_call rfl ent32 rfl (fun w hm => own_c w (hJ.below hm.below) hj.1 hk0) ?_; rintro ⟨gO, AO, kO⟩ h27
      refine gv rfl (y_assign rfl) ?_
      refine l_nil ?_
      refine q_then ?_
      refine c_seq ?_
      refine c_region rfl ?_
      refine gv rfl (y_assign rfl) ?_
      refine l_nil ?_
      refine q_then ?_
      refine c_seq ?_
      refine c_seq ?_
      refine c_region rfl ?_
      refine gv rfl (y_move rfl) ?_
      refine gv rfl (y_nilCheck rfl) ?_
      refine gv rfl (y_faddr off66_0 rfl rfl) ?_
      refine gv rfl (y_faddr off24_0 rfl rfl) ?_
      refine gv rfl (y_load (k := 0)  one22 rfl rfl rfl) ?_
      refine gv rfl (y_len elem22 rfl) ?_
      refine gv rfl (y_move rfl) ?_
      refine l_nil ?_
      refine q_then ?_
      refine c_block ?_
      rw [show j.cks.flatMap Ck.cells = (usedT ad f now j.cks 0).flatMap Ck.cells by rw [usedT_0]]
      refine loop (Ef := [(2, _), (4, _), (6, _), (10, _), (33, _)]) (Hf := [_, _, _, _, _]) (fun x : Nat × Option Addr × Nat => x.1 ≤ j.cks.length) (fun x : Nat × Option Addr × Nat => [(34, .int .i64 (x.1 : Int)), (11, .slice x.2.1 (toldL ad f now (j.cks.take x.1)).length x.2.2)]) (fun x : Nat × Option Addr × Nat => [.row (.slice AO j.cks.length kO) 26 13 j.cks.length ((usedT ad f now j.cks x.1).flatMap Ck.cells), .row (.slice x.2.1 (toldL ad f now (j.cks.take x.1)).length x.2.2) 26 13 (toldL ad f now (j.cks.take x.1)).length ((toldL ad f now (j.cks.take x.1)).flatMap Ck.cells)]) (fun x : Nat × Option Addr × Nat => j.cks.length - x.1) (0, none, 0) (Nat.zero_le _) (sub_cons rfl (sub_cons rfl sub_nil)) (sub_cons rfl (sub_cons rfl (sub_cons rfl (sub_cons rfl (sub_cons rfl sub_nil))))) (hs_pick (is := [1, 5, 0, 2, 3, 4, 6]) rfl rfl) ?_
      rintro ⟨s, A11, k11⟩ hs
      dsimp only at hs ⊢
      refine c_sub (E' := [(34, _), (11, _), (2, _), (4, _), (6, _), (10, _), (33, _)]) (sub_cons rfl (sub_cons rfl (sub_cons rfl (sub_cons rfl (sub_cons rfl (sub_cons rfl (sub_cons rfl sub_nil))))))) ?_
      refine c_seq ?_
      refine c_region rfl ?_
      refine gv rfl (y_lss rfl rfl) ?_
      refine l_nil ?_
      refine q_then ?_
      refine c_seq ?_
      refine c_dec rfl ?_ ?_
      · intro h35
        have hlt : s < j.cks.length := by omega
        obtain ⟨v, hv⟩ := get_lt hlt
        have hvk := hj.2.1 v (List.mem_of_getElem? hv)
        have hvx := (hj.2.2 v (List.mem_of_getElem? hv)).1
        refine c_skip ?_
        refine q_then ?_
        refine c_seq ?_
        refine c_block ?_
        refine c_seq ?_
        refine c_region rfl ?_
        refine gv rfl (y_move rfl) ?_
        refine gv rfl (y_assign rfl) ?_
        refine l_nil ?_
        refine q_then ?_
        refine c_seq ?_
        have hU := usedT_at (ad := ad) (f := f) (now := now) hv
        have hUl := usedT_len (ad := ad) (f := f) (now := now) (Nat.le_of_lt hlt)
        have htl := toldL_len (ad := ad) (f := f) (now := now) (j.cks.take s)
        have htk := List.length_take_le s j.cks
        refine c_rowopen (k := 0) rfl (flat_ne Ck.len13 (by decide) (i := s) (by rw [hUl]; exact hlt)) ?_
        intro g0 R0 hAe hx1 hx2 hnc hcm
        subst hAe
        rw [flat_len Ck.len13, hUl] at hx2
        refine c_region rfl ?_
        refine gv rfl (y_move rfl) ?_
        refine gv rfl (y_nilCheck rfl) ?_
        refine gv rfl (y_faddr off66_0 rfl rfl) ?_
        refine gv rfl (y_faddr off24_0 rfl rfl) ?_
        refine gv rfl (y_load (k := 2)  one22 rfl rfl rfl) ?_
        refine gv rfl (y_move rfl) ?_
        refine gv rfl (y_iaddr_own (r := (s * 13)) elem22 size26 rfl rfl (by omega) (by omega) (by simp)) ?_
        refine gv rfl (y_assign rfl) ?_
        refine l_nil ?_
        refine q_then ?_
        refine c_seq ?_
        refine c_drawp (l := #[false, false, false, false, false, false]) 6 (is := [0, 1, 2, 3, 4, 5, 6]) rfl rfl rfl rfl ?_
        refine h_take (l' := #[true, false, false, false, false, false]) 0 rfl (by kernel_rfl) rfl rfl (np_then (np_block (np_then (np_loop (np_block (np_then np_post)))))) (hs_pick (is := [0, 1, 2, 3, 4, 5, 6]) rfl rfl) (y_move rfl) ?_
        refine h_take (l' := #[true, true, false, false, false, false]) 1 rfl (by kernel_rfl) rfl rfl (np_then (np_block (np_then (np_loop (np_block (np_then np_post)))))) (hs_pick (is := [0, 1, 2, 3, 4, 5, 6]) rfl rfl) (y_nilCheck rfl) ?_
        refine h_take (l' := #[true, true, true, false, false, false]) 2 rfl (by kernel_rfl) rfl rfl (np_then (np_block (np_then (np_loop (np_block (np_then np_post)))))) (hs_pick (is := [0, 1, 2, 3, 4, 5, 6]) rfl rfl) (y_loadA (k := 0) (vs := v.cells) agg26 rfl rfl rfl (by exact rowF_get Ck.len13 hU)) ?_
        refine h_take (l' := #[true, true, true, true, false, false]) 3 rfl (by kernel_rfl) rfl rfl (np_then (np_block (np_then (np_loop (np_block (np_then np_post)))))) (hs_pick (is := [0, 1, 2, 3, 4, 5, 6]) rfl rfl) (y_loadW (k := 4)  agg35 rfl rfl rfl) ?_
        refine h_take (l' := #[true, true, true, true, true, false]) 4 rfl (by kernel_rfl) rfl rfl (np_then (np_block (np_then (np_loop (np_block (np_then np_post)))))) (hs_pick (is := [0, 1, 2, 3, 4, 5, 6]) rfl rfl) (y_move rfl) ?_
        refine h_only (l' := #[true, true, true, true, true, true]) 5 rfl (by kernel_rfl) rfl ?_
        refine l_callU rfl ent22 rfl (fun w hm => goes_c w (hAd.above hm.below) hf hvk.2 hvx) ?_
        refine l_nil ?_
        refine q_step (fun _ => hs_pick (is := [0, 1, 2, 3, 4, 5, 6]) rfl rfl) ?_
        refine h_done (by kernel_rfl) ?_
        refine q_then ?_
        refine c_bool rfl ?_ ?_
        · intro h49
          refine c_seq ?_
          refine c_region rfl ?_
          refine gv rfl (y_move rfl) ?_
          refine gv rfl (y_move rfl) ?_
          refine gv rfl (y_nilCheck rfl) ?_
          refine gv rfl (y_faddr off26_11 rfl rfl) ?_
          refine l_store (k := 0) (cs' := rowF Ck.cells ((usedT ad f now j.cks s).set s { v with used := now }) R0) (H' := [_, _, _, _, _, _, _]) size3 rfl rfl rfl rfl (by rw [List.size_toArray, List.length_append, flat_len Ck.len13, hUl]; simp [Nat.blt, Nat.ble_eq]; omega) (by exact rowF_cell hU (by decide) rfl) rfl ?_
          refine l_nil ?_
          refine q_then ?_
          refine c_region rfl ?_
          refine gv rfl (y_move rfl) ?_
          refine gv rfl (y_move rfl) ?_
          refine gv rfl (y_nilCheck rfl) ?_
          refine gv rfl (y_loadA (k := 0) (vs := Ck.cells { v with used := now }) agg26 rfl rfl rfl (by exact rowF_get (v := { v with used := now }) Ck.len13 (List.getElem?_set_self (by rw [hUl]; exact hlt)))) ?_
          refine l_bslice (cl := [_, _, _, _, _, _, _, _, _, _, _, _, _]) rfl elem22 ap26 zero26 rfl rfl rfl rfl rfl rfl rfl ?_; intro g58
          refine l_append (k := 2) (j := 0) (zs := ((toldL ad f now (j.cks.take s)) ++ [{ v with used := now }]).flatMap Ck.cells) rfl elem22 ap26 rfl rfl rfl rfl rfl rfl (by omega) (by omega) (by exact app_one (c := { v with used := now })) ?_; intro A59 c59
          refine gv rfl (y_assign rfl) ?_
          refine l_nil ?_
          refine q_block (q_then ?_)
          rw [usedT_yes hv h49]
          have hU2 := usedT_len (ad := ad) (f := f) (now := now) (s := s + 1) (l := j.cks) (by omega)
          refine c_rowclose (k := 1) (n := j.cks.length) (c := kO) (sz := 13) (xs := (usedT ad f now j.cks (s + 1)).flatMap Ck.cells) rfl (by rw [rowF_len Ck.len13, hU2]; omega) hnc hcm (rowF_all Ck.len13 hU2.symm) ?_
          refine c_region rfl ?_
          refine gv rfl (y_add rfl rfl (wrap_in (by omega) (by omega))) ?_
          refine gv rfl (y_move rfl) ?_
          refine l_nil ?_
          rw [← len_snoc (toldL ad f now (j.cks.take s)) { v with used := now }, ← toldL_yes hv h49]
          exact again (s + 1, A59, c59) (Nat.succ_le_of_lt hlt) (by omega) (sub_cons rfl (sub_cons rfl sub_nil)) (sub_cons rfl (sub_cons rfl (sub_cons rfl (sub_cons rfl (sub_cons rfl sub_nil))))) (hs_pick (is := [1, 2, 3, 4, 5, 6, 7]) rfl rfl)
        · intro h49
          refine c_skip ?_
          refine q_block (q_then ?_)
          rw [usedT_no hv h49]
          have hU2 := usedT_len (ad := ad) (f := f) (now := now) (s := s + 1) (l := j.cks) (by omega)
          refine c_rowclose (k := 0) (n := j.cks.length) (c := kO) (sz := 13) (xs := (usedT ad f now j.cks (s + 1)).flatMap Ck.cells) rfl (by rw [List.size_toArray, List.length_append, flat_len Ck.len13, hU2]; omega) hnc hcm (rowF_all Ck.len13 hU2.symm) ?_
          refine c_region rfl ?_
          refine gv rfl (y_add rfl rfl (wrap_in (by omega) (by omega))) ?_
          refine gv rfl (y_move rfl) ?_
          refine l_nil ?_
          rw [← toldL_no hv h49]
          exact again (s + 1, A11, k11) (Nat.succ_le_of_lt hlt) (by omega) (sub_cons rfl (sub_cons rfl sub_nil)) (sub_cons rfl (sub_cons rfl (sub_cons rfl (sub_cons rfl (sub_cons rfl sub_nil))))) (hs_pick (is := [0, 1, 2, 3, 4, 5, 6]) rfl rfl)
      · intro h35
        have hs9 : s = j.cks.length := by omega
        have eT : j.cks.take s = j.cks := List.take_of_length_le (by omega)
        rw [usedT_end (show j.cks.length ≤ s by omega), eT]
        have htl := toldL_len (ad := ad) (f := f) (now := now) j.cks
        refine c_exit ?_
        refine q_then_exit (q_loop_exit (q_block_exit (q_then ?_)))
        refine c_seq ?_
        refine c_drawp (l := #[false, false, false, false, false, false, false, false, false]) 7 (is := [0, 1, 2, 4, 5, 6]) rfl rfl rfl rfl ?_
        refine h_take (l' := #[true, false, false, false, false, false, false, false, false]) 0 rfl (by kernel_rfl) rfl rfl (np_then np_post) (hs_pick (is := [0, 1, 2, 4, 5, 6]) rfl rfl) (y_move rfl) ?_
        refine h_take (l' := #[true, true, false, false, false, false, false, false, false]) 1 rfl (by kernel_rfl) rfl rfl (np_then np_post) (hs_pick (is := [0, 1, 2, 4, 5, 6]) rfl rfl) (y_nilCheck rfl) ?_
        refine h_take (l' := #[true, true, true, false, false, false, false, false, false]) 2 rfl (by kernel_rfl) rfl rfl (np_then np_post) (hs_pick (is := [0, 1, 2, 4, 5, 6]) rfl rfl) (y_faddr off66_0 rfl rfl) ?_
        refine h_take (l' := #[true, true, true, true, false, false, false, false, false]) 3 rfl (by kernel_rfl) rfl rfl (np_then np_post) (hs_pick (is := [0, 1, 2, 4, 5, 6]) rfl rfl) (y_loadA (k := 2) (vs := [_, _])  agg24 rfl rfl rfl rfl) ?_
        refine h_take (l' := #[true, true, true, true, true, false, false, false, false]) 4 rfl (by kernel_rfl) rfl rfl (np_then np_post) (hs_pick (is := [0, 1, 2, 4, 5, 6]) rfl rfl) (y_move rfl) ?_
        refine h_only (l' := #[true, true, true, true, true, true, false, false, false]) 5 rfl (by kernel_rfl) rfl ?_
        refine l_call rfl ent25 rfl (fun w hm => sortCks_c w (sl_of_row hm (k := 1) rfl (fun _ => rfl) rfl) (by omega) (fun h => row_nilcap hm (k := 1) rfl h)) ?_; rintro x66 h66
        refine l_nil ?_
        refine q_step (fun _ => hs_pick (is := [1, 2, 3, 5, 6, 7]) rfl rfl) ?_
        refine h_only (l' := #[true, true, true, true, true, true, true, false, false]) 6 rfl (by kernel_rfl) rfl ?_
        refine l_storeW (k := 4) (H' := [_, _, _, _, _, _, _, _]) size24 rfl rfl rfl rfl rfl rfl rfl ?_
        refine l_nil ?_
        refine q_step (fun _ => hs_pick (is := [1, 2, 3, 5, 6, 7]) rfl rfl) ?_
        refine h_only (l' := #[true, true, true, true, true, true, true, true, false]) 7 rfl (by kernel_rfl) rfl ?_
        refine gv rfl (y_assign rfl) ?_
        refine l_nil ?_
        refine q_step (fun h => by cases h) ?_
        refine h_only (l' := #[true, true, true, true, true, true, true, true, true]) 8 rfl (by kernel_rfl) rfl ?_
        refine gv rfl (y_assign rfl) ?_
        refine l_nil ?_
        refine q_step (fun h => by cases h) ?_
        refine h_done (by kernel_rfl) ?_
        refine q_then ?_
        refine c_ret ?_
        have eE : getE j f now = 0 := by unfold getE; rw [if_neg (fun h => h h17)]; omega
        have eJ : getJ ad j f now = ⟨usedL ad f now j.cks, j.next⟩ := if_neg (by rw [eE]; simp)
        have eL : getL ad j f now = sortC (toldL ad f now j.cks) := if_neg (by rw [eE]; simp)
        have eU : (usedL ad f now j.cks).length = j.cks.length := List.length_map ..
        exact q_retA2 (k := 4) Tryz.results16 agg24 rfl rfl rfl rfl rfl ((AO, kO), x66) trivial (by rw [eE, eJ, eL]; dsimp only; rw [eU]) (by rw [eJ, eL]; dsimp only; rw [eU]; exact hs_pick (is := [1, 0]) rfl rfl)
  · intro h17
    refine c_skip ?_
    refine q_then ?_
    refine c_seq ?_
    refine c_seq ?_
    refine c_region rfl ?_
    refine gv rfl (y_move rfl) ?_
    refine gv rfl (y_neq rfl rfl) ?_
    refine l_nil ?_
    refine q_then ?_
    refine c_dec rfl ?_ ?_
    · intro h22
      refine c_seq ?_
      refine c_region rfl ?_
      refine gv rfl (y_build (cs := #[_, _]) (cl := [_, _])  zero24 bld24 rfl rfl rfl rfl rfl) ?_
      refine gv rfl (y_move rfl) ?_
      refine l_storeW (k := 0) (H' := [_, _, _, _, _]) size24 rfl rfl rfl rfl rfl rfl rfl ?_
      refine gv rfl (y_assign rfl) ?_
      refine gv rfl (y_assign rfl) ?_
      refine l_nil ?_
      refine q_then ?_
      refine c_ret ?_
      refine q_then_ret ?_
      have eE : getE j f now = jarErr j := if_pos h22
      have eJ : getJ ad j f now = ⟨[], 0⟩ := if_pos (by rw [eE]; exact h22)
      have eL : getL ad j f now = [] := if_pos (by rw [eE]; exact h22)
      exact q_retA2 (k := 0) Tryz.results16 agg24 rfl rfl rfl rfl rfl ((none, 0), (none, 0)) trivial (by rw [eE, eJ, eL] <;> rfl) (by rw [eJ, eL]; exact hs_pick (is := [4, 3]) rfl rfl)
    · intro h22
      exact (h22 h17).elim

theorem ent129 : enters Tryz.prog 129 = true := by kernel_rfl

theorem iface128 : ifaceT Tryz.prog 128 = true := by kernel_rfl

theorem ent130 : enters Tryz.prog 130 = true := by kernel_rfl


theorem atoi_c {l : List UInt8} (w : World) (hT : TabsOk Tryz.prog w) (hl : l.length ≤ 1073741824) : Ct Tryz.prog 129 #[.string (B l)] w (fun x : Value => .tuple #[.int .i64 (atV l), x]) (fun _ => []) (fun x => AtE l x) := by
  obtain ⟨⟨t1, p1, h1⟩, ⟨t2, p2, h2⟩, h3⟩ := hT
  have hz : (B l).size ≤ 281474976710656 := by have : (B l).size = l.length := rfl; omega
  cases h : Lib.atoiAll l with
  | ok v =>
    refine (Go.Proofs.Tryz.strconv_Atoi_ok (B l) (by omega) v h w).mono fun e w' hh => ?_
    obtain ⟨rfl, hw⟩ := hh
    have ev : atV l = v := by unfold atV; rw [h]
    have eo : atOk l = true := by unfold atOk; rw [h]
    refine ⟨.nilIface, .inl ⟨eo, rfl⟩, by rw [ev], ?_, by simp, List.Pairwise.nil⟩
    rcases hw with rfl | ⟨t, rfl⟩
    · exact Go.RowKit.Below.refl _ _
    · exact Lib.bytesWorld_below _ _ _
  | range =>
    refine (Go.Proofs.Tryz.strconv_Atoi_range_var (B l) hz h t2 p2 w h2).mono fun e w' hh => ?_
    obtain ⟨N, rfl, _, _, hb⟩ := hh
    have ev : atV l = Lib.atoiSat l := by unfold atV; rw [h]
    have eo : atOk l = false := by unfold atOk; rw [h]
    exact ⟨_, .inr ⟨eo, _, _, rfl⟩, by rw [ev]; rfl, hb, by simp, List.Pairwise.nil⟩
  | _ =>
    refine (Go.Proofs.Any.strconv_Atoi_syntax_var Go.Proofs.Tryz.laysC172 (B l) hz h t1 p1 w h1).mono fun e w' hh => ?_
    obtain ⟨N, rfl, _, _, hb⟩ := hh
    have ev : atV l = 0 := by unfold atV; rw [h]
    have eo : atOk l = false := by unfold atOk; rw [h]
    exact ⟨_, .inr ⟨eo, _, _, rfl⟩, by rw [ev], hb, by simp, List.Pairwise.nil⟩


theorem itoa_c {n : Int} (w : World) (hT : TabsOk Tryz.prog w) (h0 : -9223372036854775808 ≤ n) (h1 : n ≤ 9223372036854775807) : Cv Tryz.prog 130 #[.int .i64 n] w (.string (B (Lib.itoa n))) := by
  refine (Go.Proofs.Tryz.strconv_Itoa n h0 h1 w hT.2.2).mono fun e w' hh => ?_
  obtain ⟨rfl, k, os, rfl⟩ := hh
  exact ⟨(), trivial, rfl, Lib.below_grow _ _ (Nat.le_refl _) _ _, by simp, List.Pairwise.nil⟩


theorem address_c {l : List UInt8} (w : World) (hT : TabsOk Tryz.prog w) (hl : l.length ≤ 1073741824) : Cv Tryz.prog 107 #[.string (B l)] w (.bool (addrF l)) := by
  refine enter (E := [(0, .string (B l))]) Tryz.func107 rfl Tryz.ntmps107 rfl (by simp) ?_
  refine c_seq ?_
  refine c_region rfl ?_
  refine gv rfl (y_assign rfl) ?_
  refine l_nil ?_
  refine q_then ?_
  refine c_seq ?_
  refine c_region rfl ?_
  refine gv rfl (y_move rfl) ?_
  refine l_call rfl ent95 rfl (fun w hm => parts_c (b := 46) w hl) ?_; rintro x9 h9
  have hpl := partsB_len 46 l
  refine gv rfl (y_assign rfl) ?_
  refine l_nil ?_
  refine q_then ?_
  refine c_seq ?_
  refine c_seq ?_
  refine c_region rfl ?_
  refine gv rfl (y_move rfl) ?_
  refine gv rfl (y_len elem117 rfl) ?_
  refine gv rfl (y_neq rfl rfl) ?_
  refine l_nil ?_
  refine q_then ?_
  refine c_dec rfl ?_ ?_
  · intro h12
    refine c_seq ?_
    refine c_region rfl ?_
    refine gv rfl (y_assign rfl) ?_
    refine l_nil ?_
    refine q_then ?_
    refine c_ret ?_
    refine q_then_ret ?_
    exact q_ret1 Tryz.results107 rfl () trivial (congrArg Value.bool (addrF_len h12).symm) hs_nil
  · intro h12
    refine c_skip ?_
    refine q_then ?_
    refine c_seq ?_
    refine c_seq ?_
    refine c_region rfl ?_
    refine gv rfl (y_move rfl) ?_
    refine gv rfl (y_len elem117 rfl) ?_
    refine gv rfl (y_move rfl) ?_
    refine l_nil ?_
    refine q_then ?_
    refine c_block ?_
    refine loop (Ef := [(13, _), (14, _)]) (Hf := [_]) (fun s : Nat => s ≤ (partsB 46 l).length ∧ ∀ j, j < s → ∀ u, (partsB 46 l)[j]? = some u → (fun p => !partA p) u = false) (fun s : Nat => [(15, .int .i64 (s : Int))]) (fun s : Nat => []) (fun s : Nat => (partsB 46 l).length - s) 0 ⟨by omega, none_get⟩ (sub_cons rfl sub_nil) (sub_cons rfl (sub_cons rfl sub_nil)) (hs_pick (is := [0]) rfl rfl) ?_
    rintro s ⟨hs, hI⟩
    refine c_sub (E' := [(15, _), (13, _), (14, _)]) (sub_cons rfl (sub_cons rfl (sub_cons rfl sub_nil))) ?_
    refine c_seq ?_
    refine c_region rfl ?_
    refine gv rfl (y_lss rfl rfl) ?_
    refine l_nil ?_
    refine q_then ?_
    refine c_seq ?_
    refine c_dec rfl ?_ ?_
    · intro h16
      have hlt : s < (partsB 46 l).length := by omega
      obtain ⟨v, hv⟩ := get_lt hlt
      have hvl := Nat.le_trans (partsB_el _ _ _ (List.mem_of_getElem? hv)) hl
      refine c_skip ?_
      refine q_then ?_
      refine c_seq ?_
      refine c_block ?_
      refine c_seq ?_
      refine c_region rfl ?_
      refine gv rfl (y_iaddr_row (k := 0) elem117 size9 rfl (fun _ => rfl) rfl rfl rfl (by omega) hv) ?_
      refine gv rfl (y_load_row (k := 0) one9 rfl (fun _ => rfl) rfl 0 rfl rfl hv rfl) ?_
      refine gv rfl (y_assign rfl) ?_
      refine l_nil ?_
      refine q_then ?_
      refine c_seq ?_
      refine c_region rfl ?_
      refine gv rfl (y_move rfl) ?_
      refine l_call rfl ent129 rfl (fun w hm => atoi_c w (hT.above hm.below) hvl) ?_; rintro x21 h21
      refine gv rfl (y_move rfl) ?_
      refine gv rfl (y_extract rfl rfl) ?_
      refine gv rfl (y_extract rfl rfl) ?_
      refine gv rfl (y_assign rfl) ?_
      refine gv rfl (y_assign rfl) ?_
      refine l_nil ?_
      refine q_then ?_
      refine c_seq ?_
      refine c_region rfl ?_
      refine gv rfl (y_move rfl) ?_
      refine gv rfl (y_ifne iface128 rfl h21.ne) ?_
      refine gv rfl (y_move rfl) ?_
      refine g_bool (t := 26) rfl ?_ ?_
      · intro h26
        refine g_off (t := 26) rfl rfl rfl rfl ?_
        refine g_off (t := 26) rfl rfl rfl rfl ?_
        refine gv rfl (y_pick_t rfl rfl) ?_
        refine gv rfl (y_move rfl) ?_
        refine g_off (t := 30) rfl rfl rfl rfl ?_
        refine g_off (t := 30) rfl rfl rfl rfl ?_
        refine g_off (t := 30) rfl rfl rfl rfl ?_
        refine g_off (t := 30) rfl rfl rfl rfl ?_
        refine gv rfl (y_pick_t rfl rfl) ?_
        refine gv rfl (y_move rfl) ?_
        refine g_off (t := 36) rfl rfl rfl rfl ?_
        refine g_off (t := 36) rfl rfl rfl rfl ?_
        refine gv rfl (y_pick_t rfl rfl) ?_
        refine l_nil ?_
        refine q_then ?_
        refine c_cond_t rfl ?_
        refine c_seq ?_
        refine c_region rfl ?_
        refine gv rfl (y_assign rfl) ?_
        refine l_nil ?_
        refine q_then ?_
        refine c_ret ?_
        refine q_block_ret (q_then_ret (q_loop_ret (q_block_ret (q_then_ret ?_))))
        exact q_ret1 Tryz.results107 rfl () trivial (congrArg Value.bool (addrF_bad hv (partA_f (by first | exact .inl h26 | exact .inr (.inl h30) | exact .inr (.inr (.inl h36)) | exact .inr (.inr (.inr h39)) | exact .inr (.inr (.inr h39))))).symm) hs_nil
      · intro h26
        refine g_on (t := 26) rfl rfl ?_
        refine gv rfl (y_move rfl) ?_
        refine g_on (t := 26) rfl rfl ?_
        refine gv rfl (y_gtr rfl rfl) ?_
        refine gv rfl (y_pick_f rfl rfl) ?_
        refine gv rfl (y_move rfl) ?_
        refine g_dec (t := 30) rfl ?_ ?_
        · intro h30
          refine g_off (t := 30) rfl rfl rfl rfl ?_
          refine g_off (t := 30) rfl rfl rfl rfl ?_
          refine g_off (t := 30) rfl rfl rfl rfl ?_
          refine g_off (t := 30) rfl rfl rfl rfl ?_
          refine gv rfl (y_pick_t rfl rfl) ?_
          refine gv rfl (y_move rfl) ?_
          refine g_off (t := 36) rfl rfl rfl rfl ?_
          refine g_off (t := 36) rfl rfl rfl rfl ?_
          refine gv rfl (y_pick_t rfl rfl) ?_
          refine l_nil ?_
          refine q_then ?_
          refine c_cond_t rfl ?_
          refine c_seq ?_
          refine c_region rfl ?_
          refine gv rfl (y_assign rfl) ?_
          refine l_nil ?_
          refine q_then ?_
          refine c_ret ?_
          refine q_block_ret (q_then_ret (q_loop_ret (q_block_ret (q_then_ret ?_))))
          exact q_ret1 Tryz.results107 rfl () trivial (congrArg Value.bool (addrF_bad hv (partA_f (by first | exact .inl h26 | exact .inr (.inl h30) | exact .inr (.inr (.inl h36)) | exact .inr (.inr (.inr h39)) | exact .inr (.inr (.inr h39))))).symm) hs_nil
        · intro h30
          refine g_on (t := 30) rfl rfl ?_
          refine gv rfl (y_move rfl) ?_
          refine g_on (t := 30) rfl rfl ?_
          refine l_callU rfl ent130 rfl (fun w hm => itoa_c w (hT.above hm.below) (atV_range v).1 (atV_range v).2) ?_
          refine g_on (t := 30) rfl rfl ?_
          refine gv rfl (y_move rfl) ?_
          refine g_on (t := 30) rfl rfl ?_
          refine gv rfl (y_sne rfl rfl) ?_
          refine gv rfl (y_pick_f rfl rfl) ?_
          refine gv rfl (y_move rfl) ?_
          refine g_dec (t := 36) rfl ?_ ?_
          · intro h36
            refine g_off (t := 36) rfl rfl rfl rfl ?_
            refine g_off (t := 36) rfl rfl rfl rfl ?_
            refine gv rfl (y_pick_t rfl rfl) ?_
            refine l_nil ?_
            refine q_then ?_
            refine c_cond_t rfl ?_
            refine c_seq ?_
            refine c_region rfl ?_
            refine gv rfl (y_assign rfl) ?_
            refine l_nil ?_
            refine q_then ?_
            refine c_ret ?_
            refine q_block_ret (q_then_ret (q_loop_ret (q_block_ret (q_then_ret ?_))))
            exact q_ret1 Tryz.results107 rfl () trivial (congrArg Value.bool (addrF_bad hv (partA_f (by first | exact .inl h26 | exact .inr (.inl h30) | exact .inr (.inr (.inl h36)) | exact .inr (.inr (.inr h39)) | exact .inr (.inr (.inr h39))))).symm) hs_nil
          · intro h36
            refine g_on (t := 36) rfl rfl ?_
            refine gv rfl (y_move rfl) ?_
            refine g_on (t := 36) rfl rfl ?_
            refine gv rfl (y_lss rfl rfl) ?_
            refine gv rfl (y_pick_f rfl rfl) ?_
            refine l_nil ?_
            refine q_then ?_
            refine c_dec rfl ?_ ?_
            · intro h39
              refine c_seq ?_
              refine c_region rfl ?_
              refine gv rfl (y_assign rfl) ?_
              refine l_nil ?_
              refine q_then ?_
              refine c_ret ?_
              refine q_block_ret (q_then_ret (q_loop_ret (q_block_ret (q_then_ret ?_))))
              exact q_ret1 Tryz.results107 rfl () trivial (congrArg Value.bool (addrF_bad hv (partA_f (by first | exact .inl h26 | exact .inr (.inl h30) | exact .inr (.inr (.inl h36)) | exact .inr (.inr (.inr h39)) | exact .inr (.inr (.inr h39))))).symm) hs_nil
            · intro h39
              refine c_skip ?_
              refine q_block (q_then ?_)
              refine c_region rfl ?_
              refine gv rfl (y_add rfl rfl (wrap_in (by omega) (by omega))) ?_
              refine gv rfl (y_move rfl) ?_
              refine l_nil ?_
              exact again (s + 1) ⟨by omega, step_get hI hv (by simp only [partA_t h26 h30 h36 h39]; rfl)⟩ (by omega) (sub_cons rfl sub_nil) (sub_cons rfl (sub_cons rfl sub_nil)) (hs_pick (is := [0]) rfl rfl)
    · intro h16
      refine c_exit ?_
      refine q_then_exit (q_loop_exit (q_block_exit (q_then ?_)))
      refine c_seq ?_
      refine c_region rfl ?_
      refine gv rfl (y_assign rfl) ?_
      refine l_nil ?_
      refine q_then ?_
      refine c_ret ?_
      exact q_ret1 Tryz.results107 rfl () trivial (congrArg Value.bool (addrF_all (by omega) hI (by omega)).symm) hs_nil

theorem zero35 : zeroOf Tryz.prog 35 = some (.agg #[.string (B []), .string (B []), .bool false, .bool false, .bool false]) := by kernel_rfl

theorem bld35 : bldT Tryz.prog 35 = some [(0, 1), (1, 1), (2, 1), (3, 1), (4, 1)] := by kernel_rfl

theorem size35 : sizeT Tryz.prog 35 5 = true := by kernel_rfl

theorem ent10 : enters Tryz.prog 10 = true := by kernel_rfl

theorem off26_1 : fieldOff Tryz.prog 26 1 = some 1 := by kernel_rfl

theorem ent44 : enters Tryz.prog 44 = true := by kernel_rfl

theorem ent16 : enters Tryz.prog 16 = true := by kernel_rfl


theorem shop_c  (w : World) : Cv Tryz.prog 44 #[] w (.agg shopF.arr) := by
  refine enter (E := []) Tryz.func44 rfl Tryz.ntmps44 rfl (by simp) ?_
  refine c_seq ?_
  refine c_region rfl ?_
  refine l_allocA rfl zero35 ?_; intro g0
  refine l_nil ?_
  refine q_then ?_
  refine c_seq ?_
  refine c_region rfl ?_
  refine gv rfl (y_build (cs := #[_, _, _, _, _]) (cl := [_, _, _, _, _])  zero35 bld35 rfl rfl rfl rfl rfl) ?_
  refine l_storeW (k := 0) (H' := [_]) size35 rfl rfl rfl rfl rfl rfl rfl ?_
  refine l_nil ?_
  refine q_then ?_
  refine c_ret ?_
  exact q_retA (k := 0) Tryz.results44 agg35 rfl rfl rfl () trivial rfl hs_nil


theorem jarBegun_c {ad : List UInt8 → Bool} (w : World) (hAd : AddrIs Tryz.prog 107 w ad) (had : ad wsh = false) : Cv Tryz.prog 12 #[] w (.bool true) := by
  refine enter (E := []) Tryz.func12 rfl Tryz.ntmps12 rfl (by simp) ?_
  refine c_seq ?_
  refine c_region rfl ?_
  refine gv rfl (y_assign rfl) ?_
  refine l_nil ?_
  refine q_then ?_
  refine c_seq ?_
  refine c_region rfl ?_
  refine gv rfl (y_build (cs := #[_, _]) (cl := [_, _])  zero24 bld24 rfl rfl rfl rfl rfl) ?_
  refine l_callU rfl ent43 rfl (fun w hm => ident_c w) ?_
  refine l_call rfl ent10 rfl (fun w hm => put_c (j := jE) (c := identC) (A0 := none) (k0 := 0) w (fun i x h => by simp [jE] at h) jE_ok (fun _ => rfl)) ?_; rintro x14 h14
  rw [jp1, pe1]
  refine gv rfl (y_move rfl) ?_
  refine gv rfl (y_extract rfl rfl) ?_
  refine gv rfl (y_extract rfl rfl) ?_
  refine l_allocA rfl zero24 ?_; intro g1
  refine l_storeW (k := 0) (H' := [_, _]) size24 rfl rfl rfl rfl rfl rfl rfl ?_
  refine gv rfl (y_assign rfl) ?_
  refine l_nil ?_
  refine q_then ?_
  refine c_seq ?_
  refine c_region rfl ?_
  refine l_callU rfl ent43 rfl (fun w hm => ident_c w) ?_
  refine l_allocA rfl zero26 ?_; intro g3
  refine l_storeW (k := 0) (H' := [_, _, _]) size26 rfl rfl rfl rfl rfl rfl rfl ?_
  refine l_nil ?_
  refine q_then ?_
  refine c_seq ?_
  refine c_region rfl ?_
  refine gv rfl (y_faddr off26_1 rfl rfl) ?_
  refine l_store (k := 0) (cs' := #[_, _, _, _, _, _, _, _, _, _, _, _, _]) (H' := [_, _, _]) size9 rfl rfl rfl rfl rfl rfl rfl ?_
  refine gv rfl (y_faddr off26_10 rfl rfl) ?_
  refine l_store (k := 0) (cs' := #[_, _, _, _, _, _, _, _, _, _, _, _, _]) (H' := [_, _, _]) size3 rfl rfl rfl rfl rfl rfl rfl ?_
  refine gv rfl (y_faddr off26_11 rfl rfl) ?_
  refine l_store (k := 0) (cs' := c8.arr) (H' := [_, _, _]) size3 rfl rfl rfl rfl rfl rfl rfl ?_
  refine l_nil ?_
  refine q_then ?_
  refine c_seq ?_
  refine c_region rfl ?_
  refine gv rfl (y_loadW (k := 1)  agg24 rfl rfl rfl) ?_
  refine gv rfl (y_loadW (k := 0)  agg26 rfl rfl rfl) ?_
  refine l_call rfl ent10 rfl (fun w hm => put_c (j := jA) (c := c8) w (sl_of_row hm (k := 2) rfl (fun _ => rfl) rfl) jA_ok (fun h => row_nilcap hm (k := 2) rfl h)) ?_; rintro x24 h24
  rw [jp2, pe2]
  refine gv rfl (y_move rfl) ?_
  refine gv rfl (y_extract rfl rfl) ?_
  refine gv rfl (y_extract rfl rfl) ?_
  refine l_allocA rfl zero24 ?_; intro g4
  refine l_storeW (k := 0) (H' := [_, _, _, _, _]) size24 rfl rfl rfl rfl rfl rfl rfl ?_
  refine gv rfl (y_assign rfl) ?_
  refine l_nil ?_
  refine q_then ?_
  refine c_seq ?_
  refine c_cut (fun _ => True) (fun x : Nat × (Option Addr × Nat) × (Option Addr × Nat) => [(1, .pointer (some ⟨g1, 0, none⟩)), (2, .int .i64 0), (4, .pointer (some ⟨g4, 0, none⟩)), (5, .int .i64 0), (6, .pointer (some ⟨x.1, 0, none⟩)), (7, .slice x.2.2.1 ([u8] : List Ck).length x.2.2.2), (8, .int .i64 0)]) (fun x : Nat × (Option Addr × Nat) × (Option Addr × Nat) => [.blk g1 (.cells #[.slice x14.1 (jA.cks : List Ck).length x14.2, .int .i64 1] 24 (0, 0)), .row (.slice x14.1 (jA.cks : List Ck).length x14.2) 26 13 (jA.cks : List Ck).length ((jA.cks : List Ck).flatMap Ck.cells), .blk g4 (.cells #[.slice x24.1 (jK.cks : List Ck).length x24.2, .int .i64 1] 24 (0, 0)), .row (.slice x24.1 (jK.cks : List Ck).length x24.2) 26 13 (jK.cks : List Ck).length ((jK.cks : List Ck).flatMap Ck.cells), .blk x.1 (.cells #[.slice x.2.1.1 (jU.cks : List Ck).length x.2.1.2, .int .i64 1] 24 (0, 0)), .row (.slice x.2.1.1 (jU.cks : List Ck).length x.2.1.2) 26 13 (jU.cks : List Ck).length ((jU.cks : List Ck).flatMap Ck.cells), .row (.slice x.2.2.1 ([u8] : List Ck).length x.2.2.2) 26 13 ([u8] : List Ck).length (([u8] : List Ck).flatMap Ck.cells)]) ?_ ?_
  · skip
    refine c_drawp (l := #[false, false, false, false, false, false, false, false, false, false, false]) 11 (is := [0, 1, 2, 3, 4]) rfl rfl rfl rfl ?_
    refine h_take (l' := #[true, false, false, false, false, false, false, false, false, false, false]) 0 rfl (by kernel_rfl) rfl rfl (np_cut (np_then np_post)) (hs_pick (is := [0, 1, 2, 3, 4]) rfl rfl) (y_loadW (k := 0)  agg24 rfl rfl rfl) ?_
    refine h_two (l' := #[true, true, false, false, false, false, false, false, false, false, false]) (l'' := #[true, false, false, false, false, false, false, true, false, false, false]) 1 7 rfl rfl (by kernel_rfl) rfl rfl ?_ ?_
    · skip
      refine l_callU rfl ent44 rfl (fun w hm => shop_c w) ?_
      refine l_nil ?_
      refine q_step (fun _ => hs_pick (is := [0, 1, 2, 3, 4]) rfl rfl) ?_
      refine h_two (l' := #[true, true, true, false, false, false, false, false, false, false, false]) (l'' := #[true, true, false, false, false, false, false, true, false, false, false]) 2 7 rfl rfl (by kernel_rfl) rfl rfl ?_ ?_
      · skip
        refine l_call rfl ent16 rfl (fun w hm => get_c (j := jK) (f := shopF) w (hAd.above hm.below) (sl_of_row hm (k := 1) rfl (fun _ => rfl) rfl) jK_ok (fun h => row_nilcap hm (k := 1) rfl h) (by decide)) ?_; rintro x30 h30
        rw [gj1 had, gl1 had, ge1]
        refine l_nil ?_
        refine q_step (fun _ => hs_pick (is := [2, 3, 4, 5, 6]) rfl rfl) ?_
        refine h_take (l' := #[true, true, true, true, false, false, false, false, false, false, false]) 3 rfl (by kernel_rfl) rfl rfl (np_cut (np_then np_post)) (hs_pick (is := [2, 3, 4, 5, 6]) rfl rfl) (y_move rfl) ?_
        refine h_take (l' := #[true, true, true, true, true, false, false, false, false, false, false]) 4 rfl (by kernel_rfl) rfl rfl (np_cut (np_then np_post)) (hs_pick (is := [2, 3, 4, 5, 6]) rfl rfl) (y_extract rfl rfl) ?_
        refine h_take (l' := #[true, true, true, true, true, true, false, false, false, false, false]) 5 rfl (by kernel_rfl) rfl rfl (np_cut (np_then np_post)) (hs_pick (is := [2, 3, 4, 5, 6]) rfl rfl) (y_extract rfl rfl) ?_
        refine h_take (l' := #[true, true, true, true, true, true, true, false, false, false, false]) 6 rfl (by kernel_rfl) rfl rfl (np_cut (np_then np_post)) (hs_pick (is := [2, 3, 4, 5, 6]) rfl rfl) (y_extract rfl rfl) ?_
        refine h_only (l' := #[true, true, true, true, true, true, true, true, false, false, false]) 7 rfl (by kernel_rfl) rfl ?_
        refine l_allocA rfl zero24 ?_; intro g6
        refine l_nil ?_
        refine q_step (fun _ => hs_pick (is := [3, 4, 5, 6, 7]) rfl rfl) ?_
        refine h_only (l' := #[true, true, true, true, true, true, true, true, true, false, false]) 8 rfl (by kernel_rfl) rfl ?_
        refine l_storeW (k := 0) (H' := [_, _, _, _, _, _, _, _]) size24 rfl rfl rfl rfl rfl rfl rfl ?_
        refine l_nil ?_
        refine q_step (fun _ => hs_pick (is := [3, 4, 5, 6, 7]) rfl rfl) ?_
        refine h_take (l' := #[true, true, true, true, true, true, true, true, true, true, false]) 9 rfl (by kernel_rfl) rfl rfl (np_cut (np_then np_post)) (hs_pick (is := [3, 4, 5, 6, 7]) rfl rfl) (y_assign rfl) ?_
        refine h_take (l' := #[true, true, true, true, true, true, true, true, true, true, true]) 10 rfl (by kernel_rfl) rfl rfl (np_cut (np_then np_post)) (hs_pick (is := [3, 4, 5, 6, 7]) rfl rfl) (y_assign rfl) ?_
        refine h_done (by kernel_rfl) ?_
        exact q_cut (g6, x30) trivial (sub_cons rfl (sub_cons rfl (sub_cons rfl (sub_cons rfl (sub_cons rfl (sub_cons rfl (sub_cons rfl sub_nil))))))) (hs_pick (is := [6, 7, 3, 4, 0, 1, 2]) rfl rfl)
      · skip
        refine l_allocA rfl zero24 ?_; intro g6
        refine l_nil ?_
        refine q_step (fun _ => hs_pick (is := [1, 2, 3, 4, 5]) rfl rfl) ?_
        refine h_only (l' := #[true, true, true, false, false, false, false, true, false, false, false]) 2 rfl (by kernel_rfl) rfl ?_
        refine l_call rfl ent16 rfl (fun w hm => get_c (j := jK) (f := shopF) w (hAd.above hm.below) (sl_of_row hm (k := 2) rfl (fun _ => rfl) rfl) jK_ok (fun h => row_nilcap hm (k := 2) rfl h) (by decide)) ?_; rintro x30 h30
        rw [gj1 had, gl1 had, ge1]
        refine l_nil ?_
        refine q_step (fun _ => hs_pick (is := [3, 4, 5, 6, 7]) rfl rfl) ?_
        refine h_take (l' := #[true, true, true, true, false, false, false, true, false, false, false]) 3 rfl (by kernel_rfl) rfl rfl (np_cut (np_then np_post)) (hs_pick (is := [3, 4, 5, 6, 7]) rfl rfl) (y_move rfl) ?_
        refine h_take (l' := #[true, true, true, true, true, false, false, true, false, false, false]) 4 rfl (by kernel_rfl) rfl rfl (np_cut (np_then np_post)) (hs_pick (is := [3, 4, 5, 6, 7]) rfl rfl) (y_extract rfl rfl) ?_
        refine h_take (l' := #[true, true, true, true, true, true, false, true, false, false, false]) 5 rfl (by kernel_rfl) rfl rfl (np_cut (np_then np_post)) (hs_pick (is := [3, 4, 5, 6, 7]) rfl rfl) (y_extract rfl rfl) ?_
        refine h_take (l' := #[true, true, true, true, true, true, true, true, false, false, false]) 6 rfl (by kernel_rfl) rfl rfl (np_cut (np_then np_post)) (hs_pick (is := [3, 4, 5, 6, 7]) rfl rfl) (y_extract rfl rfl) ?_
        refine h_only (l' := #[true, true, true, true, true, true, true, true, true, false, false]) 8 rfl (by kernel_rfl) rfl ?_
        refine l_storeW (k := 2) (H' := [_, _, _, _, _, _, _, _]) size24 rfl rfl rfl rfl rfl rfl rfl ?_
        refine l_nil ?_
        refine q_step (fun _ => hs_pick (is := [3, 4, 5, 6, 7]) rfl rfl) ?_
        refine h_take (l' := #[true, true, true, true, true, true, true, true, true, true, false]) 9 rfl (by kernel_rfl) rfl rfl (np_cut (np_then np_post)) (hs_pick (is := [3, 4, 5, 6, 7]) rfl rfl) (y_assign rfl) ?_
        refine h_take (l' := #[true, true, true, true, true, true, true, true, true, true, true]) 10 rfl (by kernel_rfl) rfl rfl (np_cut (np_then np_post)) (hs_pick (is := [3, 4, 5, 6, 7]) rfl rfl) (y_assign rfl) ?_
        refine h_done (by kernel_rfl) ?_
        exact q_cut (g6, x30) trivial (sub_cons rfl (sub_cons rfl (sub_cons rfl (sub_cons rfl (sub_cons rfl (sub_cons rfl (sub_cons rfl sub_nil))))))) (hs_pick (is := [6, 7, 3, 4, 2, 0, 1]) rfl rfl)
    · skip
      refine l_allocA rfl zero24 ?_; intro g6
      refine l_nil ?_
      refine q_step (fun _ => hs_pick (is := [1, 2, 3, 4, 5]) rfl rfl) ?_
      refine h_only (l' := #[true, true, false, false, false, false, false, true, false, false, false]) 1 rfl (by kernel_rfl) rfl ?_
      refine l_callU rfl ent44 rfl (fun w hm => shop_c w) ?_
      refine l_nil ?_
      refine q_step (fun _ => hs_pick (is := [1, 2, 3, 4, 5]) rfl rfl) ?_
      refine h_only (l' := #[true, true, true, false, false, false, false, true, false, false, false]) 2 rfl (by kernel_rfl) rfl ?_
      refine l_call rfl ent16 rfl (fun w hm => get_c (j := jK) (f := shopF) w (hAd.above hm.below) (sl_of_row hm (k := 2) rfl (fun _ => rfl) rfl) jK_ok (fun h => row_nilcap hm (k := 2) rfl h) (by decide)) ?_; rintro x30 h30
      rw [gj1 had, gl1 had, ge1]
      refine l_nil ?_
      refine q_step (fun _ => hs_pick (is := [3, 4, 5, 6, 7]) rfl rfl) ?_
      refine h_take (l' := #[true, true, true, true, false, false, false, true, false, false, false]) 3 rfl (by kernel_rfl) rfl rfl (np_cut (np_then np_post)) (hs_pick (is := [3, 4, 5, 6, 7]) rfl rfl) (y_move rfl) ?_
      refine h_take (l' := #[true, true, true, true, true, false, false, true, false, false, false]) 4 rfl (by kernel_rfl) rfl rfl (np_cut (np_then np_post)) (hs_pick (is := [3, 4, 5, 6, 7]) rfl rfl) (y_extract rfl rfl) ?_
      refine h_take (l' := #[true, true, true, true, true, true, false, true, false, false, false]) 5 rfl (by kernel_rfl) rfl rfl (np_cut (np_then np_post)) (hs_pick (is := [3, 4, 5, 6, 7]) rfl rfl) (y_extract rfl rfl) ?_
      refine h_take (l' := #[true, true, true, true, true, true, true, true, false, false, false]) 6 rfl (by kernel_rfl) rfl rfl (np_cut (np_then np_post)) (hs_pick (is := [3, 4, 5, 6, 7]) rfl rfl) (y_extract rfl rfl) ?_
      refine h_only (l' := #[true, true, true, true, true, true, true, true, true, false, false]) 8 rfl (by kernel_rfl) rfl ?_
      refine l_storeW (k := 2) (H' := [_, _, _, _, _, _, _, _]) size24 rfl rfl rfl rfl rfl rfl rfl ?_
      refine l_nil ?_
      refine q_step (fun _ => hs_pick (is := [3, 4, 5, 6, 7]) rfl rfl) ?_
      refine h_take (l' := #[true, true, true, true, true, true, true, true, true, true, false]) 9 rfl (by kernel_rfl) rfl rfl (np_cut (np_then np_post)) (hs_pick (is := [3, 4, 5, 6, 7]) rfl rfl) (y_assign rfl) ?_
      refine h_take (l' := #[true, true, true, true, true, true, true, true, true, true, true]) 10 rfl (by kernel_rfl) rfl rfl (np_cut (np_then np_post)) (hs_pick (is := [3, 4, 5, 6, 7]) rfl rfl) (y_assign rfl) ?_
      refine h_done (by kernel_rfl) ?_
      exact q_cut (g6, x30) trivial (sub_cons rfl (sub_cons rfl (sub_cons rfl (sub_cons rfl (sub_cons rfl (sub_cons rfl (sub_cons rfl sub_nil))))))) (hs_pick (is := [6, 7, 3, 4, 2, 0, 1]) rfl rfl)
  · rintro ⟨g6, x30⟩ _
    try dsimp only
    refine q_then ?_
    refine c_seq ?_
    refine c_cut (fun _ => True) (fun x : Nat × (Option Addr × Nat) => [(1, .pointer (some ⟨g1, 0, none⟩)), (2, .int .i64 0), (4, .pointer (some ⟨g4, 0, none⟩)), (5, .int .i64 0), (6, .pointer (some ⟨g6, 0, none⟩)), (7, .slice x30.2.1 ([u8] : List Ck).length x30.2.2), (8, .int .i64 0), (9, .pointer (some ⟨x.1, 0, none⟩)), (10, .int .i64 0)]) (fun x : Nat × (Option Addr × Nat) => [.blk g1 (.cells #[.slice x14.1 (jA.cks : List Ck).length x14.2, .int .i64 1] 24 (0, 0)), .row (.slice x14.1 (jA.cks : List Ck).length x14.2) 26 13 (jA.cks : List Ck).length ((jA.cks : List Ck).flatMap Ck.cells), .blk g4 (.cells #[.slice x24.1 (jK.cks : List Ck).length x24.2, .int .i64 1] 24 (0, 0)), .row (.slice x24.1 (jK.cks : List Ck).length x24.2) 26 13 (jK.cks : List Ck).length ((jK.cks : List Ck).flatMap Ck.cells), .blk g6 (.cells #[.slice x30.1.1 (jU.cks : List Ck).length x30.1.2, .int .i64 1] 24 (0, 0)), .row (.slice x30.1.1 (jU.cks : List Ck).length x30.1.2) 26 13 (jU.cks : List Ck).length ((jU.cks : List Ck).flatMap Ck.cells), .row (.slice x30.2.1 ([u8] : List Ck).length x30.2.2) 26 13 ([u8] : List Ck).length (([u8] : List Ck).flatMap Ck.cells), .blk x.1 (.cells #[.slice x.2.1 ([] : List Ck).length x.2.2, .int .i64 2] 24 (0, 0)), .row (.slice x.2.1 ([] : List Ck).length x.2.2) 26 13 ([] : List Ck).length (([] : List Ck).flatMap Ck.cells)]) ?_ ?_
    · skip
      refine c_drawp (l := #[false, false, false, false, false, false, false, false, false]) 9 (is := [0, 1, 2, 3, 4, 5, 6]) rfl rfl rfl rfl ?_
      refine h_take (l' := #[true, false, false, false, false, false, false, false, false]) 0 rfl (by kernel_rfl) rfl rfl (np_cut (np_then np_post)) (hs_pick (is := [0, 1, 2, 3, 4, 5, 6]) rfl rfl) (y_loadW (k := 2)  agg24 rfl rfl rfl) ?_
      refine h_two (l' := #[true, true, false, false, false, false, false, false, false]) (l'' := #[true, false, false, false, false, false, true, false, false]) 1 6 rfl rfl (by kernel_rfl) rfl rfl ?_ ?_
      · skip
        refine l_callU rfl ent43 rfl (fun w hm => ident_c w) ?_
        refine l_nil ?_
        refine q_step (fun _ => hs_pick (is := [0, 1, 2, 3, 4, 5, 6]) rfl rfl) ?_
        refine h_two (l' := #[true, true, true, false, false, false, false, false, false]) (l'' := #[true, true, false, false, false, false, true, false, false]) 2 6 rfl rfl (by kernel_rfl) rfl rfl ?_ ?_
        · skip
          refine l_call rfl ent10 rfl (fun w hm => put_c (j := jK) (c := identC) w (sl_of_row hm (k := 3) rfl (fun _ => rfl) rfl) jK_ok (fun h => row_nilcap hm (k := 3) rfl h)) ?_; rintro x37 h37
          rw [jp3, pe3]
          refine l_nil ?_
          refine q_step (fun _ => hs_pick (is := [1, 2, 3, 4, 5, 6, 7]) rfl rfl) ?_
          refine h_take (l' := #[true, true, true, true, false, false, false, false, false]) 3 rfl (by kernel_rfl) rfl rfl (np_cut (np_then np_post)) (hs_pick (is := [1, 2, 3, 4, 5, 6, 7]) rfl rfl) (y_move rfl) ?_
          refine h_take (l' := #[true, true, true, true, true, false, false, false, false]) 4 rfl (by kernel_rfl) rfl rfl (np_cut (np_then np_post)) (hs_pick (is := [1, 2, 3, 4, 5, 6, 7]) rfl rfl) (y_extract rfl rfl) ?_
          refine h_take (l' := #[true, true, true, true, true, true, false, false, false]) 5 rfl (by kernel_rfl) rfl rfl (np_cut (np_then np_post)) (hs_pick (is := [1, 2, 3, 4, 5, 6, 7]) rfl rfl) (y_extract rfl rfl) ?_
          refine h_only (l' := #[true, true, true, true, true, true, true, false, false]) 6 rfl (by kernel_rfl) rfl ?_
          refine l_allocA rfl zero24 ?_; intro g9
          refine l_nil ?_
          refine q_step (fun _ => hs_pick (is := [2, 3, 4, 5, 6, 7, 8]) rfl rfl) ?_
          refine h_only (l' := #[true, true, true, true, true, true, true, true, false]) 7 rfl (by kernel_rfl) rfl ?_
          refine l_storeW (k := 0) (H' := [_, _, _, _, _, _, _, _, _]) size24 rfl rfl rfl rfl rfl rfl rfl ?_
          refine l_nil ?_
          refine q_step (fun _ => hs_pick (is := [2, 3, 4, 5, 6, 7, 8]) rfl rfl) ?_
          refine h_take (l' := #[true, true, true, true, true, true, true, true, true]) 8 rfl (by kernel_rfl) rfl rfl (np_cut (np_then np_post)) (hs_pick (is := [2, 3, 4, 5, 6, 7, 8]) rfl rfl) (y_assign rfl) ?_
          refine h_done (by kernel_rfl) ?_
          exact q_cut (g9, x37) trivial (sub_cons rfl (sub_cons rfl (sub_cons rfl (sub_cons rfl (sub_cons rfl (sub_cons rfl (sub_cons rfl (sub_cons rfl (sub_cons rfl sub_nil))))))))) (hs_pick (is := [2, 3, 4, 5, 6, 7, 8, 0, 1]) rfl rfl)
        · skip
          refine l_allocA rfl zero24 ?_; intro g9
          refine l_nil ?_
          refine q_step (fun _ => hs_pick (is := [1, 2, 3, 4, 5, 6, 7]) rfl rfl) ?_
          refine h_only (l' := #[true, true, true, false, false, false, true, false, false]) 2 rfl (by kernel_rfl) rfl ?_
          refine l_call rfl ent10 rfl (fun w hm => put_c (j := jK) (c := identC) w (sl_of_row hm (k := 4) rfl (fun _ => rfl) rfl) jK_ok (fun h => row_nilcap hm (k := 4) rfl h)) ?_; rintro x37 h37
          rw [jp3, pe3]
          refine l_nil ?_
          refine q_step (fun _ => hs_pick (is := [2, 3, 4, 5, 6, 7, 8]) rfl rfl) ?_
          refine h_take (l' := #[true, true, true, true, false, false, true, false, false]) 3 rfl (by kernel_rfl) rfl rfl (np_cut (np_then np_post)) (hs_pick (is := [2, 3, 4, 5, 6, 7, 8]) rfl rfl) (y_move rfl) ?_
          refine h_take (l' := #[true, true, true, true, true, false, true, false, false]) 4 rfl (by kernel_rfl) rfl rfl (np_cut (np_then np_post)) (hs_pick (is := [2, 3, 4, 5, 6, 7, 8]) rfl rfl) (y_extract rfl rfl) ?_
          refine h_take (l' := #[true, true, true, true, true, true, true, false, false]) 5 rfl (by kernel_rfl) rfl rfl (np_cut (np_then np_post)) (hs_pick (is := [2, 3, 4, 5, 6, 7, 8]) rfl rfl) (y_extract rfl rfl) ?_
          refine h_only (l' := #[true, true, true, true, true, true, true, true, false]) 7 rfl (by kernel_rfl) rfl ?_
          refine l_storeW (k := 1) (H' := [_, _, _, _, _, _, _, _, _]) size24 rfl rfl rfl rfl rfl rfl rfl ?_
          refine l_nil ?_
          refine q_step (fun _ => hs_pick (is := [2, 3, 4, 5, 6, 7, 8]) rfl rfl) ?_
          refine h_take (l' := #[true, true, true, true, true, true, true, true, true]) 8 rfl (by kernel_rfl) rfl rfl (np_cut (np_then np_post)) (hs_pick (is := [2, 3, 4, 5, 6, 7, 8]) rfl rfl) (y_assign rfl) ?_
          refine h_done (by kernel_rfl) ?_
          exact q_cut (g9, x37) trivial (sub_cons rfl (sub_cons rfl (sub_cons rfl (sub_cons rfl (sub_cons rfl (sub_cons rfl (sub_cons rfl (sub_cons rfl (sub_cons rfl sub_nil))))))))) (hs_pick (is := [2, 3, 4, 5, 6, 7, 8, 1, 0]) rfl rfl)
      · skip
        refine l_allocA rfl zero24 ?_; intro g9
        refine l_nil ?_
        refine q_step (fun _ => hs_pick (is := [1, 2, 3, 4, 5, 6, 7]) rfl rfl) ?_
        refine h_only (l' := #[true, true, false, false, false, false, true, false, false]) 1 rfl (by kernel_rfl) rfl ?_
        refine l_callU rfl ent43 rfl (fun w hm => ident_c w) ?_
        refine l_nil ?_
        refine q_step (fun _ => hs_pick (is := [1, 2, 3, 4, 5, 6, 7]) rfl rfl) ?_
        refine h_only (l' := #[true, true, true, false, false, false, true, false, false]) 2 rfl (by kernel_rfl) rfl ?_
        refine l_call rfl ent10 rfl (fun w hm => put_c (j := jK) (c := identC) w (sl_of_row hm (k := 4) rfl (fun _ => rfl) rfl) jK_ok (fun h => row_nilcap hm (k := 4) rfl h)) ?_; rintro x37 h37
        rw [jp3, pe3]
        refine l_nil ?_
        refine q_step (fun _ => hs_pick (is := [2, 3, 4, 5, 6, 7, 8]) rfl rfl) ?_
        refine h_take (l' := #[true, true, true, true, false, false, true, false, false]) 3 rfl (by kernel_rfl) rfl rfl (np_cut (np_then np_post)) (hs_pick (is := [2, 3, 4, 5, 6, 7, 8]) rfl rfl) (y_move rfl) ?_
        refine h_take (l' := #[true, true, true, true, true, false, true, false, false]) 4 rfl (by kernel_rfl) rfl rfl (np_cut (np_then np_post)) (hs_pick (is := [2, 3, 4, 5, 6, 7, 8]) rfl rfl) (y_extract rfl rfl) ?_
        refine h_take (l' := #[true, true, true, true, true, true, true, false, false]) 5 rfl (by kernel_rfl) rfl rfl (np_cut (np_then np_post)) (hs_pick (is := [2, 3, 4, 5, 6, 7, 8]) rfl rfl) (y_extract rfl rfl) ?_
        refine h_only (l' := #[true, true, true, true, true, true, true, true, false]) 7 rfl (by kernel_rfl) rfl ?_
        refine l_storeW (k := 1) (H' := [_, _, _, _, _, _, _, _, _]) size24 rfl rfl rfl rfl rfl rfl rfl ?_
        refine l_nil ?_
        refine q_step (fun _ => hs_pick (is := [2, 3, 4, 5, 6, 7, 8]) rfl rfl) ?_
        refine h_take (l' := #[true, true, true, true, true, true, true, true, true]) 8 rfl (by kernel_rfl) rfl rfl (np_cut (np_then np_post)) (hs_pick (is := [2, 3, 4, 5, 6, 7, 8]) rfl rfl) (y_assign rfl) ?_
        refine h_done (by kernel_rfl) ?_
        exact q_cut (g9, x37) trivial (sub_cons rfl (sub_cons rfl (sub_cons rfl (sub_cons rfl (sub_cons rfl (sub_cons rfl (sub_cons rfl (sub_cons rfl (sub_cons rfl sub_nil))))))))) (hs_pick (is := [2, 3, 4, 5, 6, 7, 8, 1, 0]) rfl rfl)
    · rintro ⟨g9, x37⟩ _
      try dsimp only
      refine q_then ?_
      refine c_seq ?_
      refine c_region rfl ?_
      refine gv rfl (y_move rfl) ?_
      refine gv rfl (y_eql rfl rfl) ?_
      refine gv rfl (y_move rfl) ?_
      refine g_dec (t := 42) rfl ?_ ?_
      · intro h42
        refine g_on (t := 42) rfl rfl ?_
        refine gv rfl (y_faddr off24_0 rfl rfl) ?_
        refine g_on (t := 42) rfl rfl ?_
        refine gv rfl (y_load (k := 0)  one22 rfl rfl rfl) ?_
        refine g_on (t := 42) rfl rfl ?_
        refine gv rfl (y_len elem22 rfl) ?_
        refine g_on (t := 42) rfl rfl ?_
        refine gv rfl (y_eql rfl rfl) ?_
        refine gv rfl (y_pick_t rfl rfl) ?_
        refine gv rfl (y_move rfl) ?_
        refine g_dec (t := 48) rfl ?_ ?_
        · intro h48
          refine g_on (t := 48) rfl rfl ?_
          refine gv rfl (y_faddr off24_1 rfl rfl) ?_
          refine g_on (t := 48) rfl rfl ?_
          refine gv rfl (y_load (k := 0)  one3 rfl rfl rfl) ?_
          refine g_on (t := 48) rfl rfl ?_
          refine gv rfl (y_eql rfl rfl) ?_
          refine gv rfl (y_pick_t rfl rfl) ?_
          refine gv rfl (y_move rfl) ?_
          refine g_dec (t := 53) rfl ?_ ?_
          · intro h53
            refine g_on (t := 53) rfl rfl ?_
            refine gv rfl (y_move rfl) ?_
            refine g_on (t := 53) rfl rfl ?_
            refine gv rfl (y_eql rfl rfl) ?_
            refine gv rfl (y_pick_t rfl rfl) ?_
            refine gv rfl (y_move rfl) ?_
            refine g_dec (t := 57) rfl ?_ ?_
            · intro h57
              refine g_on (t := 57) rfl rfl ?_
              refine gv rfl (y_faddr off24_0 rfl rfl) ?_
              refine g_on (t := 57) rfl rfl ?_
              refine gv rfl (y_load (k := 2)  one22 rfl rfl rfl) ?_
              refine g_on (t := 57) rfl rfl ?_
              refine gv rfl (y_len elem22 rfl) ?_
              refine g_on (t := 57) rfl rfl ?_
              refine gv rfl (y_eql rfl rfl) ?_
              refine gv rfl (y_pick_t rfl rfl) ?_
              refine gv rfl (y_move rfl) ?_
              refine g_dec (t := 63) rfl ?_ ?_
              · intro h63
                refine g_on (t := 63) rfl rfl ?_
                refine gv rfl (y_faddr off24_0 rfl rfl) ?_
                refine g_on (t := 63) rfl rfl ?_
                refine gv rfl (y_load (k := 2)  one22 rfl rfl rfl) ?_
                refine g_on (t := 63) rfl rfl ?_
                refine gv rfl (y_iaddr_row (k := 3) elem22 size26 rfl (fun _ => rfl) rfl rfl rfl (by decide) rfl) ?_
                refine g_on (t := 63) rfl rfl ?_
                refine gv rfl (y_faddr_row (k := 3) (i := 0) off26_1 rfl (fun _ => rfl) rfl rfl rfl rfl) ?_
                refine g_on (t := 63) rfl rfl ?_
                refine gv rfl (y_load_row (k := 3) (i := 0) one9 rfl (fun _ => rfl) rfl 1 rfl rfl rfl rfl) ?_
                refine g_on (t := 63) rfl rfl ?_
                refine gv rfl (y_seq rfl rfl) ?_
                refine gv rfl (y_pick_t rfl rfl) ?_
                refine gv rfl (y_move rfl) ?_
                refine g_dec (t := 71) rfl ?_ ?_
                · intro h71
                  refine g_on (t := 71) rfl rfl ?_
                  refine gv rfl (y_faddr off24_0 rfl rfl) ?_
                  refine g_on (t := 71) rfl rfl ?_
                  refine gv rfl (y_load (k := 2)  one22 rfl rfl rfl) ?_
                  refine g_on (t := 71) rfl rfl ?_
                  refine gv rfl (y_iaddr_row (k := 3) elem22 size26 rfl (fun _ => rfl) rfl rfl rfl (by decide) rfl) ?_
                  refine g_on (t := 71) rfl rfl ?_
                  refine gv rfl (y_faddr_row (k := 3) (i := 0) off26_10 rfl (fun _ => rfl) rfl rfl rfl rfl) ?_
                  refine g_on (t := 71) rfl rfl ?_
                  refine gv rfl (y_load_row (k := 3) (i := 0) one3 rfl (fun _ => rfl) rfl 10 rfl rfl rfl rfl) ?_
                  refine g_on (t := 71) rfl rfl ?_
                  refine gv rfl (y_eql rfl rfl) ?_
                  refine gv rfl (y_pick_t rfl rfl) ?_
                  refine gv rfl (y_move rfl) ?_
                  refine g_dec (t := 79) rfl ?_ ?_
                  · intro h79
                    refine g_on (t := 79) rfl rfl ?_
                    refine gv rfl (y_move rfl) ?_
                    refine g_on (t := 79) rfl rfl ?_
                    refine gv rfl (y_eql rfl rfl) ?_
                    refine gv rfl (y_pick_t rfl rfl) ?_
                    refine gv rfl (y_move rfl) ?_
                    refine g_dec (t := 83) rfl ?_ ?_
                    · intro h83
                      refine g_on (t := 83) rfl rfl ?_
                      refine gv rfl (y_move rfl) ?_
                      refine g_on (t := 83) rfl rfl ?_
                      refine gv rfl (y_len elem22 rfl) ?_
                      refine g_on (t := 83) rfl rfl ?_
                      refine gv rfl (y_eql rfl rfl) ?_
                      refine gv rfl (y_pick_t rfl rfl) ?_
                      refine gv rfl (y_move rfl) ?_
                      refine g_dec (t := 88) rfl ?_ ?_
                      · intro h88
                        refine g_on (t := 88) rfl rfl ?_
                        refine gv rfl (y_move rfl) ?_
                        refine g_on (t := 88) rfl rfl ?_
                        refine gv rfl (y_iaddr_row (k := 6) elem22 size26 rfl (fun _ => rfl) rfl rfl rfl (by decide) rfl) ?_
                        refine g_on (t := 88) rfl rfl ?_
                        refine gv rfl (y_faddr_row (k := 6) (i := 0) off26_11 rfl (fun _ => rfl) rfl rfl rfl rfl) ?_
                        refine g_on (t := 88) rfl rfl ?_
                        refine gv rfl (y_load_row (k := 6) (i := 0) one3 rfl (fun _ => rfl) rfl 11 rfl rfl rfl rfl) ?_
                        refine g_on (t := 88) rfl rfl ?_
                        refine gv rfl (y_eql rfl rfl) ?_
                        refine gv rfl (y_pick_t rfl rfl) ?_
                        refine gv rfl (y_move rfl) ?_
                        refine g_dec (t := 95) rfl ?_ ?_
                        · intro h95
                          refine g_on (t := 95) rfl rfl ?_
                          refine gv rfl (y_faddr off24_0 rfl rfl) ?_
                          refine g_on (t := 95) rfl rfl ?_
                          refine gv rfl (y_load (k := 4)  one22 rfl rfl rfl) ?_
                          refine g_on (t := 95) rfl rfl ?_
                          refine gv rfl (y_len elem22 rfl) ?_
                          refine g_on (t := 95) rfl rfl ?_
                          refine gv rfl (y_eql rfl rfl) ?_
                          refine gv rfl (y_pick_t rfl rfl) ?_
                          refine gv rfl (y_move rfl) ?_
                          refine g_dec (t := 101) rfl ?_ ?_
                          · intro h101
                            refine g_on (t := 101) rfl rfl ?_
                            refine gv rfl (y_faddr off24_0 rfl rfl) ?_
                            refine g_on (t := 101) rfl rfl ?_
                            refine gv rfl (y_load (k := 4)  one22 rfl rfl rfl) ?_
                            refine g_on (t := 101) rfl rfl ?_
                            refine gv rfl (y_iaddr_row (k := 5) elem22 size26 rfl (fun _ => rfl) rfl rfl rfl (by decide) rfl) ?_
                            refine g_on (t := 101) rfl rfl ?_
                            refine gv rfl (y_faddr_row (k := 5) (i := 0) off26_11 rfl (fun _ => rfl) rfl rfl rfl rfl) ?_
                            refine g_on (t := 101) rfl rfl ?_
                            refine gv rfl (y_load_row (k := 5) (i := 0) one3 rfl (fun _ => rfl) rfl 11 rfl rfl rfl rfl) ?_
                            refine g_on (t := 101) rfl rfl ?_
                            refine gv rfl (y_eql rfl rfl) ?_
                            refine gv rfl (y_pick_t rfl rfl) ?_
                            refine gv rfl (y_move rfl) ?_
                            refine g_dec (t := 109) rfl ?_ ?_
                            · intro h109
                              refine g_on (t := 109) rfl rfl ?_
                              refine gv rfl (y_move rfl) ?_
                              refine g_on (t := 109) rfl rfl ?_
                              refine gv rfl (y_eql rfl rfl) ?_
                              refine gv rfl (y_pick_t rfl rfl) ?_
                              refine gv rfl (y_move rfl) ?_
                              refine g_dec (t := 113) rfl ?_ ?_
                              · intro h113
                                refine g_on (t := 113) rfl rfl ?_
                                refine gv rfl (y_faddr off24_0 rfl rfl) ?_
                                refine g_on (t := 113) rfl rfl ?_
                                refine gv rfl (y_load (k := 7)  one22 rfl rfl rfl) ?_
                                refine g_on (t := 113) rfl rfl ?_
                                refine gv rfl (y_len elem22 rfl) ?_
                                refine g_on (t := 113) rfl rfl ?_
                                refine gv rfl (y_eql rfl rfl) ?_
                                refine gv rfl (y_pick_t rfl rfl) ?_
                                refine gv rfl (y_move rfl) ?_
                                refine g_dec (t := 119) rfl ?_ ?_
                                · intro h119
                                  refine g_on (t := 119) rfl rfl ?_
                                  refine l_callU rfl ent43 rfl (fun w hm => ident_c w) ?_
                                  refine g_on (t := 119) rfl rfl ?_
                                  refine l_bslice (cl := [_, _, _, _, _, _, _, _, _, _, _, _, _]) rfl elem22 ap26 zero26 rfl rfl rfl rfl rfl rfl rfl ?_; intro g121
                                  refine g_on (t := 119) rfl rfl ?_
                                  refine gv rfl (y_build (cs := #[_, _]) (cl := [_, _])  zero24 bld24 rfl rfl rfl rfl rfl) ?_
                                  refine g_on (t := 119) rfl rfl ?_
                                  refine l_callU rfl ent13 rfl (fun w hm => jarCheck_c (j := jI) w (sl_of_blk hm (k := 0) (l := jI.cks) rfl rfl (fun _ => rfl)) jI_ok) ?_
                                  rw [jc4]
                                  refine g_on (t := 119) rfl rfl ?_
                                  refine gv rfl (y_eql rfl rfl) ?_
                                  refine gv rfl (y_pick_t rfl rfl) ?_
                                  refine gv rfl (y_assign rfl) ?_
                                  refine l_nil ?_
                                  refine q_then ?_
                                  refine c_ret ?_
                                  exact q_ret1 Tryz.results12 rfl () trivial rfl hs_nil
                                · intro h119
                                  exact absurd (by decide) h119
                              · intro h113
                                exact absurd (by decide) h113
                            · intro h109
                              exact absurd (by decide) h109
                          · intro h101
                            exact absurd (by decide) h101
                        · intro h95
                          exact absurd (by decide) h95
                      · intro h88
                        exact absurd (by decide) h88
                    · intro h83
                      exact absurd (by decide) h83
                  · intro h79
                    exact absurd (by decide) h79
                · intro h71
                  exact absurd (by decide) h71
              · intro h63
                exact absurd (by decide) h63
            · intro h57
              exact absurd (by decide) h57
          · intro h53
            exact absurd (by decide) h53
        · intro h48
          exact absurd (by decide) h48
      · intro h42
        exact absurd (by decide) h42

theorem ent12 : enters Tryz.prog 12 = true := by kernel_rfl

theorem ent15 : enters Tryz.prog 15 = true := by kernel_rfl


theorem ent21 : enters Tryz.prog 21 = true := by kernel_rfl

theorem sameKey_c {a b : Ck} (w : World) : Cv Tryz.prog 21 #[.agg a.arr, .agg b.arr] w (.bool (keyEq a b)) := by
  refine enter (E := [(0, .agg a.arr), (1, .agg b.arr)]) Tryz.func21 rfl Tryz.ntmps21 rfl (by simp) ?_
  refine c_seq ?_
  refine c_region rfl ?_
  refine l_boxA rfl rfl ?_; intro g2
  refine l_boxA rfl rfl ?_; intro g3
  refine gv rfl (y_assign rfl) ?_
  refine l_nil ?_
  refine q_then ?_
  refine c_seq ?_
  refine c_region rfl ?_
  refine gv rfl (y_faddr off26_0 rfl rfl) ?_
  refine gv rfl (y_load (k := 1)  one9 rfl rfl rfl) ?_
  refine gv rfl (y_faddr off26_0 rfl rfl) ?_
  refine gv rfl (y_load (k := 0)  one9 rfl rfl rfl) ?_
  refine gv rfl (y_seq rfl rfl) ?_
  refine gv rfl (y_move rfl) ?_
  refine g_dec (t := 10) rfl ?_ ?_
  · intro h10
    refine g_on (t := 10) rfl rfl ?_
    refine gv rfl (y_faddr off26_2 rfl rfl) ?_
    refine g_on (t := 10) rfl rfl ?_
    refine gv rfl (y_load (k := 1)  one9 rfl rfl rfl) ?_
    refine g_on (t := 10) rfl rfl ?_
    refine gv rfl (y_faddr off26_2 rfl rfl) ?_
    refine g_on (t := 10) rfl rfl ?_
    refine gv rfl (y_load (k := 0)  one9 rfl rfl rfl) ?_
    refine g_on (t := 10) rfl rfl ?_
    refine gv rfl (y_seq rfl rfl) ?_
    refine gv rfl (y_pick_t rfl rfl) ?_
    refine gv rfl (y_move rfl) ?_
    refine g_dec (t := 17) rfl ?_ ?_
    · intro h17
      refine g_on (t := 17) rfl rfl ?_
      refine gv rfl (y_faddr off26_3 rfl rfl) ?_
      refine g_on (t := 17) rfl rfl ?_
      refine gv rfl (y_load (k := 1)  one9 rfl rfl rfl) ?_
      refine g_on (t := 17) rfl rfl ?_
      refine gv rfl (y_faddr off26_3 rfl rfl) ?_
      refine g_on (t := 17) rfl rfl ?_
      refine gv rfl (y_load (k := 0)  one9 rfl rfl rfl) ?_
      refine g_on (t := 17) rfl rfl ?_
      refine gv rfl (y_seq rfl rfl) ?_
      refine gv rfl (y_pick_t rfl rfl) ?_
      refine gv rfl (y_assign rfl) ?_
      refine l_nil ?_
      refine q_then ?_
      refine c_ret ?_
      exact q_ret1 Tryz.results21 rfl () trivial (congrArg Value.bool (by simp [keyEq, *])) hs_nil
    · intro h17
      refine g_off (t := 17) rfl rfl rfl rfl ?_
      refine g_off (t := 17) rfl rfl rfl rfl ?_
      refine g_off (t := 17) rfl rfl rfl rfl ?_
      refine g_off (t := 17) rfl rfl rfl rfl ?_
      refine g_off (t := 17) rfl rfl rfl rfl ?_
      refine gv rfl (y_pick_f rfl rfl) ?_
      refine gv rfl (y_assign rfl) ?_
      refine l_nil ?_
      refine q_then ?_
      refine c_ret ?_
      exact q_ret1 Tryz.results21 rfl () trivial (congrArg Value.bool (by simp [keyEq, *])) hs_nil
  · intro h10
    refine g_off (t := 10) rfl rfl rfl rfl ?_
    refine g_off (t := 10) rfl rfl rfl rfl ?_
    refine g_off (t := 10) rfl rfl rfl rfl ?_
    refine g_off (t := 10) rfl rfl rfl rfl ?_
    refine g_off (t := 10) rfl rfl rfl rfl ?_
    refine gv rfl (y_pick_f rfl rfl) ?_
    refine gv rfl (y_move rfl) ?_
    refine g_off (t := 17) rfl rfl rfl rfl ?_
    refine g_off (t := 17) rfl rfl rfl rfl ?_
    refine g_off (t := 17) rfl rfl rfl rfl ?_
    refine g_off (t := 17) rfl rfl rfl rfl ?_
    refine g_off (t := 17) rfl rfl rfl rfl ?_
    refine gv rfl (y_pick_f rfl rfl) ?_
    refine gv rfl (y_assign rfl) ?_
    refine l_nil ?_
    refine q_then ?_
    refine c_ret ?_
    exact q_ret1 Tryz.results21 rfl () trivial (congrArg Value.bool (by simp [keyEq, *])) hs_nil


theorem ent38 : enters Tryz.prog 38 = true := by kernel_rfl

theorem ent39 : enters Tryz.prog 39 = true := by kernel_rfl

theorem ent75 : enters Tryz.prog 75 = true := by kernel_rfl


theorem noMoment_c {n : Int} (w : World) : Cv Tryz.prog 38 #[.int .i64 n] w (.bool (decide (¬ isM n))) := by
  refine enter (E := [(0, .int .i64 n)]) Tryz.func38 rfl Tryz.ntmps38 rfl (by simp) ?_
  refine c_seq ?_
  refine c_region rfl ?_
  refine gv rfl (y_assign rfl) ?_
  refine l_nil ?_
  refine q_then ?_
  refine c_seq ?_
  refine c_region rfl ?_
  refine gv rfl (y_move rfl) ?_
  refine gv rfl (y_lss rfl rfl) ?_
  refine gv rfl (y_move rfl) ?_
  refine g_dec (t := 5) rfl ?_ ?_
  · intro h5
    refine g_off (t := 5) rfl rfl rfl rfl ?_
    refine g_off (t := 5) rfl rfl rfl rfl ?_
    refine gv rfl (y_pick_t rfl rfl) ?_
    refine gv rfl (y_assign rfl) ?_
    refine l_nil ?_
    refine q_then ?_
    refine c_ret ?_
    exact q_ret1 Tryz.results38 rfl () trivial (bt (by unfold isM; omega)) hs_nil
  · intro h5
    refine g_on (t := 5) rfl rfl ?_
    refine gv rfl (y_move rfl) ?_
    refine g_on (t := 5) rfl rfl ?_
    refine gv rfl (y_gtr rfl rfl) ?_
    refine gv rfl (y_pick_f rfl rfl) ?_
    refine gv rfl (y_assign rfl) ?_
    refine l_nil ?_
    refine q_then ?_
    refine c_ret ?_
    exact q_ret1 Tryz.results38 rfl () trivial (bd (by unfold isM; omega)) hs_nil


theorem noMoments_c {c : Ck} (w : World) : Cv Tryz.prog 39 #[.agg c.arr] w (.bool (decide (¬(isM c.created ∧ isM c.used)))) := by
  refine enter (E := [(0, .agg c.arr)]) Tryz.func39 rfl Tryz.ntmps39 rfl (by simp) ?_
  refine c_seq ?_
  refine c_region rfl ?_
  refine l_boxA rfl rfl ?_; intro g1
  refine gv rfl (y_assign rfl) ?_
  refine l_nil ?_
  refine q_then ?_
  refine c_seq ?_
  refine c_region rfl ?_
  refine gv rfl (y_faddr off26_10 rfl rfl) ?_
  refine gv rfl (y_load (k := 0)  one3 rfl rfl rfl) ?_
  refine l_callU rfl ent38 rfl (fun w hm => noMoment_c w) ?_
  refine gv rfl (y_move rfl) ?_
  refine g_dec (t := 6) rfl ?_ ?_
  · intro h6
    refine g_off (t := 6) rfl rfl rfl rfl ?_
    refine g_off (t := 6) rfl rfl rfl rfl ?_
    refine g_off (t := 6) rfl rfl rfl rfl ?_
    refine gv rfl (y_pick_t rfl rfl) ?_
    refine gv rfl (y_assign rfl) ?_
    refine l_nil ?_
    refine q_then ?_
    refine c_ret ?_
    exact q_ret1 Tryz.results39 rfl () trivial (bt (by simp_all)) hs_nil
  · intro h6
    refine g_on (t := 6) rfl rfl ?_
    refine gv rfl (y_faddr off26_11 rfl rfl) ?_
    refine g_on (t := 6) rfl rfl ?_
    refine gv rfl (y_load (k := 0)  one3 rfl rfl rfl) ?_
    refine g_on (t := 6) rfl rfl ?_
    refine l_callU rfl ent38 rfl (fun w hm => noMoment_c w) ?_
    refine gv rfl (y_pick_f rfl rfl) ?_
    refine gv rfl (y_assign rfl) ?_
    refine l_nil ?_
    refine q_then ?_
    refine c_ret ?_
    exact q_ret1 Tryz.results39 rfl () trivial (bd (by simp_all)) hs_nil


theorem isLive_c {c : Ck} {now : Int} (w : World) : Cv Tryz.prog 75 #[.agg c.arr, .int .i64 now] w (.bool (decide (c.expiry > now))) := by
  refine enter (E := [(0, .agg c.arr), (1, .int .i64 now)]) Tryz.func75 rfl Tryz.ntmps75 rfl (by simp) ?_
  refine c_seq ?_
  refine c_region rfl ?_
  refine l_boxA rfl rfl ?_; intro g2
  refine gv rfl (y_assign rfl) ?_
  refine l_nil ?_
  refine q_then ?_
  refine c_seq ?_
  refine c_region rfl ?_
  refine gv rfl (y_move rfl) ?_
  refine gv rfl (y_faddr off26_9 rfl rfl) ?_
  refine gv rfl (y_load (k := 0)  one3 rfl rfl rfl) ?_
  refine gv rfl (y_lss rfl rfl) ?_
  refine gv rfl (y_assign rfl) ?_
  refine l_nil ?_
  refine q_then ?_
  refine c_ret ?_
  exact q_ret1 Tryz.results75 rfl () trivial rfl hs_nil


theorem refCheck_c {j : Ja} {A0 : Option Addr} {k0 : Nat} (w : World) (hJ : Sl Ck.cells 13 w A0 j.cks) (hlen : j.cks.length ≤ 1073741824) : Cv Tryz.prog 14 #[.agg (j.arr A0 k0)] w (.int .i64 (jarErr j)) := by
  refine enter (E := [(0, .agg (j.arr A0 k0))]) Tryz.func14 rfl Tryz.ntmps14 rfl (by simp) ?_
  refine c_seq ?_
  refine c_region rfl ?_
  refine l_boxA rfl rfl ?_; intro g1
  refine gv rfl (y_assign rfl) ?_
  refine l_nil ?_
  refine q_then ?_
  refine c_seq ?_
  refine c_seq ?_
  refine c_region rfl ?_
  refine gv rfl (y_faddr off24_0 rfl rfl) ?_
  refine gv rfl (y_load (k := 0)  one22 rfl rfl rfl) ?_
  refine gv rfl (y_len elem22 rfl) ?_
  refine gv rfl (y_gtr rfl rfl) ?_
  refine l_nil ?_
  refine q_then ?_
  refine c_dec rfl ?_ ?_
  · intro h10
    refine c_seq ?_
    refine c_region rfl ?_
    refine gv rfl (y_assign rfl) ?_
    refine l_nil ?_
    refine q_then ?_
    refine c_ret ?_
    refine q_then_ret ?_
    exact q_ret1 Tryz.results14 rfl () trivial (congrArg (Value.int .i64) (show jarErr j = 2 from if_pos h10).symm) hs_nil
  · intro h10
    refine c_skip ?_
    refine q_then ?_
    refine c_seq ?_
    refine c_seq ?_
    refine c_region rfl ?_
    refine gv rfl (y_assign rfl) ?_
    refine l_nil ?_
    refine q_then ?_
    refine c_block ?_
    refine loop (Ef := [(1, _)]) (Hf := [_]) (fun s : Nat => s ≤ j.cks.length ∧ ∀ i, i < s → ckAt j i = 0) (fun s : Nat => [(3, .int .i64 (s : Int))]) (fun s : Nat => []) (fun s : Nat => j.cks.length - s) 0 ⟨by omega, none_yet⟩ (sub_cons rfl sub_nil) (sub_cons rfl sub_nil) (hs_pick (is := [0]) rfl rfl) ?_
    rintro s ⟨hs, hI⟩
    refine c_sub (E' := [(3, _), (1, _)]) (sub_cons rfl (sub_cons rfl sub_nil)) ?_
    refine c_seq ?_
    refine c_seq ?_
    refine c_region rfl ?_
    refine gv rfl (y_move rfl) ?_
    refine gv rfl (y_faddr off24_0 rfl rfl) ?_
    refine gv rfl (y_load (k := 0)  one22 rfl rfl rfl) ?_
    refine gv rfl (y_len elem22 rfl) ?_
    refine gv rfl (y_lss rfl rfl) ?_
    refine l_nil ?_
    refine q_then ?_
    refine c_dec rfl ?_ ?_
    · intro h15
      have hlt : s < j.cks.length := by omega
      obtain ⟨v, hv⟩ := get_lt hlt
      refine c_skip ?_
      refine q_then ?_
      refine c_seq ?_
      refine c_block ?_
      refine c_seq ?_
      refine c_region rfl ?_
      refine gv rfl (y_faddr off24_0 rfl rfl) ?_
      refine gv rfl (y_load (k := 0)  one22 rfl rfl rfl) ?_
      refine gv rfl (y_move rfl) ?_
      refine gve rfl (y_iaddr elem22 size26 hJ rfl rfl rfl (by omega) hv) ?_; rintro _ ⟨p21, rfl, hp21⟩
      refine gv rfl (y_loadA_el agg26 rfl hp21 rfl) ?_
      refine l_allocA rfl zero26 ?_; intro g4
      refine l_storeW (k := 0) (H' := [_, _]) size26 rfl rfl rfl rfl rfl rfl rfl ?_
      refine l_nil ?_
      refine q_then ?_
      refine c_seq ?_
      refine c_seq ?_
      refine c_region rfl ?_
      refine gv rfl (y_loadW (k := 0)  agg26 rfl rfl rfl) ?_
      refine l_callU rfl ent39 rfl (fun w hm => noMoments_c (c := v) w) ?_
      refine l_nil ?_
      refine q_then ?_
      refine c_dec rfl ?_ ?_
      · intro h24
        refine c_seq ?_
        refine c_region rfl ?_
        refine gv rfl (y_assign rfl) ?_
        refine l_nil ?_
        refine q_then ?_
        refine c_ret ?_
        refine q_then_ret (q_block_ret (q_then_ret (q_loop_ret (q_block_ret (q_then_ret ?_)))))
        exact q_ret1 Tryz.results14 rfl () trivial (congrArg (Value.int .i64) (jarErr_ck h10 hI hlt (chk_3 hv h24) (by decide)).symm) hs_nil
      · intro h24
        have hm := Decidable.not_not.1 h24
        refine c_skip ?_
        refine q_then ?_
        refine c_seq ?_
        refine c_seq ?_
        refine c_region rfl ?_
        refine gv rfl (y_faddr off26_12 rfl rfl) ?_
        refine gv rfl (y_load (k := 0)  one3 rfl rfl rfl) ?_
        refine gv rfl (y_lss rfl rfl) ?_
        refine gv rfl (y_move rfl) ?_
        refine g_dec (t := 28) rfl ?_ ?_
        · intro h28
          refine g_off (t := 28) rfl rfl rfl rfl ?_
          refine g_off (t := 28) rfl rfl rfl rfl ?_
          refine g_off (t := 28) rfl rfl rfl rfl ?_
          refine g_off (t := 28) rfl rfl rfl rfl ?_
          refine g_off (t := 28) rfl rfl rfl rfl ?_
          refine gv rfl (y_pick_t rfl rfl) ?_
          refine l_nil ?_
          refine q_then ?_
          refine c_cond_t rfl ?_
          refine c_seq ?_
          refine c_region rfl ?_
          refine gv rfl (y_assign rfl) ?_
          refine l_nil ?_
          refine q_then ?_
          refine c_ret ?_
          refine q_then_ret (q_block_ret (q_then_ret (q_loop_ret (q_block_ret (q_then_ret ?_)))))
          exact q_ret1 Tryz.results14 rfl () trivial (congrArg (Value.int .i64) (jarErr_ck h10 hI hlt (chk_4 hv hm (.inl h28)) (by decide)).symm) hs_nil
        · intro h28
          refine g_on (t := 28) rfl rfl ?_
          refine gv rfl (y_faddr off26_12 rfl rfl) ?_
          refine g_on (t := 28) rfl rfl ?_
          refine gv rfl (y_load (k := 0)  one3 rfl rfl rfl) ?_
          refine g_on (t := 28) rfl rfl ?_
          refine gv rfl (y_faddr off24_1 rfl rfl) ?_
          refine g_on (t := 28) rfl rfl ?_
          refine gv rfl (y_load (k := 1)  one3 rfl rfl rfl) ?_
          refine g_on (t := 28) rfl rfl ?_
          refine gv rfl (y_geq rfl rfl) ?_
          refine gv rfl (y_pick_f rfl rfl) ?_
          refine l_nil ?_
          refine q_then ?_
          refine c_dec rfl ?_ ?_
          · intro h34
            refine c_seq ?_
            refine c_region rfl ?_
            refine gv rfl (y_assign rfl) ?_
            refine l_nil ?_
            refine q_then ?_
            refine c_ret ?_
            refine q_then_ret (q_block_ret (q_then_ret (q_loop_ret (q_block_ret (q_then_ret ?_)))))
            exact q_ret1 Tryz.results14 rfl () trivial (congrArg (Value.int .i64) (jarErr_ck h10 hI hlt (chk_4 hv hm (.inr h34)) (by decide)).symm) hs_nil
          · intro h34
            have h2 : ¬(v.no < 0 ∨ v.no ≥ j.next) := by omega
            refine c_skip ?_
            refine q_then ?_
            refine c_seq ?_
            refine c_region rfl ?_
            refine gv rfl (y_assign rfl) ?_
            refine l_nil ?_
            refine q_then ?_
            refine c_seq ?_
            refine c_seq ?_
            refine c_region rfl ?_
            refine gv rfl (y_assign rfl) ?_
            refine l_nil ?_
            refine q_then ?_
            refine c_block ?_
            refine loop (Ef := [(1, _), (3, _), (4, _)]) (Hf := [_, _]) (fun x : Nat × Nat => x.1 ≤ s ∧ (x.2 = 1 + ((j.cks.take x.1).filter (fun a => decide (a.domain = v.domain))).length ∧ x.2 ≤ x.1 + 1) ∧ ∀ i, i < x.1 → ∀ u, j.cks[i]? = some u → keyEq u v = false ∧ u.no ≠ v.no) (fun x : Nat × Nat => [(6, .int .i64 (x.1 : Int)), (5, .int .i64 (x.2 : Int))]) (fun x : Nat × Nat => []) (fun x : Nat × Nat => s - x.1) (0, 1) ⟨Nat.zero_le _, ⟨rfl, Nat.le_refl _⟩, fun i hi => by omega⟩ (sub_cons rfl (sub_cons rfl sub_nil)) (sub_cons rfl (sub_cons rfl (sub_cons rfl sub_nil))) (hs_pick (is := [0, 1]) rfl rfl) ?_
            rintro ⟨r, n⟩ ⟨hr, ⟨hn, hn1⟩, hall⟩
            dsimp only at hr hn hn1 hall ⊢
            refine c_sub (E' := [(6, _), (5, _), (1, _), (3, _), (4, _)]) (sub_cons rfl (sub_cons rfl (sub_cons rfl (sub_cons rfl (sub_cons rfl sub_nil))))) ?_
            refine c_seq ?_
            refine c_seq ?_
            refine c_region rfl ?_
            refine gv rfl (y_move rfl) ?_
            refine gv rfl (y_move rfl) ?_
            refine gv rfl (y_lss rfl rfl) ?_
            refine l_nil ?_
            refine q_then ?_
            refine c_dec rfl ?_ ?_
            · intro h37
              have hrs : r < s := by omega
              obtain ⟨u, hu⟩ := get_lt (l := j.cks) (i := r) (by omega)
              refine c_skip ?_
              refine q_then ?_
              refine c_seq ?_
              refine c_block ?_
              refine c_seq ?_
              refine c_seq ?_
              refine c_drawp (l := #[false, false, false, false, false, false, false, false, false, false, false, false, false, false, false, false, false, false]) 18 (is := [0, 1]) rfl rfl rfl rfl ?_
              refine h_take (l' := #[true, false, false, false, false, false, false, false, false, false, false, false, false, false, false, false, false, false]) 0 rfl (by kernel_rfl) rfl rfl (np_then (np_then (np_block (np_then (np_loop (np_block (np_then (np_block (np_then (np_loop (np_block (np_then np_post)))))))))))) (hs_pick (is := [0, 1]) rfl rfl) (y_faddr off24_0 rfl rfl) ?_
              refine h_take (l' := #[true, true, false, false, false, false, false, false, false, false, false, false, false, false, false, false, false, false]) 1 rfl (by kernel_rfl) rfl rfl (np_then (np_then (np_block (np_then (np_loop (np_block (np_then (np_block (np_then (np_loop (np_block (np_then np_post)))))))))))) (hs_pick (is := [0, 1]) rfl rfl) (y_load (k := 1)  one22 rfl rfl rfl) ?_
              refine h_take (l' := #[true, true, true, false, false, false, false, false, false, false, false, false, false, false, false, false, false, false]) 2 rfl (by kernel_rfl) rfl rfl (np_then (np_then (np_block (np_then (np_loop (np_block (np_then (np_block (np_then (np_loop (np_block (np_then np_post)))))))))))) (hs_pick (is := [0, 1]) rfl rfl) (y_move rfl) ?_
              refine h_takee (l' := #[true, true, true, true, false, false, false, false, false, false, false, false, false, false, false, false, false, false]) 3 rfl (by kernel_rfl) rfl rfl (np_then (np_then (np_block (np_then (np_loop (np_block (np_then (np_block (np_then (np_loop (np_block (np_then np_post)))))))))))) (hs_pick (is := [0, 1]) rfl rfl) (y_iaddr elem22 size26 hJ rfl rfl rfl (by omega) hu) ?_; rintro _ ⟨p43, rfl, hp43⟩
              refine h_take (l' := #[true, true, true, true, true, false, false, false, false, false, false, false, false, false, false, false, false, false]) 4 rfl (by kernel_rfl) rfl rfl (np_then (np_then (np_block (np_then (np_loop (np_block (np_then (np_block (np_then (np_loop (np_block (np_then np_post)))))))))))) (hs_pick (is := [0, 1]) rfl rfl) (y_loadA_el agg26 rfl hp43 rfl) ?_
              refine h_take (l' := #[true, true, true, true, true, true, false, false, false, false, false, false, false, false, false, false, false, false]) 5 rfl (by kernel_rfl) rfl rfl (np_then (np_then (np_block (np_then (np_loop (np_block (np_then (np_block (np_then (np_loop (np_block (np_then np_post)))))))))))) (hs_pick (is := [0, 1]) rfl rfl) (y_loadW (k := 0)  agg26 rfl rfl rfl) ?_
              refine h_only (l' := #[true, true, true, true, true, true, true, false, false, false, false, false, false, false, false, false, false, false]) 6 rfl (by kernel_rfl) rfl ?_
              refine l_callU rfl ent21 rfl (fun w hm => sameKey_c (a := u) (b := v) w) ?_
              refine l_nil ?_
              refine q_step (fun _ => hs_pick (is := [0, 1]) rfl rfl) ?_
              refine h_take (l' := #[true, true, true, true, true, true, true, true, false, false, false, false, false, false, false, false, false, false]) 7 rfl (by kernel_rfl) rfl rfl (np_then (np_then (np_block (np_then (np_loop (np_block (np_then (np_block (np_then (np_loop (np_block (np_then np_post)))))))))))) (hs_pick (is := [0, 1]) rfl rfl) (y_move rfl) ?_
              refine h_bool (t := 47) rfl ?_ ?_
              · intro h47
                refine h_off (t := 47) (l' := #[true, true, true, true, true, true, true, true, true, false, false, false, false, false, false, false, false, false]) 8 rfl (by kernel_rfl) rfl rfl (np_then (np_then (np_block (np_then (np_loop (np_block (np_then (np_block (np_then (np_loop (np_block (np_then np_post)))))))))))) (hs_pick (is := [0, 1]) rfl rfl) rfl rfl rfl ?_
                refine h_off (t := 47) (l' := #[true, true, true, true, true, true, true, true, true, true, false, false, false, false, false, false, false, false]) 9 rfl (by kernel_rfl) rfl rfl (np_then (np_then (np_block (np_then (np_loop (np_block (np_then (np_block (np_then (np_loop (np_block (np_then np_post)))))))))))) (hs_pick (is := [0, 1]) rfl rfl) rfl rfl rfl ?_
                refine h_off (t := 47) (l' := #[true, true, true, true, true, true, true, true, true, true, true, false, false, false, false, false, false, false]) 10 rfl (by kernel_rfl) rfl rfl (np_then (np_then (np_block (np_then (np_loop (np_block (np_then (np_block (np_then (np_loop (np_block (np_then np_post)))))))))))) (hs_pick (is := [0, 1]) rfl rfl) rfl rfl rfl ?_
                refine h_off (t := 47) (l' := #[true, true, true, true, true, true, true, true, true, true, true, true, false, false, false, false, false, false]) 11 rfl (by kernel_rfl) rfl rfl (np_then (np_then (np_block (np_then (np_loop (np_block (np_then (np_block (np_then (np_loop (np_block (np_then np_post)))))))))))) (hs_pick (is := [0, 1]) rfl rfl) rfl rfl rfl ?_
                refine h_off (t := 47) (l' := #[true, true, true, true, true, true, true, true, true, true, true, true, true, false, false, false, false, false]) 12 rfl (by kernel_rfl) rfl rfl (np_then (np_then (np_block (np_then (np_loop (np_block (np_then (np_block (np_then (np_loop (np_block (np_then np_post)))))))))))) (hs_pick (is := [0, 1]) rfl rfl) rfl rfl rfl ?_
                refine h_off (t := 47) (l' := #[true, true, true, true, true, true, true, true, true, true, true, true, true, true, false, false, false, false]) 13 rfl (by kernel_rfl) rfl rfl (np_then (np_then (np_block (np_then (np_loop (np_block (np_then (np_block (np_then (np_loop (np_block (np_then np_post)))))))))))) (hs_pick (is := [0, 1]) rfl rfl) rfl rfl rfl ?_
                refine h_off (t := 47) (l' := #[true, true, true, true, true, true, true, true, true, true, true, true, true, true, true, false, false, false]) 14 rfl (by kernel_rfl) rfl rfl (np_then (np_then (np_block (np_then (np_loop (np_block (np_then (np_block (np_then (np_loop (np_block (np_then np_post)))))))))))) (hs_pick (is := [0, 1]) rfl rfl) rfl rfl rfl ?_
                refine h_off (t := 47) (l' := #[true, true, true, true, true, true, true, true, true, true, true, true, true, true, true, true, false, false]) 15 rfl (by kernel_rfl) rfl rfl (np_then (np_then (np_block (np_then (np_loop (np_block (np_then (np_block (np_then (np_loop (np_block (np_then np_post)))))))))))) (hs_pick (is := [0, 1]) rfl rfl) rfl rfl rfl ?_
                refine h_off (t := 47) (l' := #[true, true, true, true, true, true, true, true, true, true, true, true, true, true, true, true, true, false]) 16 rfl (by kernel_rfl) rfl rfl (np_then (np_then (np_block (np_then (np_loop (np_block (np_then (np_block (np_then (np_loop (np_block (np_then np_post)))))))))))) (hs_pick (is := [0, 1]) rfl rfl) rfl rfl rfl ?_
                refine h_take (l' := #[true, true, true, true, true, true, true, true, true, true, true, true, true, true, true, true, true, true]) 17 rfl (by kernel_rfl) rfl rfl (np_then (np_then (np_block (np_then (np_loop (np_block (np_then (np_block (np_then (np_loop (np_block (np_then np_post)))))))))))) (hs_pick (is := [0, 1]) rfl rfl) (y_pick_t rfl rfl) ?_
                refine h_done (by kernel_rfl) ?_
                refine q_then ?_
                refine c_cond_t rfl ?_
                refine c_seq ?_
                refine c_region rfl ?_
                refine gv rfl (y_assign rfl) ?_
                refine l_nil ?_
                refine q_then ?_
                refine c_ret ?_
                refine q_then_ret (q_block_ret (q_then_ret (q_loop_ret (q_block_ret (q_then_ret (q_block_ret (q_then_ret (q_loop_ret (q_block_ret (q_then_ret ?_))))))))))
                exact q_ret1 Tryz.results14 rfl () trivial (congrArg (Value.int .i64) (jarErr_ck h10 hI hlt (chk_6 hv hm h2 hrs hu (.inl h47)) (by decide)).symm) hs_nil
              · intro h47
                refine h_takeg (t := 47) (l' := #[true, true, true, true, true, true, true, true, true, false, false, false, false, false, false, false, false, false]) 8 rfl (by kernel_rfl) rfl rfl (np_then (np_then (np_block (np_then (np_loop (np_block (np_then (np_block (np_then (np_loop (np_block (np_then np_post)))))))))))) (hs_pick (is := [0, 1]) rfl rfl) rfl rfl (y_faddr off24_0 rfl rfl) ?_
                refine h_takeg (t := 47) (l' := #[true, true, true, true, true, true, true, true, true, true, false, false, false, false, false, false, false, false]) 9 rfl (by kernel_rfl) rfl rfl (np_then (np_then (np_block (np_then (np_loop (np_block (np_then (np_block (np_then (np_loop (np_block (np_then np_post)))))))))))) (hs_pick (is := [0, 1]) rfl rfl) rfl rfl (y_load (k := 1)  one22 rfl rfl rfl) ?_
                refine h_takeg (t := 47) (l' := #[true, true, true, true, true, true, true, true, true, true, true, false, false, false, false, false, false, false]) 10 rfl (by kernel_rfl) rfl rfl (np_then (np_then (np_block (np_then (np_loop (np_block (np_then (np_block (np_then (np_loop (np_block (np_then np_post)))))))))))) (hs_pick (is := [0, 1]) rfl rfl) rfl rfl (y_move rfl) ?_
                refine h_takege (t := 47) (l' := #[true, true, true, true, true, true, true, true, true, true, true, true, false, false, false, false, false, false]) 11 rfl (by kernel_rfl) rfl rfl (np_then (np_then (np_block (np_then (np_loop (np_block (np_then (np_block (np_then (np_loop (np_block (np_then np_post)))))))))))) (hs_pick (is := [0, 1]) rfl rfl) rfl rfl (y_iaddr elem22 size26 hJ rfl rfl rfl (by omega) hu) ?_; rintro _ ⟨p51, rfl, hp51⟩
                refine h_takeg (t := 47) (l' := #[true, true, true, true, true, true, true, true, true, true, true, true, true, false, false, false, false, false]) 12 rfl (by kernel_rfl) rfl rfl (np_then (np_then (np_block (np_then (np_loop (np_block (np_then (np_block (np_then (np_loop (np_block (np_then np_post)))))))))))) (hs_pick (is := [0, 1]) rfl rfl) rfl rfl (y_faddr_p off26_12 rfl) ?_
                refine h_takeg (t := 47) (l' := #[true, true, true, true, true, true, true, true, true, true, true, true, true, true, false, false, false, false]) 13 rfl (by kernel_rfl) rfl rfl (np_then (np_then (np_block (np_then (np_loop (np_block (np_then (np_block (np_then (np_loop (np_block (np_then np_post)))))))))))) (hs_pick (is := [0, 1]) rfl rfl) rfl rfl (y_load_el one3 hp51 rfl rfl) ?_
                refine h_takeg (t := 47) (l' := #[true, true, true, true, true, true, true, true, true, true, true, true, true, true, true, false, false, false]) 14 rfl (by kernel_rfl) rfl rfl (np_then (np_then (np_block (np_then (np_loop (np_block (np_then (np_block (np_then (np_loop (np_block (np_then np_post)))))))))))) (hs_pick (is := [0, 1]) rfl rfl) rfl rfl (y_faddr off26_12 rfl rfl) ?_
                refine h_takeg (t := 47) (l' := #[true, true, true, true, true, true, true, true, true, true, true, true, true, true, true, true, false, false]) 15 rfl (by kernel_rfl) rfl rfl (np_then (np_then (np_block (np_then (np_loop (np_block (np_then (np_block (np_then (np_loop (np_block (np_then np_post)))))))))))) (hs_pick (is := [0, 1]) rfl rfl) rfl rfl (y_load (k := 0)  one3 rfl rfl rfl) ?_
                refine h_takeg (t := 47) (l' := #[true, true, true, true, true, true, true, true, true, true, true, true, true, true, true, true, true, false]) 16 rfl (by kernel_rfl) rfl rfl (np_then (np_then (np_block (np_then (np_loop (np_block (np_then (np_block (np_then (np_loop (np_block (np_then np_post)))))))))))) (hs_pick (is := [0, 1]) rfl rfl) rfl rfl (y_eql rfl rfl) ?_
                refine h_take (l' := #[true, true, true, true, true, true, true, true, true, true, true, true, true, true, true, true, true, true]) 17 rfl (by kernel_rfl) rfl rfl (np_then (np_then (np_block (np_then (np_loop (np_block (np_then (np_block (np_then (np_loop (np_block (np_then np_post)))))))))))) (hs_pick (is := [0, 1]) rfl rfl) (y_pick_f rfl rfl) ?_
                refine h_done (by kernel_rfl) ?_
                refine q_then ?_
                refine c_dec rfl ?_ ?_
                · intro h57
                  refine c_seq ?_
                  refine c_region rfl ?_
                  refine gv rfl (y_assign rfl) ?_
                  refine l_nil ?_
                  refine q_then ?_
                  refine c_ret ?_
                  refine q_then_ret (q_block_ret (q_then_ret (q_loop_ret (q_block_ret (q_then_ret (q_block_ret (q_then_ret (q_loop_ret (q_block_ret (q_then_ret ?_))))))))))
                  exact q_ret1 Tryz.results14 rfl () trivial (congrArg (Value.int .i64) (jarErr_ck h10 hI hlt (chk_6 hv hm h2 hrs hu (.inr h57)) (by decide)).symm) hs_nil
                · intro h57
                  refine c_skip ?_
                  refine q_then ?_
                  refine c_seq ?_
                  refine c_drawp (l := #[false, false, false, false, false, false, false, false, false]) 9 (is := [0, 1]) rfl rfl rfl rfl ?_
                  refine h_take (l' := #[true, false, false, false, false, false, false, false, false]) 0 rfl (by kernel_rfl) rfl rfl (np_then (np_block (np_then (np_loop (np_block (np_then (np_block (np_then (np_loop (np_block (np_then np_post))))))))))) (hs_pick (is := [0, 1]) rfl rfl) (y_faddr off24_0 rfl rfl) ?_
                  refine h_take (l' := #[true, true, false, false, false, false, false, false, false]) 1 rfl (by kernel_rfl) rfl rfl (np_then (np_block (np_then (np_loop (np_block (np_then (np_block (np_then (np_loop (np_block (np_then np_post))))))))))) (hs_pick (is := [0, 1]) rfl rfl) (y_load (k := 1)  one22 rfl rfl rfl) ?_
                  refine h_take (l' := #[true, true, true, false, false, false, false, false, false]) 2 rfl (by kernel_rfl) rfl rfl (np_then (np_block (np_then (np_loop (np_block (np_then (np_block (np_then (np_loop (np_block (np_then np_post))))))))))) (hs_pick (is := [0, 1]) rfl rfl) (y_move rfl) ?_
                  refine h_takee (l' := #[true, true, true, true, false, false, false, false, false]) 3 rfl (by kernel_rfl) rfl rfl (np_then (np_block (np_then (np_loop (np_block (np_then (np_block (np_then (np_loop (np_block (np_then np_post))))))))))) (hs_pick (is := [0, 1]) rfl rfl) (y_iaddr elem22 size26 hJ rfl rfl rfl (by omega) hu) ?_; rintro _ ⟨p61, rfl, hp61⟩
                  refine h_take (l' := #[true, true, true, true, true, false, false, false, false]) 4 rfl (by kernel_rfl) rfl rfl (np_then (np_block (np_then (np_loop (np_block (np_then (np_block (np_then (np_loop (np_block (np_then np_post))))))))))) (hs_pick (is := [0, 1]) rfl rfl) (y_faddr_p off26_2 rfl) ?_
                  refine h_take (l' := #[true, true, true, true, true, true, false, false, false]) 5 rfl (by kernel_rfl) rfl rfl (np_then (np_block (np_then (np_loop (np_block (np_then (np_block (np_then (np_loop (np_block (np_then np_post))))))))))) (hs_pick (is := [0, 1]) rfl rfl) (y_load_el one9 hp61 rfl rfl) ?_
                  refine h_take (l' := #[true, true, true, true, true, true, true, false, false]) 6 rfl (by kernel_rfl) rfl rfl (np_then (np_block (np_then (np_loop (np_block (np_then (np_block (np_then (np_loop (np_block (np_then np_post))))))))))) (hs_pick (is := [0, 1]) rfl rfl) (y_faddr off26_2 rfl rfl) ?_
                  refine h_take (l' := #[true, true, true, true, true, true, true, true, false]) 7 rfl (by kernel_rfl) rfl rfl (np_then (np_block (np_then (np_loop (np_block (np_then (np_block (np_then (np_loop (np_block (np_then np_post))))))))))) (hs_pick (is := [0, 1]) rfl rfl) (y_load (k := 0)  one9 rfl rfl rfl) ?_
                  refine h_take (l' := #[true, true, true, true, true, true, true, true, true]) 8 rfl (by kernel_rfl) rfl rfl (np_then (np_block (np_then (np_loop (np_block (np_then (np_block (np_then (np_loop (np_block (np_then np_post))))))))))) (hs_pick (is := [0, 1]) rfl rfl) (y_seq rfl rfl) ?_
                  refine h_done (by kernel_rfl) ?_
                  refine q_then ?_
                  refine c_dec rfl ?_ ?_
                  · intro h66
                    refine c_region rfl ?_
                    refine gv rfl (y_move rfl) ?_
                    refine gv rfl (y_add rfl rfl (wrap_in (by omega) (by omega))) ?_
                    refine gv rfl (y_assign rfl) ?_
                    refine l_nil ?_
                    refine q_block (q_then ?_)
                    refine c_region rfl ?_
                    refine gv rfl (y_move rfl) ?_
                    refine gv rfl (y_add rfl rfl (wrap_in (by omega) (by omega))) ?_
                    refine gv rfl (y_assign rfl) ?_
                    refine l_nil ?_
                    exact again (r + 1, n + 1) ⟨Nat.succ_le_of_lt hrs, ⟨by dsimp only; rw [take_snoc hu, List.filter_append, List.length_append, hn]; simp [h66] <;> omega, by dsimp only; omega⟩, step_all hall (fun w hw => by rw [hu] at hw; cases hw; exact ⟨h47, h57⟩)⟩ (by omega) (sub_cons rfl (sub_cons rfl sub_nil)) (sub_cons rfl (sub_cons rfl (sub_cons rfl sub_nil))) (hs_pick (is := [0, 1]) rfl rfl)
                  · intro h66
                    refine c_skip ?_
                    refine q_block (q_then ?_)
                    refine c_region rfl ?_
                    refine gv rfl (y_move rfl) ?_
                    refine gv rfl (y_add rfl rfl (wrap_in (by omega) (by omega))) ?_
                    refine gv rfl (y_assign rfl) ?_
                    refine l_nil ?_
                    exact again (r + 1, n) ⟨Nat.succ_le_of_lt hrs, ⟨by dsimp only; rw [take_snoc hu, List.filter_append, List.length_append, hn]; simp [h66] <;> omega, by dsimp only; omega⟩, step_all hall (fun w hw => by rw [hu] at hw; cases hw; exact ⟨h47, h57⟩)⟩ (by omega) (sub_cons rfl (sub_cons rfl sub_nil)) (sub_cons rfl (sub_cons rfl (sub_cons rfl sub_nil))) (hs_pick (is := [0, 1]) rfl rfl)
            · intro h37
              have hrs : r = s := by omega
              rw [hrs] at hn hall
              refine c_exit ?_
              refine q_then_exit (q_loop_exit (q_block_exit (q_then ?_)))
              refine c_seq ?_
              refine c_region rfl ?_
              refine gv rfl (y_move rfl) ?_
              refine gv rfl (y_gtr rfl rfl) ?_
              refine l_nil ?_
              refine q_then ?_
              refine c_dec rfl ?_ ?_
              · intro h70
                refine c_seq ?_
                refine c_region rfl ?_
                refine gv rfl (y_assign rfl) ?_
                refine l_nil ?_
                refine q_then ?_
                refine c_ret ?_
                refine q_block_ret (q_then_ret (q_loop_ret (q_block_ret (q_then_ret ?_))))
                exact q_ret1 Tryz.results14 rfl () trivial (congrArg (Value.int .i64) (jarErr_ck h10 hI hlt (chk_2 hv hm h2 hall hn h70 hI) (by decide)).symm) hs_nil
              · intro h70
                refine c_skip ?_
                refine q_block (q_then ?_)
                refine c_region rfl ?_
                refine gv rfl (y_move rfl) ?_
                refine gv rfl (y_add rfl rfl (wrap_in (by omega) (by omega))) ?_
                refine gv rfl (y_assign rfl) ?_
                refine l_nil ?_
                exact again (s + 1) ⟨by omega, step_all hI (chk_0 hv hm h2 hall hn h70)⟩ (by omega) (sub_cons rfl sub_nil) (sub_cons rfl sub_nil) (hs_pick (is := [1]) rfl rfl)
    · intro h15
      refine c_exit ?_
      refine q_then_exit (q_loop_exit (q_block_exit (q_then ?_)))
      refine c_seq ?_
      refine c_seq ?_
      refine c_region rfl ?_
      refine gv rfl (y_faddr off24_1 rfl rfl) ?_
      refine gv rfl (y_load (k := 0)  one3 rfl rfl rfl) ?_
      refine gv rfl (y_lss rfl rfl) ?_
      refine gv rfl (y_move rfl) ?_
      refine g_dec (t := 74) rfl ?_ ?_
      · intro h74
        refine g_off (t := 74) rfl rfl rfl rfl ?_
        refine g_off (t := 74) rfl rfl rfl rfl ?_
        refine g_off (t := 74) rfl rfl rfl rfl ?_
        refine gv rfl (y_pick_t rfl rfl) ?_
        refine l_nil ?_
        refine q_then ?_
        refine c_cond_t rfl ?_
        refine c_seq ?_
        refine c_region rfl ?_
        refine gv rfl (y_assign rfl) ?_
        refine l_nil ?_
        refine q_then ?_
        refine c_ret ?_
        refine q_then_ret ?_
        exact q_ret1 Tryz.results14 rfl () trivial (congrArg (Value.int .i64) ((jarErr_end h10 hI (by omega)).trans (if_pos (.inl h74))).symm) hs_nil
      · intro h74
        refine g_on (t := 74) rfl rfl ?_
        refine gv rfl (y_faddr off24_1 rfl rfl) ?_
        refine g_on (t := 74) rfl rfl ?_
        refine gv rfl (y_load (k := 0)  one3 rfl rfl rfl) ?_
        refine g_on (t := 74) rfl rfl ?_
        refine gv rfl (y_gtr rfl rfl) ?_
        refine gv rfl (y_pick_f rfl rfl) ?_
        refine l_nil ?_
        refine q_then ?_
        refine c_dec rfl ?_ ?_
        · intro h78
          refine c_seq ?_
          refine c_region rfl ?_
          refine gv rfl (y_assign rfl) ?_
          refine l_nil ?_
          refine q_then ?_
          refine c_ret ?_
          refine q_then_ret ?_
          exact q_ret1 Tryz.results14 rfl () trivial (congrArg (Value.int .i64) ((jarErr_end h10 hI (by omega)).trans (if_pos (.inr h78))).symm) hs_nil
        · intro h78
          refine c_skip ?_
          refine q_then ?_
          refine c_seq ?_
          refine c_region rfl ?_
          refine gv rfl (y_assign rfl) ?_
          refine l_nil ?_
          refine q_then ?_
          refine c_ret ?_
          exact q_ret1 Tryz.results14 rfl () trivial (congrArg (Value.int .i64) ((jarErr_end h10 hI (by omega)).trans (if_neg (by omega))).symm) hs_nil


theorem ent14 : enters Tryz.prog 14 = true := by kernel_rfl

theorem cv3_5 : cvT Tryz.prog 3 5 .u8 = true := by kernel_rfl

theorem zero5 : zeroOf Tryz.prog 5 = some (.int .u8 0) := by kernel_rfl

theorem ap5 : apT Tryz.prog 5 1 1 = true := by kernel_rfl

theorem cv5_3 : cvT Tryz.prog 5 3 .i64 = true := by kernel_rfl

theorem ent146 : enters Tryz.prog 146 = true := by kernel_rfl

theorem ent147 : enters Tryz.prog 147 = true := by kernel_rfl


theorem placeOf_c {l : List UInt8} {b : UInt8} (w : World) (hl : l.length ≤ 1073741824) : Cv Tryz.prog 82 #[.string (B l), .int .u8 (b.toNat : Int)] w (.int .i64 (ibF l b)) := by
  refine enter (E := [(0, .string (B l)), (1, .int .u8 (b.toNat : Int))]) Tryz.func82 rfl Tryz.ntmps82 rfl (by simp) ?_
  refine c_seq ?_
  refine c_region rfl ?_
  refine gv rfl (y_assign rfl) ?_
  refine l_nil ?_
  refine q_then ?_
  refine c_seq ?_
  refine c_seq ?_
  refine c_region rfl ?_
  refine gv rfl (y_assign rfl) ?_
  refine l_nil ?_
  refine q_then ?_
  refine c_block ?_
  refine loop (Ef := [(0, _), (1, _)]) (Hf := []) (fun s : Nat => s ≤ l.length ∧ ∀ i, i < s → ∀ u, l[i]? = some u → u ≠ b) (fun s : Nat => [(5, .int .i64 (s : Int))]) (fun s : Nat => []) (fun s : Nat => l.length - s) 0 ⟨by omega, fun i hi => by omega⟩ (sub_cons rfl sub_nil) (sub_cons rfl (sub_cons rfl sub_nil)) (hs_pick (is := []) rfl rfl) ?_
  rintro s ⟨hs, hI⟩
  refine c_sub (E' := [(5, _), (0, _), (1, _)]) (sub_cons rfl (sub_cons rfl (sub_cons rfl sub_nil))) ?_
  refine c_seq ?_
  refine c_seq ?_
  refine c_region rfl ?_
  refine gv rfl (y_move rfl) ?_
  refine gv rfl (y_move rfl) ?_
  refine gv rfl (y_slen Tryz.underlying9 rfl rfl) ?_
  refine gv rfl (y_lss rfl rfl) ?_
  refine l_nil ?_
  refine q_then ?_
  refine c_dec rfl ?_ ?_
  · intro h9
    have hlt : s < l.length := by omega
    obtain ⟨v, hv⟩ := get_lt hlt
    have ev := getD_of_get (d := 0) hv
    have ec : chr l (s : Int) = (v.toNat : Int) := by unfold chr; rw [show ((s : Int)).toNat = s from rfl, ev]
    have hvb : v.toNat < 256 := v.toNat_lt
    refine c_skip ?_
    refine q_then ?_
    refine c_seq ?_
    refine c_block ?_
    refine c_seq ?_
    refine c_region rfl ?_
    refine gv rfl (y_move rfl) ?_
    refine gv rfl (y_move rfl) ?_
    refine gv rfl (y_sidx Tryz.underlying9 rfl rfl (by omega) (by omega)) ?_
    refine gv rfl (y_move rfl) ?_
    refine gv rfl (y_eql rfl rfl) ?_
    refine l_nil ?_
    refine q_then ?_
    refine c_dec rfl ?_ ?_
    · intro h16
      refine c_seq ?_
      refine c_region rfl ?_
      refine gv rfl (y_move rfl) ?_
      refine gv rfl (y_assign rfl) ?_
      refine l_nil ?_
      refine q_then ?_
      refine c_ret ?_
      refine q_block_ret (q_then_ret (q_loop_ret (q_block_ret (q_then_ret ?_))))
      exact q_ret1 Tryz.results82 rfl () trivial (congrArg (Value.int .i64) (ibF_at hI (by rw [hv]; exact congrArg some (UInt8.toNat.inj (by omega)))).symm) hs_nil
    · intro h16
      refine c_skip ?_
      refine q_block (q_then ?_)
      refine c_region rfl ?_
      refine gv rfl (y_move rfl) ?_
      refine gv rfl (y_add rfl rfl (wrap_in (by omega) (by omega))) ?_
      refine gv rfl (y_assign rfl) ?_
      refine l_nil ?_
      exact again (s + 1) ⟨by omega, step_all hI (fun u hu => by rw [hv] at hu; cases hu; intro e; apply h16; rw [ec, e])⟩ (by omega) (sub_cons rfl sub_nil) (sub_cons rfl (sub_cons rfl sub_nil)) (hs_pick (is := []) rfl rfl)
  · intro h9
    refine c_exit ?_
    refine q_then_exit (q_loop_exit (q_block_exit (q_then ?_)))
    refine c_seq ?_
    refine c_region rfl ?_
    refine gv rfl (y_assign rfl) ?_
    refine l_nil ?_
    refine q_then ?_
    refine c_ret ?_
    exact q_ret1 Tryz.results82 rfl () trivial (congrArg (Value.int .i64) (ibF_none (all_get hI (by omega))).symm) hs_nil


theorem letOf_c {l : List UInt8} (w : World) (hl : l.length ≤ 1073741824) : Cv Tryz.prog 81 #[.string (B l)] w (.bool (letF l)) := by
  refine enter (E := [(0, .string (B l))]) Tryz.func81 rfl Tryz.ntmps81 rfl (by simp) ?_
  refine c_seq ?_
  refine c_region rfl ?_
  refine gv rfl (y_assign rfl) ?_
  refine l_nil ?_
  refine q_then ?_
  refine c_seq ?_
  refine c_seq ?_
  refine c_region rfl ?_
  refine gv rfl (y_assign rfl) ?_
  refine l_nil ?_
  refine q_then ?_
  refine c_block ?_
  refine loop (Ef := [(0, _)]) (Hf := []) (fun s : Nat => s ≤ l.length ∧ ∀ i, i < s → ∀ u, l[i]? = some u → badB u = false) (fun s : Nat => [(3, .int .i64 (s : Int))]) (fun s : Nat => []) (fun s : Nat => l.length - s) 0 ⟨by omega, none_get⟩ (sub_cons rfl sub_nil) (sub_cons rfl sub_nil) (hs_pick (is := []) rfl rfl) ?_
  rintro s ⟨hs, hI⟩
  refine c_sub (E' := [(3, _), (0, _)]) (sub_cons rfl (sub_cons rfl sub_nil)) ?_
  refine c_seq ?_
  refine c_seq ?_
  refine c_region rfl ?_
  refine gv rfl (y_move rfl) ?_
  refine gv rfl (y_move rfl) ?_
  refine gv rfl (y_slen Tryz.underlying9 rfl rfl) ?_
  refine gv rfl (y_lss rfl rfl) ?_
  refine l_nil ?_
  refine q_then ?_
  refine c_dec rfl ?_ ?_
  · intro h7
    have hlt : s < l.length := by omega
    obtain ⟨v, hv⟩ := get_lt hlt
    have ev := getD_of_get (d := 0) hv
    have ec : chr l (s : Int) = (v.toNat : Int) := by unfold chr; rw [show ((s : Int)).toNat = s from rfl, ev]
    have hvb : v.toNat < 256 := v.toNat_lt
    refine c_skip ?_
    refine q_then ?_
    refine c_seq ?_
    refine c_block ?_
    refine c_seq ?_
    refine c_region rfl ?_
    refine gv rfl (y_move rfl) ?_
    refine gv rfl (y_move rfl) ?_
    refine gv rfl (y_sidx Tryz.underlying9 rfl rfl (by omega) (by omega)) ?_
    refine gv rfl (y_leq rfl rfl) ?_
    refine gv rfl (y_move rfl) ?_
    refine g_dec (t := 14) rfl ?_ ?_
    · intro h14
      refine g_off (t := 14) rfl rfl rfl rfl ?_
      refine g_off (t := 14) rfl rfl rfl rfl ?_
      refine g_off (t := 14) rfl rfl rfl rfl ?_
      refine g_off (t := 14) rfl rfl rfl rfl ?_
      refine g_off (t := 14) rfl rfl rfl rfl ?_
      refine g_und (t := 19) rfl rfl rfl ?_
      refine g_und (t := 19) rfl rfl rfl ?_
      refine g_und (t := 19) rfl rfl rfl ?_
      refine g_und (t := 19) rfl rfl rfl ?_
      refine g_off (t := 14) rfl rfl rfl rfl ?_
      refine gv rfl (y_pick_t rfl rfl) ?_
      refine gv rfl (y_move rfl) ?_
      refine g_off (t := 26) rfl rfl rfl rfl ?_
      refine g_off (t := 26) rfl rfl rfl rfl ?_
      refine g_off (t := 26) rfl rfl rfl rfl ?_
      refine g_off (t := 26) rfl rfl rfl rfl ?_
      refine gv rfl (y_pick_t rfl rfl) ?_
      refine l_nil ?_
      refine q_then ?_
      refine c_cond_t rfl ?_
      refine c_seq ?_
      refine c_region rfl ?_
      refine gv rfl (y_assign rfl) ?_
      refine l_nil ?_
      refine q_then ?_
      refine c_ret ?_
      refine q_block_ret (q_then_ret (q_loop_ret (q_block_ret (q_then_ret ?_))))
      exact q_ret1 Tryz.results81 rfl () trivial (congrArg Value.bool (letF_no hI hv (bad_iff.2 (by omega))).symm) hs_nil
    · intro h14
      refine g_on (t := 14) rfl rfl ?_
      refine gv rfl (y_move rfl) ?_
      refine g_on (t := 14) rfl rfl ?_
      refine gv rfl (y_move rfl) ?_
      refine g_on (t := 14) rfl rfl ?_
      refine gv rfl (y_sidx Tryz.underlying9 rfl rfl (by omega) (by omega)) ?_
      refine g_on (t := 14) rfl rfl ?_
      refine gv rfl (y_geq rfl rfl) ?_
      refine g_on (t := 14) rfl rfl ?_
      refine gv rfl (y_move rfl) ?_
      refine g_dec (t := 19) rfl ?_ ?_
      · intro h19
        refine g_on (t := 19) rfl rfl ?_
        refine gv rfl (y_move rfl) ?_
        refine g_on (t := 19) rfl rfl ?_
        refine gv rfl (y_move rfl) ?_
        refine g_on (t := 19) rfl rfl ?_
        refine gv rfl (y_sidx Tryz.underlying9 rfl rfl (by omega) (by omega)) ?_
        refine g_on (t := 19) rfl rfl ?_
        refine gv rfl (y_leq rfl rfl) ?_
        refine g_on (t := 14) rfl rfl ?_
        refine gv rfl (y_pick_t rfl rfl) ?_
        refine gv rfl (y_pick_f rfl rfl) ?_
        refine gv rfl (y_move rfl) ?_
        refine g_dec (t := 26) rfl ?_ ?_
        · intro h26
          refine g_off (t := 26) rfl rfl rfl rfl ?_
          refine g_off (t := 26) rfl rfl rfl rfl ?_
          refine g_off (t := 26) rfl rfl rfl rfl ?_
          refine g_off (t := 26) rfl rfl rfl rfl ?_
          refine gv rfl (y_pick_t rfl rfl) ?_
          refine l_nil ?_
          refine q_then ?_
          refine c_cond_t rfl ?_
          refine c_seq ?_
          refine c_region rfl ?_
          refine gv rfl (y_assign rfl) ?_
          refine l_nil ?_
          refine q_then ?_
          refine c_ret ?_
          refine q_block_ret (q_then_ret (q_loop_ret (q_block_ret (q_then_ret ?_))))
          exact q_ret1 Tryz.results81 rfl () trivial (congrArg Value.bool (letF_no hI hv (bad_iff.2 (by omega))).symm) hs_nil
        · intro h26
          refine g_on (t := 26) rfl rfl ?_
          refine gv rfl (y_move rfl) ?_
          refine g_on (t := 26) rfl rfl ?_
          refine gv rfl (y_move rfl) ?_
          refine g_on (t := 26) rfl rfl ?_
          refine gv rfl (y_sidx Tryz.underlying9 rfl rfl (by omega) (by omega)) ?_
          refine g_on (t := 26) rfl rfl ?_
          refine gv rfl (y_eql rfl rfl) ?_
          refine gv rfl (y_pick_f rfl rfl) ?_
          refine l_nil ?_
          refine q_then ?_
          refine c_dec rfl ?_ ?_
          · intro h31
            refine c_seq ?_
            refine c_region rfl ?_
            refine gv rfl (y_assign rfl) ?_
            refine l_nil ?_
            refine q_then ?_
            refine c_ret ?_
            refine q_block_ret (q_then_ret (q_loop_ret (q_block_ret (q_then_ret ?_))))
            exact q_ret1 Tryz.results81 rfl () trivial (congrArg Value.bool (letF_no hI hv (bad_iff.2 (by omega))).symm) hs_nil
          · intro h31
            refine c_skip ?_
            refine q_block (q_then ?_)
            refine c_region rfl ?_
            refine gv rfl (y_move rfl) ?_
            refine gv rfl (y_add rfl rfl (wrap_in (by omega) (by omega))) ?_
            refine gv rfl (y_assign rfl) ?_
            refine l_nil ?_
            exact again (s + 1) ⟨by omega, step_get hI hv (by cases hb : badB v with | false => rfl | true => exfalso; have := bad_iff.1 hb; omega)⟩ (by omega) (sub_cons rfl sub_nil) (sub_cons rfl sub_nil) (hs_pick (is := []) rfl rfl)
      · intro h19
        refine g_off (t := 19) rfl rfl rfl rfl ?_
        refine g_off (t := 19) rfl rfl rfl rfl ?_
        refine g_off (t := 19) rfl rfl rfl rfl ?_
        refine g_off (t := 19) rfl rfl rfl rfl ?_
        refine g_on (t := 14) rfl rfl ?_
        refine gv rfl (y_pick_f rfl rfl) ?_
        refine gv rfl (y_pick_f rfl rfl) ?_
        refine gv rfl (y_move rfl) ?_
        refine g_on (t := 26) rfl rfl ?_
        refine gv rfl (y_move rfl) ?_
        refine g_on (t := 26) rfl rfl ?_
        refine gv rfl (y_move rfl) ?_
        refine g_on (t := 26) rfl rfl ?_
        refine gv rfl (y_sidx Tryz.underlying9 rfl rfl (by omega) (by omega)) ?_
        refine g_on (t := 26) rfl rfl ?_
        refine gv rfl (y_eql rfl rfl) ?_
        refine gv rfl (y_pick_f rfl rfl) ?_
        refine l_nil ?_
        refine q_then ?_
        refine c_dec rfl ?_ ?_
        · intro h31
          refine c_seq ?_
          refine c_region rfl ?_
          refine gv rfl (y_assign rfl) ?_
          refine l_nil ?_
          refine q_then ?_
          refine c_ret ?_
          refine q_block_ret (q_then_ret (q_loop_ret (q_block_ret (q_then_ret ?_))))
          exact q_ret1 Tryz.results81 rfl () trivial (congrArg Value.bool (letF_no hI hv (bad_iff.2 (by omega))).symm) hs_nil
        · intro h31
          refine c_skip ?_
          refine q_block (q_then ?_)
          refine c_region rfl ?_
          refine gv rfl (y_move rfl) ?_
          refine gv rfl (y_add rfl rfl (wrap_in (by omega) (by omega))) ?_
          refine gv rfl (y_assign rfl) ?_
          refine l_nil ?_
          exact again (s + 1) ⟨by omega, step_get hI hv (by cases hb : badB v with | false => rfl | true => exfalso; have := bad_iff.1 hb; omega)⟩ (by omega) (sub_cons rfl sub_nil) (sub_cons rfl sub_nil) (hs_pick (is := []) rfl rfl)
  · intro h7
    refine c_exit ?_
    refine q_then_exit (q_loop_exit (q_block_exit (q_then ?_)))
    refine c_seq ?_
    refine c_region rfl ?_
    refine gv rfl (y_assign rfl) ?_
    refine l_nil ?_
    refine q_then ?_
    refine c_ret ?_
    exact q_ret1 Tryz.results81 rfl () trivial (congrArg Value.bool (letF_yes hI (by omega)).symm) hs_nil


theorem isDigit_c {c : UInt8} (w : World) : Cv Tryz.prog 147 #[.int .u8 (c.toNat : Int)] w (.bool (digB c)) := by
  refine enter (E := [(0, .int .u8 (c.toNat : Int))]) Tryz.func147 rfl Tryz.ntmps147 rfl (by simp) ?_
  refine c_seq ?_
  refine c_region rfl ?_
  refine gv rfl (y_assign rfl) ?_
  refine l_nil ?_
  refine q_then ?_
  refine c_seq ?_
  refine c_region rfl ?_
  refine gv rfl (y_move rfl) ?_
  refine gv rfl (y_geq rfl rfl) ?_
  refine gv rfl (y_move rfl) ?_
  refine g_dec (t := 5) rfl ?_ ?_
  · intro h5
    refine g_on (t := 5) rfl rfl ?_
    refine gv rfl (y_move rfl) ?_
    refine g_on (t := 5) rfl rfl ?_
    refine gv rfl (y_leq rfl rfl) ?_
    refine gv rfl (y_pick_t rfl rfl) ?_
    refine gv rfl (y_assign rfl) ?_
    refine l_nil ?_
    refine q_then ?_
    refine c_ret ?_
    exact q_ret1 Tryz.results147 rfl () trivial (bd (by omega)) hs_nil
  · intro h5
    refine g_off (t := 5) rfl rfl rfl rfl ?_
    refine g_off (t := 5) rfl rfl rfl rfl ?_
    refine gv rfl (y_pick_f rfl rfl) ?_
    refine gv rfl (y_assign rfl) ?_
    refine l_nil ?_
    refine q_then ?_
    refine c_ret ?_
    exact q_ret1 Tryz.results147 rfl () trivial (bf (by omega)) hs_nil


theorem oneByte_c {c : UInt8} (w : World) : Cv Tryz.prog 146 #[.int .i64 (c.toNat : Int)] w (.string (B [c])) := by
  refine enter (E := [(0, .int .i64 (c.toNat : Int))]) Tryz.func146 rfl Tryz.ntmps146 rfl (by simp) ?_
  have hcb : c.toNat < 256 := c.toNat_lt
  refine c_seq ?_
  refine c_region rfl ?_
  refine gv rfl (y_assign rfl) ?_
  refine l_nil ?_
  refine q_then ?_
  refine c_seq ?_
  refine c_region rfl ?_
  refine gv rfl (y_move rfl) ?_
  refine gv rfl (y_cvint cv3_5 rfl (wrap_u8 (by omega) (by omega))) ?_
  refine l_bslice (cl := [_]) rfl elem124 ap5 zero5 rfl rfl rfl rfl rfl rfl rfl ?_; intro g5
  refine gv rfl (y_b2s (k := 0) (l := [c]) (R := []) bytesT124 strT9 rfl rfl rfl) ?_
  refine gv rfl (y_assign rfl) ?_
  refine l_nil ?_
  refine q_then ?_
  refine c_ret ?_
  exact q_ret1 Tryz.results146 rfl () trivial rfl hs_nil


theorem foldOf_c {l : List UInt8} (w : World) (hl : l.length ≤ 1073741824) : Cv Tryz.prog 125 #[.string (B l)] w (.string (B (l.map lowB))) := by
  refine enter (E := [(0, .string (B l))]) Tryz.func125 rfl Tryz.ntmps125 rfl (by simp) ?_
  refine c_seq ?_
  refine c_region rfl ?_
  refine gv rfl (y_assign rfl) ?_
  refine l_nil ?_
  refine q_then ?_
  refine c_seq ?_
  refine c_region rfl ?_
  refine gv rfl (y_assign rfl) ?_
  refine l_nil ?_
  refine q_then ?_
  refine c_seq ?_
  refine c_seq ?_
  refine c_region rfl ?_
  refine gv rfl (y_assign rfl) ?_
  refine l_nil ?_
  refine q_then ?_
  refine c_block ?_
  refine loop (Ef := [(0, _)]) (Hf := []) (fun s : Nat => s ≤ l.length) (fun s : Nat => [(4, .int .i64 (s : Int)), (3, .string (B ((l.take s).map lowB)))]) (fun s : Nat => []) (fun s : Nat => l.length - s) 0 (Nat.zero_le _) (sub_cons rfl (sub_cons rfl sub_nil)) (sub_cons rfl sub_nil) (hs_pick (is := []) rfl rfl) ?_
  rintro s hs
  refine c_sub (E' := [(4, _), (3, _), (0, _)]) (sub_cons rfl (sub_cons rfl (sub_cons rfl sub_nil))) ?_
  refine c_seq ?_
  refine c_seq ?_
  refine c_region rfl ?_
  refine gv rfl (y_move rfl) ?_
  refine gv rfl (y_move rfl) ?_
  refine gv rfl (y_slen Tryz.underlying9 rfl rfl) ?_
  refine gv rfl (y_lss rfl rfl) ?_
  refine l_nil ?_
  refine q_then ?_
  refine c_dec rfl ?_ ?_
  · intro h9
    have hlt : s < l.length := by omega
    obtain ⟨v, hv⟩ := get_lt hlt
    have ev := getD_of_get (d := 0) hv
    have ec : chr l (s : Int) = (v.toNat : Int) := by unfold chr; rw [show ((s : Int)).toNat = s from rfl, ev]
    have hvb : v.toNat < 256 := v.toNat_lt
    have hm1 : ((l.take s).map lowB).length ≤ l.length := by rw [List.length_map]; exact List.length_take_le' ..
    have hm2 : [lowB v].length = 1 := rfl
    refine c_skip ?_
    refine q_then ?_
    refine c_seq ?_
    refine c_block ?_
    refine c_seq ?_
    refine c_region rfl ?_
    refine gv rfl (y_move rfl) ?_
    refine gv rfl (y_move rfl) ?_
    refine gv rfl (y_sidx Tryz.underlying9 rfl rfl (by omega) (by omega)) ?_
    rw [ec]
    refine gv rfl (y_cvint cv5_3 rfl (wrap_i64 (by omega) (by omega))) ?_
    refine gv rfl (y_assign rfl) ?_
    refine l_nil ?_
    refine q_then ?_
    refine c_seq ?_
    refine c_seq ?_
    refine c_region rfl ?_
    refine gv rfl (y_move rfl) ?_
    refine gv rfl (y_geq rfl rfl) ?_
    refine gv rfl (y_move rfl) ?_
    refine g_dec (t := 18) rfl ?_ ?_
    · intro h18
      refine g_on (t := 18) rfl rfl ?_
      refine gv rfl (y_move rfl) ?_
      refine g_on (t := 18) rfl rfl ?_
      refine gv rfl (y_leq rfl rfl) ?_
      refine gv rfl (y_pick_t rfl rfl) ?_
      refine l_nil ?_
      refine q_then ?_
      refine c_dec rfl ?_ ?_
      · intro h21
        refine c_region rfl ?_
        refine gv rfl (y_move rfl) ?_
        refine gv rfl (y_add rfl rfl (wrap_in (by omega) (by omega))) ?_
        refine gv rfl (y_assign rfl) ?_
        refine l_nil ?_
        refine q_then ?_
        refine c_region rfl ?_
        refine gv rfl (y_move rfl) ?_
        refine gv rfl (y_move rfl) ?_
        rw [lowB_up (c := v) (by omega) (by omega)]
        refine l_callU rfl ent146 rfl (fun w hm => oneByte_c (c := lowB v) w) ?_
        refine gv rfl (y_sadd rfl rfl (by omega) rfl) ?_
        refine gv rfl (y_assign rfl) ?_
        refine l_nil ?_
        refine q_block (q_then ?_)
        refine c_region rfl ?_
        refine gv rfl (y_move rfl) ?_
        refine gv rfl (y_add rfl rfl (wrap_in (by omega) (by omega))) ?_
        refine gv rfl (y_assign rfl) ?_
        refine l_nil ?_
        rw [← low_snoc hv]
        exact again (s + 1) (by omega) (by omega) (sub_cons rfl (sub_cons rfl sub_nil)) (sub_cons rfl sub_nil) (hs_pick (is := []) rfl rfl)
      · intro h21
        refine c_skip ?_
        refine q_then ?_
        refine c_region rfl ?_
        refine gv rfl (y_move rfl) ?_
        refine gv rfl (y_move rfl) ?_
        rw [lowB_same (c := v) (by omega)]
        refine l_callU rfl ent146 rfl (fun w hm => oneByte_c (c := lowB v) w) ?_
        refine gv rfl (y_sadd rfl rfl (by omega) rfl) ?_
        refine gv rfl (y_assign rfl) ?_
        refine l_nil ?_
        refine q_block (q_then ?_)
        refine c_region rfl ?_
        refine gv rfl (y_move rfl) ?_
        refine gv rfl (y_add rfl rfl (wrap_in (by omega) (by omega))) ?_
        refine gv rfl (y_assign rfl) ?_
        refine l_nil ?_
        rw [← low_snoc hv]
        exact again (s + 1) (by omega) (by omega) (sub_cons rfl (sub_cons rfl sub_nil)) (sub_cons rfl sub_nil) (hs_pick (is := []) rfl rfl)
    · intro h18
      refine g_off (t := 18) rfl rfl rfl rfl ?_
      refine g_off (t := 18) rfl rfl rfl rfl ?_
      refine gv rfl (y_pick_f rfl rfl) ?_
      refine l_nil ?_
      refine q_then ?_
      refine c_cond_f rfl ?_
      refine c_skip ?_
      refine q_then ?_
      refine c_region rfl ?_
      refine gv rfl (y_move rfl) ?_
      refine gv rfl (y_move rfl) ?_
      rw [lowB_same (c := v) (by omega)]
      refine l_callU rfl ent146 rfl (fun w hm => oneByte_c (c := lowB v) w) ?_
      refine gv rfl (y_sadd rfl rfl (by omega) rfl) ?_
      refine gv rfl (y_assign rfl) ?_
      refine l_nil ?_
      refine q_block (q_then ?_)
      refine c_region rfl ?_
      refine gv rfl (y_move rfl) ?_
      refine gv rfl (y_add rfl rfl (wrap_in (by omega) (by omega))) ?_
      refine gv rfl (y_assign rfl) ?_
      refine l_nil ?_
      rw [← low_snoc hv]
      exact again (s + 1) (by omega) (by omega) (sub_cons rfl (sub_cons rfl sub_nil)) (sub_cons rfl sub_nil) (hs_pick (is := []) rfl rfl)
  · intro h9
    refine c_exit ?_
    refine q_then_exit (q_loop_exit (q_block_exit (q_then ?_)))
    refine c_seq ?_
    refine c_region rfl ?_
    refine gv rfl (y_move rfl) ?_
    refine gv rfl (y_assign rfl) ?_
    refine l_nil ?_
    refine q_then ?_
    refine c_ret ?_
    exact q_ret1 Tryz.results125 rfl () trivial (by rw [List.take_of_length_le (by omega)]) hs_nil


theorem isLabel_c {l : List UInt8} (w : World) (hl : l.length ≤ 1073741824) : Cv Tryz.prog 127 #[.string (B l)] w (.bool (labelF l)) := by
  refine enter (E := [(0, .string (B l))]) Tryz.func127 rfl Tryz.ntmps127 rfl (by simp) ?_
  refine c_seq ?_
  refine c_region rfl ?_
  refine gv rfl (y_assign rfl) ?_
  refine l_nil ?_
  refine q_then ?_
  refine c_seq ?_
  refine c_seq ?_
  refine c_region rfl ?_
  refine gv rfl (y_move rfl) ?_
  refine gv rfl (y_slen Tryz.underlying9 rfl rfl) ?_
  refine gv rfl (y_lss rfl rfl) ?_
  refine gv rfl (y_move rfl) ?_
  refine g_dec (t := 7) rfl ?_ ?_
  · intro h7
    refine g_off (t := 7) rfl rfl rfl rfl ?_
    refine g_off (t := 7) rfl rfl rfl rfl ?_
    refine g_off (t := 7) rfl rfl rfl rfl ?_
    refine gv rfl (y_pick_t rfl rfl) ?_
    refine gv rfl (y_move rfl) ?_
    refine g_off (t := 12) rfl rfl rfl rfl ?_
    refine g_off (t := 12) rfl rfl rfl rfl ?_
    refine g_off (t := 12) rfl rfl rfl rfl ?_
    refine gv rfl (y_pick_t rfl rfl) ?_
    refine gv rfl (y_move rfl) ?_
    refine g_off (t := 17) rfl rfl rfl rfl ?_
    refine g_off (t := 17) rfl rfl rfl rfl ?_
    refine g_off (t := 17) rfl rfl rfl rfl ?_
    refine g_off (t := 17) rfl rfl rfl rfl ?_
    refine g_off (t := 17) rfl rfl rfl rfl ?_
    refine g_off (t := 17) rfl rfl rfl rfl ?_
    refine gv rfl (y_pick_t rfl rfl) ?_
    refine l_nil ?_
    refine q_then ?_
    refine c_cond_t rfl ?_
    refine c_seq ?_
    refine c_region rfl ?_
    refine gv rfl (y_assign rfl) ?_
    refine l_nil ?_
    refine q_then ?_
    refine c_ret ?_
    refine q_then_ret ?_
    exact q_ret1 Tryz.results127 rfl () trivial (congrArg Value.bool (labelF_bad (by first | exact .inl h7 | exact .inr (.inl h12) | exact .inr (.inr (.inl h17)) | exact .inr (.inr (.inr h24)))).symm) hs_nil
  · intro h7
    refine g_on (t := 7) rfl rfl ?_
    refine gv rfl (y_move rfl) ?_
    refine g_on (t := 7) rfl rfl ?_
    refine gv rfl (y_slen Tryz.underlying9 rfl rfl) ?_
    refine g_on (t := 7) rfl rfl ?_
    refine gv rfl (y_gtr rfl rfl) ?_
    refine gv rfl (y_pick_f rfl rfl) ?_
    refine gv rfl (y_move rfl) ?_
    refine g_dec (t := 12) rfl ?_ ?_
    · intro h12
      refine g_off (t := 12) rfl rfl rfl rfl ?_
      refine g_off (t := 12) rfl rfl rfl rfl ?_
      refine g_off (t := 12) rfl rfl rfl rfl ?_
      refine gv rfl (y_pick_t rfl rfl) ?_
      refine gv rfl (y_move rfl) ?_
      refine g_off (t := 17) rfl rfl rfl rfl ?_
      refine g_off (t := 17) rfl rfl rfl rfl ?_
      refine g_off (t := 17) rfl rfl rfl rfl ?_
      refine g_off (t := 17) rfl rfl rfl rfl ?_
      refine g_off (t := 17) rfl rfl rfl rfl ?_
      refine g_off (t := 17) rfl rfl rfl rfl ?_
      refine gv rfl (y_pick_t rfl rfl) ?_
      refine l_nil ?_
      refine q_then ?_
      refine c_cond_t rfl ?_
      refine c_seq ?_
      refine c_region rfl ?_
      refine gv rfl (y_assign rfl) ?_
      refine l_nil ?_
      refine q_then ?_
      refine c_ret ?_
      refine q_then_ret ?_
      exact q_ret1 Tryz.results127 rfl () trivial (congrArg Value.bool (labelF_bad (by first | exact .inl h7 | exact .inr (.inl h12) | exact .inr (.inr (.inl h17)) | exact .inr (.inr (.inr h24)))).symm) hs_nil
    · intro h12
      refine g_on (t := 12) rfl rfl ?_
      refine gv rfl (y_move rfl) ?_
      refine g_on (t := 12) rfl rfl ?_
      refine gv rfl (y_sidx Tryz.underlying9 rfl rfl (by omega) (by omega)) ?_
      refine g_on (t := 12) rfl rfl ?_
      refine gv rfl (y_eql rfl rfl) ?_
      refine gv rfl (y_pick_f rfl rfl) ?_
      refine gv rfl (y_move rfl) ?_
      refine g_dec (t := 17) rfl ?_ ?_
      · intro h17
        refine g_off (t := 17) rfl rfl rfl rfl ?_
        refine g_off (t := 17) rfl rfl rfl rfl ?_
        refine g_off (t := 17) rfl rfl rfl rfl ?_
        refine g_off (t := 17) rfl rfl rfl rfl ?_
        refine g_off (t := 17) rfl rfl rfl rfl ?_
        refine g_off (t := 17) rfl rfl rfl rfl ?_
        refine gv rfl (y_pick_t rfl rfl) ?_
        refine l_nil ?_
        refine q_then ?_
        refine c_cond_t rfl ?_
        refine c_seq ?_
        refine c_region rfl ?_
        refine gv rfl (y_assign rfl) ?_
        refine l_nil ?_
        refine q_then ?_
        refine c_ret ?_
        refine q_then_ret ?_
        exact q_ret1 Tryz.results127 rfl () trivial (congrArg Value.bool (labelF_bad (by first | exact .inl h7 | exact .inr (.inl h12) | exact .inr (.inr (.inl h17)) | exact .inr (.inr (.inr h24)))).symm) hs_nil
      · intro h17
        refine g_on (t := 17) rfl rfl ?_
        refine gv rfl (y_move rfl) ?_
        refine g_on (t := 17) rfl rfl ?_
        refine gv rfl (y_move rfl) ?_
        refine g_on (t := 17) rfl rfl ?_
        refine gv rfl (y_slen Tryz.underlying9 rfl rfl) ?_
        refine g_on (t := 17) rfl rfl ?_
        refine gv rfl (y_sub_ rfl rfl (wrap_in (by omega) (by omega))) ?_
        refine g_on (t := 17) rfl rfl ?_
        refine gv rfl (y_sidx Tryz.underlying9 rfl rfl (by omega) (by omega)) ?_
        refine g_on (t := 17) rfl rfl ?_
        refine gv rfl (y_eql rfl rfl) ?_
        refine gv rfl (y_pick_f rfl rfl) ?_
        refine l_nil ?_
        refine q_then ?_
        refine c_dec rfl ?_ ?_
        · intro h24
          refine c_seq ?_
          refine c_region rfl ?_
          refine gv rfl (y_assign rfl) ?_
          refine l_nil ?_
          refine q_then ?_
          refine c_ret ?_
          refine q_then_ret ?_
          exact q_ret1 Tryz.results127 rfl () trivial (congrArg Value.bool (labelF_bad (by first | exact .inl h7 | exact .inr (.inl h12) | exact .inr (.inr (.inl h17)) | exact .inr (.inr (.inr h24)))).symm) hs_nil
        · intro h24
          refine c_skip ?_
          refine q_then ?_
          refine c_seq ?_
          refine c_seq ?_
          refine c_region rfl ?_
          refine gv rfl (y_assign rfl) ?_
          refine l_nil ?_
          refine q_then ?_
          refine c_block ?_
          refine loop (Ef := [(0, _)]) (Hf := []) (fun s : Nat => s ≤ l.length ∧ ∀ i, i < s → ∀ u, l[i]? = some u → outB u = false) (fun s : Nat => [(3, .int .i64 (s : Int))]) (fun s : Nat => []) (fun s : Nat => l.length - s) 0 ⟨by omega, none_get⟩ (sub_cons rfl sub_nil) (sub_cons rfl sub_nil) (hs_pick (is := []) rfl rfl) ?_
          rintro s ⟨hs, hI⟩
          refine c_sub (E' := [(3, _), (0, _)]) (sub_cons rfl (sub_cons rfl sub_nil)) ?_
          refine c_seq ?_
          refine c_seq ?_
          refine c_region rfl ?_
          refine gv rfl (y_move rfl) ?_
          refine gv rfl (y_move rfl) ?_
          refine gv rfl (y_slen Tryz.underlying9 rfl rfl) ?_
          refine gv rfl (y_lss rfl rfl) ?_
          refine l_nil ?_
          refine q_then ?_
          refine c_dec rfl ?_ ?_
          · intro h28
            have hlt : s < l.length := by omega
            obtain ⟨v, hv⟩ := get_lt hlt
            have ev := getD_of_get (d := 0) hv
            have ec : chr l (s : Int) = (v.toNat : Int) := by unfold chr; rw [show ((s : Int)).toNat = s from rfl, ev]
            have hvb : v.toNat < 256 := v.toNat_lt
            refine c_skip ?_
            refine q_then ?_
            refine c_seq ?_
            refine c_block ?_
            refine c_seq ?_
            refine c_region rfl ?_
            refine gv rfl (y_move rfl) ?_
            refine gv rfl (y_move rfl) ?_
            refine gv rfl (y_sidx Tryz.underlying9 rfl rfl (by omega) (by omega)) ?_
            refine gv rfl (y_geq rfl rfl) ?_
            refine gv rfl (y_move rfl) ?_
            refine g_dec (t := 35) rfl ?_ ?_
            · intro h35
              refine g_on (t := 35) rfl rfl ?_
              refine gv rfl (y_move rfl) ?_
              refine g_on (t := 35) rfl rfl ?_
              refine gv rfl (y_move rfl) ?_
              refine g_on (t := 35) rfl rfl ?_
              refine gv rfl (y_sidx Tryz.underlying9 rfl rfl (by omega) (by omega)) ?_
              refine g_on (t := 35) rfl rfl ?_
              refine gv rfl (y_leq rfl rfl) ?_
              refine gv rfl (y_pick_t rfl rfl) ?_
              refine gv rfl (y_not rfl rfl) ?_
              refine gv rfl (y_move rfl) ?_
              refine g_ndec (t := 42) rfl ?_ ?_
              · intro h42
                refine g_on (t := 42) rfl rfl ?_
                refine gv rfl (y_move rfl) ?_
                refine g_on (t := 42) rfl rfl ?_
                refine gv rfl (y_move rfl) ?_
                refine g_on (t := 42) rfl rfl ?_
                refine gv rfl (y_sidx Tryz.underlying9 rfl rfl (by omega) (by omega)) ?_
                rw [ec]
                refine g_on (t := 42) rfl rfl ?_
                refine l_callU rfl ent147 rfl (fun w hm => isDigit_c (c := v) w) ?_
                refine g_on (t := 42) rfl rfl ?_
                refine gv rfl (y_not rfl rfl) ?_
                refine gv rfl (y_pick_t rfl rfl) ?_
                refine gv rfl (y_move rfl) ?_
                refine g_bool (t := 49) rfl ?_ ?_
                · intro h49
                  have hdn : ¬(48 ≤ v.toNat ∧ v.toNat ≤ 57) := fun k => by rw [digB_iff.2 k] at h49; cases h49
                  refine g_on (t := 49) rfl rfl ?_
                  refine gv rfl (y_move rfl) ?_
                  refine g_on (t := 49) rfl rfl ?_
                  refine gv rfl (y_move rfl) ?_
                  refine g_on (t := 49) rfl rfl ?_
                  refine gv rfl (y_sidx Tryz.underlying9 rfl rfl (by omega) (by omega)) ?_
                  refine g_on (t := 49) rfl rfl ?_
                  refine gv rfl (y_neq rfl rfl) ?_
                  refine gv rfl (y_pick_t rfl rfl) ?_
                  refine l_nil ?_
                  refine q_then ?_
                  refine c_dec rfl ?_ ?_
                  · intro h54
                    refine c_seq ?_
                    refine c_region rfl ?_
                    refine gv rfl (y_assign rfl) ?_
                    refine l_nil ?_
                    refine q_then ?_
                    refine c_ret ?_
                    refine q_block_ret (q_then_ret (q_loop_ret (q_block_ret (q_then_ret ?_))))
                    exact q_ret1 Tryz.results127 rfl () trivial (congrArg Value.bool (labelF_out hv (outB_iff.2 (by omega))).symm) hs_nil
                  · intro h54
                    refine c_skip ?_
                    refine q_block (q_then ?_)
                    refine c_region rfl ?_
                    refine gv rfl (y_move rfl) ?_
                    refine gv rfl (y_add rfl rfl (wrap_in (by omega) (by omega))) ?_
                    refine gv rfl (y_assign rfl) ?_
                    refine l_nil ?_
                    exact again (s + 1) ⟨by omega, step_get hI hv (by cases hb : outB v with | false => rfl | true => exact absurd (outB_iff.1 hb) (by rintro ⟨k1, k2, k3⟩; omega))⟩ (by omega) (sub_cons rfl sub_nil) (sub_cons rfl sub_nil) (hs_pick (is := []) rfl rfl)
                · intro h49
                  have hdg := digB_iff.1 (show digB v = true by simpa using h49)
                  refine g_off (t := 49) rfl rfl rfl rfl ?_
                  refine g_off (t := 49) rfl rfl rfl rfl ?_
                  refine g_off (t := 49) rfl rfl rfl rfl ?_
                  refine g_off (t := 49) rfl rfl rfl rfl ?_
                  refine gv rfl (y_pick_f rfl rfl) ?_
                  refine l_nil ?_
                  refine q_then ?_
                  refine c_cond_f rfl ?_
                  refine c_skip ?_
                  refine q_block (q_then ?_)
                  refine c_region rfl ?_
                  refine gv rfl (y_move rfl) ?_
                  refine gv rfl (y_add rfl rfl (wrap_in (by omega) (by omega))) ?_
                  refine gv rfl (y_assign rfl) ?_
                  refine l_nil ?_
                  exact again (s + 1) ⟨by omega, step_get hI hv (by cases hb : outB v with | false => rfl | true => exact absurd (outB_iff.1 hb) (by rintro ⟨k1, k2, k3⟩; omega))⟩ (by omega) (sub_cons rfl sub_nil) (sub_cons rfl sub_nil) (hs_pick (is := []) rfl rfl)
              · intro h42
                refine g_off (t := 42) rfl rfl rfl rfl ?_
                refine g_off (t := 42) rfl rfl rfl rfl ?_
                refine g_off (t := 42) rfl rfl rfl rfl ?_
                rw [ec]
                refine g_off (t := 42) rfl rfl rfl rfl ?_
                refine g_off (t := 42) rfl rfl rfl rfl ?_
                refine gv rfl (y_pick_f rfl rfl) ?_
                refine gv rfl (y_move rfl) ?_
                refine g_off (t := 49) rfl rfl rfl rfl ?_
                refine g_off (t := 49) rfl rfl rfl rfl ?_
                refine g_off (t := 49) rfl rfl rfl rfl ?_
                refine g_off (t := 49) rfl rfl rfl rfl ?_
                refine gv rfl (y_pick_f rfl rfl) ?_
                refine l_nil ?_
                refine q_then ?_
                refine c_cond_f rfl ?_
                refine c_skip ?_
                refine q_block (q_then ?_)
                refine c_region rfl ?_
                refine gv rfl (y_move rfl) ?_
                refine gv rfl (y_add rfl rfl (wrap_in (by omega) (by omega))) ?_
                refine gv rfl (y_assign rfl) ?_
                refine l_nil ?_
                exact again (s + 1) ⟨by omega, step_get hI hv (by cases hb : outB v with | false => rfl | true => exact absurd (outB_iff.1 hb) (by rintro ⟨k1, k2, k3⟩; omega))⟩ (by omega) (sub_cons rfl sub_nil) (sub_cons rfl sub_nil) (hs_pick (is := []) rfl rfl)
            · intro h35
              refine g_off (t := 35) rfl rfl rfl rfl ?_
              refine g_off (t := 35) rfl rfl rfl rfl ?_
              refine g_off (t := 35) rfl rfl rfl rfl ?_
              refine g_off (t := 35) rfl rfl rfl rfl ?_
              refine gv rfl (y_pick_f rfl rfl) ?_
              refine gv rfl (y_not rfl rfl) ?_
              refine gv rfl (y_move rfl) ?_
              refine g_on (t := 42) rfl rfl ?_
              refine gv rfl (y_move rfl) ?_
              refine g_on (t := 42) rfl rfl ?_
              refine gv rfl (y_move rfl) ?_
              refine g_on (t := 42) rfl rfl ?_
              refine gv rfl (y_sidx Tryz.underlying9 rfl rfl (by omega) (by omega)) ?_
              rw [ec]
              refine g_on (t := 42) rfl rfl ?_
              refine l_callU rfl ent147 rfl (fun w hm => isDigit_c (c := v) w) ?_
              refine g_on (t := 42) rfl rfl ?_
              refine gv rfl (y_not rfl rfl) ?_
              refine gv rfl (y_pick_t rfl rfl) ?_
              refine gv rfl (y_move rfl) ?_
              refine g_bool (t := 49) rfl ?_ ?_
              · intro h49
                have hdn : ¬(48 ≤ v.toNat ∧ v.toNat ≤ 57) := fun k => by rw [digB_iff.2 k] at h49; cases h49
                refine g_on (t := 49) rfl rfl ?_
                refine gv rfl (y_move rfl) ?_
                refine g_on (t := 49) rfl rfl ?_
                refine gv rfl (y_move rfl) ?_
                refine g_on (t := 49) rfl rfl ?_
                refine gv rfl (y_sidx Tryz.underlying9 rfl rfl (by omega) (by omega)) ?_
                refine g_on (t := 49) rfl rfl ?_
                refine gv rfl (y_neq rfl rfl) ?_
                refine gv rfl (y_pick_t rfl rfl) ?_
                refine l_nil ?_
                refine q_then ?_
                refine c_dec rfl ?_ ?_
                · intro h54
                  refine c_seq ?_
                  refine c_region rfl ?_
                  refine gv rfl (y_assign rfl) ?_
                  refine l_nil ?_
                  refine q_then ?_
                  refine c_ret ?_
                  refine q_block_ret (q_then_ret (q_loop_ret (q_block_ret (q_then_ret ?_))))
                  exact q_ret1 Tryz.results127 rfl () trivial (congrArg Value.bool (labelF_out hv (outB_iff.2 (by omega))).symm) hs_nil
                · intro h54
                  refine c_skip ?_
                  refine q_block (q_then ?_)
                  refine c_region rfl ?_
                  refine gv rfl (y_move rfl) ?_
                  refine gv rfl (y_add rfl rfl (wrap_in (by omega) (by omega))) ?_
                  refine gv rfl (y_assign rfl) ?_
                  refine l_nil ?_
                  exact again (s + 1) ⟨by omega, step_get hI hv (by cases hb : outB v with | false => rfl | true => exact absurd (outB_iff.1 hb) (by rintro ⟨k1, k2, k3⟩; omega))⟩ (by omega) (sub_cons rfl sub_nil) (sub_cons rfl sub_nil) (hs_pick (is := []) rfl rfl)
              · intro h49
                have hdg := digB_iff.1 (show digB v = true by simpa using h49)
                refine g_off (t := 49) rfl rfl rfl rfl ?_
                refine g_off (t := 49) rfl rfl rfl rfl ?_
                refine g_off (t := 49) rfl rfl rfl rfl ?_
                refine g_off (t := 49) rfl rfl rfl rfl ?_
                refine gv rfl (y_pick_f rfl rfl) ?_
                refine l_nil ?_
                refine q_then ?_
                refine c_cond_f rfl ?_
                refine c_skip ?_
                refine q_block (q_then ?_)
                refine c_region rfl ?_
                refine gv rfl (y_move rfl) ?_
                refine gv rfl (y_add rfl rfl (wrap_in (by omega) (by omega))) ?_
                refine gv rfl (y_assign rfl) ?_
                refine l_nil ?_
                exact again (s + 1) ⟨by omega, step_get hI hv (by cases hb : outB v with | false => rfl | true => exact absurd (outB_iff.1 hb) (by rintro ⟨k1, k2, k3⟩; omega))⟩ (by omega) (sub_cons rfl sub_nil) (sub_cons rfl sub_nil) (hs_pick (is := []) rfl rfl)
          · intro h28
            refine c_exit ?_
            refine q_then_exit (q_loop_exit (q_block_exit (q_then ?_)))
            refine c_seq ?_
            refine c_region rfl ?_
            refine gv rfl (y_assign rfl) ?_
            refine l_nil ?_
            refine q_then ?_
            refine c_ret ?_
            exact q_ret1 Tryz.results127 rfl () trivial (congrArg Value.bool (labelF_ok h7 h12 h17 h24 (all_get hI (by omega))).symm) hs_nil

theorem ent126 : enters Tryz.prog 126 = true := by kernel_rfl

theorem zero9 : zeroOf Tryz.prog 9 = some (.string (B [])) := by kernel_rfl

theorem ap9 : apT Tryz.prog 9 1 16 = true := by kernel_rfl

theorem ent128 : enters Tryz.prog 128 = true := by kernel_rfl

theorem ent106 : enters Tryz.prog 106 = true := by kernel_rfl

theorem ent125 : enters Tryz.prog 125 = true := by kernel_rfl

theorem ent127 : enters Tryz.prog 127 = true := by kernel_rfl

theorem ent105 : enters Tryz.prog 105 = true := by kernel_rfl

theorem ent80 : enters Tryz.prog 80 = true := by kernel_rfl

theorem ent81 : enters Tryz.prog 81 = true := by kernel_rfl

theorem ent82 : enters Tryz.prog 82 = true := by kernel_rfl

theorem ent83 : enters Tryz.prog 83 = true := by kernel_rfl

theorem ent84 : enters Tryz.prog 84 = true := by kernel_rfl


theorem partsOfS_c {l : List UInt8} {b : UInt8} (w : World) (hl : l.length ≤ 1073741824) (ih : ∀ (m : List UInt8) (w : World), m.length < l.length → Ct Tryz.prog 126 #[.string (B m), .int .u8 (b.toNat : Int)] w (fun x : Option Addr × Nat => .slice x.1 (partsB b m).length x.2) (fun x => PartsR 9 b m x) (fun _ => True)) : Ct Tryz.prog 126 #[.string (B l), .int .u8 (b.toNat : Int)] w (fun x : Option Addr × Nat => .slice x.1 (partsB b l).length x.2) (fun x => PartsR 9 b l x) (fun _ => True) := by
  refine enter (E := [(0, .string (B l)), (1, .int .u8 (b.toNat : Int))]) Tryz.func126 rfl Tryz.ntmps126 rfl (by simp) ?_
  refine c_seq ?_
  refine c_region rfl ?_
  refine gv rfl (y_assign rfl) ?_
  refine l_nil ?_
  refine q_then ?_
  refine c_seq ?_
  refine c_seq ?_
  refine c_region rfl ?_
  refine gv rfl (y_move rfl) ?_
  refine gv rfl (y_slen Tryz.underlying9 rfl rfl) ?_
  refine gv rfl (y_sub_ rfl rfl (wrap_in (by omega) (by omega))) ?_
  refine gv rfl (y_assign rfl) ?_
  refine l_nil ?_
  refine q_then ?_
  refine c_block ?_
  refine loop (Ef := [(0, _), (1, _)]) (Hf := []) (fun i : Int => -1 ≤ i ∧ i < l.length ∧ ∀ u ∈ l.drop (i + 1).toNat, u ≠ b) (fun i : Int => [(5, .int .i64 i)]) (fun i : Int => []) (fun i : Int => (i + 1).toNat) ((l.length : Int) - 1) ⟨by omega, by omega, by rw [show ((l.length : Int) - 1 + 1).toNat = l.length by omega, List.drop_length]; simp⟩ (sub_cons rfl sub_nil) (sub_cons rfl (sub_cons rfl sub_nil)) (hs_pick (is := []) rfl rfl) ?_
  rintro i ⟨hi0, hi1, hI⟩
  refine c_sub (E' := [(5, _), (0, _), (1, _)]) (sub_cons rfl (sub_cons rfl (sub_cons rfl sub_nil))) ?_
  refine c_seq ?_
  refine c_seq ?_
  refine c_region rfl ?_
  refine gv rfl (y_move rfl) ?_
  refine gv rfl (y_geq rfl rfl) ?_
  refine l_nil ?_
  refine q_then ?_
  refine c_dec rfl ?_ ?_
  · intro h10
    obtain ⟨v, hv⟩ := get_lt (l := l) (i := i.toNat) (by omega)
    have ec : chr l i = (v.toNat : Int) := by unfold chr; rw [getD_of_get hv]
    have hpl := partsB_len b (l.take i.toNat)
    have htl := List.length_take_le i.toNat l
    refine c_skip ?_
    refine q_then ?_
    refine c_seq ?_
    refine c_block ?_
    refine c_seq ?_
    refine c_region rfl ?_
    refine gv rfl (y_move rfl) ?_
    refine gv rfl (y_move rfl) ?_
    refine gv rfl (y_sidx Tryz.underlying9 rfl rfl (by omega) (by omega)) ?_
    refine gv rfl (y_move rfl) ?_
    refine gv rfl (y_eql rfl rfl) ?_
    refine l_nil ?_
    refine q_then ?_
    refine c_dec rfl ?_ ?_
    · intro h17
      have hvb : l[i.toNat]? = some b := by rw [hv]; exact congrArg some (UInt8.toNat.inj (by omega))
      have eP : partsB b l = partsB b (l.take i.toNat) ++ [(l.drop (i + 1).toNat)] := by rw [show (i + 1).toNat = i.toNat + 1 by omega] at hI ⊢; exact partsB_last hvb hI
      refine c_seq ?_
      refine c_drawp (l := #[false, false, false, false, false, false, false, false, false, false, false, false]) 12 (is := []) rfl rfl rfl rfl ?_
      refine h_take (l' := #[true, false, false, false, false, false, false, false, false, false, false, false]) 0 rfl (by kernel_rfl) rfl rfl (np_then (np_block (np_then (np_loop (np_block (np_then np_post)))))) (hs_pick (is := []) rfl rfl) (y_move rfl) ?_
      refine h_take (l' := #[true, true, false, false, false, false, false, false, false, false, false, false]) 1 rfl (by kernel_rfl) rfl rfl (np_then (np_block (np_then (np_loop (np_block (np_then np_post)))))) (hs_pick (is := []) rfl rfl) (y_move rfl) ?_
      refine h_take (l' := #[true, true, true, false, false, false, false, false, false, false, false, false]) 2 rfl (by kernel_rfl) rfl rfl (np_then (np_block (np_then (np_loop (np_block (np_then np_post)))))) (hs_pick (is := []) rfl rfl) (y_sto Tryz.underlying9 rfl rfl (by omega) (by omega) rfl) ?_
      refine h_take (l' := #[true, true, true, true, false, false, false, false, false, false, false, false]) 3 rfl (by kernel_rfl) rfl rfl (np_then (np_block (np_then (np_loop (np_block (np_then np_post)))))) (hs_pick (is := []) rfl rfl) (y_move rfl) ?_
      refine h_take (l' := #[true, true, true, true, false, true, false, false, false, false, false, false]) 5 rfl (by kernel_rfl) rfl rfl (np_then (np_block (np_then (np_loop (np_block (np_then np_post)))))) (hs_pick (is := []) rfl rfl) (y_move rfl) ?_
      refine h_take (l' := #[true, true, true, true, false, true, true, false, false, false, false, false]) 6 rfl (by kernel_rfl) rfl rfl (np_then (np_block (np_then (np_loop (np_block (np_then np_post)))))) (hs_pick (is := []) rfl rfl) (y_move rfl) ?_
      refine h_take (l' := #[true, true, true, true, false, true, true, true, false, false, false, false]) 7 rfl (by kernel_rfl) rfl rfl (np_then (np_block (np_then (np_loop (np_block (np_then np_post)))))) (hs_pick (is := []) rfl rfl) (y_add rfl rfl (wrap_in (by omega) (by omega))) ?_
      refine h_take (l' := #[true, true, true, true, false, true, true, true, true, false, false, false]) 8 rfl (by kernel_rfl) rfl rfl (np_then (np_block (np_then (np_loop (np_block (np_then np_post)))))) (hs_pick (is := []) rfl rfl) (y_sfrom Tryz.underlying9 rfl rfl (by omega) (by omega) rfl) ?_
      refine h_two (l' := #[true, true, true, true, true, true, true, true, true, false, false, false]) (l'' := #[true, true, true, true, false, true, true, true, true, true, false, false]) 4 9 rfl rfl (by kernel_rfl) rfl rfl ?_ ?_
      · skip
        refine l_call rfl ent126 rfl (fun w hm => ih _ w (by rw [List.length_take]; omega)) ?_; rintro x22 h22
        refine l_nil ?_
        refine q_step (fun _ => hs_pick (is := []) rfl rfl) ?_
        refine h_only (l' := #[true, true, true, true, true, true, true, true, true, true, false, false]) 9 rfl (by kernel_rfl) rfl ?_
        refine l_bslice (cl := [_]) rfl elem117 ap9 zero9 rfl rfl rfl rfl rfl rfl rfl ?_; intro g27
        refine l_nil ?_
        refine q_step (fun _ => hs_pick (is := []) rfl rfl) ?_
        refine h_only (l' := #[true, true, true, true, true, true, true, true, true, true, true, false]) 10 rfl (by kernel_rfl) rfl ?_
        refine l_append (k := 1) (j := 0) (zs := (partsB b (l.take i.toNat) ++ [(l.drop (i + 1).toNat)]).flatMap st1) rfl elem117 ap9 rfl rfl rfl rfl rfl rfl (by omega) (by omega) (by simp [st1]) ?_; intro A28 c28
        refine l_nil ?_
        refine q_step (fun _ => hs_pick (is := []) rfl rfl) ?_
        refine h_take (l' := #[true, true, true, true, true, true, true, true, true, true, true, true]) 11 rfl (by kernel_rfl) rfl rfl (np_then (np_block (np_then (np_loop (np_block (np_then np_post)))))) (hs_pick (is := []) rfl rfl) (y_assign rfl) ?_
        refine h_done (by kernel_rfl) ?_
        refine q_then ?_
        refine c_ret ?_
        refine q_block_ret (q_then_ret (q_loop_ret (q_block_ret (q_then_ret ?_))))
        exact q_ret1 Tryz.results126 rfl (A28, c28) trivial (by rw [eP, List.length_append]; rfl) (by unfold PartsR; rw [eP, List.length_append]; exact hs_pick (is := [1]) rfl rfl)
      · skip
        refine l_bslice (cl := [_]) rfl elem117 ap9 zero9 rfl rfl rfl rfl rfl rfl rfl ?_; intro g27
        refine l_nil ?_
        refine q_step (fun _ => hs_pick (is := []) rfl rfl) ?_
        refine h_only (l' := #[true, true, true, true, true, true, true, true, true, true, false, false]) 4 rfl (by kernel_rfl) rfl ?_
        refine l_call rfl ent126 rfl (fun w hm => ih _ w (by rw [List.length_take]; omega)) ?_; rintro x22 h22
        refine l_nil ?_
        refine q_step (fun _ => hs_pick (is := []) rfl rfl) ?_
        refine h_only (l' := #[true, true, true, true, true, true, true, true, true, true, true, false]) 10 rfl (by kernel_rfl) rfl ?_
        refine l_append (k := 0) (j := 1) (zs := (partsB b (l.take i.toNat) ++ [(l.drop (i + 1).toNat)]).flatMap st1) rfl elem117 ap9 rfl rfl rfl rfl rfl rfl (by omega) (by omega) (by simp [st1]) ?_; intro A28 c28
        refine l_nil ?_
        refine q_step (fun _ => hs_pick (is := []) rfl rfl) ?_
        refine h_take (l' := #[true, true, true, true, true, true, true, true, true, true, true, true]) 11 rfl (by kernel_rfl) rfl rfl (np_then (np_block (np_then (np_loop (np_block (np_then np_post)))))) (hs_pick (is := []) rfl rfl) (y_assign rfl) ?_
        refine h_done (by kernel_rfl) ?_
        refine q_then ?_
        refine c_ret ?_
        refine q_block_ret (q_then_ret (q_loop_ret (q_block_ret (q_then_ret ?_))))
        exact q_ret1 Tryz.results126 rfl (A28, c28) trivial (by rw [eP, List.length_append]; rfl) (by unfold PartsR; rw [eP, List.length_append]; exact hs_pick (is := [0]) rfl rfl)
    · intro h17
      refine c_skip ?_
      refine q_block (q_then ?_)
      refine c_region rfl ?_
      refine gv rfl (y_move rfl) ?_
      refine gv rfl (y_sub_ rfl rfl (wrap_in (by omega) (by omega))) ?_
      refine gv rfl (y_assign rfl) ?_
      refine l_nil ?_
      exact again (i - 1) ⟨by omega, by omega, by rw [show (i - 1 + 1).toNat = i.toNat by omega, List.drop_eq_getElem_cons (List.getElem?_eq_some_iff.1 hv).1, (List.getElem?_eq_some_iff.1 hv).2, show i.toNat + 1 = (i + 1).toNat by omega]; intro u hu; rcases List.mem_cons.1 hu with rfl | hu; exact fun e => h17 (by rw [ec, e]); exact hI u hu⟩ (by omega) (sub_cons rfl sub_nil) (sub_cons rfl (sub_cons rfl sub_nil)) (hs_pick (is := []) rfl rfl)
  · intro h10
    refine c_exit ?_
    refine q_then_exit (q_loop_exit (q_block_exit (q_then ?_)))
    refine c_seq ?_
    refine c_region rfl ?_
    refine gv rfl (y_move rfl) ?_
    refine l_bslice (cl := [_]) rfl elem117 ap9 zero9 rfl rfl rfl rfl rfl rfl rfl ?_; intro g30
    refine gv rfl (y_assign rfl) ?_
    refine l_nil ?_
    refine q_then ?_
    refine c_rowclose (k := 0) (n := 1) (c := 1) (sz := 1) (xs := [Value.string (B l)]) rfl rfl (by omega) (by decide) rfl ?_
    refine c_ret ?_
    have eP := partsB_none (l := l) (b := b) (by intro u hu; exact hI u (by rw [show (i + 1).toNat = 0 by omega]; exact hu))
    exact q_ret1 Tryz.results126 rfl (some ⟨g30, 0, none⟩, 1) trivial (by rw [eP]; rfl) (by unfold PartsR; rw [eP]; exact hs_pick (is := [0]) rfl rfl)

theorem partsOf_c {l : List UInt8} {b : UInt8} (w : World) (hl : l.length ≤ 1073741824) : Ct Tryz.prog 126 #[.string (B l), .int .u8 (b.toNat : Int)] w (fun x : Option Addr × Nat => .slice x.1 (partsB b l).length x.2) (fun x => PartsR 9 b l x) (fun _ => True) := by
  have key : ∀ (n : Nat) (l : List UInt8), l.length ≤ n → l.length ≤ 1073741824 → ∀ w : World, Ct Tryz.prog 126 #[.string (B l), .int .u8 (b.toNat : Int)] w (fun x : Option Addr × Nat => .slice x.1 (partsB b l).length x.2) (fun x => PartsR 9 b l x) (fun _ => True) := by
    intro n
    induction n with
    | zero => intro l h hl w; exact partsOfS_c w hl (fun m w hm => by omega)
    | succ n ih => intro l h hl w; exact partsOfS_c w hl (fun m w hm => ih m (by omega) (by omega) w)
  exact key l.length l (Nat.le_refl _) hl w


theorem leadDigits_c {l : List UInt8} (w : World) (hl : l.length ≤ 1073741824) : Cv Tryz.prog 128 #[.string (B l)] w (.tuple #[.int .i64 (ldK l : Int), .int .i64 (ldN l)]) := by
  refine enter (E := [(0, .string (B l))]) Tryz.func128 rfl Tryz.ntmps128 rfl (by simp) ?_
  refine c_seq ?_
  refine c_region rfl ?_
  refine gv rfl (y_assign rfl) ?_
  refine gv rfl (y_assign rfl) ?_
  refine l_nil ?_
  refine q_then ?_
  refine c_seq ?_
  refine c_region rfl ?_
  refine gv rfl (y_assign rfl) ?_
  refine gv rfl (y_assign rfl) ?_
  refine l_nil ?_
  refine q_then ?_
  refine c_seq ?_
  refine c_block ?_
  refine loop (Ef := [(0, _)]) (Hf := []) (fun x : Nat × Int => x.1 ≤ l.length ∧ (∀ i, i < x.1 → ∀ u, l[i]? = some u → digB u = true) ∧ x.2 = numT 0 ((l.take x.1).take 5) ∧ 0 ≤ x.2 ∧ x.2 < pw (min x.1 5)) (fun x : Nat × Int => [(4, .int .i64 (x.1 : Int)), (5, .int .i64 x.2)]) (fun x : Nat × Int => []) (fun x : Nat × Int => l.length - x.1) (0, 0) ⟨Nat.zero_le _, fun i hi => by omega, rfl, Int.le_refl _, by decide⟩ (sub_cons rfl (sub_cons rfl sub_nil)) (sub_cons rfl sub_nil) (hs_pick (is := []) rfl rfl) ?_
  rintro ⟨s, n⟩ ⟨hs, hI, hn, h0, hb⟩
  dsimp only at hs hI hn h0 hb ⊢
  have hpw := pw_le (s := min s 5) (by omega)
  refine c_sub (E' := [(4, _), (5, _), (0, _)]) (sub_cons rfl (sub_cons rfl (sub_cons rfl sub_nil))) ?_
  refine c_seq ?_
  refine c_seq ?_
  refine c_region rfl ?_
  refine gv rfl (y_move rfl) ?_
  refine gv rfl (y_move rfl) ?_
  refine gv rfl (y_slen Tryz.underlying9 rfl rfl) ?_
  refine gv rfl (y_lss rfl rfl) ?_
  refine gv rfl (y_move rfl) ?_
  refine g_dec (t := 10) rfl ?_ ?_
  · intro h10
    have hlt : s < l.length := by omega
    obtain ⟨v, hv⟩ := get_lt hlt
    have ev := getD_of_get (d := 0) hv
    have ec : chr l (s : Int) = (v.toNat : Int) := by unfold chr; rw [show ((s : Int)).toNat = s from rfl, ev]
    have hvb : v.toNat < 256 := v.toNat_lt
    refine g_on (t := 10) rfl rfl ?_
    refine gv rfl (y_move rfl) ?_
    refine g_on (t := 10) rfl rfl ?_
    refine gv rfl (y_move rfl) ?_
    refine g_on (t := 10) rfl rfl ?_
    refine gv rfl (y_sidx Tryz.underlying9 rfl rfl (by omega) (by omega)) ?_
    rw [ec]
    refine g_on (t := 10) rfl rfl ?_
    refine l_callU rfl ent147 rfl (fun w hm => isDigit_c (c := v) w) ?_
    refine gv rfl (y_pick_t rfl rfl) ?_
    refine l_nil ?_
    refine q_then ?_
    refine c_bool rfl ?_ ?_
    · intro h15
      have hdg := digB_iff.1 h15
      refine c_skip ?_
      refine q_then ?_
      refine c_block ?_
      refine c_seq ?_
      refine c_seq ?_
      refine c_region rfl ?_
      refine gv rfl (y_move rfl) ?_
      refine gv rfl (y_lss rfl rfl) ?_
      refine l_nil ?_
      refine q_then ?_
      refine c_dec rfl ?_ ?_
      · intro h17
        refine c_region rfl ?_
        refine gv rfl (y_move rfl) ?_
        refine gv rfl (y_mul rfl rfl (wrap_in (by omega) (by omega))) ?_
        refine gv rfl (y_move rfl) ?_
        refine gv rfl (y_move rfl) ?_
        refine gv rfl (y_sidx Tryz.underlying9 rfl rfl (by omega) (by omega)) ?_
        rw [ec]
        refine gv rfl (y_cvint cv5_3 rfl (wrap_i64 (by omega) (by omega))) ?_
        refine gv rfl (y_add rfl rfl (wrap_in (by omega) (by omega))) ?_
        refine gv rfl (y_sub_ rfl rfl (wrap_in (by omega) (by omega))) ?_
        refine gv rfl (y_assign rfl) ?_
        refine l_nil ?_
        refine q_then ?_
        refine c_region rfl ?_
        refine gv rfl (y_move rfl) ?_
        refine gv rfl (y_add rfl rfl (wrap_in (by omega) (by omega))) ?_
        refine gv rfl (y_assign rfl) ?_
        refine l_nil ?_
        refine q_block ?_
        exact again (s + 1, n * 10 + (v.toNat : Int) - 48) ⟨Nat.succ_le_of_lt hlt, step_all hI (fun u hu => by rw [hv] at hu; cases hu; exact h15), by dsimp only; rw [ld_more hv (by omega), ← hn], by dsimp only; omega, by dsimp only; rw [show min (s + 1) 5 = s + 1 by omega]; rw [show min s 5 = s by omega] at hb; simp only [pw]; omega⟩ (by omega) (sub_cons rfl (sub_cons rfl sub_nil)) (sub_cons rfl sub_nil) (hs_pick (is := []) rfl rfl)
      · intro h17
        refine c_skip ?_
        refine q_then ?_
        refine c_region rfl ?_
        refine gv rfl (y_move rfl) ?_
        refine gv rfl (y_add rfl rfl (wrap_in (by omega) (by omega))) ?_
        refine gv rfl (y_assign rfl) ?_
        refine l_nil ?_
        refine q_block ?_
        exact again (s + 1, n) ⟨Nat.succ_le_of_lt hlt, step_all hI (fun u hu => by rw [hv] at hu; cases hu; exact h15), by dsimp only; rw [ld_same hv (by omega)]; exact hn, h0, by dsimp only; rw [show min (s + 1) 5 = 5 by omega]; rw [show min s 5 = 5 by omega] at hb; exact hb⟩ (by omega) (sub_cons rfl (sub_cons rfl sub_nil)) (sub_cons rfl sub_nil) (hs_pick (is := []) rfl rfl)
    · intro h15
      refine c_exit ?_
      refine q_then_exit (q_loop_exit (q_block_exit (q_then ?_)))
      refine c_seq ?_
      refine c_region rfl ?_
      refine gv rfl (y_move rfl) ?_
      refine gv rfl (y_move rfl) ?_
      refine gv rfl (y_assign rfl) ?_
      refine gv rfl (y_assign rfl) ?_
      refine l_nil ?_
      refine q_then ?_
      refine c_ret ?_
      obtain ⟨eK, eN⟩ := ld_end hI hs hn (.inr ⟨v, hv, h15⟩)
      exact q_ret2 Tryz.results128 rfl rfl () trivial (by rw [eK, eN]) hs_nil
  · intro h10
    refine g_off (t := 10) rfl rfl rfl rfl ?_
    refine g_off (t := 10) rfl rfl rfl rfl ?_
    refine g_off (t := 10) rfl rfl rfl rfl ?_
    refine g_off (t := 10) rfl rfl rfl rfl ?_
    refine gv rfl (y_pick_f rfl rfl) ?_
    refine l_nil ?_
    refine q_then ?_
    refine c_cond_f rfl ?_
    refine c_exit ?_
    refine q_then_exit (q_loop_exit (q_block_exit (q_then ?_)))
    refine c_seq ?_
    refine c_region rfl ?_
    refine gv rfl (y_move rfl) ?_
    refine gv rfl (y_move rfl) ?_
    refine gv rfl (y_assign rfl) ?_
    refine gv rfl (y_assign rfl) ?_
    refine l_nil ?_
    refine q_then ?_
    refine c_ret ?_
    obtain ⟨eK, eN⟩ := ld_end hI hs hn (.inl (by omega))
    exact q_ret2 Tryz.results128 rfl rfl () trivial (by rw [eK, eN]) hs_nil


theorem isAddress_c {l : List UInt8} (w : World) (hl : l.length ≤ 1073741824) : Cv Tryz.prog 106 #[.string (B l)] w (.bool (addrF l)) := by
  refine enter (E := [(0, .string (B l))]) Tryz.func106 rfl Tryz.ntmps106 rfl (by simp) ?_
  refine c_seq ?_
  refine c_region rfl ?_
  refine gv rfl (y_assign rfl) ?_
  refine l_nil ?_
  refine q_then ?_
  refine c_seq ?_
  refine c_region rfl ?_
  refine gv rfl (y_move rfl) ?_
  refine l_call rfl ent126 rfl (fun w hm => partsOf_c (b := 46) w hl) ?_; rintro x8 h8
  have hpl := partsB_len 46 l
  refine gv rfl (y_assign rfl) ?_
  refine l_nil ?_
  refine q_then ?_
  refine c_seq ?_
  refine c_seq ?_
  refine c_region rfl ?_
  refine gv rfl (y_move rfl) ?_
  refine gv rfl (y_len elem117 rfl) ?_
  refine gv rfl (y_neq rfl rfl) ?_
  refine l_nil ?_
  refine q_then ?_
  refine c_dec rfl ?_ ?_
  · intro h11
    refine c_seq ?_
    refine c_region rfl ?_
    refine gv rfl (y_assign rfl) ?_
    refine l_nil ?_
    refine q_then ?_
    refine c_ret ?_
    refine q_then_ret ?_
    exact q_ret1 Tryz.results106 rfl () trivial (congrArg Value.bool (addrF_len h11).symm) hs_nil
  · intro h11
    refine c_skip ?_
    refine q_then ?_
    refine c_seq ?_
    refine c_seq ?_
    refine c_region rfl ?_
    refine gv rfl (y_assign rfl) ?_
    refine l_nil ?_
    refine q_then ?_
    refine c_block ?_
    refine loop (Ef := [(3, _)]) (Hf := [_]) (fun s : Nat => s ≤ 4 ∧ ∀ j, j < s → ∀ u, (partsB 46 l)[j]? = some u → (fun p => !partA p) u = false) (fun s : Nat => [(4, .int .i64 (s : Int))]) (fun s : Nat => []) (fun s : Nat => 4 - s) 0 ⟨by omega, none_get⟩ (sub_cons rfl sub_nil) (sub_cons rfl sub_nil) (hs_pick (is := [0]) rfl rfl) ?_
    rintro s ⟨hs, hI⟩
    refine c_sub (E' := [(4, _), (3, _)]) (sub_cons rfl (sub_cons rfl sub_nil)) ?_
    refine c_seq ?_
    refine c_seq ?_
    refine c_region rfl ?_
    refine gv rfl (y_move rfl) ?_
    refine gv rfl (y_lss rfl rfl) ?_
    refine l_nil ?_
    refine q_then ?_
    refine c_dec rfl ?_ ?_
    · intro h13
      have hlt : s < (partsB 46 l).length := by omega
      obtain ⟨v, hv⟩ := get_lt hlt
      have hvl := Nat.le_trans (partsB_el _ _ _ (List.mem_of_getElem? hv)) hl
      refine c_skip ?_
      refine q_then ?_
      refine c_seq ?_
      refine c_block ?_
      refine c_seq ?_
      refine c_region rfl ?_
      refine gv rfl (y_move rfl) ?_
      refine gv rfl (y_move rfl) ?_
      refine gv rfl (y_iaddr_row (k := 0) elem117 size9 rfl (fun _ => rfl) rfl rfl rfl (by omega) hv) ?_
      refine gv rfl (y_load_row (k := 0) one9 rfl (fun _ => rfl) rfl 0 rfl rfl hv rfl) ?_
      refine l_callU rfl ent128 rfl (fun w hm => leadDigits_c (l := v) w hvl) ?_
      refine gv rfl (y_move rfl) ?_
      refine gv rfl (y_extract rfl rfl) ?_
      refine gv rfl (y_extract rfl rfl) ?_
      refine gv rfl (y_assign rfl) ?_
      refine gv rfl (y_assign rfl) ?_
      refine l_nil ?_
      refine q_then ?_
      refine c_seq ?_
      refine c_region rfl ?_
      refine gv rfl (y_move rfl) ?_
      refine gv rfl (y_lss rfl rfl) ?_
      refine gv rfl (y_move rfl) ?_
      refine g_dec (t := 26) rfl ?_ ?_
      · intro h26
        refine g_off (t := 26) rfl rfl rfl rfl ?_
        refine g_off (t := 26) rfl rfl rfl rfl ?_
        refine gv rfl (y_pick_t rfl rfl) ?_
        refine gv rfl (y_move rfl) ?_
        refine g_off (t := 30) rfl rfl rfl rfl ?_
        refine g_off (t := 30) rfl rfl rfl rfl ?_
        refine g_off (t := 30) rfl rfl rfl rfl ?_
        refine g_off (t := 30) rfl rfl rfl rfl ?_
        refine g_off (t := 30) rfl rfl rfl rfl ?_
        refine g_off (t := 30) rfl rfl rfl rfl ?_
        refine g_off (t := 30) rfl rfl rfl rfl ?_
        refine gv rfl (y_pick_t rfl rfl) ?_
        refine gv rfl (y_move rfl) ?_
        refine g_off (t := 39) rfl rfl rfl rfl ?_
        refine g_off (t := 39) rfl rfl rfl rfl ?_
        refine gv rfl (y_pick_t rfl rfl) ?_
        refine gv rfl (y_move rfl) ?_
        refine g_off (t := 43) rfl rfl rfl rfl ?_
        refine g_off (t := 43) rfl rfl rfl rfl ?_
        refine g_off (t := 43) rfl rfl rfl rfl ?_
        refine g_und (t := 46) rfl rfl rfl ?_
        refine g_und (t := 46) rfl rfl rfl ?_
        refine g_und (t := 46) rfl rfl rfl ?_
        refine g_und (t := 46) rfl rfl rfl ?_
        refine g_und (t := 46) rfl rfl rfl ?_
        refine g_und (t := 46) rfl rfl rfl ?_
        refine g_off (t := 43) rfl rfl rfl rfl ?_
        refine gv rfl (y_pick_t rfl rfl) ?_
        refine l_nil ?_
        refine q_then ?_
        refine c_cond_t rfl ?_
        refine c_seq ?_
        refine c_region rfl ?_
        refine gv rfl (y_assign rfl) ?_
        refine l_nil ?_
        refine q_then ?_
        refine c_ret ?_
        refine q_block_ret (q_then_ret (q_loop_ret (q_block_ret (q_then_ret ?_))))
        exact q_ret1 Tryz.results106 rfl () trivial (congrArg Value.bool (addrF_bad hv (refP_f (by first | exact .inl h26 | exact .inr (.inl h30) | exact .inr (.inr (.inl h39)) | exact .inr (.inr (.inr (.inl h43))) | exact .inr (.inr (.inr (.inr ⟨h46, h54⟩)))))).symm) hs_nil
      · intro h26
        refine g_on (t := 26) rfl rfl ?_
        refine gv rfl (y_move rfl) ?_
        refine g_on (t := 26) rfl rfl ?_
        refine gv rfl (y_gtr rfl rfl) ?_
        refine gv rfl (y_pick_f rfl rfl) ?_
        refine gv rfl (y_move rfl) ?_
        refine g_dec (t := 30) rfl ?_ ?_
        · intro h30
          refine g_off (t := 30) rfl rfl rfl rfl ?_
          refine g_off (t := 30) rfl rfl rfl rfl ?_
          refine g_off (t := 30) rfl rfl rfl rfl ?_
          refine g_off (t := 30) rfl rfl rfl rfl ?_
          refine g_off (t := 30) rfl rfl rfl rfl ?_
          refine g_off (t := 30) rfl rfl rfl rfl ?_
          refine g_off (t := 30) rfl rfl rfl rfl ?_
          refine gv rfl (y_pick_t rfl rfl) ?_
          refine gv rfl (y_move rfl) ?_
          refine g_off (t := 39) rfl rfl rfl rfl ?_
          refine g_off (t := 39) rfl rfl rfl rfl ?_
          refine gv rfl (y_pick_t rfl rfl) ?_
          refine gv rfl (y_move rfl) ?_
          refine g_off (t := 43) rfl rfl rfl rfl ?_
          refine g_off (t := 43) rfl rfl rfl rfl ?_
          refine g_off (t := 43) rfl rfl rfl rfl ?_
          refine g_und (t := 46) rfl rfl rfl ?_
          refine g_und (t := 46) rfl rfl rfl ?_
          refine g_und (t := 46) rfl rfl rfl ?_
          refine g_und (t := 46) rfl rfl rfl ?_
          refine g_und (t := 46) rfl rfl rfl ?_
          refine g_und (t := 46) rfl rfl rfl ?_
          refine g_off (t := 43) rfl rfl rfl rfl ?_
          refine gv rfl (y_pick_t rfl rfl) ?_
          refine l_nil ?_
          refine q_then ?_
          refine c_cond_t rfl ?_
          refine c_seq ?_
          refine c_region rfl ?_
          refine gv rfl (y_assign rfl) ?_
          refine l_nil ?_
          refine q_then ?_
          refine c_ret ?_
          refine q_block_ret (q_then_ret (q_loop_ret (q_block_ret (q_then_ret ?_))))
          exact q_ret1 Tryz.results106 rfl () trivial (congrArg Value.bool (addrF_bad hv (refP_f (by first | exact .inl h26 | exact .inr (.inl h30) | exact .inr (.inr (.inl h39)) | exact .inr (.inr (.inr (.inl h43))) | exact .inr (.inr (.inr (.inr ⟨h46, h54⟩)))))).symm) hs_nil
        · intro h30
          refine g_on (t := 30) rfl rfl ?_
          refine gv rfl (y_move rfl) ?_
          refine g_on (t := 30) rfl rfl ?_
          refine gv rfl (y_move rfl) ?_
          refine g_on (t := 30) rfl rfl ?_
          refine gv rfl (y_move rfl) ?_
          refine g_on (t := 30) rfl rfl ?_
          refine gv rfl (y_iaddr_row (k := 0) elem117 size9 rfl (fun _ => rfl) rfl rfl rfl (by omega) hv) ?_
          refine g_on (t := 30) rfl rfl ?_
          refine gv rfl (y_load_row (k := 0) one9 rfl (fun _ => rfl) rfl 0 rfl rfl hv rfl) ?_
          refine g_on (t := 30) rfl rfl ?_
          refine gv rfl (y_slen Tryz.underlying9 rfl rfl) ?_
          refine g_on (t := 30) rfl rfl ?_
          refine gv rfl (y_neq rfl rfl) ?_
          refine gv rfl (y_pick_f rfl rfl) ?_
          refine gv rfl (y_move rfl) ?_
          refine g_dec (t := 39) rfl ?_ ?_
          · intro h39
            refine g_off (t := 39) rfl rfl rfl rfl ?_
            refine g_off (t := 39) rfl rfl rfl rfl ?_
            refine gv rfl (y_pick_t rfl rfl) ?_
            refine gv rfl (y_move rfl) ?_
            refine g_off (t := 43) rfl rfl rfl rfl ?_
            refine g_off (t := 43) rfl rfl rfl rfl ?_
            refine g_off (t := 43) rfl rfl rfl rfl ?_
            refine g_und (t := 46) rfl rfl rfl ?_
            refine g_und (t := 46) rfl rfl rfl ?_
            refine g_und (t := 46) rfl rfl rfl ?_
            refine g_und (t := 46) rfl rfl rfl ?_
            refine g_und (t := 46) rfl rfl rfl ?_
            refine g_und (t := 46) rfl rfl rfl ?_
            refine g_off (t := 43) rfl rfl rfl rfl ?_
            refine gv rfl (y_pick_t rfl rfl) ?_
            refine l_nil ?_
            refine q_then ?_
            refine c_cond_t rfl ?_
            refine c_seq ?_
            refine c_region rfl ?_
            refine gv rfl (y_assign rfl) ?_
            refine l_nil ?_
            refine q_then ?_
            refine c_ret ?_
            refine q_block_ret (q_then_ret (q_loop_ret (q_block_ret (q_then_ret ?_))))
            exact q_ret1 Tryz.results106 rfl () trivial (congrArg Value.bool (addrF_bad hv (refP_f (by first | exact .inl h26 | exact .inr (.inl h30) | exact .inr (.inr (.inl h39)) | exact .inr (.inr (.inr (.inl h43))) | exact .inr (.inr (.inr (.inr ⟨h46, h54⟩)))))).symm) hs_nil
          · intro h39
            refine g_on (t := 39) rfl rfl ?_
            refine gv rfl (y_move rfl) ?_
            refine g_on (t := 39) rfl rfl ?_
            refine gv rfl (y_gtr rfl rfl) ?_
            refine gv rfl (y_pick_f rfl rfl) ?_
            refine gv rfl (y_move rfl) ?_
            refine g_dec (t := 43) rfl ?_ ?_
            · intro h43
              refine g_off (t := 43) rfl rfl rfl rfl ?_
              refine g_off (t := 43) rfl rfl rfl rfl ?_
              refine g_off (t := 43) rfl rfl rfl rfl ?_
              refine g_und (t := 46) rfl rfl rfl ?_
              refine g_und (t := 46) rfl rfl rfl ?_
              refine g_und (t := 46) rfl rfl rfl ?_
              refine g_und (t := 46) rfl rfl rfl ?_
              refine g_und (t := 46) rfl rfl rfl ?_
              refine g_und (t := 46) rfl rfl rfl ?_
              refine g_off (t := 43) rfl rfl rfl rfl ?_
              refine gv rfl (y_pick_t rfl rfl) ?_
              refine l_nil ?_
              refine q_then ?_
              refine c_cond_t rfl ?_
              refine c_seq ?_
              refine c_region rfl ?_
              refine gv rfl (y_assign rfl) ?_
              refine l_nil ?_
              refine q_then ?_
              refine c_ret ?_
              refine q_block_ret (q_then_ret (q_loop_ret (q_block_ret (q_then_ret ?_))))
              exact q_ret1 Tryz.results106 rfl () trivial (congrArg Value.bool (addrF_bad hv (refP_f (by first | exact .inl h26 | exact .inr (.inl h30) | exact .inr (.inr (.inl h39)) | exact .inr (.inr (.inr (.inl h43))) | exact .inr (.inr (.inr (.inr ⟨h46, h54⟩)))))).symm) hs_nil
            · intro h43
              refine g_on (t := 43) rfl rfl ?_
              refine gv rfl (y_move rfl) ?_
              refine g_on (t := 43) rfl rfl ?_
              refine gv rfl (y_gtr rfl rfl) ?_
              refine g_on (t := 43) rfl rfl ?_
              refine gv rfl (y_move rfl) ?_
              refine g_dec (t := 46) rfl ?_ ?_
              · intro h46
                refine g_on (t := 46) rfl rfl ?_
                refine gv rfl (y_move rfl) ?_
                refine g_on (t := 46) rfl rfl ?_
                refine gv rfl (y_move rfl) ?_
                refine g_on (t := 46) rfl rfl ?_
                refine gv rfl (y_iaddr_row (k := 0) elem117 size9 rfl (fun _ => rfl) rfl rfl rfl (by omega) hv) ?_
                refine g_on (t := 46) rfl rfl ?_
                refine gv rfl (y_load_row (k := 0) one9 rfl (fun _ => rfl) rfl 0 rfl rfl hv rfl) ?_
                refine g_on (t := 46) rfl rfl ?_
                refine gv rfl (y_sidx Tryz.underlying9 rfl rfl (by omega) (by omega)) ?_
                refine g_on (t := 46) rfl rfl ?_
                refine gv rfl (y_eql rfl rfl) ?_
                refine g_on (t := 43) rfl rfl ?_
                refine gv rfl (y_pick_t rfl rfl) ?_
                refine gv rfl (y_pick_f rfl rfl) ?_
                refine l_nil ?_
                refine q_then ?_
                refine c_dec rfl ?_ ?_
                · intro h54
                  refine c_seq ?_
                  refine c_region rfl ?_
                  refine gv rfl (y_assign rfl) ?_
                  refine l_nil ?_
                  refine q_then ?_
                  refine c_ret ?_
                  refine q_block_ret (q_then_ret (q_loop_ret (q_block_ret (q_then_ret ?_))))
                  exact q_ret1 Tryz.results106 rfl () trivial (congrArg Value.bool (addrF_bad hv (refP_f (by first | exact .inl h26 | exact .inr (.inl h30) | exact .inr (.inr (.inl h39)) | exact .inr (.inr (.inr (.inl h43))) | exact .inr (.inr (.inr (.inr ⟨h46, h54⟩)))))).symm) hs_nil
                · intro h54
                  refine c_skip ?_
                  refine q_block (q_then ?_)
                  refine c_region rfl ?_
                  refine gv rfl (y_move rfl) ?_
                  refine gv rfl (y_add rfl rfl (wrap_in (by omega) (by omega))) ?_
                  refine gv rfl (y_assign rfl) ?_
                  refine l_nil ?_
                  exact again (s + 1) ⟨by omega, step_get hI hv (by simp only [refP_t h26 h30 h39 h43 (by rintro ⟨k1, k2⟩; first | exact h54 k2 | omega)]; rfl)⟩ (by omega) (sub_cons rfl sub_nil) (sub_cons rfl sub_nil) (hs_pick (is := [0]) rfl rfl)
              · intro h46
                refine g_off (t := 46) rfl rfl rfl rfl ?_
                refine g_off (t := 46) rfl rfl rfl rfl ?_
                refine g_off (t := 46) rfl rfl rfl rfl ?_
                refine g_off (t := 46) rfl rfl rfl rfl ?_
                refine g_off (t := 46) rfl rfl rfl rfl ?_
                refine g_off (t := 46) rfl rfl rfl rfl ?_
                refine g_on (t := 43) rfl rfl ?_
                refine gv rfl (y_pick_f rfl rfl) ?_
                refine gv rfl (y_pick_f rfl rfl) ?_
                refine l_nil ?_
                refine q_then ?_
                refine c_cond_f rfl ?_
                refine c_skip ?_
                refine q_block (q_then ?_)
                refine c_region rfl ?_
                refine gv rfl (y_move rfl) ?_
                refine gv rfl (y_add rfl rfl (wrap_in (by omega) (by omega))) ?_
                refine gv rfl (y_assign rfl) ?_
                refine l_nil ?_
                exact again (s + 1) ⟨by omega, step_get hI hv (by simp only [refP_t h26 h30 h39 h43 (by rintro ⟨k1, k2⟩; first | exact h54 k2 | omega)]; rfl)⟩ (by omega) (sub_cons rfl sub_nil) (sub_cons rfl sub_nil) (hs_pick (is := [0]) rfl rfl)
    · intro h13
      refine c_exit ?_
      refine q_then_exit (q_loop_exit (q_block_exit (q_then ?_)))
      refine c_seq ?_
      refine c_region rfl ?_
      refine gv rfl (y_assign rfl) ?_
      refine l_nil ?_
      refine q_then ?_
      refine c_ret ?_
      exact q_ret1 Tryz.results106 rfl () trivial (congrArg Value.bool (addrF_all (by omega) hI (by omega)).symm) hs_nil


theorem isMatch_c {h d : List UInt8} (w : World) (hh : h.length ≤ 1073741824) (hd : d.length ≤ 1073741824) : Cv Tryz.prog 84 #[.string (B h), .string (B d)] w (.bool (matchF addrF h d)) := by
  refine enter (E := [(0, .string (B h)), (1, .string (B d))]) Tryz.func84 rfl Tryz.ntmps84 rfl (by simp) ?_
  refine c_seq ?_
  refine c_region rfl ?_
  refine gv rfl (y_assign rfl) ?_
  refine l_nil ?_
  refine q_then ?_
  refine c_seq ?_
  refine c_region rfl ?_
  refine gv rfl (y_move rfl) ?_
  refine gv rfl (y_slen Tryz.underlying9 rfl rfl) ?_
  refine gv rfl (y_move rfl) ?_
  refine gv rfl (y_slen Tryz.underlying9 rfl rfl) ?_
  refine gv rfl (y_sub_ rfl rfl (wrap_in (by omega) (by omega))) ?_
  refine gv rfl (y_assign rfl) ?_
  refine l_nil ?_
  refine q_then ?_
  refine c_seq ?_
  refine c_seq ?_
  refine c_region rfl ?_
  refine gv rfl (y_move rfl) ?_
  refine gv rfl (y_lss rfl rfl) ?_
  refine gv rfl (y_move rfl) ?_
  refine g_dec (t := 13) rfl ?_ ?_
  · intro h13
    refine g_off (t := 13) rfl rfl rfl rfl ?_
    refine g_off (t := 13) rfl rfl rfl rfl ?_
    refine g_off (t := 13) rfl rfl rfl rfl ?_
    refine g_off (t := 13) rfl rfl rfl rfl ?_
    refine g_off (t := 13) rfl rfl rfl rfl ?_
    refine gv rfl (y_pick_t rfl rfl) ?_
    refine l_nil ?_
    refine q_then ?_
    refine c_cond_t rfl ?_
    refine c_seq ?_
    refine c_region rfl ?_
    refine gv rfl (y_assign rfl) ?_
    refine l_nil ?_
    refine q_then ?_
    refine c_ret ?_
    refine q_then_ret ?_
    exact q_ret1 Tryz.results84 rfl () trivial (congrArg Value.bool (matchF_short h13).symm) hs_nil
  · intro h13
    refine g_on (t := 13) rfl rfl ?_
    refine gv rfl (y_move rfl) ?_
    refine g_on (t := 13) rfl rfl ?_
    refine gv rfl (y_move rfl) ?_
    refine g_on (t := 13) rfl rfl ?_
    refine gv rfl (y_sfrom Tryz.underlying9 rfl rfl (by omega) (by omega) rfl) ?_
    refine g_on (t := 13) rfl rfl ?_
    refine gv rfl (y_move rfl) ?_
    refine g_on (t := 13) rfl rfl ?_
    refine gv rfl (y_sne rfl rfl) ?_
    refine gv rfl (y_pick_f rfl rfl) ?_
    refine l_nil ?_
    refine q_then ?_
    refine c_dec rfl ?_ ?_
    · intro h19
      refine c_seq ?_
      refine c_region rfl ?_
      refine gv rfl (y_assign rfl) ?_
      refine l_nil ?_
      refine q_then ?_
      refine c_ret ?_
      refine q_then_ret ?_
      exact q_ret1 Tryz.results84 rfl () trivial (congrArg Value.bool (matchF_other h13 h19).symm) hs_nil
    · intro h19
      refine c_skip ?_
      refine q_then ?_
      refine c_seq ?_
      refine c_region rfl ?_
      refine gv rfl (y_move rfl) ?_
      refine gv rfl (y_eql rfl rfl) ?_
      refine gv rfl (y_move rfl) ?_
      refine g_dec (t := 22) rfl ?_ ?_
      · intro h22
        refine g_off (t := 22) rfl rfl rfl rfl ?_
        refine g_off (t := 22) rfl rfl rfl rfl ?_
        refine g_off (t := 22) rfl rfl rfl rfl ?_
        refine g_off (t := 22) rfl rfl rfl rfl ?_
        refine g_und (t := 26) rfl rfl rfl ?_
        refine g_und (t := 26) rfl rfl rfl ?_
        refine g_und (t := 26) rfl rfl rfl ?_
        refine g_und (t := 26) rfl rfl rfl ?_
        refine g_und (t := 26) rfl rfl rfl ?_
        refine g_off (t := 22) rfl rfl rfl rfl ?_
        refine gv rfl (y_pick_t rfl rfl) ?_
        refine gv rfl (y_assign rfl) ?_
        refine l_nil ?_
        refine q_then ?_
        refine c_ret ?_
        exact q_ret1 Tryz.results84 rfl () trivial (congrArg Value.bool (matchF_same (Decidable.not_not.1 h19) h22).symm) hs_nil
      · intro h22
        refine g_on (t := 22) rfl rfl ?_
        refine gv rfl (y_move rfl) ?_
        refine g_on (t := 22) rfl rfl ?_
        refine l_callU rfl ent106 rfl (fun w hm => isAddress_c (l := h) w hh) ?_
        refine g_on (t := 22) rfl rfl ?_
        refine gv rfl (y_not rfl rfl) ?_
        refine g_on (t := 22) rfl rfl ?_
        refine gv rfl (y_move rfl) ?_
        refine g_bool (t := 26) rfl ?_ ?_
        · intro h26
          refine g_on (t := 26) rfl rfl ?_
          refine gv rfl (y_move rfl) ?_
          refine g_on (t := 26) rfl rfl ?_
          refine gv rfl (y_move rfl) ?_
          refine g_on (t := 26) rfl rfl ?_
          refine gv rfl (y_sub_ rfl rfl (wrap_in (by omega) (by omega))) ?_
          refine g_on (t := 26) rfl rfl ?_
          refine gv rfl (y_sidx Tryz.underlying9 rfl rfl (by omega) (by omega)) ?_
          refine g_on (t := 26) rfl rfl ?_
          refine gv rfl (y_eql rfl rfl) ?_
          refine g_on (t := 22) rfl rfl ?_
          refine gv rfl (y_pick_t rfl rfl) ?_
          refine gv rfl (y_pick_f rfl rfl) ?_
          refine gv rfl (y_assign rfl) ?_
          refine l_nil ?_
          refine q_then ?_
          refine c_ret ?_
          exact q_ret1 Tryz.results84 rfl () trivial (congrArg Value.bool (by rw [matchF_more h13 (Decidable.not_not.1 h19) h22, h26]; rfl)) hs_nil
        · intro h26
          refine g_off (t := 26) rfl rfl rfl rfl ?_
          refine g_off (t := 26) rfl rfl rfl rfl ?_
          refine g_off (t := 26) rfl rfl rfl rfl ?_
          refine g_off (t := 26) rfl rfl rfl rfl ?_
          refine g_off (t := 26) rfl rfl rfl rfl ?_
          refine g_on (t := 22) rfl rfl ?_
          refine gv rfl (y_pick_f rfl rfl) ?_
          refine gv rfl (y_pick_f rfl rfl) ?_
          refine gv rfl (y_assign rfl) ?_
          refine l_nil ?_
          refine q_then ?_
          refine c_ret ?_
          exact q_ret1 Tryz.results84 rfl () trivial (congrArg Value.bool (by rw [matchF_more h13 (Decidable.not_not.1 h19) h22, h26]; rfl)) hs_nil


theorem hostOf_c {l : List UInt8} (w : World) (hl : l.length ≤ 1073741824) : Cv Tryz.prog 105 #[.string (B l)] w (.tuple #[.string (B (canonF l).1), .int .i64 (canonF l).2]) := by
  refine enter (E := [(0, .string (B l))]) Tryz.func105 rfl Tryz.ntmps105 rfl (by simp) ?_
  refine c_seq ?_
  refine c_region rfl ?_
  refine gv rfl (y_assign rfl) ?_
  refine gv rfl (y_assign rfl) ?_
  refine l_nil ?_
  refine q_then ?_
  refine c_seq ?_
  refine c_seq ?_
  refine c_region rfl ?_
  refine gv rfl (y_move rfl) ?_
  refine gv rfl (y_slen Tryz.underlying9 rfl rfl) ?_
  refine gv rfl (y_gtr rfl rfl) ?_
  refine l_nil ?_
  refine q_then ?_
  refine c_dec rfl ?_ ?_
  · intro h8
    refine c_seq ?_
    refine c_region rfl ?_
    refine gv rfl (y_assign rfl) ?_
    refine gv rfl (y_assign rfl) ?_
    refine l_nil ?_
    refine q_then ?_
    refine c_ret ?_
    refine q_then_ret ?_
    exact q_ret2 Tryz.results105 rfl rfl () trivial (by rw [show canonF l = ([], 2) from if_pos (by omega)]; rfl) hs_nil
  · intro h8
    refine c_skip ?_
    refine q_then ?_
    refine c_seq ?_
    refine c_region rfl ?_
    refine gv rfl (y_move rfl) ?_
    refine l_callU rfl ent125 rfl (fun w hm => foldOf_c w hl) ?_
    refine gv rfl (y_assign rfl) ?_
    refine l_nil ?_
    refine q_then ?_
    refine c_seq ?_
    refine c_region rfl ?_
    refine gv rfl (y_move rfl) ?_
    refine l_call rfl ent126 rfl (fun w hm => partsOf_c (b := 46) w (by simpa using hl)) ?_; rintro x12 h12
    have hpl := partsB_len 46 (l.map lowB); rw [List.length_map] at hpl
    refine gv rfl (y_assign rfl) ?_
    refine l_nil ?_
    refine q_then ?_
    refine c_seq ?_
    refine c_seq ?_
    refine c_region rfl ?_
    refine gv rfl (y_assign rfl) ?_
    refine l_nil ?_
    refine q_then ?_
    refine c_block ?_
    refine loop (Ef := [(0, _), (4, _)]) (Hf := [_]) (fun s : Nat => s ≤ (partsB 46 (l.map lowB)).length ∧ ∀ j, j < s → ∀ u, (partsB 46 (l.map lowB))[j]? = some u → (fun p => !labelF p) u = false) (fun s : Nat => [(5, .int .i64 (s : Int))]) (fun s : Nat => []) (fun s : Nat => (partsB 46 (l.map lowB)).length - s) 0 ⟨by omega, none_get⟩ (sub_cons rfl sub_nil) (sub_cons rfl (sub_cons rfl sub_nil)) (hs_pick (is := [0]) rfl rfl) ?_
    rintro s ⟨hs, hI⟩
    refine c_sub (E' := [(5, _), (0, _), (4, _)]) (sub_cons rfl (sub_cons rfl (sub_cons rfl sub_nil))) ?_
    refine c_seq ?_
    refine c_seq ?_
    refine c_region rfl ?_
    refine gv rfl (y_move rfl) ?_
    refine gv rfl (y_move rfl) ?_
    refine gv rfl (y_len elem117 rfl) ?_
    refine gv rfl (y_lss rfl rfl) ?_
    refine l_nil ?_
    refine q_then ?_
    refine c_dec rfl ?_ ?_
    · intro h16
      have hlt : s < (partsB 46 (l.map lowB)).length := by omega
      obtain ⟨v, hv⟩ := get_lt hlt
      refine c_skip ?_
      refine q_then ?_
      refine c_seq ?_
      refine c_block ?_
      refine c_seq ?_
      refine c_region rfl ?_
      refine gv rfl (y_move rfl) ?_
      refine gv rfl (y_move rfl) ?_
      refine gv rfl (y_iaddr_row (k := 0) elem117 size9 rfl (fun _ => rfl) rfl rfl rfl (by omega) hv) ?_
      refine gv rfl (y_load_row (k := 0) one9 rfl (fun _ => rfl) rfl 0 rfl rfl hv rfl) ?_
      refine l_callU rfl ent127 rfl (fun w hm => isLabel_c (l := v) w (partsB_small hl hv)) ?_
      refine gv rfl (y_not rfl rfl) ?_
      refine l_nil ?_
      refine q_then ?_
      refine c_bool rfl ?_ ?_
      · intro h24
        refine c_seq ?_
        refine c_region rfl ?_
        refine gv rfl (y_assign rfl) ?_
        refine gv rfl (y_assign rfl) ?_
        refine l_nil ?_
        refine q_then ?_
        refine c_ret ?_
        refine q_block_ret (q_then_ret (q_loop_ret (q_block_ret (q_then_ret ?_))))
        exact q_ret2 Tryz.results105 rfl rfl () trivial (by rw [show canonF l = ([], 1) by unfold canonF; rw [if_neg (by omega), if_pos (any_parts (p := fun p => !labelF p) hv h24)]]; rfl) hs_nil
      · intro h24
        refine c_skip ?_
        refine q_block (q_then ?_)
        refine c_region rfl ?_
        refine gv rfl (y_move rfl) ?_
        refine gv rfl (y_add rfl rfl (wrap_in (by omega) (by omega))) ?_
        refine gv rfl (y_assign rfl) ?_
        refine l_nil ?_
        exact again (s + 1) ⟨by omega, step_get hI hv h24⟩ (by omega) (sub_cons rfl sub_nil) (sub_cons rfl (sub_cons rfl sub_nil)) (hs_pick (is := [0]) rfl rfl)
    · intro h16
      refine c_exit ?_
      refine q_then_exit (q_loop_exit (q_block_exit (q_then ?_)))
      refine c_seq ?_
      refine c_region rfl ?_
      refine gv rfl (y_move rfl) ?_
      refine gv rfl (y_assign rfl) ?_
      refine gv rfl (y_assign rfl) ?_
      refine l_nil ?_
      refine q_then ?_
      refine c_ret ?_
      exact q_ret2 Tryz.results105 rfl rfl () trivial (by rw [show canonF l = (l.map lowB, 0) by unfold canonF; rw [if_neg (by omega), none_parts (p := fun p => !labelF p) hI (by omega)]; rfl]) hs_nil


theorem isHost_c {l : List UInt8} (w : World) (hl : l.length ≤ 1073741824) : Cv Tryz.prog 80 #[.string (B l)] w (.bool (hostF l)) := by
  refine enter (E := [(0, .string (B l))]) Tryz.func80 rfl Tryz.ntmps80 rfl (by simp) ?_
  refine c_seq ?_
  refine c_region rfl ?_
  refine gv rfl (y_assign rfl) ?_
  refine l_nil ?_
  refine q_then ?_
  refine c_seq ?_
  refine c_region rfl ?_
  refine gv rfl (y_move rfl) ?_
  refine l_callU rfl ent105 rfl (fun w hm => hostOf_c w hl) ?_
  refine gv rfl (y_move rfl) ?_
  refine gv rfl (y_extract rfl rfl) ?_
  refine gv rfl (y_extract rfl rfl) ?_
  refine gv rfl (y_assign rfl) ?_
  refine gv rfl (y_assign rfl) ?_
  refine l_nil ?_
  refine q_then ?_
  refine c_seq ?_
  refine c_region rfl ?_
  refine gv rfl (y_move rfl) ?_
  refine gv rfl (y_eql rfl rfl) ?_
  refine gv rfl (y_move rfl) ?_
  refine g_dec (t := 12) rfl ?_ ?_
  · intro h12
    refine g_on (t := 12) rfl rfl ?_
    refine gv rfl (y_move rfl) ?_
    refine g_on (t := 12) rfl rfl ?_
    refine gv rfl (y_move rfl) ?_
    refine g_on (t := 12) rfl rfl ?_
    refine gv rfl (y_seq rfl rfl) ?_
    refine gv rfl (y_pick_t rfl rfl) ?_
    refine gv rfl (y_assign rfl) ?_
    refine l_nil ?_
    refine q_then ?_
    refine c_ret ?_
    exact q_ret1 Tryz.results80 rfl () trivial (congrArg Value.bool (by simp [hostF, *])) hs_nil
  · intro h12
    refine g_off (t := 12) rfl rfl rfl rfl ?_
    refine g_off (t := 12) rfl rfl rfl rfl ?_
    refine g_off (t := 12) rfl rfl rfl rfl ?_
    refine gv rfl (y_pick_f rfl rfl) ?_
    refine gv rfl (y_assign rfl) ?_
    refine l_nil ?_
    refine q_then ?_
    refine c_ret ?_
    exact q_ret1 Tryz.results80 rfl () trivial (congrArg Value.bool (by simp [hostF, *])) hs_nil


end Go.Gx
