/- This text proves: functions of the program, walked: what each answers, for every input. No condition beyond those that each theorem names. -/
import Derived.Test.YtgehghoammpiaaaGreatDoorProg
import Derived.Test.YtgehghoammpiaaaGreatDoorT5
import Derived.Test.YtgehghoammpiaaaGreatDoorGy6
import Derived.KernelRfl
namespace Go.Gx
open Go.Proofs Go.Maps
theorem ent115 : enters Tryz.prog 115 = true := by kernel_rfl
theorem ent93 : enters Tryz.prog 93 = true := by kernel_rfl
theorem ent58 : enters Tryz.prog 58 = true := by kernel_rfl
theorem ent59 : enters Tryz.prog 59 = true := by kernel_rfl

theorem sort1_c {a b : Ck} (w : World) : Cv Tryz.prog 59 #[.agg a.arr, .agg b.arr] w (.int .i64 (cmpS a b)) := by
  refine enter (E := [(0, .agg a.arr), (1, .agg b.arr)]) Tryz.func59 rfl Tryz.ntmps59 rfl (by simp) ?_
  refine c_seq ?_
  refine c_region rfl ?_
  refine l_boxA rfl rfl ?_; intro g2
  refine l_boxA rfl rfl ?_; intro g3
  refine gv rfl (y_assign rfl) ?_
  refine l_nil ?_
  refine q_then ?_
  refine c_seq ?_
  refine c_drawp (l := #[false, false, false, false, false, false, false, false, false, false, false, false, false, false, false, false, false, false, false, false]) 20 (is := [0, 1]) rfl rfl rfl rfl ?_
  refine h_take (l' := #[true, false, false, false, false, false, false, false, false, false, false, false, false, false, false, false, false, false, false, false]) 0 rfl (by kernel_rfl) rfl rfl (np_then np_post) (hs_pick (is := [0, 1]) rfl rfl) (y_faddr off26_3 rfl rfl) ?_
  refine h_take (l' := #[true, true, false, false, false, false, false, false, false, false, false, false, false, false, false, false, false, false, false, false]) 1 rfl (by kernel_rfl) rfl rfl (np_then np_post) (hs_pick (is := [0, 1]) rfl rfl) (y_load (k := 0)  one9 rfl rfl rfl) ?_
  refine h_take (l' := #[true, true, true, false, false, false, false, false, false, false, false, false, false, false, false, false, false, false, false, false]) 2 rfl (by kernel_rfl) rfl rfl (np_then np_post) (hs_pick (is := [0, 1]) rfl rfl) (y_slen Tryz.underlying9 rfl rfl) ?_
  refine h_take (l' := #[true, true, true, true, false, false, false, false, false, false, false, false, false, false, false, false, false, false, false, false]) 3 rfl (by kernel_rfl) rfl rfl (np_then np_post) (hs_pick (is := [0, 1]) rfl rfl) (y_faddr off26_3 rfl rfl) ?_
  refine h_take (l' := #[true, true, true, true, true, false, false, false, false, false, false, false, false, false, false, false, false, false, false, false]) 4 rfl (by kernel_rfl) rfl rfl (np_then np_post) (hs_pick (is := [0, 1]) rfl rfl) (y_load (k := 1)  one9 rfl rfl rfl) ?_
  refine h_take (l' := #[true, true, true, true, true, true, false, false, false, false, false, false, false, false, false, false, false, false, false, false]) 5 rfl (by kernel_rfl) rfl rfl (np_then np_post) (hs_pick (is := [0, 1]) rfl rfl) (y_slen Tryz.underlying9 rfl rfl) ?_
  refine h_take (l' := #[true, true, true, true, true, true, false, true, false, false, false, false, false, false, false, false, false, false, false, false]) 7 rfl (by kernel_rfl) rfl rfl (np_then np_post) (hs_pick (is := [0, 1]) rfl rfl) (y_faddr off26_10 rfl rfl) ?_
  refine h_take (l' := #[true, true, true, true, true, true, false, true, true, false, false, false, false, false, false, false, false, false, false, false]) 8 rfl (by kernel_rfl) rfl rfl (np_then np_post) (hs_pick (is := [0, 1]) rfl rfl) (y_load (k := 1)  one3 rfl rfl rfl) ?_
  refine h_take (l' := #[true, true, true, true, true, true, false, true, true, true, false, false, false, false, false, false, false, false, false, false]) 9 rfl (by kernel_rfl) rfl rfl (np_then np_post) (hs_pick (is := [0, 1]) rfl rfl) (y_faddr off26_10 rfl rfl) ?_
  refine h_take (l' := #[true, true, true, true, true, true, false, true, true, true, true, false, false, false, false, false, false, false, false, false]) 10 rfl (by kernel_rfl) rfl rfl (np_then np_post) (hs_pick (is := [0, 1]) rfl rfl) (y_load (k := 0)  one3 rfl rfl rfl) ?_
  refine h_take (l' := #[true, true, true, true, true, true, false, true, true, true, true, false, true, false, false, false, false, false, false, false]) 12 rfl (by kernel_rfl) rfl rfl (np_then np_post) (hs_pick (is := [0, 1]) rfl rfl) (y_faddr off26_12 rfl rfl) ?_
  refine h_take (l' := #[true, true, true, true, true, true, false, true, true, true, true, false, true, true, false, false, false, false, false, false]) 13 rfl (by kernel_rfl) rfl rfl (np_then np_post) (hs_pick (is := [0, 1]) rfl rfl) (y_load (k := 1)  one3 rfl rfl rfl) ?_
  refine h_take (l' := #[true, true, true, true, true, true, false, true, true, true, true, false, true, true, true, false, false, false, false, false]) 14 rfl (by kernel_rfl) rfl rfl (np_then np_post) (hs_pick (is := [0, 1]) rfl rfl) (y_faddr off26_12 rfl rfl) ?_
  refine h_take (l' := #[true, true, true, true, true, true, false, true, true, true, true, false, true, true, true, true, false, false, false, false]) 15 rfl (by kernel_rfl) rfl rfl (np_then np_post) (hs_pick (is := [0, 1]) rfl rfl) (y_load (k := 0)  one3 rfl rfl rfl) ?_
  refine h_only (l' := #[true, true, true, true, true, true, true, true, true, true, true, false, true, true, true, true, false, false, false, false]) 6 rfl (by kernel_rfl) rfl ?_
  refine l_callU rfl ent61 rfl (fun w hm => cmpInt_c w) ?_
  refine l_nil ?_
  refine q_step (fun _ => hs_pick (is := [0, 1]) rfl rfl) ?_
  refine h_only (l' := #[true, true, true, true, true, true, true, true, true, true, true, true, true, true, true, true, false, false, false, false]) 11 rfl (by kernel_rfl) rfl ?_
  refine l_callU rfl ent61 rfl (fun w hm => cmpInt_c w) ?_
  refine l_nil ?_
  refine q_step (fun _ => hs_pick (is := [0, 1]) rfl rfl) ?_
  refine h_only (l' := #[true, true, true, true, true, true, true, true, true, true, true, true, true, true, true, true, true, false, false, false]) 16 rfl (by kernel_rfl) rfl ?_
  refine l_callU rfl ent61 rfl (fun w hm => cmpInt_c w) ?_
  refine l_nil ?_
  refine q_step (fun _ => hs_pick (is := [0, 1]) rfl rfl) ?_
  refine h_only (l' := #[true, true, true, true, true, true, true, true, true, true, true, true, true, true, true, true, true, true, false, false]) 17 rfl (by kernel_rfl) rfl ?_
  refine l_bslice (cl := [_, _, _]) rfl elem51 ap3 zero3 rfl rfl rfl rfl rfl rfl rfl ?_; intro g22
  refine l_nil ?_
  refine q_step (fun _ => hs_pick (is := [1, 2]) rfl rfl) ?_
  refine h_only (l' := #[true, true, true, true, true, true, true, true, true, true, true, true, true, true, true, true, true, true, true, false]) 18 rfl (by kernel_rfl) rfl ?_
  refine l_callU rfl ent60 rfl (fun w hm => orInt_c (l := [cmpF (b.path.length : Int) (a.path.length : Int), cmpF a.created b.created, cmpF a.no b.no]) w (sl_of_blk hm (k := 0) rfl rfl (fun _ => rfl)) (by simp)) ?_
  refine l_nil ?_
  refine q_step (fun _ => hs_pick (is := [1, 2]) rfl rfl) ?_
  refine h_take (l' := #[true, true, true, true, true, true, true, true, true, true, true, true, true, true, true, true, true, true, true, true]) 19 rfl (by kernel_rfl) rfl rfl (np_then np_post) (hs_pick (is := [1, 2]) rfl rfl) (y_assign rfl) ?_
  refine h_done (by kernel_rfl) ?_
  refine q_then ?_
  refine c_ret ?_
  exact q_ret1 Tryz.results59 rfl () trivial rfl hs_nil

theorem insSort_m {l : List Ck} {A : Option Addr} {k : Nat} {fv : Value} {f : Ck → Ck → Int} {F : List Res} (w : World) (hlen : l.length ≤ 1073741824) (Fc : ∀ x y : Ck, FnV Tryz.prog w fv [.agg x.arr, .agg y.arr] (.int .i64 (f x y))) : Cm Tryz.prog 115 #[.slice A l.length k, .int .i64 0, .int .i64 (l.length : Int), fv] w (.row (.slice A l.length k) 26 13 l.length (l.flatMap Ck.cells) :: F) (fun _x : Unit => .tuple #[]) (fun x => .row (.slice A l.length k) 26 13 l.length ((sortL f Ck.none_ l).flatMap Ck.cells) :: F) (fun _ => True) := by
  refine enterM (E := [(0, .slice A l.length k), (1, .int .i64 0), (2, .int .i64 (l.length : Int)), (3, fv)]) Tryz.func115 rfl Tryz.ntmps115 rfl (by simp) ?_
  refine c_seq ?_
  refine c_region rfl ?_
  refine gv rfl (y_move rfl) ?_
  refine gv rfl (y_add rfl rfl (wrap_in (by omega) (by omega))) ?_
  refine gv rfl (y_assign rfl) ?_
  refine l_nil ?_
  refine q_then ?_
  refine c_block ?_
  rw [show l.flatMap Ck.cells = (stL f Ck.none_ l 1).flatMap Ck.cells by rw [stL_start]]
  refine loop (Ef := [(0, _), (1, _), (2, _), (3, _)]) (Hf := [] ++ F) (fun s : Nat => 1 ≤ s) (fun s : Nat => [(8, .int .i64 (s : Int))]) (fun s : Nat => [.row (.slice A l.length k) 26 13 l.length ((stL f Ck.none_ l s).flatMap Ck.cells)]) (fun s : Nat => l.length - s) 1 (Nat.le_refl _) (sub_cons rfl sub_nil) (sub_cons rfl (sub_cons rfl (sub_cons rfl (sub_cons rfl sub_nil)))) (hs_app (A := [_]) (B := [_]) (is := [0]) rfl rfl) ?_
  rintro s hs
  refine c_sub (E' := [(8, _), (0, _), (1, _), (2, _), (3, _)]) (sub_cons rfl (sub_cons rfl (sub_cons rfl (sub_cons rfl (sub_cons rfl sub_nil))))) ?_
  refine c_seq ?_
  refine c_seq ?_
  refine c_region rfl ?_
  refine gv rfl (y_move rfl) ?_
  refine gv rfl (y_move rfl) ?_
  refine gv rfl (y_lss rfl rfl) ?_
  refine l_nil ?_
  refine q_then ?_
  refine c_dec rfl ?_ ?_
  · intro h14
    have hlt : s < l.length := by omega
    obtain ⟨v, hv⟩ := get_lt hlt
    refine c_skip ?_
    refine q_then ?_
    refine c_seq ?_
    refine c_block ?_
    refine c_seq ?_
    have eM := stL_mid (f := f) (d := Ck.none_) hv
    rw [eM]
    refine c_rowopen (k := 0) rfl (flat_ne Ck.len13 (by decide) (i := s) (by rw [← eM, stL_len]; exact hlt)) ?_
    intro g0 R0 hAe hx1 hx2 hnc hcm
    subst hAe
    have hPl := sortT_len f Ck.none_ l s
    have hml : ∀ j, j ≤ s → (midL (sortT f Ck.none_ l s) v (l.drop (s + 1)) j).length = l.length := fun j hj => by rw [midL_len (by rw [hPl]; exact hj), hPl, List.length_drop]; omega
    refine c_region rfl ?_
    refine gv rfl (y_move rfl) ?_
    refine gv rfl (y_assign rfl) ?_
    refine l_nil ?_
    refine q_then ?_
    refine c_block ?_
    refine loop (Ef := [(0, _), (1, _), (2, _), (3, _), (8, _)]) (Hf := [] ++ F) (fun j : Nat => j ≤ s ∧ posI f Ck.none_ (sortT f Ck.none_ l s) v j = posI f Ck.none_ (sortT f Ck.none_ l s) v s) (fun j : Nat => [(9, .int .i64 (j : Int))]) (fun j : Nat => [.blk g0 (.cells (rowF Ck.cells (midL (sortT f Ck.none_ l s) v (l.drop (s + 1)) j) R0) 26 (0, 0))]) (fun j : Nat => j) s ⟨Nat.le_refl _, rfl⟩ (sub_cons rfl sub_nil) (sub_cons rfl (sub_cons rfl (sub_cons rfl (sub_cons rfl (sub_cons rfl sub_nil))))) (hs_app (A := [_]) (B := [_]) (is := [0]) rfl rfl) ?_
    rintro j ⟨hjs, hI2⟩
    refine c_sub (E' := [(9, _), (0, _), (1, _), (2, _), (3, _), (8, _)]) (sub_cons rfl (sub_cons rfl (sub_cons rfl (sub_cons rfl (sub_cons rfl (sub_cons rfl sub_nil)))))) ?_
    refine c_seq ?_
    refine c_seq ?_
    refine c_drawp (l := #[false, false, false, false, false, false, false, false, false, false, false, false, false, false, false, false, false]) 17 (is := [0]) rfl rfl rfl rfl ?_
    refine h_take (l' := #[true, false, false, false, false, false, false, false, false, false, false, false, false, false, false, false, false]) 0 rfl (by kernel_rfl) rfl rfl (np_then (np_then (np_loop (np_block (np_block (np_then (np_loop (np_block np_post)))))))) (hs_pick (is := [0]) rfl rfl) (y_move rfl) ?_
    refine h_take (l' := #[true, true, false, false, false, false, false, false, false, false, false, false, false, false, false, false, false]) 1 rfl (by kernel_rfl) rfl rfl (np_then (np_then (np_loop (np_block (np_block (np_then (np_loop (np_block np_post)))))))) (hs_pick (is := [0]) rfl rfl) (y_move rfl) ?_
    refine h_take (l' := #[true, true, true, false, false, false, false, false, false, false, false, false, false, false, false, false, false]) 2 rfl (by kernel_rfl) rfl rfl (np_then (np_then (np_loop (np_block (np_block (np_then (np_loop (np_block np_post)))))))) (hs_pick (is := [0]) rfl rfl) (y_gtr rfl rfl) ?_
    refine h_take (l' := #[true, true, true, true, false, false, false, false, false, false, false, false, false, false, false, false, false]) 3 rfl (by kernel_rfl) rfl rfl (np_then (np_then (np_loop (np_block (np_block (np_then (np_loop (np_block np_post)))))))) (hs_pick (is := [0]) rfl rfl) (y_move rfl) ?_
    refine h_dec (t := 21) rfl ?_ ?_
    · intro h21
      obtain ⟨i, rfl⟩ : ∃ i, j = i + 1 := ⟨j - 1, by omega⟩
      obtain ⟨y, hy⟩ := get_lt (l := (sortT f Ck.none_ l s)) (i := i) (by rw [hPl]; omega)
      have hat : (midL (sortT f Ck.none_ l s) v (l.drop (s + 1)) (i + 1))[i + 1]? = some v := midL_at (by rw [hPl]; exact hjs)
      have hpre : (midL (sortT f Ck.none_ l s) v (l.drop (s + 1)) (i + 1))[i]? = some y := midL_pre hy
      have hml1 := hml (i + 1) hjs
      have hml0 := hml i (by omega)
      refine h_takeg (t := 21) (l' := #[true, true, true, true, true, false, false, false, false, false, false, false, false, false, false, false, false]) 4 rfl (by kernel_rfl) rfl rfl (np_then (np_then (np_loop (np_block (np_block (np_then (np_loop (np_block np_post)))))))) (hs_pick (is := [0]) rfl rfl) rfl rfl (y_move rfl) ?_
      refine h_takeg (t := 21) (l' := #[true, true, true, true, true, true, false, false, false, false, false, false, false, false, false, false, false]) 5 rfl (by kernel_rfl) rfl rfl (np_then (np_then (np_loop (np_block (np_block (np_then (np_loop (np_block np_post)))))))) (hs_pick (is := [0]) rfl rfl) rfl rfl (y_move rfl) ?_
      refine h_takeg (t := 21) (l' := #[true, true, true, true, true, true, true, false, false, false, false, false, false, false, false, false, false]) 6 rfl (by kernel_rfl) rfl rfl (np_then (np_then (np_loop (np_block (np_block (np_then (np_loop (np_block np_post)))))))) (hs_pick (is := [0]) rfl rfl) rfl rfl (y_move rfl) ?_
      refine h_takeg (t := 21) (l' := #[true, true, true, true, true, true, true, true, false, false, false, false, false, false, false, false, false]) 7 rfl (by kernel_rfl) rfl rfl (np_then (np_then (np_loop (np_block (np_block (np_then (np_loop (np_block np_post)))))))) (hs_pick (is := [0]) rfl rfl) rfl rfl (y_iaddr_own (r := ((i + 1) * 13)) elem22 size26 rfl rfl (by omega) (by omega) (by simp)) ?_
      refine h_takeg (t := 21) (l' := #[true, true, true, true, true, true, true, true, true, false, false, false, false, false, false, false, false]) 8 rfl (by kernel_rfl) rfl rfl (np_then (np_then (np_loop (np_block (np_block (np_then (np_loop (np_block np_post)))))))) (hs_pick (is := [0]) rfl rfl) rfl rfl (y_loadA (k := 0) (vs := v.cells) agg26 rfl rfl rfl (by exact rowF_get Ck.len13 hat)) ?_
      refine h_takeg (t := 21) (l' := #[true, true, true, true, true, true, true, true, true, true, false, false, false, false, false, false, false]) 9 rfl (by kernel_rfl) rfl rfl (np_then (np_then (np_loop (np_block (np_block (np_then (np_loop (np_block np_post)))))))) (hs_pick (is := [0]) rfl rfl) rfl rfl (y_move rfl) ?_
      refine h_takeg (t := 21) (l' := #[true, true, true, true, true, true, true, true, true, true, true, false, false, false, false, false, false]) 10 rfl (by kernel_rfl) rfl rfl (np_then (np_then (np_loop (np_block (np_block (np_then (np_loop (np_block np_post)))))))) (hs_pick (is := [0]) rfl rfl) rfl rfl (y_move rfl) ?_
      refine h_takeg (t := 21) (l' := #[true, true, true, true, true, true, true, true, true, true, true, true, false, false, false, false, false]) 11 rfl (by kernel_rfl) rfl rfl (np_then (np_then (np_loop (np_block (np_block (np_then (np_loop (np_block np_post)))))))) (hs_pick (is := [0]) rfl rfl) rfl rfl (y_sub_ rfl rfl (wrap_in (by omega) (by omega))) ?_
      refine h_takeg (t := 21) (l' := #[true, true, true, true, true, true, true, true, true, true, true, true, true, false, false, false, false]) 12 rfl (by kernel_rfl) rfl rfl (np_then (np_then (np_loop (np_block (np_block (np_then (np_loop (np_block np_post)))))))) (hs_pick (is := [0]) rfl rfl) rfl rfl (y_iaddr_own (r := (i * 13)) elem22 size26 rfl rfl (by omega) (by omega) (by simp)) ?_
      refine h_takeg (t := 21) (l' := #[true, true, true, true, true, true, true, true, true, true, true, true, true, true, false, false, false]) 13 rfl (by kernel_rfl) rfl rfl (np_then (np_then (np_loop (np_block (np_block (np_then (np_loop (np_block np_post)))))))) (hs_pick (is := [0]) rfl rfl) rfl rfl (y_loadA (k := 0) (vs := y.cells) agg26 rfl rfl rfl (by exact rowF_get Ck.len13 hpre)) ?_
      refine h_only (l' := #[true, true, true, true, true, true, true, true, true, true, true, true, true, true, true, false, false]) 14 rfl (by kernel_rfl) rfl ?_
      refine g_on (t := 21) rfl rfl ?_
      refine l_callF rfl rfl rfl (Fc v y) ?_
      refine l_nil ?_
      refine q_step (fun _ => hs_pick (is := [0]) rfl rfl) ?_
      refine h_takeg (t := 21) (l' := #[true, true, true, true, true, true, true, true, true, true, true, true, true, true, true, true, false]) 15 rfl (by kernel_rfl) rfl rfl (np_then (np_then (np_loop (np_block (np_block (np_then (np_loop (np_block np_post)))))))) (hs_pick (is := [0]) rfl rfl) rfl rfl (y_lss rfl rfl) ?_
      refine h_take (l' := #[true, true, true, true, true, true, true, true, true, true, true, true, true, true, true, true, true]) 16 rfl (by kernel_rfl) rfl rfl (np_then (np_then (np_loop (np_block (np_block (np_then (np_loop (np_block np_post)))))))) (hs_pick (is := [0]) rfl rfl) (y_pick_t rfl rfl) ?_
      refine h_done (by kernel_rfl) ?_
      refine q_then ?_
      refine c_dec rfl ?_ ?_
      · intro h34
        refine c_skip ?_
        refine q_then ?_
        refine c_seq ?_
        refine c_block ?_
        refine c_drawp (l := #[false, false, false, false, false, false, false, false, false, false, false, false, false, false, false, false, false, false]) 18 (is := []) rfl rfl rfl rfl ?_
        refine h_take (l' := #[true, false, false, false, false, false, false, false, false, false, false, false, false, false, false, false, false, false]) 0 rfl (by kernel_rfl) rfl rfl (np_block (np_then (np_loop (np_block (np_block (np_then (np_loop (np_block np_post)))))))) (hs_pick (is := []) rfl rfl) (y_move rfl) ?_
        refine h_take (l' := #[true, true, false, false, false, false, false, false, false, false, false, false, false, false, false, false, false, false]) 1 rfl (by kernel_rfl) rfl rfl (np_block (np_then (np_loop (np_block (np_block (np_then (np_loop (np_block np_post)))))))) (hs_pick (is := []) rfl rfl) (y_move rfl) ?_
        refine h_take (l' := #[true, true, true, false, false, false, false, false, false, false, false, false, false, false, false, false, false, false]) 2 rfl (by kernel_rfl) rfl rfl (np_block (np_then (np_loop (np_block (np_block (np_then (np_loop (np_block np_post)))))))) (hs_pick (is := []) rfl rfl) (y_move rfl) ?_
        refine h_take (l' := #[true, true, true, true, false, false, false, false, false, false, false, false, false, false, false, false, false, false]) 3 rfl (by kernel_rfl) rfl rfl (np_block (np_then (np_loop (np_block (np_block (np_then (np_loop (np_block np_post)))))))) (hs_pick (is := []) rfl rfl) (y_move rfl) ?_
        refine h_take (l' := #[true, true, true, true, true, false, false, false, false, false, false, false, false, false, false, false, false, false]) 4 rfl (by kernel_rfl) rfl rfl (np_block (np_then (np_loop (np_block (np_block (np_then (np_loop (np_block np_post)))))))) (hs_pick (is := []) rfl rfl) (y_sub_ rfl rfl (wrap_in (by omega) (by omega))) ?_
        refine h_take (l' := #[true, true, true, true, true, true, false, false, false, false, false, false, false, false, false, false, false, false]) 5 rfl (by kernel_rfl) rfl rfl (np_block (np_then (np_loop (np_block (np_block (np_then (np_loop (np_block np_post)))))))) (hs_pick (is := []) rfl rfl) (y_move rfl) ?_
        refine h_take (l' := #[true, true, true, true, true, true, true, false, false, false, false, false, false, false, false, false, false, false]) 6 rfl (by kernel_rfl) rfl rfl (np_block (np_then (np_loop (np_block (np_block (np_then (np_loop (np_block np_post)))))))) (hs_pick (is := []) rfl rfl) (y_move rfl) ?_
        refine h_take (l' := #[true, true, true, true, true, true, true, true, false, false, false, false, false, false, false, false, false, false]) 7 rfl (by kernel_rfl) rfl rfl (np_block (np_then (np_loop (np_block (np_block (np_then (np_loop (np_block np_post)))))))) (hs_pick (is := []) rfl rfl) (y_sub_ rfl rfl (wrap_in (by omega) (by omega))) ?_
        refine h_take (l' := #[true, true, true, true, true, true, true, true, true, false, false, false, false, false, false, false, false, false]) 8 rfl (by kernel_rfl) rfl rfl (np_block (np_then (np_loop (np_block (np_block (np_then (np_loop (np_block np_post)))))))) (hs_pick (is := []) rfl rfl) (y_iaddr_own (r := (i * 13)) elem22 size26 rfl rfl (by omega) (by omega) (by simp)) ?_
        refine h_take (l' := #[true, true, true, true, true, true, true, true, true, false, true, false, false, false, false, false, false, false]) 10 rfl (by kernel_rfl) rfl rfl (np_block (np_then (np_loop (np_block (np_block (np_then (np_loop (np_block np_post)))))))) (hs_pick (is := []) rfl rfl) (y_move rfl) ?_
        refine h_take (l' := #[true, true, true, true, true, true, true, true, true, false, true, true, false, false, false, false, false, false]) 11 rfl (by kernel_rfl) rfl rfl (np_block (np_then (np_loop (np_block (np_block (np_then (np_loop (np_block np_post)))))))) (hs_pick (is := []) rfl rfl) (y_move rfl) ?_
        refine h_take (l' := #[true, true, true, true, true, true, true, true, true, false, true, true, true, false, false, false, false, false]) 12 rfl (by kernel_rfl) rfl rfl (np_block (np_then (np_loop (np_block (np_block (np_then (np_loop (np_block np_post)))))))) (hs_pick (is := []) rfl rfl) (y_iaddr_own (r := ((i + 1) * 13)) elem22 size26 rfl rfl (by omega) (by omega) (by simp)) ?_
        refine h_two (l' := #[true, true, true, true, true, true, true, true, true, true, true, true, true, false, false, false, false, false]) (l'' := #[true, true, true, true, true, true, true, true, true, false, true, true, true, true, false, false, false, false]) 9 13 rfl rfl (by kernel_rfl) rfl rfl ?_ ?_
        · skip
          refine gv rfl (y_loadA (k := 0) (vs := y.cells) agg26 rfl rfl rfl (by exact rowF_get Ck.len13 hpre)) ?_
          refine l_nil ?_
          refine q_step (fun _ => hs_pick (is := []) rfl rfl) ?_
          refine h_only (l' := #[true, true, true, true, true, true, true, true, true, true, true, true, true, true, false, false, false, false]) 13 rfl (by kernel_rfl) rfl ?_
          refine gv rfl (y_loadA (k := 0) (vs := v.cells) agg26 rfl rfl rfl (by exact rowF_get Ck.len13 hat)) ?_
          refine l_nil ?_
          refine q_step (fun _ => hs_pick (is := []) rfl rfl) ?_
          refine h_take (l' := #[true, true, true, true, true, true, true, true, true, true, true, true, true, true, true, false, false, false]) 14 rfl (by kernel_rfl) rfl rfl (np_block (np_then (np_loop (np_block (np_block (np_then (np_loop (np_block np_post)))))))) (hs_pick (is := []) rfl rfl) (y_iaddr_own (r := ((i + 1) * 13)) elem22 size26 rfl rfl (by omega) (by omega) (by simp)) ?_
          refine h_only (l' := #[true, true, true, true, true, true, true, true, true, true, true, true, true, true, true, true, false, false]) 15 rfl (by kernel_rfl) rfl ?_
          refine l_storeA (k := 0) (cs' := rowF Ck.cells ((midL (sortT f Ck.none_ l s) v (l.drop (s + 1)) (i + 1)).set (i + 1) y) R0) (H' := _ :: F) size26 rfl rfl rfl rfl rfl (by rw [rowF_len Ck.len13, hml1]; omega) (rowF_set Ck.len13 (by rw [hml1]; omega)) rfl ?_
          refine l_nil ?_
          refine q_step (fun _ => hs_pick (is := []) rfl rfl) ?_
          refine h_take (l' := #[true, true, true, true, true, true, true, true, true, true, true, true, true, true, true, true, true, false]) 16 rfl (by kernel_rfl) rfl rfl (np_block (np_then (np_loop (np_block (np_block (np_then (np_loop (np_block np_post)))))))) (hs_pick (is := []) rfl rfl) (y_iaddr_own (r := (i * 13)) elem22 size26 rfl rfl (by omega) (by omega) (by simp)) ?_
          refine h_only (l' := #[true, true, true, true, true, true, true, true, true, true, true, true, true, true, true, true, true, true]) 17 rfl (by kernel_rfl) rfl ?_
          refine l_storeA (k := 0) (cs' := rowF Ck.cells (midL (sortT f Ck.none_ l s) v (l.drop (s + 1)) i) R0) (H' := _ :: F) size26 rfl rfl rfl rfl rfl (by rw [rowF_len Ck.len13, List.length_set, hml1]; omega) (by rw [← midL_swap hy]; exact rowF_set Ck.len13 (by rw [List.length_set, hml1]; omega)) rfl ?_
          refine l_nil ?_
          refine q_step (fun _ => hs_pick (is := []) rfl rfl) ?_
          refine h_done (by kernel_rfl) ?_
          refine q_block (q_then ?_)
          refine c_region rfl ?_
          refine gv rfl (y_move rfl) ?_
          refine gv rfl (y_sub_ rfl rfl (wrap_in (by omega) (by omega))) ?_
          refine gv rfl (y_assign rfl) ?_
          refine l_nil ?_
          rw [show ((i + 1 : Nat) : Int) - 1 = (i : Int) by omega]
          exact again i ⟨by omega, (posI_yes hy h34).symm.trans hI2⟩ (by omega) (sub_cons rfl sub_nil) (sub_cons rfl (sub_cons rfl (sub_cons rfl (sub_cons rfl (sub_cons rfl sub_nil))))) (hs_app (A := [_]) (B := [_]) (is := [0]) rfl rfl)
        · skip
          refine gv rfl (y_loadA (k := 0) (vs := v.cells) agg26 rfl rfl rfl (by exact rowF_get Ck.len13 hat)) ?_
          refine l_nil ?_
          refine q_step (fun _ => hs_pick (is := []) rfl rfl) ?_
          refine h_only (l' := #[true, true, true, true, true, true, true, true, true, true, true, true, true, true, false, false, false, false]) 9 rfl (by kernel_rfl) rfl ?_
          refine gv rfl (y_loadA (k := 0) (vs := y.cells) agg26 rfl rfl rfl (by exact rowF_get Ck.len13 hpre)) ?_
          refine l_nil ?_
          refine q_step (fun _ => hs_pick (is := []) rfl rfl) ?_
          refine h_take (l' := #[true, true, true, true, true, true, true, true, true, true, true, true, true, true, true, false, false, false]) 14 rfl (by kernel_rfl) rfl rfl (np_block (np_then (np_loop (np_block (np_block (np_then (np_loop (np_block np_post)))))))) (hs_pick (is := []) rfl rfl) (y_iaddr_own (r := ((i + 1) * 13)) elem22 size26 rfl rfl (by omega) (by omega) (by simp)) ?_
          refine h_only (l' := #[true, true, true, true, true, true, true, true, true, true, true, true, true, true, true, true, false, false]) 15 rfl (by kernel_rfl) rfl ?_
          refine l_storeA (k := 0) (cs' := rowF Ck.cells ((midL (sortT f Ck.none_ l s) v (l.drop (s + 1)) (i + 1)).set (i + 1) y) R0) (H' := _ :: F) size26 rfl rfl rfl rfl rfl (by rw [rowF_len Ck.len13, hml1]; omega) (rowF_set Ck.len13 (by rw [hml1]; omega)) rfl ?_
          refine l_nil ?_
          refine q_step (fun _ => hs_pick (is := []) rfl rfl) ?_
          refine h_take (l' := #[true, true, true, true, true, true, true, true, true, true, true, true, true, true, true, true, true, false]) 16 rfl (by kernel_rfl) rfl rfl (np_block (np_then (np_loop (np_block (np_block (np_then (np_loop (np_block np_post)))))))) (hs_pick (is := []) rfl rfl) (y_iaddr_own (r := (i * 13)) elem22 size26 rfl rfl (by omega) (by omega) (by simp)) ?_
          refine h_only (l' := #[true, true, true, true, true, true, true, true, true, true, true, true, true, true, true, true, true, true]) 17 rfl (by kernel_rfl) rfl ?_
          refine l_storeA (k := 0) (cs' := rowF Ck.cells (midL (sortT f Ck.none_ l s) v (l.drop (s + 1)) i) R0) (H' := _ :: F) size26 rfl rfl rfl rfl rfl (by rw [rowF_len Ck.len13, List.length_set, hml1]; omega) (by rw [← midL_swap hy]; exact rowF_set Ck.len13 (by rw [List.length_set, hml1]; omega)) rfl ?_
          refine l_nil ?_
          refine q_step (fun _ => hs_pick (is := []) rfl rfl) ?_
          refine h_done (by kernel_rfl) ?_
          refine q_block (q_then ?_)
          refine c_region rfl ?_
          refine gv rfl (y_move rfl) ?_
          refine gv rfl (y_sub_ rfl rfl (wrap_in (by omega) (by omega))) ?_
          refine gv rfl (y_assign rfl) ?_
          refine l_nil ?_
          rw [show ((i + 1 : Nat) : Int) - 1 = (i : Int) by omega]
          exact again i ⟨by omega, (posI_yes hy h34).symm.trans hI2⟩ (by omega) (sub_cons rfl sub_nil) (sub_cons rfl (sub_cons rfl (sub_cons rfl (sub_cons rfl (sub_cons rfl sub_nil))))) (hs_app (A := [_]) (B := [_]) (is := [0]) rfl rfl)
      · intro h34
        refine c_exit ?_
        refine q_then_exit (q_loop_exit (q_block_exit (q_block (q_then ?_))))
        have eS := mid_stop (f := f) (d := Ck.none_) (j := (i + 1)) hv hI2 (posI_no hy h34)
        rw [eS]
        refine c_rowclose (k := 0) (n := l.length) (c := k) (sz := 13) (xs := (stL f Ck.none_ l (s + 1)).flatMap Ck.cells) rfl (by rw [rowF_len Ck.len13, stL_len]; have e9 := hx2; rw [flat_len Ck.len13, hml s (Nat.le_refl _)] at e9; omega) hnc hcm (rowF_all Ck.len13 (stL_len _ _).symm) ?_
        refine c_region rfl ?_
        refine gv rfl (y_move rfl) ?_
        refine gv rfl (y_add rfl rfl (wrap_in (by omega) (by omega))) ?_
        refine gv rfl (y_assign rfl) ?_
        refine l_nil ?_
        exact again (s + 1) (by omega) (by omega) (sub_cons rfl sub_nil) (sub_cons rfl (sub_cons rfl (sub_cons rfl (sub_cons rfl sub_nil)))) (hs_app (A := [_]) (B := [_]) (is := [0]) rfl rfl)
    · intro h21
      refine h_off (t := 21) (l' := #[true, true, true, true, true, false, false, false, false, false, false, false, false, false, false, false, false]) 4 rfl (by kernel_rfl) rfl rfl (np_then (np_then (np_loop (np_block (np_block (np_then (np_loop (np_block np_post)))))))) (hs_pick (is := [0]) rfl rfl) rfl rfl rfl ?_
      refine h_off (t := 21) (l' := #[true, true, true, true, true, true, false, false, false, false, false, false, false, false, false, false, false]) 5 rfl (by kernel_rfl) rfl rfl (np_then (np_then (np_loop (np_block (np_block (np_then (np_loop (np_block np_post)))))))) (hs_pick (is := [0]) rfl rfl) rfl rfl rfl ?_
      refine h_off (t := 21) (l' := #[true, true, true, true, true, true, true, false, false, false, false, false, false, false, false, false, false]) 6 rfl (by kernel_rfl) rfl rfl (np_then (np_then (np_loop (np_block (np_block (np_then (np_loop (np_block np_post)))))))) (hs_pick (is := [0]) rfl rfl) rfl rfl rfl ?_
      refine h_off (t := 21) (l' := #[true, true, true, true, true, true, true, true, false, false, false, false, false, false, false, false, false]) 7 rfl (by kernel_rfl) rfl rfl (np_then (np_then (np_loop (np_block (np_block (np_then (np_loop (np_block np_post)))))))) (hs_pick (is := [0]) rfl rfl) rfl rfl rfl ?_
      refine h_off (t := 21) (l' := #[true, true, true, true, true, true, true, true, true, false, false, false, false, false, false, false, false]) 8 rfl (by kernel_rfl) rfl rfl (np_then (np_then (np_loop (np_block (np_block (np_then (np_loop (np_block np_post)))))))) (hs_pick (is := [0]) rfl rfl) rfl rfl rfl ?_
      refine h_off (t := 21) (l' := #[true, true, true, true, true, true, true, true, true, true, false, false, false, false, false, false, false]) 9 rfl (by kernel_rfl) rfl rfl (np_then (np_then (np_loop (np_block (np_block (np_then (np_loop (np_block np_post)))))))) (hs_pick (is := [0]) rfl rfl) rfl rfl rfl ?_
      refine h_off (t := 21) (l' := #[true, true, true, true, true, true, true, true, true, true, true, false, false, false, false, false, false]) 10 rfl (by kernel_rfl) rfl rfl (np_then (np_then (np_loop (np_block (np_block (np_then (np_loop (np_block np_post)))))))) (hs_pick (is := [0]) rfl rfl) rfl rfl rfl ?_
      refine h_off (t := 21) (l' := #[true, true, true, true, true, true, true, true, true, true, true, true, false, false, false, false, false]) 11 rfl (by kernel_rfl) rfl rfl (np_then (np_then (np_loop (np_block (np_block (np_then (np_loop (np_block np_post)))))))) (hs_pick (is := [0]) rfl rfl) rfl rfl rfl ?_
      refine h_off (t := 21) (l' := #[true, true, true, true, true, true, true, true, true, true, true, true, true, false, false, false, false]) 12 rfl (by kernel_rfl) rfl rfl (np_then (np_then (np_loop (np_block (np_block (np_then (np_loop (np_block np_post)))))))) (hs_pick (is := [0]) rfl rfl) rfl rfl rfl ?_
      refine h_off (t := 21) (l' := #[true, true, true, true, true, true, true, true, true, true, true, true, true, true, false, false, false]) 13 rfl (by kernel_rfl) rfl rfl (np_then (np_then (np_loop (np_block (np_block (np_then (np_loop (np_block np_post)))))))) (hs_pick (is := [0]) rfl rfl) rfl rfl rfl ?_
      refine h_only (l' := #[true, true, true, true, true, true, true, true, true, true, true, true, true, true, true, false, false]) 14 rfl (by kernel_rfl) rfl ?_
      refine g_off (t := 21) rfl rfl rfl rfl ?_
      refine l_nil ?_
      refine q_step (fun _ => hs_pick (is := [0]) rfl rfl) ?_
      refine h_off (t := 21) (l' := #[true, true, true, true, true, true, true, true, true, true, true, true, true, true, true, true, false]) 15 rfl (by kernel_rfl) rfl rfl (np_then (np_then (np_loop (np_block (np_block (np_then (np_loop (np_block np_post)))))))) (hs_pick (is := [0]) rfl rfl) rfl rfl rfl ?_
      refine h_take (l' := #[true, true, true, true, true, true, true, true, true, true, true, true, true, true, true, true, true]) 16 rfl (by kernel_rfl) rfl rfl (np_then (np_then (np_loop (np_block (np_block (np_then (np_loop (np_block np_post)))))))) (hs_pick (is := [0]) rfl rfl) (y_pick_f rfl rfl) ?_
      refine h_done (by kernel_rfl) ?_
      refine q_then ?_
      refine c_cond_f rfl ?_
      refine c_exit ?_
      refine q_then_exit (q_loop_exit (q_block_exit (q_block (q_then ?_))))
      obtain rfl : j = 0 := by omega
      have eS := mid_stop (f := f) (d := Ck.none_) (j := 0) hv hI2 (posI_0 _ _)
      rw [eS]
      refine c_rowclose (k := 0) (n := l.length) (c := k) (sz := 13) (xs := (stL f Ck.none_ l (s + 1)).flatMap Ck.cells) rfl (by rw [rowF_len Ck.len13, stL_len]; have e9 := hx2; rw [flat_len Ck.len13, hml s (Nat.le_refl _)] at e9; omega) hnc hcm (rowF_all Ck.len13 (stL_len _ _).symm) ?_
      refine c_region rfl ?_
      refine gv rfl (y_move rfl) ?_
      refine gv rfl (y_add rfl rfl (wrap_in (by omega) (by omega))) ?_
      refine gv rfl (y_assign rfl) ?_
      refine l_nil ?_
      exact again (s + 1) (by omega) (by omega) (sub_cons rfl sub_nil) (sub_cons rfl (sub_cons rfl (sub_cons rfl (sub_cons rfl sub_nil)))) (hs_app (A := [_]) (B := [_]) (is := [0]) rfl rfl)
  · intro h14
    refine c_exit ?_
    refine q_then_exit (q_loop_exit (q_block_exit ?_))
    have eE := stL_end (f := f) (d := Ck.none_) (l := l) (s := s) (by omega)
    exact q_ret0 (.inr rfl) rfl () trivial rfl (by rw [← eE]; exact hs_app (B := [_]) (is := [0]) rfl rfl)

theorem stable_m {l : List Ck} {A : Option Addr} {k : Nat} {fv : Value} {f : Ck → Ck → Int} {F : List Res} (w : World) (hlen : l.length < 20) (Fc : ∀ x y : Ck, FnV Tryz.prog w fv [.agg x.arr, .agg y.arr] (.int .i64 (f x y))) : Cm Tryz.prog 93 #[.slice A l.length k, .int .i64 (l.length : Int), fv] w (.row (.slice A l.length k) 26 13 l.length (l.flatMap Ck.cells) :: F) (fun _x : Unit => .tuple #[]) (fun x => .row (.slice A l.length k) 26 13 l.length ((sortL f Ck.none_ l).flatMap Ck.cells) :: F) (fun _ => True) := by
  refine enterM (E := [(0, .slice A l.length k), (1, .int .i64 (l.length : Int)), (2, fv)]) Tryz.func93 rfl Tryz.ntmps93 rfl (by simp) ?_
  refine c_seq ?_
  refine c_region rfl ?_
  refine gv rfl (y_assign rfl) ?_
  refine l_nil ?_
  refine q_then ?_
  refine c_seq ?_
  refine c_region rfl ?_
  refine gv rfl (y_move rfl) ?_
  refine gv rfl (y_assign rfl) ?_
  refine gv rfl (y_assign rfl) ?_
  refine l_nil ?_
  refine q_then ?_
  refine c_seq ?_
  refine c_block ?_
  refine loop (Ef := [(0, _), (1, _), (2, _), (6, _)]) (Hf := [_] ++ F) (fun _s : Unit => True) (fun _s : Unit => [(7, .int .i64 0), (8, .int .i64 20)]) (fun _s : Unit => []) (fun _s : Unit => 0) () trivial (sub_cons rfl (sub_cons rfl sub_nil)) (sub_cons rfl (sub_cons rfl (sub_cons rfl (sub_cons rfl sub_nil)))) (hs_app (A := [_]) (B := [_]) (is := [0]) rfl rfl) ?_
  rintro _ _
  refine c_sub (E' := [(7, _), (8, _), (0, _), (1, _), (2, _), (6, _)]) (sub_cons rfl (sub_cons rfl (sub_cons rfl (sub_cons rfl (sub_cons rfl (sub_cons rfl sub_nil)))))) ?_
  refine c_seq ?_
  refine c_seq ?_
  refine c_region rfl ?_
  refine gv rfl (y_move rfl) ?_
  refine gv rfl (y_move rfl) ?_
  refine gv rfl (y_leq rfl rfl) ?_
  refine l_nil ?_
  refine q_then ?_
  refine c_dec rfl ?_ ?_
  · intro h13
    exact absurd h13 (by omega)
  · intro h13
    refine c_exit ?_
    refine q_then_exit (q_loop_exit (q_block_exit (q_then ?_)))
    refine c_seq ?_
    refine c_region rfl ?_
    refine gv rfl (y_move rfl) ?_
    refine gv rfl (y_move rfl) ?_
    refine gv rfl (y_move rfl) ?_
    refine gv rfl (y_move rfl) ?_
    refine l_hs (hs_app (A := [_]) (B := [_]) (is := [0]) rfl rfl) ?_
    refine l_callM (fs := []) rfl ent115 rfl rfl (insSort_m (l := l) _ (by omega) Fc) ?_; rintro ⟨⟩ _
    refine l_nil ?_
    refine q_then ?_
    refine c_block ?_
    refine loop (Ef := [(0, _), (1, _), (2, _)]) (Hf := [_] ++ F) (fun _s : Unit => True) (fun _s : Unit => [(6, .int .i64 20)]) (fun _s : Unit => []) (fun _s : Unit => 0) () trivial (sub_cons rfl sub_nil) (sub_cons rfl (sub_cons rfl (sub_cons rfl sub_nil))) (hs_app (A := [_]) (B := [_]) (is := [0]) rfl rfl) ?_
    rintro _ _
    refine c_sub (E' := [(6, _), (0, _), (1, _), (2, _)]) (sub_cons rfl (sub_cons rfl (sub_cons rfl (sub_cons rfl sub_nil)))) ?_
    refine c_seq ?_
    refine c_seq ?_
    refine c_region rfl ?_
    refine gv rfl (y_move rfl) ?_
    refine gv rfl (y_move rfl) ?_
    refine gv rfl (y_lss rfl rfl) ?_
    refine l_nil ?_
    refine q_then ?_
    refine c_dec rfl ?_ ?_
    · intro h30
      exact absurd h30 (by omega)
    · intro h30
      refine c_exit ?_
      refine q_then_exit (q_loop_exit (q_block_exit ?_))
      exact q_ret0 (.inr rfl) rfl () trivial rfl (by exact hs_app (B := [_]) (is := [0]) rfl rfl)

theorem sortStable_m {l : List Ck} {A : Option Addr} {k : Nat} {fv : Value} {f : Ck → Ck → Int} {F : List Res} (w : World) (hlen : l.length < 20) (Fc : ∀ x y : Ck, FnV Tryz.prog w fv [.agg x.arr, .agg y.arr] (.int .i64 (f x y))) : Cm Tryz.prog 58 #[.slice A l.length k, fv] w (.row (.slice A l.length k) 26 13 l.length (l.flatMap Ck.cells) :: F) (fun _x : Unit => .tuple #[]) (fun x => .row (.slice A l.length k) 26 13 l.length ((sortL f Ck.none_ l).flatMap Ck.cells) :: F) (fun _ => True) := by
  refine enterM (E := [(0, .slice A l.length k), (1, fv)]) Tryz.func58 rfl Tryz.ntmps58 rfl (by simp) ?_
  refine c_region rfl ?_
  refine gv rfl (y_move rfl) ?_
  refine gv rfl (y_move rfl) ?_
  refine gv rfl (y_len elem22 rfl) ?_
  refine gv rfl (y_move rfl) ?_
  refine l_hs (hs_app (A := [_]) (B := [_]) (is := [0]) rfl rfl) ?_
  refine l_callM (fs := []) rfl ent93 rfl rfl (stable_m (l := l) _ hlen Fc) ?_; rintro ⟨⟩ _
  refine l_nil ?_
  exact q_ret0 (.inr rfl) rfl () trivial rfl (by exact hs_app (B := [_]) (is := [0]) rfl rfl)

theorem sortCks_c {l : List Ck} {A : Option Addr} {k : Nat} (w : World) (hA : Sl Ck.cells 13 w A l) (hlen : l.length < 20) (hk0 : A = none → k = 0) : Ct Tryz.prog 25 #[.slice A l.length k] w (fun x : Option Addr × Nat => .slice x.1 (sortC l).length x.2) (fun x => [.row (.slice x.1 (sortC l).length x.2) 26 13 (sortC l).length ((sortC l).flatMap Ck.cells)]) (fun _ => True) := by
  refine enter (E := [(0, .slice A l.length k)]) Tryz.func25 rfl Tryz.ntmps25 rfl (by simp) ?_
  refine c_seq ?_
  refine c_region rfl ?_
  refine gv rfl (y_assign rfl) ?_
  refine l_nil ?_
  refine q_then ?_
  refine c_seq ?_
  refine c_region rfl ?_
  refine gv rfl (y_move rfl) ?_
  refine l_call rfl ent57 rfl (fun w hm => cloneCk_c w (hA.below hm.below) (by omega) hk0) ?_; rintro x5 h5
  refine gv rfl (y_assign rfl) ?_
  refine l_nil ?_
  refine q_then ?_
  refine c_seq ?_
  refine c_region rfl ?_
  refine gv rfl (y_move rfl) ?_
  refine l_hs (hs_pick (is := [0]) rfl rfl) ?_
  refine l_callM (fs := []) rfl ent58 rfl rfl (sortStable_m (l := l) _ hlen (fun x y => FnV.named ent59 (fun w2 _ => sort1_c w2))) ?_; rintro ⟨⟩ _
  refine l_nil ?_
  refine q_then ?_
  refine c_seq ?_
  refine c_region rfl ?_
  refine gv rfl (y_move rfl) ?_
  refine gv rfl (y_assign rfl) ?_
  refine l_nil ?_
  refine q_then ?_
  refine c_ret ?_
  have eS : (sortC l).length = l.length := sortL_len _ _ _
  exact q_ret1 Tryz.results25 rfl x5 trivial (by rw [eS]) (by rw [eS]; exact hs_pick (is := [0]) rfl rfl)

end Go.Gx
