/- This text proves: functions of the program, walked: what each answers, for every input. No condition beyond those that each theorem names. -/
import Derived.Test.YtgehghoammpiaaaGreatDoorProg
import Derived.Test.YtgehghoammpiaaaGreatDoorTB
import Derived.Test.YtgehghoammpiaaaGreatDoorGy6
import Derived.KernelRfl
namespace Go.Gx
open Go.Proofs Go.Maps
theorem ent94 : enters Tryz.prog 94 = true := by kernel_rfl
theorem flat77 : ∀ (v0 : ByteArray) (v1 : ByteArray) (v2 : ByteArray), flatT Tryz.prog 77 [.string v0, .string v1, .string v2] = true := by intros; kernel_rfl
theorem one61 : oneT Tryz.prog 61 = true := by kernel_rfl
theorem off66_1 : fieldOff Tryz.prog 66 1 = some 2 := by kernel_rfl
theorem off66_0 : fieldOff Tryz.prog 66 0 = some 0 := by kernel_rfl
theorem ent61 : enters Tryz.prog 61 = true := by kernel_rfl
theorem ent60 : enters Tryz.prog 60 = true := by kernel_rfl

theorem isNaN_c {n : Int} (w : World) : Cv Tryz.prog 94 #[.int .i64 n] w (.bool false) := by
  refine enter (E := [(0, .int .i64 n)]) Tryz.func94 rfl Tryz.ntmps94 rfl (by simp) ?_
  refine c_seq ?_
  refine c_region rfl ?_
  refine gv rfl (y_assign rfl) ?_
  refine l_nil ?_
  refine q_then ?_
  refine c_seq ?_
  refine c_region rfl ?_
  refine gv rfl (y_move rfl) ?_
  refine gv rfl (y_move rfl) ?_
  refine gv rfl (y_neq rfl rfl) ?_
  refine gv rfl (y_assign rfl) ?_
  refine l_nil ?_
  refine q_then ?_
  refine c_ret ?_
  exact q_ret1 Tryz.results94 rfl () trivial (congrArg Value.bool (by simp)) hs_nil

theorem cmpInt_c {a b : Int} (w : World) : Cv Tryz.prog 61 #[.int .i64 a, .int .i64 b] w (.int .i64 (cmpF a b)) := by
  refine enter (E := [(0, .int .i64 a), (1, .int .i64 b)]) Tryz.func61 rfl Tryz.ntmps61 rfl (by simp) ?_
  refine c_seq ?_
  refine c_region rfl ?_
  refine gv rfl (y_assign rfl) ?_
  refine l_nil ?_
  refine q_then ?_
  refine c_seq ?_
  refine c_region rfl ?_
  refine gv rfl (y_move rfl) ?_
  refine l_callU rfl ent94 rfl (fun w hm => isNaN_c w) ?_
  refine gv rfl (y_assign rfl) ?_
  refine l_nil ?_
  refine q_then ?_
  refine c_seq ?_
  refine c_region rfl ?_
  refine gv rfl (y_move rfl) ?_
  refine l_callU rfl ent94 rfl (fun w hm => isNaN_c w) ?_
  refine gv rfl (y_assign rfl) ?_
  refine l_nil ?_
  refine q_then ?_
  refine c_seq ?_
  refine c_seq ?_
  refine c_region rfl ?_
  refine gv rfl (y_move rfl) ?_
  refine l_nil ?_
  refine q_then ?_
  refine c_cond_f rfl ?_
  refine c_skip ?_
  refine q_then ?_
  refine c_seq ?_
  refine c_seq ?_
  refine c_region rfl ?_
  refine gv rfl (y_move rfl) ?_
  refine l_nil ?_
  refine q_then ?_
  refine c_cond_f rfl ?_
  refine c_skip ?_
  refine q_then ?_
  refine c_seq ?_
  refine c_seq ?_
  refine c_region rfl ?_
  refine gv rfl (y_move rfl) ?_
  refine gv rfl (y_move rfl) ?_
  refine gv rfl (y_lss rfl rfl) ?_
  refine l_nil ?_
  refine q_then ?_
  refine c_dec rfl ?_ ?_
  · intro h16
    refine c_seq ?_
    refine c_region rfl ?_
    refine gv rfl (y_assign rfl) ?_
    refine l_nil ?_
    refine q_then ?_
    refine c_ret ?_
    refine q_then_ret ?_
    exact q_ret1 Tryz.results61 rfl () trivial (congrArg (Value.int .i64) (by unfold cmpF; (repeat' split) <;> omega)) hs_nil
  · intro h16
    refine c_skip ?_
    refine q_then ?_
    refine c_seq ?_
    refine c_seq ?_
    refine c_region rfl ?_
    refine gv rfl (y_move rfl) ?_
    refine gv rfl (y_move rfl) ?_
    refine gv rfl (y_gtr rfl rfl) ?_
    refine l_nil ?_
    refine q_then ?_
    refine c_dec rfl ?_ ?_
    · intro h19
      refine c_seq ?_
      refine c_region rfl ?_
      refine gv rfl (y_assign rfl) ?_
      refine l_nil ?_
      refine q_then ?_
      refine c_ret ?_
      refine q_then_ret ?_
      exact q_ret1 Tryz.results61 rfl () trivial (congrArg (Value.int .i64) (by unfold cmpF; (repeat' split) <;> omega)) hs_nil
    · intro h19
      refine c_skip ?_
      refine q_then ?_
      refine c_seq ?_
      refine c_region rfl ?_
      refine gv rfl (y_assign rfl) ?_
      refine l_nil ?_
      refine q_then ?_
      refine c_ret ?_
      exact q_ret1 Tryz.results61 rfl () trivial (congrArg (Value.int .i64) (by unfold cmpF; (repeat' split) <;> omega)) hs_nil

theorem orInt_c {l : List Int} {A : Option Addr} {k : Nat} (w : World) (hA : Sl i1 1 w A l) (hlen : l.length ≤ 9223372036854775806) : Cv Tryz.prog 60 #[.slice A l.length k] w (.int .i64 (orF l)) := by
  refine enter (E := [(0, .slice A l.length k)]) Tryz.func60 rfl Tryz.ntmps60 rfl (by simp) ?_
  refine c_seq ?_
  refine c_region rfl ?_
  refine gv rfl (y_assign rfl) ?_
  refine l_nil ?_
  refine q_then ?_
  refine c_seq ?_
  refine c_region rfl ?_
  refine gv rfl (y_assign rfl) ?_
  refine l_nil ?_
  refine q_then ?_
  refine c_seq ?_
  refine c_seq ?_
  refine c_region rfl ?_
  refine gv rfl (y_move rfl) ?_
  refine gv rfl (y_len elem51 rfl) ?_
  refine gv rfl (y_move rfl) ?_
  refine l_nil ?_
  refine q_then ?_
  refine c_block ?_
  refine loop (Ef := [(3, _), (6, _), (7, _)]) (Hf := []) (fun s : Nat => s ≤ l.length ∧ ∀ j, j < s → ∀ u, l[j]? = some u → decide (u ≠ 0) = false) (fun s : Nat => [(8, .int .i64 (s : Int))]) (fun s : Nat => []) (fun s : Nat => l.length - s) 0 ⟨by omega, none_get⟩ (sub_cons rfl sub_nil) (sub_cons rfl (sub_cons rfl (sub_cons rfl sub_nil))) (hs_pick (is := []) rfl rfl) ?_
  rintro s ⟨hs, hI⟩
  refine c_sub (E' := [(8, _), (3, _), (6, _), (7, _)]) (sub_cons rfl (sub_cons rfl (sub_cons rfl (sub_cons rfl sub_nil)))) ?_
  refine c_seq ?_
  refine c_region rfl ?_
  refine gv rfl (y_lss rfl rfl) ?_
  refine l_nil ?_
  refine q_then ?_
  refine c_seq ?_
  refine c_dec rfl ?_ ?_
  · intro h9
    have hlt : s < l.length := by omega
    obtain ⟨v, hv⟩ := get_lt hlt
    refine c_skip ?_
    refine q_then ?_
    refine c_seq ?_
    refine c_block ?_
    refine c_seq ?_
    refine c_region rfl ?_
    refine gve rfl (y_iaddr elem51 size3 hA rfl rfl rfl (by omega) hv) ?_; rintro _ ⟨p10, rfl, hp10⟩
    refine gv rfl (y_load_el0 one3 hp10 rfl) ?_
    refine gv rfl (y_assign rfl) ?_
    refine l_nil ?_
    refine q_then ?_
    refine c_seq ?_
    refine c_region rfl ?_
    refine gv rfl (y_move rfl) ?_
    refine gv rfl (y_move rfl) ?_
    refine gv rfl (y_neq rfl rfl) ?_
    refine l_nil ?_
    refine q_then ?_
    refine c_dec rfl ?_ ?_
    · intro h14
      refine c_seq ?_
      refine c_region rfl ?_
      refine gv rfl (y_move rfl) ?_
      refine gv rfl (y_assign rfl) ?_
      refine l_nil ?_
      refine q_then ?_
      refine c_ret ?_
      refine q_block_ret (q_then_ret (q_loop_ret (q_block_ret (q_then_ret ?_))))
      exact q_ret1 Tryz.results60 rfl () trivial (congrArg (Value.int .i64) (orF_at hI hv h14).symm) hs_nil
    · intro h14
      refine c_skip ?_
      refine q_block (q_then ?_)
      refine c_region rfl ?_
      refine gv rfl (y_add rfl rfl (wrap_in (by omega) (by omega))) ?_
      refine gv rfl (y_move rfl) ?_
      refine l_nil ?_
      exact again (s + 1) ⟨by omega, step_get hI hv (by simp; omega)⟩ (by omega) (sub_cons rfl sub_nil) (sub_cons rfl (sub_cons rfl (sub_cons rfl sub_nil))) (hs_pick (is := []) rfl rfl)
  · intro h9
    refine c_exit ?_
    refine q_then_exit (q_loop_exit (q_block_exit (q_then ?_)))
    refine c_seq ?_
    refine c_region rfl ?_
    refine gv rfl (y_move rfl) ?_
    refine gv rfl (y_assign rfl) ?_
    refine l_nil ?_
    refine q_then ?_
    refine c_ret ?_
    exact q_ret1 Tryz.results60 rfl () trivial (congrArg (Value.int .i64) (orF_none hI (by omega)).symm) hs_nil

theorem minInt_c {l : List Int} {A : Option Addr} {k : Nat} {fv : Value} {f : Int → Int → Int} (w : World) (hA : Sl i1 1 w A l) (hne : l ≠ []) (hlen : l.length ≤ 1073741824) (F : ∀ x ∈ l, ∀ y ∈ l, FnV Tryz.prog w fv [.int .i64 x, .int .i64 y] (.int .i64 (f x y))) : Cv Tryz.prog 72 #[.slice A l.length k, fv] w (.int .i64 (minF f l)) := by
  refine enter (E := [(0, .slice A l.length k), (1, fv)]) Tryz.func72 rfl Tryz.ntmps72 rfl (by simp) ?_
  have h0 : 0 < l.length := List.length_pos_iff.2 hne
  obtain ⟨v0, hv0⟩ := get_lt h0
  have e1 := minT_one (f := f) hv0
  refine c_seq ?_
  refine c_region rfl ?_
  refine gv rfl (y_assign rfl) ?_
  refine l_nil ?_
  refine q_then ?_
  refine c_seq ?_
  refine c_seq ?_
  refine c_region rfl ?_
  refine gv rfl (y_move rfl) ?_
  refine gv rfl (y_len elem51 rfl) ?_
  refine gv rfl (y_lss rfl rfl) ?_
  refine l_nil ?_
  refine q_then ?_
  refine c_dec rfl ?_ ?_
  · intro h9
    exact absurd h9 (by omega)
  · intro h9
    refine c_skip ?_
    refine q_then ?_
    refine c_seq ?_
    refine c_region rfl ?_
    refine gv rfl (y_move rfl) ?_
    refine gve rfl (y_iaddr elem51 size3 hA rfl rfl rfl (by omega) hv0) ?_; rintro _ ⟨p12, rfl, hp12⟩
    refine gv rfl (y_load_el0 one3 hp12 rfl) ?_
    refine gv rfl (y_assign rfl) ?_
    refine l_nil ?_
    refine q_then ?_
    refine c_seq ?_
    refine c_seq ?_
    refine c_region rfl ?_
    refine gv rfl (y_assign rfl) ?_
    refine l_nil ?_
    refine q_then ?_
    refine c_block ?_
    rw [← e1]
    refine loop (Ef := [(0, _), (1, _)]) (Hf := []) (fun s : Nat => (1 ≤ s ∧ s ≤ l.length) ∧ minT f l s ∈ l) (fun s : Nat => [(6, .int .i64 (s : Int)), (5, .int .i64 (minT f l s))]) (fun s : Nat => []) (fun s : Nat => l.length - s) 1 ⟨⟨Nat.le_refl _, h0⟩, by rw [e1]; exact List.mem_of_getElem? hv0⟩ (sub_cons rfl (sub_cons rfl sub_nil)) (sub_cons rfl (sub_cons rfl sub_nil)) (hs_pick (is := []) rfl rfl) ?_
    rintro s ⟨hs, hI⟩
    refine c_sub (E' := [(6, _), (5, _), (0, _), (1, _)]) (sub_cons rfl (sub_cons rfl (sub_cons rfl (sub_cons rfl sub_nil)))) ?_
    refine c_seq ?_
    refine c_seq ?_
    refine c_region rfl ?_
    refine gv rfl (y_move rfl) ?_
    refine gv rfl (y_move rfl) ?_
    refine gv rfl (y_len elem51 rfl) ?_
    refine gv rfl (y_lss rfl rfl) ?_
    refine l_nil ?_
    refine q_then ?_
    refine c_dec rfl ?_ ?_
    · intro h17
      have hlt : s < l.length := by omega
      obtain ⟨v, hv⟩ := get_lt hlt
      have em0 := minT_succ (f := f) hs.1 hv
      refine c_skip ?_
      refine q_then ?_
      refine c_seq ?_
      refine c_block ?_
      refine c_seq ?_
      refine c_region rfl ?_
      refine gv rfl (y_move rfl) ?_
      refine gv rfl (y_move rfl) ?_
      refine gv rfl (y_move rfl) ?_
      refine gve rfl (y_iaddr elem51 size3 hA rfl rfl rfl (by omega) hv) ?_; rintro _ ⟨p23, rfl, hp23⟩
      refine gv rfl (y_load_el0 one3 hp23 rfl) ?_
      refine gv rfl (y_move rfl) ?_
      refine l_callF rfl rfl rfl (F _ (List.mem_of_getElem? hv) _ hI) ?_
      refine gv rfl (y_lss rfl rfl) ?_
      refine l_nil ?_
      refine q_then ?_
      refine c_dec rfl ?_ ?_
      · intro h27
        have em : minT f l (s + 1) = v := by rw [em0, if_pos h27]
        refine c_region rfl ?_
        refine gv rfl (y_move rfl) ?_
        refine gv rfl (y_move rfl) ?_
        refine gve rfl (y_iaddr elem51 size3 hA rfl rfl rfl (by omega) hv) ?_; rintro _ ⟨p30, rfl, hp30⟩
        refine gv rfl (y_load_el0 one3 hp30 rfl) ?_
        refine gv rfl (y_assign rfl) ?_
        refine l_nil ?_
        refine q_block (q_then ?_)
        refine c_region rfl ?_
        refine gv rfl (y_move rfl) ?_
        refine gv rfl (y_add rfl rfl (wrap_in (by omega) (by omega))) ?_
        refine gv rfl (y_assign rfl) ?_
        refine l_nil ?_
        rw [← em]
        exact again (s + 1) ⟨by omega, by rw [em]; exact List.mem_of_getElem? hv⟩ (by omega) (sub_cons rfl (sub_cons rfl sub_nil)) (sub_cons rfl (sub_cons rfl sub_nil)) (hs_pick (is := []) rfl rfl)
      · intro h27
        have em : minT f l (s + 1) = minT f l s := by rw [em0, if_neg h27]
        refine c_skip ?_
        refine q_block (q_then ?_)
        refine c_region rfl ?_
        refine gv rfl (y_move rfl) ?_
        refine gv rfl (y_add rfl rfl (wrap_in (by omega) (by omega))) ?_
        refine gv rfl (y_assign rfl) ?_
        refine l_nil ?_
        rw [← em]
        exact again (s + 1) ⟨by omega, by rw [em]; exact hI⟩ (by omega) (sub_cons rfl (sub_cons rfl sub_nil)) (sub_cons rfl (sub_cons rfl sub_nil)) (hs_pick (is := []) rfl rfl)
    · intro h17
      refine c_exit ?_
      refine q_then_exit (q_loop_exit (q_block_exit (q_then ?_)))
      refine c_seq ?_
      refine c_region rfl ?_
      refine gv rfl (y_move rfl) ?_
      refine gv rfl (y_assign rfl) ?_
      refine l_nil ?_
      refine q_then ?_
      refine c_ret ?_
      exact q_ret1 Tryz.results72 rfl () trivial (congrArg (Value.int .i64) (by unfold minT; rw [List.take_of_length_le (by omega)])) hs_nil

theorem idxFn_ck_c {l : List Ck} {A : Option Addr} {k : Nat} {fv : Value} {p : Ck → Bool} (w : World) (hA : Sl Ck.cells 13 w A l) (hlen : l.length ≤ 9223372036854775806) (F : ∀ x ∈ l, FnV Tryz.prog w fv [.agg x.arr] (.bool (p x))) : Cv Tryz.prog 70 #[.slice A l.length k, fv] w (.int .i64 (fidx p l)) := by
  refine enter (E := [(0, .slice A l.length k), (1, fv)]) Tryz.func70 rfl Tryz.ntmps70 rfl (by simp) ?_
  refine c_seq ?_
  refine c_region rfl ?_
  refine gv rfl (y_assign rfl) ?_
  refine l_nil ?_
  refine q_then ?_
  refine c_seq ?_
  refine c_seq ?_
  refine c_region rfl ?_
  refine gv rfl (y_move rfl) ?_
  refine gv rfl (y_len elem22 rfl) ?_
  refine gv rfl (y_move rfl) ?_
  refine l_nil ?_
  refine q_then ?_
  refine c_block ?_
  refine loop (Ef := [(0, _), (1, _), (7, _)]) (Hf := []) (fun s : Nat => s ≤ l.length ∧ ∀ j, j < s → ∀ u, l[j]? = some u → p u = false) (fun s : Nat => [(8, .int .i64 (s : Int))]) (fun s : Nat => []) (fun s : Nat => l.length - s) 0 ⟨by omega, none_get⟩ (sub_cons rfl sub_nil) (sub_cons rfl (sub_cons rfl (sub_cons rfl sub_nil))) (hs_pick (is := []) rfl rfl) ?_
  rintro s ⟨hs, hI⟩
  refine c_sub (E' := [(8, _), (0, _), (1, _), (7, _)]) (sub_cons rfl (sub_cons rfl (sub_cons rfl (sub_cons rfl sub_nil)))) ?_
  refine c_seq ?_
  refine c_region rfl ?_
  refine gv rfl (y_lss rfl rfl) ?_
  refine l_nil ?_
  refine q_then ?_
  refine c_seq ?_
  refine c_dec rfl ?_ ?_
  · intro h9
    have hlt : s < l.length := by omega
    obtain ⟨v, hv⟩ := get_lt hlt
    refine c_skip ?_
    refine q_then ?_
    refine c_seq ?_
    refine c_block ?_
    refine c_seq ?_
    refine c_region rfl ?_
    refine gv rfl (y_move rfl) ?_
    refine gv rfl (y_assign rfl) ?_
    refine l_nil ?_
    refine q_then ?_
    refine c_seq ?_
    refine c_region rfl ?_
    refine gv rfl (y_move rfl) ?_
    refine gv rfl (y_move rfl) ?_
    refine gv rfl (y_move rfl) ?_
    refine gve rfl (y_iaddr elem22 size26 hA rfl rfl rfl (by omega) hv) ?_; rintro _ ⟨p14, rfl, hp14⟩
    refine gv rfl (y_loadA_el agg26 rfl hp14 rfl) ?_
    refine l_callF rfl rfl rfl (F v (List.mem_of_getElem? hv)) ?_
    refine l_nil ?_
    refine q_then ?_
    refine c_bool rfl ?_ ?_
    · intro h16
      refine c_seq ?_
      refine c_region rfl ?_
      refine gv rfl (y_move rfl) ?_
      refine gv rfl (y_assign rfl) ?_
      refine l_nil ?_
      refine q_then ?_
      refine c_ret ?_
      refine q_block_ret (q_then_ret (q_loop_ret (q_block_ret (q_then_ret ?_))))
      exact q_ret1 Tryz.results70 rfl () trivial (congrArg (Value.int .i64) (fidx_at hI hv h16).symm) hs_nil
    · intro h16
      refine c_skip ?_
      refine q_block (q_then ?_)
      refine c_region rfl ?_
      refine gv rfl (y_add rfl rfl (wrap_in (by omega) (by omega))) ?_
      refine gv rfl (y_move rfl) ?_
      refine l_nil ?_
      exact again (s + 1) ⟨by omega, step_get hI hv h16⟩ (by omega) (sub_cons rfl sub_nil) (sub_cons rfl (sub_cons rfl (sub_cons rfl sub_nil))) (hs_pick (is := []) rfl rfl)
  · intro h9
    refine c_exit ?_
    refine q_then_exit (q_loop_exit (q_block_exit (q_then ?_)))
    refine c_seq ?_
    refine c_region rfl ?_
    refine gv rfl (y_assign rfl) ?_
    refine l_nil ?_
    refine q_then ?_
    refine c_ret ?_
    exact q_ret1 Tryz.results70 rfl () trivial (congrArg (Value.int .i64) (fidx_none hI (by omega)).symm) hs_nil

theorem lay1_c {x c : Ck} {p : Addr} (w : World) (hp : El w p c.cells) : Cv Tryz.prog 71 #[.agg x.arr, .pointer (some p)] w (.bool (keyEq x c)) := by
  refine enter (E := [(0, .agg x.arr), (1, .pointer (some p))]) Tryz.func71 rfl Tryz.ntmps71 rfl (by simp) ?_
  refine c_seq ?_
  refine c_region rfl ?_
  refine l_boxA rfl rfl ?_; intro g2
  refine gv rfl (y_assign rfl) ?_
  refine l_nil ?_
  refine q_then ?_
  refine c_seq ?_
  refine c_drawp (l := #[false, false, false, false, false, false]) 6 (is := [0]) rfl rfl rfl rfl ?_
  refine h_take (l' := #[true, false, false, false, false, false]) 0 rfl (by kernel_rfl) rfl rfl (np_then np_post) (hs_pick (is := [0]) rfl rfl) (y_loadW (k := 0)  agg26 rfl rfl rfl) ?_
  refine h_take (l' := #[true, false, true, false, false, false]) 2 rfl (by kernel_rfl) rfl rfl (np_then np_post) (hs_pick (is := [0]) rfl rfl) (y_loadA_el agg26 rfl hp rfl) ?_
  refine h_only (l' := #[true, true, true, false, false, false]) 1 rfl (by kernel_rfl) rfl ?_
  refine l_callU rfl ent45 rfl (fun w hm => keyOf_c w) ?_
  refine l_nil ?_
  refine q_step (fun _ => hs_pick (is := [0]) rfl rfl) ?_
  refine h_only (l' := #[true, true, true, true, false, false]) 3 rfl (by kernel_rfl) rfl ?_
  refine l_callU rfl ent45 rfl (fun w hm => keyOf_c w) ?_
  refine l_nil ?_
  refine q_step (fun _ => hs_pick (is := [0]) rfl rfl) ?_
  refine h_take (l' := #[true, true, true, true, true, false]) 4 rfl (by kernel_rfl) rfl rfl (np_then np_post) (hs_pick (is := [0]) rfl rfl) (y_eqS (flat77 _ _ _) rfl rfl (by exact key_eqc x c)) ?_
  refine h_take (l' := #[true, true, true, true, true, true]) 5 rfl (by kernel_rfl) rfl rfl (np_then np_post) (hs_pick (is := [0]) rfl rfl) (y_assign rfl) ?_
  refine h_done (by kernel_rfl) ?_
  refine q_then ?_
  refine c_ret ?_
  exact q_ret1 Tryz.results71 rfl () trivial rfl hs_nil

theorem put1_c {x c : Ck} {p : Addr} (w : World) (hp : El w p c.cells) : Cv Tryz.prog 36 #[.agg x.arr, .pointer (some p)] w (.bool (decide (x.domain = c.domain))) := by
  refine enter (E := [(0, .agg x.arr), (1, .pointer (some p))]) Tryz.func36 rfl Tryz.ntmps36 rfl (by simp) ?_
  refine c_seq ?_
  refine c_region rfl ?_
  refine l_boxA rfl rfl ?_; intro g2
  refine gv rfl (y_assign rfl) ?_
  refine l_nil ?_
  refine q_then ?_
  refine c_seq ?_
  refine c_region rfl ?_
  refine gv rfl (y_faddr off26_2 rfl rfl) ?_
  refine gv rfl (y_load (k := 0)  one9 rfl rfl rfl) ?_
  refine gv rfl (y_faddr_p off26_2 rfl) ?_
  refine gv rfl (y_load_el one9 hp rfl rfl) ?_
  refine gv rfl (y_seq rfl rfl) ?_
  refine gv rfl (y_assign rfl) ?_
  refine l_nil ?_
  refine q_then ?_
  refine c_ret ?_
  exact q_ret1 Tryz.results36 rfl () trivial rfl hs_nil

theorem put2_c {x : Ck} (w : World) : Cv Tryz.prog 37 #[.agg x.arr] w (.bool true) := by
  refine enter (E := [(0, .agg x.arr)]) Tryz.func37 rfl Tryz.ntmps37 rfl (by simp) ?_
  refine c_seq ?_
  refine c_region rfl ?_
  refine l_boxA rfl rfl ?_; intro g1
  refine gv rfl (y_assign rfl) ?_
  refine l_nil ?_
  refine q_then ?_
  refine c_seq ?_
  refine c_region rfl ?_
  refine gv rfl (y_assign rfl) ?_
  refine l_nil ?_
  refine q_then ?_
  refine c_ret ?_
  exact q_ret1 Tryz.results37 rfl () trivial rfl hs_nil

theorem expire1_c {c : Ck} {gb go n k : Nat} {A : Option Addr} {next now : Int} (w : World) (hp : El w ⟨gb, 0, none⟩ [.pointer (some ⟨go, 0, none⟩)]) (hO : El w ⟨go, 0, none⟩ [.slice A n k, .int .i64 next, .int .i64 now]) : Cv Tryz.prog 69 #[.agg c.arr, .pointer (some ⟨gb, 0, none⟩)] w (.bool (!decide (c.expiry > now))) := by
  refine enter (E := [(0, .agg c.arr), (1, .pointer (some ⟨gb, 0, none⟩))]) Tryz.func69 rfl Tryz.ntmps69 rfl (by simp) ?_
  refine c_seq ?_
  refine c_region rfl ?_
  refine l_boxA rfl rfl ?_; intro g2
  refine gv rfl (y_assign rfl) ?_
  refine l_nil ?_
  refine q_then ?_
  refine c_seq ?_
  refine c_drawp (l := #[false, false, false, false, false, false, false, false]) 8 (is := [0]) rfl rfl rfl rfl ?_
  refine h_take (l' := #[true, false, false, false, false, false, false, false]) 0 rfl (by kernel_rfl) rfl rfl (np_then np_post) (hs_pick (is := [0]) rfl rfl) (y_loadW (k := 0)  agg26 rfl rfl rfl) ?_
  refine h_take (l' := #[true, true, false, false, false, false, false, false]) 1 rfl (by kernel_rfl) rfl rfl (np_then np_post) (hs_pick (is := [0]) rfl rfl) (y_load_elg one61 hp rfl rfl) ?_
  refine h_take (l' := #[true, true, true, false, false, false, false, false]) 2 rfl (by kernel_rfl) rfl rfl (np_then np_post) (hs_pick (is := [0]) rfl rfl) (y_nilCheck rfl) ?_
  refine h_take (l' := #[true, true, true, true, false, false, false, false]) 3 rfl (by kernel_rfl) rfl rfl (np_then np_post) (hs_pick (is := [0]) rfl rfl) (y_faddr off66_1 rfl rfl) ?_
  refine h_take (l' := #[true, true, true, true, true, false, false, false]) 4 rfl (by kernel_rfl) rfl rfl (np_then np_post) (hs_pick (is := [0]) rfl rfl) (y_load_elg one3 hO rfl rfl) ?_
  refine h_only (l' := #[true, true, true, true, true, true, false, false]) 5 rfl (by kernel_rfl) rfl ?_
  refine l_callU rfl ent19 rfl (fun w hm => live_c w) ?_
  refine l_nil ?_
  refine q_step (fun _ => hs_pick (is := [0]) rfl rfl) ?_
  refine h_take (l' := #[true, true, true, true, true, true, true, false]) 6 rfl (by kernel_rfl) rfl rfl (np_then np_post) (hs_pick (is := [0]) rfl rfl) (y_not rfl rfl) ?_
  refine h_take (l' := #[true, true, true, true, true, true, true, true]) 7 rfl (by kernel_rfl) rfl rfl (np_then np_post) (hs_pick (is := [0]) rfl rfl) (y_assign rfl) ?_
  refine h_done (by kernel_rfl) ?_
  refine q_then ?_
  refine c_ret ?_
  exact q_ret1 Tryz.results69 rfl () trivial rfl hs_nil

theorem evict1_c {l : List Ck} {i j : Int} {gb go k : Nat} {A : Option Addr} {next now : Int} (w : World) (hp : El w ⟨gb, 0, none⟩ [.pointer (some ⟨go, 0, none⟩)]) (hO : El w ⟨go, 0, none⟩ [.slice A l.length k, .int .i64 next, .int .i64 now]) (hS : Sl Ck.cells 13 w A l) (hi : 0 ≤ i ∧ i < l.length) (hj : 0 ≤ j ∧ j < l.length) : Cv Tryz.prog 73 #[.int .i64 i, .int .i64 j, .pointer (some ⟨gb, 0, none⟩)] w (.int .i64 (useF l i j)) := by
  refine enter (E := [(0, .int .i64 i), (1, .int .i64 j), (2, .pointer (some ⟨gb, 0, none⟩))]) Tryz.func73 rfl Tryz.ntmps73 rfl (by simp) ?_
  obtain ⟨u, hu⟩ := get_lt (l := l) (i := i.toNat) (by omega)
  obtain ⟨v, hv⟩ := get_lt (l := l) (i := j.toNat) (by omega)
  have eu := getD_of_get (d := Ck.none_) hu
  have ev := getD_of_get (d := Ck.none_) hv
  refine c_seq ?_
  refine c_region rfl ?_
  refine gv rfl (y_assign rfl) ?_
  refine l_nil ?_
  refine q_then ?_
  refine c_seq ?_
  refine c_drawp (l := #[false, false, false, false, false, false, false, false, false, false, false, false, false, false, false, false, false, false, false, false]) 20 (is := []) rfl rfl rfl rfl ?_
  refine h_take (l' := #[true, false, false, false, false, false, false, false, false, false, false, false, false, false, false, false, false, false, false, false]) 0 rfl (by kernel_rfl) rfl rfl (np_then np_post) (hs_pick (is := []) rfl rfl) (y_load_elg one61 hp rfl rfl) ?_
  refine h_take (l' := #[true, true, false, false, false, false, false, false, false, false, false, false, false, false, false, false, false, false, false, false]) 1 rfl (by kernel_rfl) rfl rfl (np_then np_post) (hs_pick (is := []) rfl rfl) (y_nilCheck rfl) ?_
  refine h_take (l' := #[true, true, true, false, false, false, false, false, false, false, false, false, false, false, false, false, false, false, false, false]) 2 rfl (by kernel_rfl) rfl rfl (np_then np_post) (hs_pick (is := []) rfl rfl) (y_faddr off66_0 rfl rfl) ?_
  refine h_take (l' := #[true, true, true, true, false, false, false, false, false, false, false, false, false, false, false, false, false, false, false, false]) 3 rfl (by kernel_rfl) rfl rfl (np_then np_post) (hs_pick (is := []) rfl rfl) (y_faddr off24_0 rfl rfl) ?_
  refine h_take (l' := #[true, true, true, true, true, false, false, false, false, false, false, false, false, false, false, false, false, false, false, false]) 4 rfl (by kernel_rfl) rfl rfl (np_then np_post) (hs_pick (is := []) rfl rfl) (y_load_elg one22 hO rfl rfl) ?_
  refine h_take (l' := #[true, true, true, true, true, true, false, false, false, false, false, false, false, false, false, false, false, false, false, false]) 5 rfl (by kernel_rfl) rfl rfl (np_then np_post) (hs_pick (is := []) rfl rfl) (y_move rfl) ?_
  refine h_takee (l' := #[true, true, true, true, true, true, true, false, false, false, false, false, false, false, false, false, false, false, false, false]) 6 rfl (by kernel_rfl) rfl rfl (np_then np_post) (hs_pick (is := []) rfl rfl) (y_iaddr elem22 size26 hS rfl rfl rfl (by omega) hu) ?_; rintro _ ⟨p14, rfl, hp14⟩
  refine h_take (l' := #[true, true, true, true, true, true, true, true, false, false, false, false, false, false, false, false, false, false, false, false]) 7 rfl (by kernel_rfl) rfl rfl (np_then np_post) (hs_pick (is := []) rfl rfl) (y_loadA_el agg26 rfl hp14 rfl) ?_
  refine h_take (l' := #[true, true, true, true, true, true, true, true, true, false, false, false, false, false, false, false, false, false, false, false]) 8 rfl (by kernel_rfl) rfl rfl (np_then np_post) (hs_pick (is := []) rfl rfl) (y_load_elg one61 hp rfl rfl) ?_
  refine h_take (l' := #[true, true, true, true, true, true, true, true, true, true, false, false, false, false, false, false, false, false, false, false]) 9 rfl (by kernel_rfl) rfl rfl (np_then np_post) (hs_pick (is := []) rfl rfl) (y_nilCheck rfl) ?_
  refine h_take (l' := #[true, true, true, true, true, true, true, true, true, true, true, false, false, false, false, false, false, false, false, false]) 10 rfl (by kernel_rfl) rfl rfl (np_then np_post) (hs_pick (is := []) rfl rfl) (y_faddr off66_0 rfl rfl) ?_
  refine h_take (l' := #[true, true, true, true, true, true, true, true, true, true, true, true, false, false, false, false, false, false, false, false]) 11 rfl (by kernel_rfl) rfl rfl (np_then np_post) (hs_pick (is := []) rfl rfl) (y_faddr off24_0 rfl rfl) ?_
  refine h_take (l' := #[true, true, true, true, true, true, true, true, true, true, true, true, true, false, false, false, false, false, false, false]) 12 rfl (by kernel_rfl) rfl rfl (np_then np_post) (hs_pick (is := []) rfl rfl) (y_load_elg one22 hO rfl rfl) ?_
  refine h_take (l' := #[true, true, true, true, true, true, true, true, true, true, true, true, true, true, false, false, false, false, false, false]) 13 rfl (by kernel_rfl) rfl rfl (np_then np_post) (hs_pick (is := []) rfl rfl) (y_move rfl) ?_
  refine h_takee (l' := #[true, true, true, true, true, true, true, true, true, true, true, true, true, true, true, false, false, false, false, false]) 14 rfl (by kernel_rfl) rfl rfl (np_then np_post) (hs_pick (is := []) rfl rfl) (y_iaddr elem22 size26 hS rfl rfl rfl (by omega) hv) ?_; rintro _ ⟨p22, rfl, hp22⟩
  refine h_take (l' := #[true, true, true, true, true, true, true, true, true, true, true, true, true, true, true, true, false, false, false, false]) 15 rfl (by kernel_rfl) rfl rfl (np_then np_post) (hs_pick (is := []) rfl rfl) (y_loadA_el agg26 rfl hp22 rfl) ?_
  refine h_two (l' := #[true, true, true, true, true, true, true, true, true, true, true, true, true, true, true, true, true, false, false, false]) (l'' := #[true, true, true, true, true, true, true, true, true, true, true, true, true, true, true, true, false, true, false, false]) 16 17 rfl rfl (by kernel_rfl) rfl rfl ?_ ?_
  · skip
    refine l_allocA rfl zero26 ?_; intro g6
    refine l_nil ?_
    refine q_step (fun _ => hs_pick (is := []) rfl rfl) ?_
    refine h_only (l' := #[true, true, true, true, true, true, true, true, true, true, true, true, true, true, true, true, true, true, false, false]) 17 rfl (by kernel_rfl) rfl ?_
    refine l_allocA rfl zero26 ?_; intro g7
    refine l_nil ?_
    refine q_step (fun _ => hs_pick (is := []) rfl rfl) ?_
    refine h_only (l' := #[true, true, true, true, true, true, true, true, true, true, true, true, true, true, true, true, true, true, true, false]) 18 rfl (by kernel_rfl) rfl ?_
    refine l_storeW (k := 1) (H' := [_, _]) size26 rfl rfl rfl rfl rfl rfl rfl ?_
    refine l_nil ?_
    refine q_step (fun _ => hs_pick (is := []) rfl rfl) ?_
    refine h_only (l' := #[true, true, true, true, true, true, true, true, true, true, true, true, true, true, true, true, true, true, true, true]) 19 rfl (by kernel_rfl) rfl ?_
    refine l_storeW (k := 0) (H' := [_, _]) size26 rfl rfl rfl rfl rfl rfl rfl ?_
    refine l_nil ?_
    refine q_step (fun _ => hs_pick (is := []) rfl rfl) ?_
    refine h_done (by kernel_rfl) ?_
    refine q_then ?_
    refine c_seq ?_
    refine c_drawp (l := #[false, false, false, false, false, false, false, false, false, false, false, false, false]) 13 (is := [0, 1]) rfl rfl rfl rfl ?_
    refine h_take (l' := #[true, false, false, false, false, false, false, false, false, false, false, false, false]) 0 rfl (by kernel_rfl) rfl rfl (np_then np_post) (hs_pick (is := [0, 1]) rfl rfl) (y_faddr off26_11 rfl rfl) ?_
    refine h_take (l' := #[true, true, false, false, false, false, false, false, false, false, false, false, false]) 1 rfl (by kernel_rfl) rfl rfl (np_then np_post) (hs_pick (is := [0, 1]) rfl rfl) (y_load (k := 1)  one3 rfl rfl rfl) ?_
    refine h_take (l' := #[true, true, true, false, false, false, false, false, false, false, false, false, false]) 2 rfl (by kernel_rfl) rfl rfl (np_then np_post) (hs_pick (is := [0, 1]) rfl rfl) (y_faddr off26_11 rfl rfl) ?_
    refine h_take (l' := #[true, true, true, true, false, false, false, false, false, false, false, false, false]) 3 rfl (by kernel_rfl) rfl rfl (np_then np_post) (hs_pick (is := [0, 1]) rfl rfl) (y_load (k := 0)  one3 rfl rfl rfl) ?_
    refine h_take (l' := #[true, true, true, true, false, true, false, false, false, false, false, false, false]) 5 rfl (by kernel_rfl) rfl rfl (np_then np_post) (hs_pick (is := [0, 1]) rfl rfl) (y_faddr off26_12 rfl rfl) ?_
    refine h_take (l' := #[true, true, true, true, false, true, true, false, false, false, false, false, false]) 6 rfl (by kernel_rfl) rfl rfl (np_then np_post) (hs_pick (is := [0, 1]) rfl rfl) (y_load (k := 1)  one3 rfl rfl rfl) ?_
    refine h_take (l' := #[true, true, true, true, false, true, true, true, false, false, false, false, false]) 7 rfl (by kernel_rfl) rfl rfl (np_then np_post) (hs_pick (is := [0, 1]) rfl rfl) (y_faddr off26_12 rfl rfl) ?_
    refine h_take (l' := #[true, true, true, true, false, true, true, true, true, false, false, false, false]) 8 rfl (by kernel_rfl) rfl rfl (np_then np_post) (hs_pick (is := [0, 1]) rfl rfl) (y_load (k := 0)  one3 rfl rfl rfl) ?_
    refine h_only (l' := #[true, true, true, true, true, true, true, true, true, false, false, false, false]) 4 rfl (by kernel_rfl) rfl ?_
    refine l_callU rfl ent61 rfl (fun w hm => cmpInt_c w) ?_
    refine l_nil ?_
    refine q_step (fun _ => hs_pick (is := [0, 1]) rfl rfl) ?_
    refine h_only (l' := #[true, true, true, true, true, true, true, true, true, true, false, false, false]) 9 rfl (by kernel_rfl) rfl ?_
    refine l_callU rfl ent61 rfl (fun w hm => cmpInt_c w) ?_
    refine l_nil ?_
    refine q_step (fun _ => hs_pick (is := [0, 1]) rfl rfl) ?_
    refine h_only (l' := #[true, true, true, true, true, true, true, true, true, true, true, false, false]) 10 rfl (by kernel_rfl) rfl ?_
    refine l_bslice (cl := [_, _]) rfl elem51 ap3 zero3 rfl rfl rfl rfl rfl rfl rfl ?_; intro g34
    refine l_nil ?_
    refine q_step (fun _ => hs_pick (is := [1, 2]) rfl rfl) ?_
    refine h_only (l' := #[true, true, true, true, true, true, true, true, true, true, true, true, false]) 11 rfl (by kernel_rfl) rfl ?_
    refine l_callU rfl ent60 rfl (fun w hm => orInt_c (l := [cmpF u.used v.used, cmpF u.no v.no]) w (sl_of_blk hm (k := 0) rfl rfl (fun _ => rfl)) (by simp)) ?_
    refine l_nil ?_
    refine q_step (fun _ => hs_pick (is := [1, 2]) rfl rfl) ?_
    refine h_take (l' := #[true, true, true, true, true, true, true, true, true, true, true, true, true]) 12 rfl (by kernel_rfl) rfl rfl (np_then np_post) (hs_pick (is := [1, 2]) rfl rfl) (y_assign rfl) ?_
    refine h_done (by kernel_rfl) ?_
    refine q_then ?_
    refine c_ret ?_
    exact q_ret1 Tryz.results73 rfl () trivial (congrArg (Value.int .i64) (by unfold useF; rw [eu, ev])) hs_nil
  · skip
    refine l_allocA rfl zero26 ?_; intro g7
    refine l_nil ?_
    refine q_step (fun _ => hs_pick (is := []) rfl rfl) ?_
    refine h_only (l' := #[true, true, true, true, true, true, true, true, true, true, true, true, true, true, true, true, true, true, false, false]) 16 rfl (by kernel_rfl) rfl ?_
    refine l_allocA rfl zero26 ?_; intro g6
    refine l_nil ?_
    refine q_step (fun _ => hs_pick (is := []) rfl rfl) ?_
    refine h_only (l' := #[true, true, true, true, true, true, true, true, true, true, true, true, true, true, true, true, true, true, true, false]) 18 rfl (by kernel_rfl) rfl ?_
    refine l_storeW (k := 0) (H' := [_, _]) size26 rfl rfl rfl rfl rfl rfl rfl ?_
    refine l_nil ?_
    refine q_step (fun _ => hs_pick (is := []) rfl rfl) ?_
    refine h_only (l' := #[true, true, true, true, true, true, true, true, true, true, true, true, true, true, true, true, true, true, true, true]) 19 rfl (by kernel_rfl) rfl ?_
    refine l_storeW (k := 1) (H' := [_, _]) size26 rfl rfl rfl rfl rfl rfl rfl ?_
    refine l_nil ?_
    refine q_step (fun _ => hs_pick (is := []) rfl rfl) ?_
    refine h_done (by kernel_rfl) ?_
    refine q_then ?_
    refine c_seq ?_
    refine c_drawp (l := #[false, false, false, false, false, false, false, false, false, false, false, false, false]) 13 (is := [0, 1]) rfl rfl rfl rfl ?_
    refine h_take (l' := #[true, false, false, false, false, false, false, false, false, false, false, false, false]) 0 rfl (by kernel_rfl) rfl rfl (np_then np_post) (hs_pick (is := [0, 1]) rfl rfl) (y_faddr off26_11 rfl rfl) ?_
    refine h_take (l' := #[true, true, false, false, false, false, false, false, false, false, false, false, false]) 1 rfl (by kernel_rfl) rfl rfl (np_then np_post) (hs_pick (is := [0, 1]) rfl rfl) (y_load (k := 0)  one3 rfl rfl rfl) ?_
    refine h_take (l' := #[true, true, true, false, false, false, false, false, false, false, false, false, false]) 2 rfl (by kernel_rfl) rfl rfl (np_then np_post) (hs_pick (is := [0, 1]) rfl rfl) (y_faddr off26_11 rfl rfl) ?_
    refine h_take (l' := #[true, true, true, true, false, false, false, false, false, false, false, false, false]) 3 rfl (by kernel_rfl) rfl rfl (np_then np_post) (hs_pick (is := [0, 1]) rfl rfl) (y_load (k := 1)  one3 rfl rfl rfl) ?_
    refine h_take (l' := #[true, true, true, true, false, true, false, false, false, false, false, false, false]) 5 rfl (by kernel_rfl) rfl rfl (np_then np_post) (hs_pick (is := [0, 1]) rfl rfl) (y_faddr off26_12 rfl rfl) ?_
    refine h_take (l' := #[true, true, true, true, false, true, true, false, false, false, false, false, false]) 6 rfl (by kernel_rfl) rfl rfl (np_then np_post) (hs_pick (is := [0, 1]) rfl rfl) (y_load (k := 0)  one3 rfl rfl rfl) ?_
    refine h_take (l' := #[true, true, true, true, false, true, true, true, false, false, false, false, false]) 7 rfl (by kernel_rfl) rfl rfl (np_then np_post) (hs_pick (is := [0, 1]) rfl rfl) (y_faddr off26_12 rfl rfl) ?_
    refine h_take (l' := #[true, true, true, true, false, true, true, true, true, false, false, false, false]) 8 rfl (by kernel_rfl) rfl rfl (np_then np_post) (hs_pick (is := [0, 1]) rfl rfl) (y_load (k := 1)  one3 rfl rfl rfl) ?_
    refine h_only (l' := #[true, true, true, true, true, true, true, true, true, false, false, false, false]) 4 rfl (by kernel_rfl) rfl ?_
    refine l_callU rfl ent61 rfl (fun w hm => cmpInt_c w) ?_
    refine l_nil ?_
    refine q_step (fun _ => hs_pick (is := [0, 1]) rfl rfl) ?_
    refine h_only (l' := #[true, true, true, true, true, true, true, true, true, true, false, false, false]) 9 rfl (by kernel_rfl) rfl ?_
    refine l_callU rfl ent61 rfl (fun w hm => cmpInt_c w) ?_
    refine l_nil ?_
    refine q_step (fun _ => hs_pick (is := [0, 1]) rfl rfl) ?_
    refine h_only (l' := #[true, true, true, true, true, true, true, true, true, true, true, false, false]) 10 rfl (by kernel_rfl) rfl ?_
    refine l_bslice (cl := [_, _]) rfl elem51 ap3 zero3 rfl rfl rfl rfl rfl rfl rfl ?_; intro g34
    refine l_nil ?_
    refine q_step (fun _ => hs_pick (is := [1, 2]) rfl rfl) ?_
    refine h_only (l' := #[true, true, true, true, true, true, true, true, true, true, true, true, false]) 11 rfl (by kernel_rfl) rfl ?_
    refine l_callU rfl ent60 rfl (fun w hm => orInt_c (l := [cmpF u.used v.used, cmpF u.no v.no]) w (sl_of_blk hm (k := 0) rfl rfl (fun _ => rfl)) (by simp)) ?_
    refine l_nil ?_
    refine q_step (fun _ => hs_pick (is := [1, 2]) rfl rfl) ?_
    refine h_take (l' := #[true, true, true, true, true, true, true, true, true, true, true, true, true]) 12 rfl (by kernel_rfl) rfl rfl (np_then np_post) (hs_pick (is := [1, 2]) rfl rfl) (y_assign rfl) ?_
    refine h_done (by kernel_rfl) ?_
    refine q_then ?_
    refine c_ret ?_
    exact q_ret1 Tryz.results73 rfl () trivial (congrArg (Value.int .i64) (by unfold useF; rw [eu, ev])) hs_nil

end Go.Gx
