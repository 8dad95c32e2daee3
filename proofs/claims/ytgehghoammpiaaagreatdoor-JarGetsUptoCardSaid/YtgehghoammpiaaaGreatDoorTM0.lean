/- This text proves: functions of the program, walked: what each answers, for every input. No condition beyond those that each theorem names. -/
import Derived.Test.YtgehghoammpiaaaGreatDoorProg
import Derived.Test.YtgehghoammpiaaaGreatDoorGP
import Derived.Test.YtgehghoammpiaaaGreatDoorGy6
import Derived.KernelRfl
import Derived.Test.YtgehghoammpiaaaGreatDoorGy7
import Derived.Test.YtgehghoammpiaaaGreatDoorTStr
import Derived.Test.YtgehghoammpiaaaGreatDoorGy9
import Derived.Test.YtgehghoammpiaaaGreatDoorGz0
import Derived.Test.YtgehghoammpiaaaGreatDoorGz1
import Derived.Test.YtgehghoammpiaaaGreatDoorGz2
import Derived.Test.YtgehghoammpiaaaGreatDoorGz3
import Derived.Test.YtgehghoammpiaaaGreatDoorGz4
import Derived.Test.YtgehghoammpiaaaGreatDoorGz7
import Derived.Test.YtgehghoammpiaaaGreatDoorGz8
namespace Go.Gx
open Go.Proofs Go.Maps
theorem off26_9 : fieldOff Tryz.prog 26 9 = some 9 := by kernel_rfl

theorem one3 : oneT Tryz.prog 3 = true := by kernel_rfl

theorem off26_10 : fieldOff Tryz.prog 26 10 = some 10 := by kernel_rfl

theorem ent30 : enters Tryz.prog 30 = true := by kernel_rfl

theorem off26_11 : fieldOff Tryz.prog 26 11 = some 11 := by kernel_rfl

theorem zero77 : zeroOf Tryz.prog 77 = some (.agg #[.string (B []), .string (B []), .string (B [])]) := by kernel_rfl

theorem off26_0 : fieldOff Tryz.prog 26 0 = some 0 := by kernel_rfl

theorem one9 : oneT Tryz.prog 9 = true := by kernel_rfl

theorem off26_2 : fieldOff Tryz.prog 26 2 = some 2 := by kernel_rfl

theorem off26_3 : fieldOff Tryz.prog 26 3 = some 3 := by kernel_rfl

theorem bld77 : bldT Tryz.prog 77 = some [(0, 1), (1, 1), (2, 1)] := by kernel_rfl

theorem size77 : sizeT Tryz.prog 77 3 = true := by kernel_rfl

theorem agg77 : aggT Tryz.prog 77 3 = true := by kernel_rfl

theorem elem51 : elemT Tryz.prog 51 3 = true := by kernel_rfl

theorem size3 : sizeT Tryz.prog 3 1 = true := by kernel_rfl

theorem elem22 : elemT Tryz.prog 22 26 = true := by kernel_rfl

theorem size26 : sizeT Tryz.prog 26 13 = true := by kernel_rfl

theorem agg26 : aggT Tryz.prog 26 13 = true := by kernel_rfl

theorem flat26 : ∀ (v0 : ByteArray) (v1 : ByteArray) (v2 : ByteArray) (v3 : ByteArray) (v4 : Bool) (v5 : Bool) (v6 : Bool) (v7 : Bool) (v8 : Int) (v9 : Int) (v10 : Int) (v11 : Int) (v12 : Int), flatT Tryz.prog 26 [.string v0, .string v1, .string v2, .string v3, .bool v4, .bool v5, .bool v6, .bool v7, .int .i64 v8, .int .i64 v9, .int .i64 v10, .int .i64 v11, .int .i64 v12] = true := by intros; kernel_rfl

theorem ent101 : enters Tryz.prog 101 = true := by kernel_rfl

theorem ent131 : enters Tryz.prog 131 = true := by kernel_rfl

theorem elem124 : elemT Tryz.prog 124 5 = true := by kernel_rfl

theorem size5 : sizeT Tryz.prog 5 1 = true := by kernel_rfl

theorem one5 : oneT Tryz.prog 5 = true := by kernel_rfl

theorem ent155 : enters Tryz.prog 155 = true := by kernel_rfl

theorem one4 : oneT Tryz.prog 4 = true := by kernel_rfl

theorem ent138 : enters Tryz.prog 138 = true := by kernel_rfl

theorem ent119 : enters Tryz.prog 119 = true := by kernel_rfl

theorem strT9 : strT Tryz.prog 9 = true := by kernel_rfl

theorem bytesT124 : bytesT Tryz.prog 124 5 = true := by kernel_rfl

theorem one158 : oneT Tryz.prog 158 = true := by kernel_rfl

theorem zero158 : zeroOf Tryz.prog 158 = some (.nilFunc) := by kernel_rfl

theorem size158 : sizeT Tryz.prog 158 1 = true := by kernel_rfl

theorem ent140 : enters Tryz.prog 140 = true := by kernel_rfl

theorem ent141 : enters Tryz.prog 141 = true := by kernel_rfl

theorem ent142 : enters Tryz.prog 142 = true := by kernel_rfl

theorem ent121 : enters Tryz.prog 121 = true := by kernel_rfl

theorem ent95 : enters Tryz.prog 95 = true := by kernel_rfl

theorem elem117 : elemT Tryz.prog 117 9 = true := by kernel_rfl

theorem size9 : sizeT Tryz.prog 9 1 = true := by kernel_rfl

theorem ent122 : enters Tryz.prog 122 = true := by kernel_rfl

theorem ent100 : enters Tryz.prog 100 = true := by kernel_rfl

theorem ent107 : enters Tryz.prog 107 = true := by kernel_rfl

theorem ent108 : enters Tryz.prog 108 = true := by kernel_rfl

theorem ent86 : enters Tryz.prog 86 = true := by kernel_rfl

theorem ent77 : enters Tryz.prog 77 = true := by kernel_rfl

theorem ib154 : IsIB Tryz.prog 154 := fun args w => run_callFunc_extern (e := Extern.BytealgIndexByte.indexByte) Tryz.func154 (by kernel_rfl) (by kernel_rfl) (by kernel_rfl) (by kernel_rfl) args w


theorem live_c {c : Ck} {now : Int} (w : World) : Cv Tryz.prog 19 #[.agg c.arr, .int .i64 now] w (.bool (decide (c.expiry > now))) := by
  refine enter (E := [(0, .agg c.arr), (1, .int .i64 now)]) Tryz.func19 rfl Tryz.ntmps19 rfl (by simp) ?_
  refine c_seq ?_
  refine c_region rfl ?_
  refine l_boxA rfl rfl ?_; intro g2
  refine gv rfl (y_assign rfl) ?_
  refine l_nil ?_
  refine q_then ?_
  refine c_seq ?_
  refine c_region rfl ?_
  refine gv rfl (y_faddr off26_9 rfl rfl) ?_
  refine gv rfl (y_load (k := 0)  one3 rfl rfl rfl) ?_
  refine gv rfl (y_move rfl) ?_
  refine gv rfl (y_gtr rfl rfl) ?_
  refine gv rfl (y_assign rfl) ?_
  refine l_nil ?_
  refine q_then ?_
  refine c_ret ?_
  exact q_ret1 Tryz.results19 rfl () trivial rfl hs_nil


theorem is_c {n : Int} (w : World) : Cv Tryz.prog 30 #[.int .i64 n] w (.bool (decide (isM n))) := by
  refine enter (E := [(0, .int .i64 n)]) Tryz.func30 rfl Tryz.ntmps30 rfl (by simp) ?_
  refine c_seq ?_
  refine c_region rfl ?_
  refine gv rfl (y_assign rfl) ?_
  refine l_nil ?_
  refine q_then ?_
  refine c_seq ?_
  refine c_region rfl ?_
  refine gv rfl (y_move rfl) ?_
  refine gv rfl (y_geq rfl rfl) ?_
  refine gv rfl (y_move rfl) ?_
  refine g_dec (t := 5) rfl ?_ ?_
  · intro h5
    refine g_on (t := 5) rfl rfl ?_
    refine gv rfl (y_move rfl) ?_
    refine g_on (t := 5) rfl rfl ?_
    refine gv rfl (y_leq rfl rfl) ?_
    refine gv rfl (y_pick_t rfl rfl) ?_
    refine gv rfl (y_assign rfl) ?_
    refine l_nil ?_
    refine q_then ?_
    refine c_ret ?_
    exact q_ret1 Tryz.results30 rfl () trivial (bd (by unfold isM; omega)) hs_nil
  · intro h5
    refine g_off (t := 5) rfl rfl rfl rfl ?_
    refine g_off (t := 5) rfl rfl rfl rfl ?_
    refine gv rfl (y_pick_f rfl rfl) ?_
    refine gv rfl (y_assign rfl) ?_
    refine l_nil ?_
    refine q_then ?_
    refine c_ret ?_
    exact q_ret1 Tryz.results30 rfl () trivial (bf (by unfold isM; omega)) hs_nil


theorem moments_c {c : Ck} (w : World) : Cv Tryz.prog 31 #[.agg c.arr] w (.bool (decide (isM c.created ∧ isM c.used))) := by
  refine enter (E := [(0, .agg c.arr)]) Tryz.func31 rfl Tryz.ntmps31 rfl (by simp) ?_
  refine c_seq ?_
  refine c_region rfl ?_
  refine l_boxA rfl rfl ?_; intro g1
  refine gv rfl (y_assign rfl) ?_
  refine l_nil ?_
  refine q_then ?_
  refine c_seq ?_
  refine c_region rfl ?_
  refine gv rfl (y_faddr off26_10 rfl rfl) ?_
  refine gv rfl (y_load (k := 0)  one3 rfl rfl rfl) ?_
  refine l_callU rfl ent30 rfl (fun w hm => is_c w) ?_
  refine gv rfl (y_move rfl) ?_
  refine g_dec (t := 6) rfl ?_ ?_
  · intro h6
    refine g_on (t := 6) rfl rfl ?_
    refine gv rfl (y_faddr off26_11 rfl rfl) ?_
    refine g_on (t := 6) rfl rfl ?_
    refine gv rfl (y_load (k := 0)  one3 rfl rfl rfl) ?_
    refine g_on (t := 6) rfl rfl ?_
    refine l_callU rfl ent30 rfl (fun w hm => is_c w) ?_
    refine gv rfl (y_pick_t rfl rfl) ?_
    refine gv rfl (y_assign rfl) ?_
    refine l_nil ?_
    refine q_then ?_
    refine c_ret ?_
    exact q_ret1 Tryz.results31 rfl () trivial (bd (by simp [*])) hs_nil
  · intro h6
    refine g_off (t := 6) rfl rfl rfl rfl ?_
    refine g_off (t := 6) rfl rfl rfl rfl ?_
    refine g_off (t := 6) rfl rfl rfl rfl ?_
    refine gv rfl (y_pick_f rfl rfl) ?_
    refine gv rfl (y_assign rfl) ?_
    refine l_nil ?_
    refine q_then ?_
    refine c_ret ?_
    exact q_ret1 Tryz.results31 rfl () trivial (bf (by simp [*])) hs_nil


theorem keyOf_c {c : Ck} (w : World) : Cv Tryz.prog 45 #[.agg c.arr] w (.agg #[.string (B c.name), .string (B c.domain), .string (B c.path)]) := by
  refine enter (E := [(0, .agg c.arr)]) Tryz.func45 rfl Tryz.ntmps45 rfl (by simp) ?_
  refine c_seq ?_
  refine c_region rfl ?_
  refine l_boxA rfl rfl ?_; intro g1
  refine l_allocA rfl zero77 ?_; intro g2
  refine l_nil ?_
  refine q_then ?_
  refine c_seq ?_
  refine c_region rfl ?_
  refine gv rfl (y_faddr off26_0 rfl rfl) ?_
  refine gv rfl (y_load (k := 1)  one9 rfl rfl rfl) ?_
  refine gv rfl (y_faddr off26_2 rfl rfl) ?_
  refine gv rfl (y_load (k := 1)  one9 rfl rfl rfl) ?_
  refine gv rfl (y_faddr off26_3 rfl rfl) ?_
  refine gv rfl (y_load (k := 1)  one9 rfl rfl rfl) ?_
  refine gv rfl (y_build (cs := #[_, _, _]) (cl := [_, _, _])  zero77 bld77 rfl rfl rfl rfl rfl) ?_
  refine l_storeW (k := 0) (H' := [_, _]) size77 rfl rfl rfl rfl rfl rfl rfl ?_
  refine l_nil ?_
  refine q_then ?_
  refine c_ret ?_
  exact q_retA (k := 0) Tryz.results45 agg77 rfl rfl rfl () trivial rfl hs_nil


theorem sameCks_c {l m : List Ck} {A A2 : Option Addr} {k k2 : Nat} (w : World) (hA : Sl Ck.cells 13 w A l) (hA2 : Sl Ck.cells 13 w A2 m) (hlen : l.length ≤ 9223372036854775806) : Cv Tryz.prog 18 #[.slice A l.length k, .slice A2 m.length k2] w (.bool (decide (l = m))) := by
  refine enter (E := [(0, .slice A l.length k), (1, .slice A2 m.length k2)]) Tryz.func18 rfl Tryz.ntmps18 rfl (by simp) ?_
  refine c_seq ?_
  refine c_region rfl ?_
  refine gv rfl (y_assign rfl) ?_
  refine l_nil ?_
  refine q_then ?_
  refine c_seq ?_
  refine c_seq ?_
  refine c_region rfl ?_
  refine gv rfl (y_move rfl) ?_
  refine gv rfl (y_len elem22 rfl) ?_
  refine gv rfl (y_move rfl) ?_
  refine gv rfl (y_len elem22 rfl) ?_
  refine gv rfl (y_neq rfl rfl) ?_
  refine l_nil ?_
  refine q_then ?_
  refine c_dec rfl ?_ ?_
  · intro h10
    refine c_seq ?_
    refine c_region rfl ?_
    refine gv rfl (y_assign rfl) ?_
    refine l_nil ?_
    refine q_then ?_
    refine c_ret ?_
    refine q_then_ret ?_
    exact q_ret1 Tryz.results18 rfl () trivial (bf (fun e => by subst e; simp at h10)) hs_nil
  · intro h10
    refine c_skip ?_
    refine q_then ?_
    refine c_seq ?_
    refine c_seq ?_
    refine c_region rfl ?_
    refine gv rfl (y_assign rfl) ?_
    refine l_nil ?_
    refine q_then ?_
    refine c_block ?_
    refine loop (Ef := [(0, _), (1, _)]) (Hf := []) (fun s : Nat => s ≤ l.length ∧ ∀ j, j < s → l.getD j .none_ = m.getD j .none_) (fun s : Nat => [(5, .int .i64 (s : Int))]) (fun s : Nat => []) (fun s : Nat => l.length - s) 0 ⟨by omega, none_yet⟩ (sub_cons rfl sub_nil) (sub_cons rfl (sub_cons rfl sub_nil)) (hs_pick (is := []) rfl rfl) ?_
    rintro s ⟨hs, hI⟩
    refine c_sub (E' := [(5, _), (0, _), (1, _)]) (sub_cons rfl (sub_cons rfl (sub_cons rfl sub_nil))) ?_
    refine c_seq ?_
    refine c_seq ?_
    refine c_region rfl ?_
    refine gv rfl (y_move rfl) ?_
    refine gv rfl (y_move rfl) ?_
    refine gv rfl (y_len elem22 rfl) ?_
    refine gv rfl (y_lss rfl rfl) ?_
    refine l_nil ?_
    refine q_then ?_
    refine c_dec rfl ?_ ?_
    · intro h14
      have hlt : s < l.length := by omega
      have hlt2 : s < m.length := by omega
      obtain ⟨v, hv⟩ := get_lt hlt
      obtain ⟨v2, hv2⟩ := get_lt hlt2
      have ev := getD_of_get (d := .none_) hv
      have ev2 := getD_of_get (d := .none_) hv2
      refine c_skip ?_
      refine q_then ?_
      refine c_seq ?_
      refine c_block ?_
      refine c_seq ?_
      refine c_drawp (l := #[false, false, false, false, false, false, false, false, false]) 9 (is := []) rfl rfl rfl rfl ?_
      refine h_take (l' := #[true, false, false, false, false, false, false, false, false]) 0 rfl (by kernel_rfl) rfl rfl (np_then (np_block (np_then (np_loop (np_block (np_then np_post)))))) (hs_pick (is := []) rfl rfl) (y_move rfl) ?_
      refine h_take (l' := #[true, true, false, false, false, false, false, false, false]) 1 rfl (by kernel_rfl) rfl rfl (np_then (np_block (np_then (np_loop (np_block (np_then np_post)))))) (hs_pick (is := []) rfl rfl) (y_move rfl) ?_
      refine h_takee (l' := #[true, true, true, false, false, false, false, false, false]) 2 rfl (by kernel_rfl) rfl rfl (np_then (np_block (np_then (np_loop (np_block (np_then np_post)))))) (hs_pick (is := []) rfl rfl) (y_iaddr elem22 size26 hA rfl rfl rfl (by omega) hv) ?_; rintro _ ⟨p19, rfl, hp19⟩
      refine h_take (l' := #[true, true, true, true, false, false, false, false, false]) 3 rfl (by kernel_rfl) rfl rfl (np_then (np_block (np_then (np_loop (np_block (np_then np_post)))))) (hs_pick (is := []) rfl rfl) (y_loadA_el agg26 rfl hp19 rfl) ?_
      refine h_take (l' := #[true, true, true, true, true, false, false, false, false]) 4 rfl (by kernel_rfl) rfl rfl (np_then (np_block (np_then (np_loop (np_block (np_then np_post)))))) (hs_pick (is := []) rfl rfl) (y_move rfl) ?_
      refine h_take (l' := #[true, true, true, true, true, true, false, false, false]) 5 rfl (by kernel_rfl) rfl rfl (np_then (np_block (np_then (np_loop (np_block (np_then np_post)))))) (hs_pick (is := []) rfl rfl) (y_move rfl) ?_
      refine h_takee (l' := #[true, true, true, true, true, true, true, false, false]) 6 rfl (by kernel_rfl) rfl rfl (np_then (np_block (np_then (np_loop (np_block (np_then np_post)))))) (hs_pick (is := []) rfl rfl) (y_iaddr elem22 size26 hA2 rfl rfl rfl (by omega) hv2) ?_; rintro _ ⟨p23, rfl, hp23⟩
      refine h_take (l' := #[true, true, true, true, true, true, true, true, false]) 7 rfl (by kernel_rfl) rfl rfl (np_then (np_block (np_then (np_loop (np_block (np_then np_post)))))) (hs_pick (is := []) rfl rfl) (y_loadA_el agg26 rfl hp23 rfl) ?_
      refine h_take (l' := #[true, true, true, true, true, true, true, true, true]) 8 rfl (by kernel_rfl) rfl rfl (np_then (np_block (np_then (np_loop (np_block (np_then np_post)))))) (hs_pick (is := []) rfl rfl) (y_neS (flat26 _ _ _ _ _ _ _ _ _ _ _ _ _) rfl rfl (Ck.eqc _ _)) ?_
      refine h_done (by kernel_rfl) ?_
      refine q_then ?_
      refine c_ndec rfl ?_ ?_
      · intro h25
        refine c_seq ?_
        refine c_region rfl ?_
        refine gv rfl (y_assign rfl) ?_
        refine l_nil ?_
        refine q_then ?_
        refine c_ret ?_
        refine q_block_ret (q_then_ret (q_loop_ret (q_block_ret (q_then_ret ?_))))
        exact q_ret1 Tryz.results18 rfl () trivial (bf (fun e => by subst e; rw [hv] at hv2; cases hv2; simp at h25)) hs_nil
      · intro h25
        refine c_skip ?_
        refine q_block (q_then ?_)
        refine c_region rfl ?_
        refine gv rfl (y_move rfl) ?_
        refine gv rfl (y_add rfl rfl (wrap_in (by omega) (by omega))) ?_
        refine gv rfl (y_assign rfl) ?_
        refine l_nil ?_
        exact again (s + 1) ⟨by omega, step_all hI (by rw [ev, ev2]; simpa using h25)⟩ (by omega) (sub_cons rfl sub_nil) (sub_cons rfl (sub_cons rfl sub_nil)) (hs_pick (is := []) rfl rfl)
    · intro h14
      refine c_exit ?_
      refine q_then_exit (q_loop_exit (q_block_exit (q_then ?_)))
      refine c_seq ?_
      refine c_region rfl ?_
      refine gv rfl (y_assign rfl) ?_
      refine l_nil ?_
      refine q_then ?_
      refine c_ret ?_
      exact q_ret1 Tryz.results18 rfl () trivial (bt (ext_getC (by omega) (fun j hj => hI j (by omega)))) hs_nil


theorem lHasPrefix_c {l m : List UInt8} (w : World) : Cv Tryz.prog 101 #[.string (B l), .string (B m)] w (.bool (decide (m <+: l))) := by
  refine enter (E := [(0, .string (B l)), (1, .string (B m))]) Tryz.func101 rfl Tryz.ntmps101 rfl (by simp) ?_
  refine c_seq ?_
  refine c_region rfl ?_
  refine gv rfl (y_assign rfl) ?_
  refine l_nil ?_
  refine q_then ?_
  refine c_seq ?_
  refine c_region rfl ?_
  refine gv rfl (y_move rfl) ?_
  refine gv rfl (y_slen Tryz.underlying9 rfl rfl) ?_
  refine gv rfl (y_move rfl) ?_
  refine gv rfl (y_slen Tryz.underlying9 rfl rfl) ?_
  refine gv rfl (y_geq rfl rfl) ?_
  refine gv rfl (y_move rfl) ?_
  refine g_dec (t := 10) rfl ?_ ?_
  · intro h10
    refine g_on (t := 10) rfl rfl ?_
    refine gv rfl (y_move rfl) ?_
    refine g_on (t := 10) rfl rfl ?_
    refine gv rfl (y_move rfl) ?_
    refine g_on (t := 10) rfl rfl ?_
    refine gv rfl (y_slen Tryz.underlying9 rfl rfl) ?_
    refine g_on (t := 10) rfl rfl ?_
    refine gv rfl (y_sto Tryz.underlying9 rfl rfl (by omega) (by omega) rfl) ?_
    refine g_on (t := 10) rfl rfl ?_
    refine gv rfl (y_move rfl) ?_
    refine g_on (t := 10) rfl rfl ?_
    refine gv rfl (y_seq rfl rfl) ?_
    refine gv rfl (y_pick_t rfl rfl) ?_
    refine gv rfl (y_assign rfl) ?_
    refine l_nil ?_
    refine q_then ?_
    refine c_ret ?_
    exact q_ret1 Tryz.results101 rfl () trivial (bd pre_t) hs_nil
  · intro h10
    refine g_off (t := 10) rfl rfl rfl rfl ?_
    refine g_off (t := 10) rfl rfl rfl rfl ?_
    refine g_off (t := 10) rfl rfl rfl rfl ?_
    refine g_off (t := 10) rfl rfl rfl rfl ?_
    refine g_off (t := 10) rfl rfl rfl rfl ?_
    refine g_off (t := 10) rfl rfl rfl rfl ?_
    refine gv rfl (y_pick_f rfl rfl) ?_
    refine gv rfl (y_assign rfl) ?_
    refine l_nil ?_
    refine q_then ?_
    refine c_ret ?_
    exact q_ret1 Tryz.results101 rfl () trivial (bf (fun h => h10 (by have := h.length_le; omega))) hs_nil


theorem lHasSuffix_c {l m : List UInt8} (w : World) (hl : l.length ≤ 9223372036854775807) : Cv Tryz.prog 131 #[.string (B l), .string (B m)] w (.bool (decide (m <:+ l))) := by
  refine enter (E := [(0, .string (B l)), (1, .string (B m))]) Tryz.func131 rfl Tryz.ntmps131 rfl (by simp) ?_
  refine c_seq ?_
  refine c_region rfl ?_
  refine gv rfl (y_assign rfl) ?_
  refine l_nil ?_
  refine q_then ?_
  refine c_seq ?_
  refine c_region rfl ?_
  refine gv rfl (y_move rfl) ?_
  refine gv rfl (y_slen Tryz.underlying9 rfl rfl) ?_
  refine gv rfl (y_move rfl) ?_
  refine gv rfl (y_slen Tryz.underlying9 rfl rfl) ?_
  refine gv rfl (y_geq rfl rfl) ?_
  refine gv rfl (y_move rfl) ?_
  refine g_dec (t := 10) rfl ?_ ?_
  · intro h10
    refine g_on (t := 10) rfl rfl ?_
    refine gv rfl (y_move rfl) ?_
    refine g_on (t := 10) rfl rfl ?_
    refine gv rfl (y_move rfl) ?_
    refine g_on (t := 10) rfl rfl ?_
    refine gv rfl (y_slen Tryz.underlying9 rfl rfl) ?_
    refine g_on (t := 10) rfl rfl ?_
    refine gv rfl (y_move rfl) ?_
    refine g_on (t := 10) rfl rfl ?_
    refine gv rfl (y_slen Tryz.underlying9 rfl rfl) ?_
    refine g_on (t := 10) rfl rfl ?_
    refine gv rfl (y_sub_ rfl rfl (wrap_in (by omega) (by omega))) ?_
    refine g_on (t := 10) rfl rfl ?_
    refine gv rfl (y_sfrom Tryz.underlying9 rfl rfl (by omega) (by omega) rfl) ?_
    refine g_on (t := 10) rfl rfl ?_
    refine gv rfl (y_move rfl) ?_
    refine g_on (t := 10) rfl rfl ?_
    refine gv rfl (y_seq rfl rfl) ?_
    refine gv rfl (y_pick_t rfl rfl) ?_
    refine gv rfl (y_assign rfl) ?_
    refine l_nil ?_
    refine q_then ?_
    refine c_ret ?_
    exact q_ret1 Tryz.results131 rfl () trivial (bd (by rw [show ((l.length : Int) - (m.length : Int)).toNat = l.length - m.length by omega]; exact suf_t (by omega))) hs_nil
  · intro h10
    refine g_off (t := 10) rfl rfl rfl rfl ?_
    refine g_off (t := 10) rfl rfl rfl rfl ?_
    refine g_off (t := 10) rfl rfl rfl rfl ?_
    refine g_off (t := 10) rfl rfl rfl rfl ?_
    refine g_off (t := 10) rfl rfl rfl rfl ?_
    refine g_off (t := 10) rfl rfl rfl rfl ?_
    refine g_off (t := 10) rfl rfl rfl rfl ?_
    refine g_off (t := 10) rfl rfl rfl rfl ?_
    refine g_off (t := 10) rfl rfl rfl rfl ?_
    refine gv rfl (y_pick_f rfl rfl) ?_
    refine gv rfl (y_assign rfl) ?_
    refine l_nil ?_
    refine q_then ?_
    refine c_ret ?_
    exact q_ret1 Tryz.results131 rfl () trivial (bf (fun h => h10 (by have := h.length_le; omega))) hs_nil


theorem hasPrefix_c {l m : List UInt8} (w : World) : Cv Tryz.prog 77 #[.string (B l), .string (B m)] w (.bool (decide (m <+: l))) := by
  refine enter (E := [(0, .string (B l)), (1, .string (B m))]) Tryz.func77 rfl Tryz.ntmps77 rfl (by simp) ?_
  refine c_seq ?_
  refine c_region rfl ?_
  refine gv rfl (y_assign rfl) ?_
  refine l_nil ?_
  refine q_then ?_
  refine c_seq ?_
  refine c_region rfl ?_
  refine gv rfl (y_move rfl) ?_
  refine gv rfl (y_move rfl) ?_
  refine l_callU rfl ent101 rfl (fun w hm => lHasPrefix_c w) ?_
  refine gv rfl (y_assign rfl) ?_
  refine l_nil ?_
  refine q_then ?_
  refine c_ret ?_
  exact q_ret1 Tryz.results77 rfl () trivial rfl hs_nil


theorem hasSuffix_c {l m : List UInt8} (w : World) (hl : l.length ≤ 9223372036854775807) : Cv Tryz.prog 108 #[.string (B l), .string (B m)] w (.bool (decide (m <:+ l))) := by
  refine enter (E := [(0, .string (B l)), (1, .string (B m))]) Tryz.func108 rfl Tryz.ntmps108 rfl (by simp) ?_
  refine c_seq ?_
  refine c_region rfl ?_
  refine gv rfl (y_assign rfl) ?_
  refine l_nil ?_
  refine q_then ?_
  refine c_seq ?_
  refine c_region rfl ?_
  refine gv rfl (y_move rfl) ?_
  refine gv rfl (y_move rfl) ?_
  refine l_callU rfl ent131 rfl (fun w hm => lHasSuffix_c w hl) ?_
  refine gv rfl (y_assign rfl) ?_
  refine l_nil ?_
  refine q_then ?_
  refine c_ret ?_
  exact q_ret1 Tryz.results108 rfl () trivial rfl hs_nil


theorem idxFn_byte_c {l : List UInt8} {A : Option Addr} {k : Nat} {fv : Value} {p : UInt8 → Bool} (w : World) (hA : Sl b1 1 w A l) (hlen : l.length ≤ 9223372036854775806) (F : ∀ x ∈ l, FnV Tryz.prog w fv [.int .u8 x.toNat] (.bool (p x))) : Cv Tryz.prog 155 #[.slice A l.length k, fv] w (.int .i64 (fidx p l)) := by
  refine enter (E := [(0, .slice A l.length k), (1, fv)]) Tryz.func155 rfl Tryz.ntmps155 rfl (by simp) ?_
  refine c_seq ?_
  refine c_region rfl ?_
  refine gv rfl (y_assign rfl) ?_
  refine l_nil ?_
  refine q_then ?_
  refine c_seq ?_
  refine c_seq ?_
  refine c_region rfl ?_
  refine gv rfl (y_move rfl) ?_
  refine gv rfl (y_len elem124 rfl) ?_
  refine gv rfl (y_move rfl) ?_
  refine l_nil ?_
  refine q_then ?_
  refine c_block ?_
  refine loop (Ef := [(0, _), (1, _), (7, _)]) (Hf := []) (fun s : Nat => s ≤ l.length ∧ ∀ j, j < s → ∀ u, l[j]? = some u → p u = false) (fun s : Nat => [(8, .int .i64 (s : Int))]) (fun s : Nat => []) (fun s : Nat => l.length - s) 0 ⟨by omega, none_get⟩ (sub_cons rfl sub_nil) (sub_cons rfl (sub_cons rfl (sub_cons rfl sub_nil))) (hs_pick (is := []) rfl rfl) ?_
  rintro s ⟨hs, hI⟩
  refine c_sub (E' := [(8, _), (0, _), (1, _), (7, _)]) (sub_cons rfl (sub_cons rfl (sub_cons rfl (sub_cons rfl sub_nil)))) ?_
  refine c_seq ?_
  refine c_region rfl ?_
  refine gv rfl (y_lss rfl rfl) ?_
  refine l_nil ?_
  refine q_then ?_
  refine c_seq ?_
  refine c_dec rfl ?_ ?_
  · intro h9
    have hlt : s < l.length := by omega
    obtain ⟨v, hv⟩ := get_lt hlt
    refine c_skip ?_
    refine q_then ?_
    refine c_seq ?_
    refine c_block ?_
    refine c_seq ?_
    refine c_region rfl ?_
    refine gv rfl (y_move rfl) ?_
    refine gv rfl (y_assign rfl) ?_
    refine l_nil ?_
    refine q_then ?_
    refine c_seq ?_
    refine c_region rfl ?_
    refine gv rfl (y_move rfl) ?_
    refine gv rfl (y_move rfl) ?_
    refine gv rfl (y_move rfl) ?_
    refine gve rfl (y_iaddr elem124 size5 hA rfl rfl rfl (by omega) hv) ?_; rintro _ ⟨p14, rfl, hp14⟩
    refine gv rfl (y_load_el0 one5 hp14 rfl) ?_
    refine l_callF rfl rfl rfl (F v (List.mem_of_getElem? hv)) ?_
    refine l_nil ?_
    refine q_then ?_
    refine c_bool rfl ?_ ?_
    · intro h16
      refine c_seq ?_
      refine c_region rfl ?_
      refine gv rfl (y_move rfl) ?_
      refine gv rfl (y_assign rfl) ?_
      refine l_nil ?_
      refine q_then ?_
      refine c_ret ?_
      refine q_block_ret (q_then_ret (q_loop_ret (q_block_ret (q_then_ret ?_))))
      exact q_ret1 Tryz.results155 rfl () trivial (congrArg (Value.int .i64) (fidx_at hI hv h16).symm) hs_nil
    · intro h16
      refine c_skip ?_
      refine q_block (q_then ?_)
      refine c_region rfl ?_
      refine gv rfl (y_add rfl rfl (wrap_in (by omega) (by omega))) ?_
      refine gv rfl (y_move rfl) ?_
      refine l_nil ?_
      exact again (s + 1) ⟨by omega, step_get hI hv h16⟩ (by omega) (sub_cons rfl sub_nil) (sub_cons rfl (sub_cons rfl (sub_cons rfl sub_nil))) (hs_pick (is := []) rfl rfl)
  · intro h9
    refine c_exit ?_
    refine q_then_exit (q_loop_exit (q_block_exit (q_then ?_)))
    refine c_seq ?_
    refine c_region rfl ?_
    refine gv rfl (y_assign rfl) ?_
    refine l_nil ?_
    refine q_then ?_
    refine c_ret ?_
    exact q_ret1 Tryz.results155 rfl () trivial (congrArg (Value.int .i64) (fidx_none hI (by omega)).symm) hs_nil


theorem conFn_byte_c {l : List UInt8} {A : Option Addr} {k : Nat} {fv : Value} {p : UInt8 → Bool} (w : World) (hA : Sl b1 1 w A l) (hlen : l.length ≤ 9223372036854775806) (F : ∀ x ∈ l, FnV Tryz.prog w fv [.int .u8 x.toNat] (.bool (p x))) : Cv Tryz.prog 141 #[.slice A l.length k, fv] w (.bool (l.any p)) := by
  refine enter (E := [(0, .slice A l.length k), (1, fv)]) Tryz.func141 rfl Tryz.ntmps141 rfl (by simp) ?_
  refine c_seq ?_
  refine c_region rfl ?_
  refine gv rfl (y_assign rfl) ?_
  refine l_nil ?_
  refine q_then ?_
  refine c_seq ?_
  refine c_region rfl ?_
  refine gv rfl (y_move rfl) ?_
  refine gv rfl (y_move rfl) ?_
  refine l_callU rfl ent155 rfl (fun w hm => idxFn_byte_c w (hA.below hm.below) hlen (fun x hx => (F x hx).above hm.below)) ?_
  refine gv rfl (y_geq rfl rfl) ?_
  refine gv rfl (y_assign rfl) ?_
  refine l_nil ?_
  refine q_then ?_
  refine c_ret ?_
  exact q_ret1 Tryz.results141 rfl () trivial (congrArg Value.bool (fidx_any p l)) hs_nil


theorem slIndexByte_c {l : List UInt8} {b : UInt8} (w : World) : Cv Tryz.prog 138 #[.string (B l), .int .u8 (b.toNat : Int)] w (.int .i64 (ibF l b)) := by
  refine enter (E := [(0, .string (B l)), (1, .int .u8 (b.toNat : Int))]) Tryz.func138 rfl Tryz.ntmps138 rfl (by simp) ?_
  refine c_seq ?_
  refine c_region rfl ?_
  refine gv rfl (y_assign rfl) ?_
  refine l_nil ?_
  refine q_then ?_
  refine c_seq ?_
  refine c_region rfl ?_
  refine gv rfl (y_move rfl) ?_
  refine gv rfl (y_move rfl) ?_
  refine gv rfl (y_ib ib154 rfl rfl) ?_
  refine gv rfl (y_assign rfl) ?_
  refine l_nil ?_
  refine q_then ?_
  refine c_ret ?_
  exact q_ret1 Tryz.results138 rfl () trivial rfl hs_nil


theorem indexByte_c {l : List UInt8} {b : UInt8} (w : World) : Cv Tryz.prog 119 #[.string (B l), .int .u8 (b.toNat : Int)] w (.int .i64 (ibF l b)) := by
  refine enter (E := [(0, .string (B l)), (1, .int .u8 (b.toNat : Int))]) Tryz.func119 rfl Tryz.ntmps119 rfl (by simp) ?_
  refine c_seq ?_
  refine c_region rfl ?_
  refine gv rfl (y_assign rfl) ?_
  refine l_nil ?_
  refine q_then ?_
  refine c_seq ?_
  refine c_region rfl ?_
  refine gv rfl (y_move rfl) ?_
  refine gv rfl (y_move rfl) ?_
  refine l_callU rfl ent138 rfl (fun w hm => slIndexByte_c w) ?_
  refine gv rfl (y_assign rfl) ?_
  refine l_nil ?_
  refine q_then ?_
  refine c_ret ?_
  exact q_ret1 Tryz.results119 rfl () trivial rfl hs_nil


theorem cut_c {l : List UInt8} {b : UInt8} (w : World) (hl : l.length ≤ 1073741824) : Cv Tryz.prog 97 #[.string (B l), .int .u8 (b.toNat : Int)] w (.tuple #[.string (B (cutF b l).1), .string (B (cutF b l).2.1), .bool (cutF b l).2.2]) := by
  refine enter (E := [(0, .string (B l)), (1, .int .u8 (b.toNat : Int))]) Tryz.func97 rfl Tryz.ntmps97 rfl (by simp) ?_
  have hr := ib_range l b
  refine c_seq ?_
  refine c_region rfl ?_
  refine gv rfl (y_assign rfl) ?_
  refine gv rfl (y_assign rfl) ?_
  refine gv rfl (y_assign rfl) ?_
  refine l_nil ?_
  refine q_then ?_
  refine c_seq ?_
  refine c_region rfl ?_
  refine gv rfl (y_move rfl) ?_
  refine gv rfl (y_move rfl) ?_
  refine l_callU rfl ent119 rfl (fun w hm => indexByte_c w) ?_
  refine gv rfl (y_assign rfl) ?_
  refine l_nil ?_
  refine q_then ?_
  refine c_seq ?_
  refine c_seq ?_
  refine c_region rfl ?_
  refine gv rfl (y_move rfl) ?_
  refine gv rfl (y_lss rfl rfl) ?_
  refine l_nil ?_
  refine q_then ?_
  refine c_dec rfl ?_ ?_
  · intro h12
    refine c_seq ?_
    refine c_region rfl ?_
    refine gv rfl (y_move rfl) ?_
    refine gv rfl (y_assign rfl) ?_
    refine gv rfl (y_assign rfl) ?_
    refine gv rfl (y_assign rfl) ?_
    refine l_nil ?_
    refine q_then ?_
    refine c_ret ?_
    refine q_then_ret ?_
    exact q_ret3 Tryz.results97 rfl rfl rfl () trivial (by rw [show cutF b l = (l, [], false) from if_pos h12]; rfl) hs_nil
  · intro h12
    refine c_skip ?_
    refine q_then ?_
    refine c_seq ?_
    refine c_drawp (l := #[false, false, false, false, false, false, false, false, false, false]) 10 (is := []) rfl rfl rfl rfl ?_
    refine h_take (l' := #[true, false, false, false, false, false, false, false, false, false]) 0 rfl (by kernel_rfl) rfl rfl (np_then np_post) (hs_pick (is := []) rfl rfl) (y_move rfl) ?_
    refine h_take (l' := #[true, true, false, false, false, false, false, false, false, false]) 1 rfl (by kernel_rfl) rfl rfl (np_then np_post) (hs_pick (is := []) rfl rfl) (y_move rfl) ?_
    refine h_take (l' := #[true, true, true, false, false, false, false, false, false, false]) 2 rfl (by kernel_rfl) rfl rfl (np_then np_post) (hs_pick (is := []) rfl rfl) (y_sto Tryz.underlying9 rfl rfl (by omega) (by omega) rfl) ?_
    refine h_take (l' := #[true, true, true, true, false, false, false, false, false, false]) 3 rfl (by kernel_rfl) rfl rfl (np_then np_post) (hs_pick (is := []) rfl rfl) (y_move rfl) ?_
    refine h_take (l' := #[true, true, true, true, true, false, false, false, false, false]) 4 rfl (by kernel_rfl) rfl rfl (np_then np_post) (hs_pick (is := []) rfl rfl) (y_move rfl) ?_
    refine h_take (l' := #[true, true, true, true, true, true, false, false, false, false]) 5 rfl (by kernel_rfl) rfl rfl (np_then np_post) (hs_pick (is := []) rfl rfl) (y_add rfl rfl (wrap_in (by omega) (by omega))) ?_
    refine h_take (l' := #[true, true, true, true, true, true, true, false, false, false]) 6 rfl (by kernel_rfl) rfl rfl (np_then np_post) (hs_pick (is := []) rfl rfl) (y_sfrom Tryz.underlying9 rfl rfl (by omega) (by omega) rfl) ?_
    refine h_take (l' := #[true, true, true, true, true, true, true, true, false, false]) 7 rfl (by kernel_rfl) rfl rfl (np_then np_post) (hs_pick (is := []) rfl rfl) (y_assign rfl) ?_
    refine h_take (l' := #[true, true, true, true, true, true, true, true, true, false]) 8 rfl (by kernel_rfl) rfl rfl (np_then np_post) (hs_pick (is := []) rfl rfl) (y_assign rfl) ?_
    refine h_take (l' := #[true, true, true, true, true, true, true, true, true, true]) 9 rfl (by kernel_rfl) rfl rfl (np_then np_post) (hs_pick (is := []) rfl rfl) (y_assign rfl) ?_
    refine h_done (by kernel_rfl) ?_
    refine q_then ?_
    refine c_ret ?_
    exact q_ret3 Tryz.results97 rfl rfl rfl () trivial (by rw [show cutF b l = (l.take (ibF l b).toNat, l.drop (ibF l b + 1).toNat, true) from if_neg h12]) hs_nil


theorem outer_c {c : UInt8} (w : World) : Cv Tryz.prog 140 #[.int .u8 (c.toNat : Int)] w (.bool (outer c)) := by
  refine enter (E := [(0, .int .u8 (c.toNat : Int))]) Tryz.func140 rfl Tryz.ntmps140 rfl (by simp) ?_
  refine c_seq ?_
  refine c_region rfl ?_
  refine gv rfl (y_assign rfl) ?_
  refine l_nil ?_
  refine q_then ?_
  refine c_seq ?_
  refine c_region rfl ?_
  refine gv rfl (y_move rfl) ?_
  refine gv rfl (y_geq rfl rfl) ?_
  refine gv rfl (y_move rfl) ?_
  refine g_dec (t := 5) rfl ?_ ?_
  · intro h5
    refine g_on (t := 5) rfl rfl ?_
    refine gv rfl (y_move rfl) ?_
    refine g_on (t := 5) rfl rfl ?_
    refine gv rfl (y_leq rfl rfl) ?_
    refine gv rfl (y_pick_t rfl rfl) ?_
    refine gv rfl (y_move rfl) ?_
    refine g_dec (t := 9) rfl ?_ ?_
    · intro h9
      refine g_off (t := 9) rfl rfl rfl rfl ?_
      refine g_off (t := 9) rfl rfl rfl rfl ?_
      refine g_off (t := 9) rfl rfl rfl rfl ?_
      refine g_und (t := 12) rfl rfl rfl ?_
      refine g_und (t := 12) rfl rfl rfl ?_
      refine g_off (t := 9) rfl rfl rfl rfl ?_
      refine gv rfl (y_pick_t rfl rfl) ?_
      refine gv rfl (y_assign rfl) ?_
      refine l_nil ?_
      refine q_then ?_
      refine c_ret ?_
      exact q_ret1 Tryz.results140 rfl () trivial (bt (by omega)) hs_nil
    · intro h9
      refine g_on (t := 9) rfl rfl ?_
      refine gv rfl (y_move rfl) ?_
      refine g_on (t := 9) rfl rfl ?_
      refine gv rfl (y_geq rfl rfl) ?_
      refine g_on (t := 9) rfl rfl ?_
      refine gv rfl (y_move rfl) ?_
      refine g_dec (t := 12) rfl ?_ ?_
      · intro h12
        refine g_on (t := 12) rfl rfl ?_
        refine gv rfl (y_move rfl) ?_
        refine g_on (t := 12) rfl rfl ?_
        refine gv rfl (y_leq rfl rfl) ?_
        refine g_on (t := 9) rfl rfl ?_
        refine gv rfl (y_pick_t rfl rfl) ?_
        refine gv rfl (y_pick_f rfl rfl) ?_
        refine gv rfl (y_assign rfl) ?_
        refine l_nil ?_
        refine q_then ?_
        refine c_ret ?_
        exact q_ret1 Tryz.results140 rfl () trivial (bd (by omega)) hs_nil
      · intro h12
        refine g_off (t := 12) rfl rfl rfl rfl ?_
        refine g_off (t := 12) rfl rfl rfl rfl ?_
        refine g_on (t := 9) rfl rfl ?_
        refine gv rfl (y_pick_f rfl rfl) ?_
        refine gv rfl (y_pick_f rfl rfl) ?_
        refine gv rfl (y_assign rfl) ?_
        refine l_nil ?_
        refine q_then ?_
        refine c_ret ?_
        exact q_ret1 Tryz.results140 rfl () trivial (bf (by omega)) hs_nil
  · intro h5
    refine g_off (t := 5) rfl rfl rfl rfl ?_
    refine g_off (t := 5) rfl rfl rfl rfl ?_
    refine gv rfl (y_pick_f rfl rfl) ?_
    refine gv rfl (y_move rfl) ?_
    refine g_on (t := 9) rfl rfl ?_
    refine gv rfl (y_move rfl) ?_
    refine g_on (t := 9) rfl rfl ?_
    refine gv rfl (y_geq rfl rfl) ?_
    refine g_on (t := 9) rfl rfl ?_
    refine gv rfl (y_move rfl) ?_
    refine g_dec (t := 12) rfl ?_ ?_
    · intro h12
      refine g_on (t := 12) rfl rfl ?_
      refine gv rfl (y_move rfl) ?_
      refine g_on (t := 12) rfl rfl ?_
      refine gv rfl (y_leq rfl rfl) ?_
      refine g_on (t := 9) rfl rfl ?_
      refine gv rfl (y_pick_t rfl rfl) ?_
      refine gv rfl (y_pick_f rfl rfl) ?_
      refine gv rfl (y_assign rfl) ?_
      refine l_nil ?_
      refine q_then ?_
      refine c_ret ?_
      exact q_ret1 Tryz.results140 rfl () trivial (bd (by omega)) hs_nil
    · intro h12
      refine g_off (t := 12) rfl rfl rfl rfl ?_
      refine g_off (t := 12) rfl rfl rfl rfl ?_
      refine g_on (t := 9) rfl rfl ?_
      refine gv rfl (y_pick_f rfl rfl) ?_
      refine gv rfl (y_pick_f rfl rfl) ?_
      refine gv rfl (y_assign rfl) ?_
      refine l_nil ?_
      refine q_then ?_
      refine c_ret ?_
      exact q_ret1 Tryz.results140 rfl () trivial (bf (by omega)) hs_nil


theorem fold_c {l : List UInt8} (w : World) (hl : l.length ≤ 1073741824) : Cv Tryz.prog 121 #[.string (B l)] w (.string (B (l.map lowB))) := by
  refine enter (E := [(0, .string (B l))]) Tryz.func121 rfl Tryz.ntmps121 rfl (by simp) ?_
  refine c_seq ?_
  refine c_region rfl ?_
  refine gv rfl (y_assign rfl) ?_
  refine l_nil ?_
  refine q_then ?_
  refine c_seq ?_
  refine c_region rfl ?_
  refine gv rfl (y_move rfl) ?_
  refine l_s2b rfl strT9 bytesT124 rfl ?_; intro g7 c7 R7 m7 hm7
  refine gv rfl (y_assign rfl) ?_
  refine l_nil ?_
  refine q_then ?_
  refine c_seq ?_
  refine c_seq ?_
  refine c_region rfl ?_
  refine gv rfl (y_move rfl) ?_
  refine gv rfl (y_len elem124 rfl) ?_
  refine gv rfl (y_move rfl) ?_
  refine l_nil ?_
  refine q_then ?_
  refine c_block ?_
  refine loop (Ef := [(3, _), (8, _), (9, _)]) (Hf := []) (fun s : Nat => s ≤ l.length) (fun s : Nat => [(10, .int .i64 (s : Int))]) (fun s : Nat => [.blk g7 (.cells (rowB (foldTo l s) R7) 5 (m7, m7 + 1))]) (fun s : Nat => l.length - s) 0 (Nat.zero_le _) (sub_cons rfl sub_nil) (sub_cons rfl (sub_cons rfl (sub_cons rfl sub_nil))) (hs_pick (is := [0]) rfl rfl) ?_
  rintro s hs
  refine c_sub (E' := [(10, _), (3, _), (8, _), (9, _)]) (sub_cons rfl (sub_cons rfl (sub_cons rfl (sub_cons rfl sub_nil)))) ?_
  refine c_seq ?_
  refine c_region rfl ?_
  refine gv rfl (y_lss rfl rfl) ?_
  refine l_nil ?_
  refine q_then ?_
  refine c_seq ?_
  refine c_dec rfl ?_ ?_
  · intro h11
    have hlt : s < l.length := by omega
    obtain ⟨v, hv⟩ := get_lt hlt
    refine c_skip ?_
    refine q_then ?_
    refine c_seq ?_
    refine c_block ?_
    refine c_seq ?_
    refine c_region rfl ?_
    refine gv rfl (y_move rfl) ?_
    refine gv rfl (y_iaddr_own (r := s) elem124 size5 rfl rfl (by omega) (by omega) (by simp)) ?_
    refine gv rfl (y_load (k := 0) one5 rfl rfl (rowB_at (foldTo_at hv))) ?_
    refine gv rfl (y_assign rfl) ?_
    refine gv rfl (y_assign rfl) ?_
    refine l_nil ?_
    refine q_then ?_
    refine c_seq ?_
    refine c_region rfl ?_
    refine gv rfl (y_move rfl) ?_
    refine gv rfl (y_geq rfl rfl) ?_
    refine gv rfl (y_move rfl) ?_
    refine g_dec (t := 17) rfl ?_ ?_
    · intro h17
      refine g_on (t := 17) rfl rfl ?_
      refine gv rfl (y_move rfl) ?_
      refine g_on (t := 17) rfl rfl ?_
      refine gv rfl (y_leq rfl rfl) ?_
      refine gv rfl (y_pick_t rfl rfl) ?_
      refine l_nil ?_
      refine q_then ?_
      refine c_dec rfl ?_ ?_
      · intro h20
        refine c_region rfl ?_
        refine gv rfl (y_move rfl) ?_
        refine gv rfl (y_move rfl) ?_
        refine gv rfl (y_move rfl) ?_
        refine gv rfl (y_add rfl rfl (wrap_u8 (by omega) (by omega))) ?_
        refine gv rfl (y_iaddr_own (r := s) elem124 size5 rfl rfl (by omega) (by omega) (by simp)) ?_
        refine l_storeB (k := 0) (H' := [_]) size5 rfl rfl rfl (by rw [foldTo_len]; omega) (by rw [foldTo_len]; exact hm7) (lowB_nat (by omega) (by omega)) (foldTo_set hv) rfl ?_
        refine l_nil ?_
        refine q_block (q_then ?_)
        refine c_region rfl ?_
        refine gv rfl (y_add rfl rfl (wrap_in (by omega) (by omega))) ?_
        refine gv rfl (y_move rfl) ?_
        refine l_nil ?_
        exact again (s + 1) (by omega) (by omega) (sub_cons rfl sub_nil) (sub_cons rfl (sub_cons rfl (sub_cons rfl sub_nil))) (hs_pick (is := [0]) rfl rfl)
      · intro h20
        refine c_skip ?_
        refine q_block (q_then ?_)
        refine c_region rfl ?_
        refine gv rfl (y_add rfl rfl (wrap_in (by omega) (by omega))) ?_
        refine gv rfl (y_move rfl) ?_
        refine l_nil ?_
        rw [foldTo_same hv (by omega)]
        exact again (s + 1) (by omega) (by omega) (sub_cons rfl sub_nil) (sub_cons rfl (sub_cons rfl (sub_cons rfl sub_nil))) (hs_pick (is := [0]) rfl rfl)
    · intro h17
      refine g_off (t := 17) rfl rfl rfl rfl ?_
      refine g_off (t := 17) rfl rfl rfl rfl ?_
      refine gv rfl (y_pick_f rfl rfl) ?_
      refine l_nil ?_
      refine q_then ?_
      refine c_cond_f rfl ?_
      refine c_skip ?_
      refine q_block (q_then ?_)
      refine c_region rfl ?_
      refine gv rfl (y_add rfl rfl (wrap_in (by omega) (by omega))) ?_
      refine gv rfl (y_move rfl) ?_
      refine l_nil ?_
      rw [foldTo_same hv (by omega)]
      exact again (s + 1) (by omega) (by omega) (sub_cons rfl sub_nil) (sub_cons rfl (sub_cons rfl (sub_cons rfl sub_nil))) (hs_pick (is := [0]) rfl rfl)
  · intro h11
    refine c_exit ?_
    refine q_then_exit (q_loop_exit (q_block_exit (q_then ?_)))
    refine c_seq ?_
    refine c_region rfl ?_
    refine gv rfl (y_move rfl) ?_
    refine gv rfl (y_b2s (k := 0) bytesT124 strT9 rfl rfl (foldTo_len _ _)) ?_
    refine gv rfl (y_assign rfl) ?_
    refine l_nil ?_
    refine q_then ?_
    refine c_ret ?_
    exact q_ret1 Tryz.results121 rfl () trivial (by rw [foldTo_all (by omega)]) hs_nil


theorem label2_c {c : UInt8} {p : Addr} {fv : Value} (w : World) (hp : El w p [fv]) (F : FnV Tryz.prog w fv [.int .u8 (c.toNat : Int)] (.bool (outer c))) : Cv Tryz.prog 142 #[.int .u8 (c.toNat : Int), .pointer (some p)] w (.bool (outB c)) := by
  refine enter (E := [(0, .int .u8 (c.toNat : Int)), (1, .pointer (some p))]) Tryz.func142 rfl Tryz.ntmps142 rfl (by simp) ?_
  refine c_seq ?_
  refine c_region rfl ?_
  refine gv rfl (y_assign rfl) ?_
  refine l_nil ?_
  refine q_then ?_
  refine c_seq ?_
  refine c_region rfl ?_
  refine gv rfl (y_load_el0 one158 hp rfl) ?_
  refine gv rfl (y_move rfl) ?_
  refine l_callF rfl rfl rfl (F) ?_
  refine gv rfl (y_not rfl rfl) ?_
  refine gv rfl (y_move rfl) ?_
  refine g_bool (t := 8) rfl ?_ ?_
  · intro h8
    refine g_on (t := 8) rfl rfl ?_
    refine gv rfl (y_move rfl) ?_
    refine g_on (t := 8) rfl rfl ?_
    refine gv rfl (y_neq rfl rfl) ?_
    refine gv rfl (y_pick_t rfl rfl) ?_
    refine gv rfl (y_assign rfl) ?_
    refine l_nil ?_
    refine q_then ?_
    refine c_ret ?_
    exact q_ret1 Tryz.results142 rfl () trivial (congrArg Value.bool (by simp only [outB, *]; rfl)) hs_nil
  · intro h8
    refine g_off (t := 8) rfl rfl rfl rfl ?_
    refine g_off (t := 8) rfl rfl rfl rfl ?_
    refine gv rfl (y_pick_f rfl rfl) ?_
    refine gv rfl (y_assign rfl) ?_
    refine l_nil ?_
    refine q_then ?_
    refine c_ret ?_
    exact q_ret1 Tryz.results142 rfl () trivial (congrArg Value.bool (by simp only [outB, *]; rfl)) hs_nil


theorem label_c {l : List UInt8} (w : World) (hl : l.length ≤ 1073741824) : Cv Tryz.prog 122 #[.string (B l)] w (.bool (labelF l)) := by
  refine enter (E := [(0, .string (B l))]) Tryz.func122 rfl Tryz.ntmps122 rfl (by simp) ?_
  refine c_seq ?_
  refine c_region rfl ?_
  refine gv rfl (y_assign rfl) ?_
  refine l_nil ?_
  refine q_then ?_
  refine c_seq ?_
  refine c_region rfl ?_
  refine l_alloc1 rfl zero158 rfl ?_; intro g3
  refine l_store (k := 0) (cs' := #[_]) (H' := [_]) size158 rfl rfl rfl rfl rfl rfl rfl ?_
  refine l_nil ?_
  refine q_then ?_
  refine c_seq ?_
  refine c_seq ?_
  refine c_drawp (l := #[false, false, false, false, false, false, false, false, false, false, false, false, false, false, false, false, false, false, false, false, false, false, false, false]) 24 (is := [0]) rfl rfl rfl rfl ?_
  refine h_take (l' := #[true, false, false, false, false, false, false, false, false, false, false, false, false, false, false, false, false, false, false, false, false, false, false, false]) 0 rfl (by kernel_rfl) rfl rfl (np_then (np_then np_post)) (hs_pick (is := [0]) rfl rfl) (y_move rfl) ?_
  refine h_take (l' := #[true, true, false, false, false, false, false, false, false, false, false, false, false, false, false, false, false, false, false, false, false, false, false, false]) 1 rfl (by kernel_rfl) rfl rfl (np_then (np_then np_post)) (hs_pick (is := [0]) rfl rfl) (y_seq rfl rfl) ?_
  refine h_take (l' := #[true, true, true, false, false, false, false, false, false, false, false, false, false, false, false, false, false, false, false, false, false, false, false, false]) 2 rfl (by kernel_rfl) rfl rfl (np_then (np_then np_post)) (hs_pick (is := [0]) rfl rfl) (y_move rfl) ?_
  refine h_dec (t := 6) rfl ?_ ?_
  · intro h6
    refine h_off (t := 6) (l' := #[true, true, true, true, false, false, false, false, false, false, false, false, false, false, false, false, false, false, false, false, false, false, false, false]) 3 rfl (by kernel_rfl) rfl rfl (np_then (np_then np_post)) (hs_pick (is := [0]) rfl rfl) rfl rfl rfl ?_
    refine h_off (t := 6) (l' := #[true, true, true, true, true, false, false, false, false, false, false, false, false, false, false, false, false, false, false, false, false, false, false, false]) 4 rfl (by kernel_rfl) rfl rfl (np_then (np_then np_post)) (hs_pick (is := [0]) rfl rfl) rfl rfl rfl ?_
    refine h_off (t := 6) (l' := #[true, true, true, true, true, true, false, false, false, false, false, false, false, false, false, false, false, false, false, false, false, false, false, false]) 5 rfl (by kernel_rfl) rfl rfl (np_then (np_then np_post)) (hs_pick (is := [0]) rfl rfl) rfl rfl rfl ?_
    refine h_take (l' := #[true, true, true, true, true, true, true, false, false, false, false, false, false, false, false, false, false, false, false, false, false, false, false, false]) 6 rfl (by kernel_rfl) rfl rfl (np_then (np_then np_post)) (hs_pick (is := [0]) rfl rfl) (y_pick_t rfl rfl) ?_
    refine h_take (l' := #[true, true, true, true, true, true, true, true, false, false, false, false, false, false, false, false, false, false, false, false, false, false, false, false]) 7 rfl (by kernel_rfl) rfl rfl (np_then (np_then np_post)) (hs_pick (is := [0]) rfl rfl) (y_move rfl) ?_
    refine h_off (t := 11) (l' := #[true, true, true, true, true, true, true, true, true, false, false, false, false, false, false, false, false, false, false, false, false, false, false, false]) 8 rfl (by kernel_rfl) rfl rfl (np_then (np_then np_post)) (hs_pick (is := [0]) rfl rfl) rfl rfl rfl ?_
    refine h_off (t := 11) (l' := #[true, true, true, true, true, true, true, true, true, true, false, false, false, false, false, false, false, false, false, false, false, false, false, false]) 9 rfl (by kernel_rfl) rfl rfl (np_then (np_then np_post)) (hs_pick (is := [0]) rfl rfl) rfl rfl rfl ?_
    refine h_off (t := 11) (l' := #[true, true, true, true, true, true, true, true, true, true, true, false, false, false, false, false, false, false, false, false, false, false, false, false]) 10 rfl (by kernel_rfl) rfl rfl (np_then (np_then np_post)) (hs_pick (is := [0]) rfl rfl) rfl rfl rfl ?_
    refine h_only (l' := #[true, true, true, true, true, true, true, true, true, true, true, true, false, false, false, false, false, false, false, false, false, false, false, false]) 11 rfl (by kernel_rfl) rfl ?_
    refine g_off (t := 11) rfl rfl rfl rfl ?_
    refine l_nil ?_
    refine q_step (fun _ => hs_pick (is := [0]) rfl rfl) ?_
    refine h_off (t := 11) (l' := #[true, true, true, true, true, true, true, true, true, true, true, true, true, false, false, false, false, false, false, false, false, false, false, false]) 12 rfl (by kernel_rfl) rfl rfl (np_then (np_then np_post)) (hs_pick (is := [0]) rfl rfl) rfl rfl rfl ?_
    refine h_take (l' := #[true, true, true, true, true, true, true, true, true, true, true, true, true, true, false, false, false, false, false, false, false, false, false, false]) 13 rfl (by kernel_rfl) rfl rfl (np_then (np_then np_post)) (hs_pick (is := [0]) rfl rfl) (y_pick_t rfl rfl) ?_
    refine h_take (l' := #[true, true, true, true, true, true, true, true, true, true, true, true, true, true, true, false, false, false, false, false, false, false, false, false]) 14 rfl (by kernel_rfl) rfl rfl (np_then (np_then np_post)) (hs_pick (is := [0]) rfl rfl) (y_move rfl) ?_
    refine h_off (t := 18) (l' := #[true, true, true, true, true, true, true, true, true, true, true, true, true, true, true, true, false, false, false, false, false, false, false, false]) 15 rfl (by kernel_rfl) rfl rfl (np_then (np_then np_post)) (hs_pick (is := [0]) rfl rfl) rfl rfl rfl ?_
    refine h_off (t := 18) (l' := #[true, true, true, true, true, true, true, true, true, true, true, true, true, true, true, true, true, false, false, false, false, false, false, false]) 16 rfl (by kernel_rfl) rfl rfl (np_then (np_then np_post)) (hs_pick (is := [0]) rfl rfl) rfl rfl rfl ?_
    refine h_off (t := 18) (l' := #[true, true, true, true, true, true, true, true, true, true, true, true, true, true, true, true, true, true, false, false, false, false, false, false]) 17 rfl (by kernel_rfl) rfl rfl (np_then (np_then np_post)) (hs_pick (is := [0]) rfl rfl) rfl rfl rfl ?_
    refine h_off (t := 18) (l' := #[true, true, true, true, true, true, true, true, true, true, true, true, true, true, true, true, true, true, true, false, false, false, false, false]) 18 rfl (by kernel_rfl) rfl rfl (np_then (np_then np_post)) (hs_pick (is := [0]) rfl rfl) rfl rfl rfl ?_
    refine h_off (t := 18) (l' := #[true, true, true, true, true, true, true, true, true, true, true, true, true, true, true, true, true, true, true, true, false, false, false, false]) 19 rfl (by kernel_rfl) rfl rfl (np_then (np_then np_post)) (hs_pick (is := [0]) rfl rfl) rfl rfl rfl ?_
    refine h_off (t := 18) (l' := #[true, true, true, true, true, true, true, true, true, true, true, true, true, true, true, true, true, true, true, true, true, false, false, false]) 20 rfl (by kernel_rfl) rfl rfl (np_then (np_then np_post)) (hs_pick (is := [0]) rfl rfl) rfl rfl rfl ?_
    refine h_only (l' := #[true, true, true, true, true, true, true, true, true, true, true, true, true, true, true, true, true, true, true, true, true, true, false, false]) 21 rfl (by kernel_rfl) rfl ?_
    refine g_off (t := 18) rfl rfl rfl rfl ?_
    refine l_nil ?_
    refine q_step (fun _ => hs_pick (is := [0]) rfl rfl) ?_
    refine h_off (t := 18) (l' := #[true, true, true, true, true, true, true, true, true, true, true, true, true, true, true, true, true, true, true, true, true, true, true, false]) 22 rfl (by kernel_rfl) rfl rfl (np_then (np_then np_post)) (hs_pick (is := [0]) rfl rfl) rfl rfl rfl ?_
    refine h_take (l' := #[true, true, true, true, true, true, true, true, true, true, true, true, true, true, true, true, true, true, true, true, true, true, true, true]) 23 rfl (by kernel_rfl) rfl rfl (np_then (np_then np_post)) (hs_pick (is := [0]) rfl rfl) (y_pick_t rfl rfl) ?_
    refine h_done (by kernel_rfl) ?_
    refine q_then ?_
    refine c_cond_t rfl ?_
    refine c_seq ?_
    refine c_region rfl ?_
    refine gv rfl (y_assign rfl) ?_
    refine l_nil ?_
    refine q_then ?_
    refine c_ret ?_
    refine q_then_ret ?_
    exact q_ret1 Tryz.results122 rfl () trivial (congrArg Value.bool (by simp only [labelF, *, if_true, if_false, Bool.false_eq_true])) hs_nil
  · intro h6
    refine h_takeg (t := 6) (l' := #[true, true, true, true, false, false, false, false, false, false, false, false, false, false, false, false, false, false, false, false, false, false, false, false]) 3 rfl (by kernel_rfl) rfl rfl (np_then (np_then np_post)) (hs_pick (is := [0]) rfl rfl) rfl rfl (y_move rfl) ?_
    refine h_takeg (t := 6) (l' := #[true, true, true, true, true, false, false, false, false, false, false, false, false, false, false, false, false, false, false, false, false, false, false, false]) 4 rfl (by kernel_rfl) rfl rfl (np_then (np_then np_post)) (hs_pick (is := [0]) rfl rfl) rfl rfl (y_slen Tryz.underlying9 rfl rfl) ?_
    refine h_takeg (t := 6) (l' := #[true, true, true, true, true, true, false, false, false, false, false, false, false, false, false, false, false, false, false, false, false, false, false, false]) 5 rfl (by kernel_rfl) rfl rfl (np_then (np_then np_post)) (hs_pick (is := [0]) rfl rfl) rfl rfl (y_gtr rfl rfl) ?_
    refine h_take (l' := #[true, true, true, true, true, true, true, false, false, false, false, false, false, false, false, false, false, false, false, false, false, false, false, false]) 6 rfl (by kernel_rfl) rfl rfl (np_then (np_then np_post)) (hs_pick (is := [0]) rfl rfl) (y_pick_f rfl rfl) ?_
    refine h_take (l' := #[true, true, true, true, true, true, true, true, false, false, false, false, false, false, false, false, false, false, false, false, false, false, false, false]) 7 rfl (by kernel_rfl) rfl rfl (np_then (np_then np_post)) (hs_pick (is := [0]) rfl rfl) (y_move rfl) ?_
    refine h_dec (t := 11) rfl ?_ ?_
    · intro h11
      refine h_off (t := 11) (l' := #[true, true, true, true, true, true, true, true, true, false, false, false, false, false, false, false, false, false, false, false, false, false, false, false]) 8 rfl (by kernel_rfl) rfl rfl (np_then (np_then np_post)) (hs_pick (is := [0]) rfl rfl) rfl rfl rfl ?_
      refine h_off (t := 11) (l' := #[true, true, true, true, true, true, true, true, true, true, false, false, false, false, false, false, false, false, false, false, false, false, false, false]) 9 rfl (by kernel_rfl) rfl rfl (np_then (np_then np_post)) (hs_pick (is := [0]) rfl rfl) rfl rfl rfl ?_
      refine h_off (t := 11) (l' := #[true, true, true, true, true, true, true, true, true, true, true, false, false, false, false, false, false, false, false, false, false, false, false, false]) 10 rfl (by kernel_rfl) rfl rfl (np_then (np_then np_post)) (hs_pick (is := [0]) rfl rfl) rfl rfl rfl ?_
      refine h_only (l' := #[true, true, true, true, true, true, true, true, true, true, true, true, false, false, false, false, false, false, false, false, false, false, false, false]) 11 rfl (by kernel_rfl) rfl ?_
      refine g_off (t := 11) rfl rfl rfl rfl ?_
      refine l_nil ?_
      refine q_step (fun _ => hs_pick (is := [0]) rfl rfl) ?_
      refine h_off (t := 11) (l' := #[true, true, true, true, true, true, true, true, true, true, true, true, true, false, false, false, false, false, false, false, false, false, false, false]) 12 rfl (by kernel_rfl) rfl rfl (np_then (np_then np_post)) (hs_pick (is := [0]) rfl rfl) rfl rfl rfl ?_
      refine h_take (l' := #[true, true, true, true, true, true, true, true, true, true, true, true, true, true, false, false, false, false, false, false, false, false, false, false]) 13 rfl (by kernel_rfl) rfl rfl (np_then (np_then np_post)) (hs_pick (is := [0]) rfl rfl) (y_pick_t rfl rfl) ?_
      refine h_take (l' := #[true, true, true, true, true, true, true, true, true, true, true, true, true, true, true, false, false, false, false, false, false, false, false, false]) 14 rfl (by kernel_rfl) rfl rfl (np_then (np_then np_post)) (hs_pick (is := [0]) rfl rfl) (y_move rfl) ?_
      refine h_off (t := 18) (l' := #[true, true, true, true, true, true, true, true, true, true, true, true, true, true, true, true, false, false, false, false, false, false, false, false]) 15 rfl (by kernel_rfl) rfl rfl (np_then (np_then np_post)) (hs_pick (is := [0]) rfl rfl) rfl rfl rfl ?_
      refine h_off (t := 18) (l' := #[true, true, true, true, true, true, true, true, true, true, true, true, true, true, true, true, true, false, false, false, false, false, false, false]) 16 rfl (by kernel_rfl) rfl rfl (np_then (np_then np_post)) (hs_pick (is := [0]) rfl rfl) rfl rfl rfl ?_
      refine h_off (t := 18) (l' := #[true, true, true, true, true, true, true, true, true, true, true, true, true, true, true, true, true, true, false, false, false, false, false, false]) 17 rfl (by kernel_rfl) rfl rfl (np_then (np_then np_post)) (hs_pick (is := [0]) rfl rfl) rfl rfl rfl ?_
      refine h_off (t := 18) (l' := #[true, true, true, true, true, true, true, true, true, true, true, true, true, true, true, true, true, true, true, false, false, false, false, false]) 18 rfl (by kernel_rfl) rfl rfl (np_then (np_then np_post)) (hs_pick (is := [0]) rfl rfl) rfl rfl rfl ?_
      refine h_off (t := 18) (l' := #[true, true, true, true, true, true, true, true, true, true, true, true, true, true, true, true, true, true, true, true, false, false, false, false]) 19 rfl (by kernel_rfl) rfl rfl (np_then (np_then np_post)) (hs_pick (is := [0]) rfl rfl) rfl rfl rfl ?_
      refine h_off (t := 18) (l' := #[true, true, true, true, true, true, true, true, true, true, true, true, true, true, true, true, true, true, true, true, true, false, false, false]) 20 rfl (by kernel_rfl) rfl rfl (np_then (np_then np_post)) (hs_pick (is := [0]) rfl rfl) rfl rfl rfl ?_
      refine h_only (l' := #[true, true, true, true, true, true, true, true, true, true, true, true, true, true, true, true, true, true, true, true, true, true, false, false]) 21 rfl (by kernel_rfl) rfl ?_
      refine g_off (t := 18) rfl rfl rfl rfl ?_
      refine l_nil ?_
      refine q_step (fun _ => hs_pick (is := [0]) rfl rfl) ?_
      refine h_off (t := 18) (l' := #[true, true, true, true, true, true, true, true, true, true, true, true, true, true, true, true, true, true, true, true, true, true, true, false]) 22 rfl (by kernel_rfl) rfl rfl (np_then (np_then np_post)) (hs_pick (is := [0]) rfl rfl) rfl rfl rfl ?_
      refine h_take (l' := #[true, true, true, true, true, true, true, true, true, true, true, true, true, true, true, true, true, true, true, true, true, true, true, true]) 23 rfl (by kernel_rfl) rfl rfl (np_then (np_then np_post)) (hs_pick (is := [0]) rfl rfl) (y_pick_t rfl rfl) ?_
      refine h_done (by kernel_rfl) ?_
      refine q_then ?_
      refine c_cond_t rfl ?_
      refine c_seq ?_
      refine c_region rfl ?_
      refine gv rfl (y_assign rfl) ?_
      refine l_nil ?_
      refine q_then ?_
      refine c_ret ?_
      refine q_then_ret ?_
      exact q_ret1 Tryz.results122 rfl () trivial (congrArg Value.bool (by simp only [labelF, *, if_true, if_false, Bool.false_eq_true])) hs_nil
    · intro h11
      refine h_takeg (t := 11) (l' := #[true, true, true, true, true, true, true, true, true, false, false, false, false, false, false, false, false, false, false, false, false, false, false, false]) 8 rfl (by kernel_rfl) rfl rfl (np_then (np_then np_post)) (hs_pick (is := [0]) rfl rfl) rfl rfl (y_load (k := 0)  one158 rfl rfl rfl) ?_
      refine h_takeg (t := 11) (l' := #[true, true, true, true, true, true, true, true, true, true, false, false, false, false, false, false, false, false, false, false, false, false, false, false]) 9 rfl (by kernel_rfl) rfl rfl (np_then (np_then np_post)) (hs_pick (is := [0]) rfl rfl) rfl rfl (y_move rfl) ?_
      have hpos : 0 < l.length := List.length_pos_iff.2 h6
      refine h_takeg (t := 11) (l' := #[true, true, true, true, true, true, true, true, true, true, true, false, false, false, false, false, false, false, false, false, false, false, false, false]) 10 rfl (by kernel_rfl) rfl rfl (np_then (np_then np_post)) (hs_pick (is := [0]) rfl rfl) rfl rfl (y_sidx Tryz.underlying9 rfl rfl (by omega) (by omega)) ?_
      refine h_only (l' := #[true, true, true, true, true, true, true, true, true, true, true, true, false, false, false, false, false, false, false, false, false, false, false, false]) 11 rfl (by kernel_rfl) rfl ?_
      refine g_on (t := 11) rfl rfl ?_
      refine l_callvU rfl ent140 rfl rfl (fun w hm => outer_c w) ?_
      refine l_nil ?_
      refine q_step (fun _ => hs_pick (is := [0]) rfl rfl) ?_
      refine h_takeg (t := 11) (l' := #[true, true, true, true, true, true, true, true, true, true, true, true, true, false, false, false, false, false, false, false, false, false, false, false]) 12 rfl (by kernel_rfl) rfl rfl (np_then (np_then np_post)) (hs_pick (is := [0]) rfl rfl) rfl rfl (y_not rfl rfl) ?_
      refine h_take (l' := #[true, true, true, true, true, true, true, true, true, true, true, true, true, true, false, false, false, false, false, false, false, false, false, false]) 13 rfl (by kernel_rfl) rfl rfl (np_then (np_then np_post)) (hs_pick (is := [0]) rfl rfl) (y_pick_f rfl rfl) ?_
      refine h_take (l' := #[true, true, true, true, true, true, true, true, true, true, true, true, true, true, true, false, false, false, false, false, false, false, false, false]) 14 rfl (by kernel_rfl) rfl rfl (np_then (np_then np_post)) (hs_pick (is := [0]) rfl rfl) (y_move rfl) ?_
      refine h_bool (t := 18) rfl ?_ ?_
      · intro h18
        refine h_off (t := 18) (l' := #[true, true, true, true, true, true, true, true, true, true, true, true, true, true, true, true, false, false, false, false, false, false, false, false]) 15 rfl (by kernel_rfl) rfl rfl (np_then (np_then np_post)) (hs_pick (is := [0]) rfl rfl) rfl rfl rfl ?_
        refine h_off (t := 18) (l' := #[true, true, true, true, true, true, true, true, true, true, true, true, true, true, true, true, true, false, false, false, false, false, false, false]) 16 rfl (by kernel_rfl) rfl rfl (np_then (np_then np_post)) (hs_pick (is := [0]) rfl rfl) rfl rfl rfl ?_
        refine h_off (t := 18) (l' := #[true, true, true, true, true, true, true, true, true, true, true, true, true, true, true, true, true, true, false, false, false, false, false, false]) 17 rfl (by kernel_rfl) rfl rfl (np_then (np_then np_post)) (hs_pick (is := [0]) rfl rfl) rfl rfl rfl ?_
        refine h_off (t := 18) (l' := #[true, true, true, true, true, true, true, true, true, true, true, true, true, true, true, true, true, true, true, false, false, false, false, false]) 18 rfl (by kernel_rfl) rfl rfl (np_then (np_then np_post)) (hs_pick (is := [0]) rfl rfl) rfl rfl rfl ?_
        refine h_off (t := 18) (l' := #[true, true, true, true, true, true, true, true, true, true, true, true, true, true, true, true, true, true, true, true, false, false, false, false]) 19 rfl (by kernel_rfl) rfl rfl (np_then (np_then np_post)) (hs_pick (is := [0]) rfl rfl) rfl rfl rfl ?_
        refine h_off (t := 18) (l' := #[true, true, true, true, true, true, true, true, true, true, true, true, true, true, true, true, true, true, true, true, true, false, false, false]) 20 rfl (by kernel_rfl) rfl rfl (np_then (np_then np_post)) (hs_pick (is := [0]) rfl rfl) rfl rfl rfl ?_
        refine h_only (l' := #[true, true, true, true, true, true, true, true, true, true, true, true, true, true, true, true, true, true, true, true, true, true, false, false]) 21 rfl (by kernel_rfl) rfl ?_
        refine g_off (t := 18) rfl rfl rfl rfl ?_
        refine l_nil ?_
        refine q_step (fun _ => hs_pick (is := [0]) rfl rfl) ?_
        refine h_off (t := 18) (l' := #[true, true, true, true, true, true, true, true, true, true, true, true, true, true, true, true, true, true, true, true, true, true, true, false]) 22 rfl (by kernel_rfl) rfl rfl (np_then (np_then np_post)) (hs_pick (is := [0]) rfl rfl) rfl rfl rfl ?_
        refine h_take (l' := #[true, true, true, true, true, true, true, true, true, true, true, true, true, true, true, true, true, true, true, true, true, true, true, true]) 23 rfl (by kernel_rfl) rfl rfl (np_then (np_then np_post)) (hs_pick (is := [0]) rfl rfl) (y_pick_t rfl rfl) ?_
        refine h_done (by kernel_rfl) ?_
        refine q_then ?_
        refine c_cond_t rfl ?_
        refine c_seq ?_
        refine c_region rfl ?_
        refine gv rfl (y_assign rfl) ?_
        refine l_nil ?_
        refine q_then ?_
        refine c_ret ?_
        refine q_then_ret ?_
        exact q_ret1 Tryz.results122 rfl () trivial (congrArg Value.bool (by simp only [labelF, *, if_true, if_false, Bool.false_eq_true])) hs_nil
      · intro h18
        refine h_takeg (t := 18) (l' := #[true, true, true, true, true, true, true, true, true, true, true, true, true, true, true, true, false, false, false, false, false, false, false, false]) 15 rfl (by kernel_rfl) rfl rfl (np_then (np_then np_post)) (hs_pick (is := [0]) rfl rfl) rfl rfl (y_load (k := 0)  one158 rfl rfl rfl) ?_
        refine h_takeg (t := 18) (l' := #[true, true, true, true, true, true, true, true, true, true, true, true, true, true, true, true, true, false, false, false, false, false, false, false]) 16 rfl (by kernel_rfl) rfl rfl (np_then (np_then np_post)) (hs_pick (is := [0]) rfl rfl) rfl rfl (y_move rfl) ?_
        refine h_takeg (t := 18) (l' := #[true, true, true, true, true, true, true, true, true, true, true, true, true, true, true, true, true, true, false, false, false, false, false, false]) 17 rfl (by kernel_rfl) rfl rfl (np_then (np_then np_post)) (hs_pick (is := [0]) rfl rfl) rfl rfl (y_move rfl) ?_
        refine h_takeg (t := 18) (l' := #[true, true, true, true, true, true, true, true, true, true, true, true, true, true, true, true, true, true, true, false, false, false, false, false]) 18 rfl (by kernel_rfl) rfl rfl (np_then (np_then np_post)) (hs_pick (is := [0]) rfl rfl) rfl rfl (y_slen Tryz.underlying9 rfl rfl) ?_
        refine h_takeg (t := 18) (l' := #[true, true, true, true, true, true, true, true, true, true, true, true, true, true, true, true, true, true, true, true, false, false, false, false]) 19 rfl (by kernel_rfl) rfl rfl (np_then (np_then np_post)) (hs_pick (is := [0]) rfl rfl) rfl rfl (y_sub_ rfl rfl (wrap_in (by omega) (by omega))) ?_
        refine h_takeg (t := 18) (l' := #[true, true, true, true, true, true, true, true, true, true, true, true, true, true, true, true, true, true, true, true, true, false, false, false]) 20 rfl (by kernel_rfl) rfl rfl (np_then (np_then np_post)) (hs_pick (is := [0]) rfl rfl) rfl rfl (y_sidx Tryz.underlying9 rfl rfl (by omega) (by omega)) ?_
        refine h_only (l' := #[true, true, true, true, true, true, true, true, true, true, true, true, true, true, true, true, true, true, true, true, true, true, false, false]) 21 rfl (by kernel_rfl) rfl ?_
        refine g_on (t := 18) rfl rfl ?_
        refine l_callvU rfl ent140 rfl rfl (fun w hm => outer_c w) ?_
        refine l_nil ?_
        refine q_step (fun _ => hs_pick (is := [0]) rfl rfl) ?_
        refine h_takeg (t := 18) (l' := #[true, true, true, true, true, true, true, true, true, true, true, true, true, true, true, true, true, true, true, true, true, true, true, false]) 22 rfl (by kernel_rfl) rfl rfl (np_then (np_then np_post)) (hs_pick (is := [0]) rfl rfl) rfl rfl (y_not rfl rfl) ?_
        refine h_take (l' := #[true, true, true, true, true, true, true, true, true, true, true, true, true, true, true, true, true, true, true, true, true, true, true, true]) 23 rfl (by kernel_rfl) rfl rfl (np_then (np_then np_post)) (hs_pick (is := [0]) rfl rfl) (y_pick_f rfl rfl) ?_
        refine h_done (by kernel_rfl) ?_
        refine q_then ?_
        refine c_bool rfl ?_ ?_
        · intro h27
          refine c_seq ?_
          refine c_region rfl ?_
          refine gv rfl (y_assign rfl) ?_
          refine l_nil ?_
          refine q_then ?_
          refine c_ret ?_
          refine q_then_ret ?_
          exact q_ret1 Tryz.results122 rfl () trivial (congrArg Value.bool (by simp only [labelF, *, if_true, if_false, Bool.false_eq_true])) hs_nil
        · intro h27
          refine c_skip ?_
          refine q_then ?_
          refine c_seq ?_
          refine c_region rfl ?_
          refine gv rfl (y_move rfl) ?_
          refine l_s2b rfl strT9 bytesT124 rfl ?_; intro g29 c29 R29 m29 hm29
          refine gv rfl (y_mkfn rfl) ?_
          refine l_callU rfl ent141 rfl (fun w hm => conFn_byte_c w (sl_of_rowB hm (k := 0) rfl) (Nat.le_trans hl (by decide)) (fun x hx => FnV.mk (fs := []) (cs := [_]) ent142 (fun w1 hb => label2_c w1 ((el_of_blk hm (k := 1) rfl).below hb) (FnV.named ent140 (fun w2 hb2 => outer_c w2))))) ?_
          refine gv rfl (y_not rfl rfl) ?_
          refine gv rfl (y_assign rfl) ?_
          refine l_nil ?_
          refine q_then ?_
          refine c_ret ?_
          exact q_ret1 Tryz.results122 rfl () trivial (congrArg Value.bool (by simp only [labelF, *, if_true, if_false, Bool.false_eq_true])) hs_nil


theorem parts_c {l : List UInt8} {b : UInt8} (w : World) (hl : l.length ≤ 1073741824) : Ct Tryz.prog 95 #[.string (B l), .int .u8 (b.toNat : Int)] w (fun x : Option Addr × Nat => .slice x.1 (partsB b l).length x.2) (fun x => PartsR 9 b l x) (fun _ => True) := parts_of (fun l b w h => cut_c w h) l b w hl


theorem canon_c {l : List UInt8} (w : World) (hl : l.length ≤ 1073741824) : Cv Tryz.prog 100 #[.string (B l)] w (.tuple #[.string (B (canonF l).1), .int .i64 (canonF l).2]) := by
  refine enter (E := [(0, .string (B l))]) Tryz.func100 rfl Tryz.ntmps100 rfl (by simp) ?_
  refine c_seq ?_
  refine c_region rfl ?_
  refine gv rfl (y_assign rfl) ?_
  refine gv rfl (y_assign rfl) ?_
  refine l_nil ?_
  refine q_then ?_
  refine c_seq ?_
  refine c_seq ?_
  refine c_region rfl ?_
  refine gv rfl (y_move rfl) ?_
  refine gv rfl (y_slen Tryz.underlying9 rfl rfl) ?_
  refine gv rfl (y_gtr rfl rfl) ?_
  refine l_nil ?_
  refine q_then ?_
  refine c_dec rfl ?_ ?_
  · intro h8
    refine c_seq ?_
    refine c_region rfl ?_
    refine gv rfl (y_assign rfl) ?_
    refine gv rfl (y_assign rfl) ?_
    refine l_nil ?_
    refine q_then ?_
    refine c_ret ?_
    refine q_then_ret ?_
    exact q_ret2 Tryz.results100 rfl rfl () trivial (by rw [show canonF l = ([], 2) from if_pos (by omega)]; rfl) hs_nil
  · intro h8
    refine c_skip ?_
    refine q_then ?_
    refine c_seq ?_
    refine c_region rfl ?_
    refine gv rfl (y_move rfl) ?_
    refine l_callU rfl ent121 rfl (fun w hm => fold_c w hl) ?_
    refine gv rfl (y_assign rfl) ?_
    refine l_nil ?_
    refine q_then ?_
    refine c_seq ?_
    refine c_seq ?_
    refine c_region rfl ?_
    refine gv rfl (y_move rfl) ?_
    refine l_call rfl ent95 rfl (fun w hm => parts_c (b := 46) w (by simpa using hl)) ?_; rintro x12 h12
    have hpl := partsB_len 46 (l.map lowB); rw [List.length_map] at hpl
    refine gv rfl (y_len elem117 rfl) ?_
    refine gv rfl (y_move rfl) ?_
    refine l_nil ?_
    refine q_then ?_
    refine c_block ?_
    refine loop (Ef := [(0, _), (12, _), (13, _)]) (Hf := [_]) (fun s : Nat => s ≤ (partsB 46 (l.map lowB)).length ∧ ∀ j, j < s → ∀ u, (partsB 46 (l.map lowB))[j]? = some u → (fun p => !labelF p) u = false) (fun s : Nat => [(14, .int .i64 (s : Int))]) (fun s : Nat => []) (fun s : Nat => (partsB 46 (l.map lowB)).length - s) 0 ⟨by omega, none_get⟩ (sub_cons rfl sub_nil) (sub_cons rfl (sub_cons rfl (sub_cons rfl sub_nil))) (hs_pick (is := [0]) rfl rfl) ?_
    rintro s ⟨hs, hI⟩
    refine c_sub (E' := [(14, _), (0, _), (12, _), (13, _)]) (sub_cons rfl (sub_cons rfl (sub_cons rfl (sub_cons rfl sub_nil)))) ?_
    refine c_seq ?_
    refine c_region rfl ?_
    refine gv rfl (y_lss rfl rfl) ?_
    refine l_nil ?_
    refine q_then ?_
    refine c_seq ?_
    refine c_dec rfl ?_ ?_
    · intro h15
      have hlt : s < (partsB 46 (l.map lowB)).length := by omega
      obtain ⟨v, hv⟩ := get_lt hlt
      refine c_skip ?_
      refine q_then ?_
      refine c_seq ?_
      refine c_block ?_
      refine c_seq ?_
      refine c_region rfl ?_
      refine gv rfl (y_iaddr_row (k := 0) elem117 size9 rfl (fun _ => rfl) rfl rfl rfl (by omega) hv) ?_
      refine gv rfl (y_load_row (k := 0) one9 rfl (fun _ => rfl) rfl 0 rfl rfl hv rfl) ?_
      refine gv rfl (y_assign rfl) ?_
      refine l_nil ?_
      refine q_then ?_
      refine c_seq ?_
      refine c_region rfl ?_
      refine gv rfl (y_move rfl) ?_
      refine l_callU rfl ent122 rfl (fun w hm => label_c w (partsB_small hl hv)) ?_
      refine gv rfl (y_not rfl rfl) ?_
      refine l_nil ?_
      refine q_then ?_
      refine c_bool rfl ?_ ?_
      · intro h20
        refine c_seq ?_
        refine c_region rfl ?_
        refine gv rfl (y_assign rfl) ?_
        refine gv rfl (y_assign rfl) ?_
        refine l_nil ?_
        refine q_then ?_
        refine c_ret ?_
        refine q_block_ret (q_then_ret (q_loop_ret (q_block_ret (q_then_ret ?_))))
        exact q_ret2 Tryz.results100 rfl rfl () trivial (by rw [show canonF l = ([], 1) by unfold canonF; rw [if_neg (by omega), if_pos (any_parts (p := fun p => !labelF p) hv h20)]]; rfl) hs_nil
      · intro h20
        refine c_skip ?_
        refine q_block (q_then ?_)
        refine c_region rfl ?_
        refine gv rfl (y_add rfl rfl (wrap_in (by omega) (by omega))) ?_
        refine gv rfl (y_move rfl) ?_
        refine l_nil ?_
        exact again (s + 1) ⟨by omega, step_get hI hv h20⟩ (by omega) (sub_cons rfl sub_nil) (sub_cons rfl (sub_cons rfl (sub_cons rfl sub_nil))) (hs_pick (is := [0]) rfl rfl)
    · intro h15
      refine c_exit ?_
      refine q_then_exit (q_loop_exit (q_block_exit (q_then ?_)))
      refine c_seq ?_
      refine c_region rfl ?_
      refine gv rfl (y_move rfl) ?_
      refine gv rfl (y_assign rfl) ?_
      refine gv rfl (y_assign rfl) ?_
      refine l_nil ?_
      refine q_then ?_
      refine c_ret ?_
      exact q_ret2 Tryz.results100 rfl rfl () trivial (by rw [show canonF l = (l.map lowB, 0) by unfold canonF; rw [if_neg (by omega), none_parts (p := fun p => !labelF p) hI (by omega)]; rfl]) hs_nil


theorem host_c {l : List UInt8} (w : World) (hl : l.length ≤ 1073741824) : Cv Tryz.prog 76 #[.string (B l)] w (.bool (hostF l)) := by
  refine enter (E := [(0, .string (B l))]) Tryz.func76 rfl Tryz.ntmps76 rfl (by simp) ?_
  refine c_seq ?_
  refine c_region rfl ?_
  refine gv rfl (y_assign rfl) ?_
  refine l_nil ?_
  refine q_then ?_
  refine c_seq ?_
  refine c_region rfl ?_
  refine gv rfl (y_move rfl) ?_
  refine l_callU rfl ent100 rfl (fun w hm => canon_c w hl) ?_
  refine gv rfl (y_move rfl) ?_
  refine gv rfl (y_extract rfl rfl) ?_
  refine gv rfl (y_extract rfl rfl) ?_
  refine gv rfl (y_assign rfl) ?_
  refine gv rfl (y_assign rfl) ?_
  refine l_nil ?_
  refine q_then ?_
  refine c_seq ?_
  refine c_region rfl ?_
  refine gv rfl (y_move rfl) ?_
  refine gv rfl (y_eql rfl rfl) ?_
  refine gv rfl (y_move rfl) ?_
  refine g_dec (t := 12) rfl ?_ ?_
  · intro h12
    refine g_on (t := 12) rfl rfl ?_
    refine gv rfl (y_move rfl) ?_
    refine g_on (t := 12) rfl rfl ?_
    refine gv rfl (y_move rfl) ?_
    refine g_on (t := 12) rfl rfl ?_
    refine gv rfl (y_seq rfl rfl) ?_
    refine gv rfl (y_pick_t rfl rfl) ?_
    refine gv rfl (y_assign rfl) ?_
    refine l_nil ?_
    refine q_then ?_
    refine c_ret ?_
    exact q_ret1 Tryz.results76 rfl () trivial (congrArg Value.bool (by simp [hostF, *])) hs_nil
  · intro h12
    refine g_off (t := 12) rfl rfl rfl rfl ?_
    refine g_off (t := 12) rfl rfl rfl rfl ?_
    refine g_off (t := 12) rfl rfl rfl rfl ?_
    refine gv rfl (y_pick_f rfl rfl) ?_
    refine gv rfl (y_assign rfl) ?_
    refine l_nil ?_
    refine q_then ?_
    refine c_ret ?_
    exact q_ret1 Tryz.results76 rfl () trivial (congrArg Value.bool (by simp [hostF, *])) hs_nil


theorem match_c {ad : List UInt8 → Bool} {l m : List UInt8} (w : World) (hAd : AddrIs Tryz.prog 107 w ad) (hl : l.length ≤ 1073741824) (hm1 : m.length ≤ 1073741824) : Cv Tryz.prog 86 #[.string (B l), .string (B m)] w (.bool (matchF ad l m)) := by
  refine enter (E := [(0, .string (B l)), (1, .string (B m))]) Tryz.func86 rfl Tryz.ntmps86 rfl (by simp) ?_
  refine c_seq ?_
  refine c_region rfl ?_
  refine gv rfl (y_assign rfl) ?_
  refine l_nil ?_
  refine q_then ?_
  refine c_seq ?_
  refine c_region rfl ?_
  refine gv rfl (y_move rfl) ?_
  refine gv rfl (y_move rfl) ?_
  refine gv rfl (y_seq rfl rfl) ?_
  refine gv rfl (y_move rfl) ?_
  refine g_dec (t := 8) rfl ?_ ?_
  · intro h8
    refine g_off (t := 8) rfl rfl rfl rfl ?_
    refine g_off (t := 8) rfl rfl rfl rfl ?_
    refine g_off (t := 8) rfl rfl rfl rfl ?_
    refine g_off (t := 8) rfl rfl rfl rfl ?_
    refine g_und (t := 12) rfl rfl rfl ?_
    refine g_und (t := 12) rfl rfl rfl ?_
    refine g_und (t := 12) rfl rfl rfl ?_
    refine g_und (t := 12) rfl rfl rfl ?_
    refine g_off (t := 8) rfl rfl rfl rfl ?_
    refine gv rfl (y_pick_t rfl rfl) ?_
    refine gv rfl (y_assign rfl) ?_
    refine l_nil ?_
    refine q_then ?_
    refine c_ret ?_
    exact q_ret1 Tryz.results86 rfl () trivial (congrArg Value.bool (by simp [matchF, *])) hs_nil
  · intro h8
    refine g_on (t := 8) rfl rfl ?_
    refine gv rfl (y_move rfl) ?_
    refine g_on (t := 8) rfl rfl ?_
    refine l_callU rfl ent107 rfl (fun w hm => hAd w hm.below _ hl) ?_
    refine g_on (t := 8) rfl rfl ?_
    refine gv rfl (y_not rfl rfl) ?_
    refine g_on (t := 8) rfl rfl ?_
    refine gv rfl (y_move rfl) ?_
    refine g_bool (t := 12) rfl ?_ ?_
    · intro h12
      refine g_on (t := 12) rfl rfl ?_
      refine gv rfl (y_move rfl) ?_
      refine g_on (t := 12) rfl rfl ?_
      refine gv rfl (y_move rfl) ?_
      refine g_on (t := 12) rfl rfl ?_
      refine gv rfl (y_sadd rfl rfl (by simp; omega) rfl) ?_
      refine g_on (t := 12) rfl rfl ?_
      refine l_callU rfl ent108 rfl (fun w hm => hasSuffix_c (m := 46 :: m) w (Nat.le_trans hl (by decide))) ?_
      refine g_on (t := 8) rfl rfl ?_
      refine gv rfl (y_pick_t rfl rfl) ?_
      refine gv rfl (y_pick_f rfl rfl) ?_
      refine gv rfl (y_assign rfl) ?_
      refine l_nil ?_
      refine q_then ?_
      refine c_ret ?_
      exact q_ret1 Tryz.results86 rfl () trivial (congrArg Value.bool (by simp [matchF, *])) hs_nil
    · intro h12
      refine g_off (t := 12) rfl rfl rfl rfl ?_
      refine g_off (t := 12) rfl rfl rfl rfl ?_
      refine g_off (t := 12) rfl rfl rfl rfl ?_
      refine g_off (t := 12) rfl rfl rfl rfl ?_
      refine g_on (t := 8) rfl rfl ?_
      refine gv rfl (y_pick_f rfl rfl) ?_
      refine gv rfl (y_pick_f rfl rfl) ?_
      refine gv rfl (y_assign rfl) ?_
      refine l_nil ?_
      refine q_then ?_
      refine c_ret ?_
      exact q_ret1 Tryz.results86 rfl () trivial (congrArg Value.bool (by simp [matchF, *])) hs_nil


theorem zero26 : zeroOf Tryz.prog 26 = some (.agg #[.string (B []), .string (B []), .string (B []), .string (B []), .bool false, .bool false, .bool false, .bool false, .int .i64 0, .int .i64 0, .int .i64 0, .int .i64 0, .int .i64 0]) := by kernel_rfl

theorem ent76 : enters Tryz.prog 76 = true := by kernel_rfl

theorem ent19 : enters Tryz.prog 19 = true := by kernel_rfl

theorem off24_0 : fieldOff Tryz.prog 24 0 = some 0 := by kernel_rfl

theorem one22 : oneT Tryz.prog 22 = true := by kernel_rfl

theorem ap26 : apT Tryz.prog 26 13 112 = true := by kernel_rfl

theorem size22 : sizeT Tryz.prog 22 1 = true := by kernel_rfl

theorem zero24 : zeroOf Tryz.prog 24 = some (.agg #[.slice none 0 0, .int .i64 0]) := by kernel_rfl

theorem off24_1 : fieldOff Tryz.prog 24 1 = some 1 := by kernel_rfl

theorem bld24 : bldT Tryz.prog 24 = some [(0, 1), (1, 1)] := by kernel_rfl

theorem size24 : sizeT Tryz.prog 24 2 = true := by kernel_rfl

theorem agg24 : aggT Tryz.prog 24 2 = true := by kernel_rfl

theorem map72 : mapT Tryz.prog 72 77 3 = true := by kernel_rfl

theorem map73 : mapT Tryz.prog 73 3 3 = true := by kernel_rfl

theorem map74 : mapT Tryz.prog 74 9 3 = true := by kernel_rfl

theorem s3K : s3T Tryz.prog 77 = true := by kernel_rfl

theorem laidOut : laidOutB Tryz.prog = true := by kernel_rfl

theorem ent45 : enters Tryz.prog 45 = true := by kernel_rfl

theorem zero3 : zeroOf Tryz.prog 3 = some (.int .i64 0) := by kernel_rfl

theorem i64T3 : i64T Tryz.prog 3 = true := by kernel_rfl

theorem off26_12 : fieldOff Tryz.prog 26 12 = some 12 := by kernel_rfl

theorem ent31 : enters Tryz.prog 31 = true := by kernel_rfl

theorem ent13 : enters Tryz.prog 13 = true := by kernel_rfl

theorem ent18 : enters Tryz.prog 18 = true := by kernel_rfl

theorem bld26 : bldT Tryz.prog 26 = some [(0, 1), (1, 1), (2, 1), (3, 1), (4, 1), (5, 1), (6, 1), (7, 1), (8, 1), (9, 1), (10, 1), (11, 1), (12, 1)] := by kernel_rfl

theorem ap3 : apT Tryz.prog 3 1 8 = true := by kernel_rfl

theorem ent43 : enters Tryz.prog 43 = true := by kernel_rfl

theorem keyed77 : Keyed Tryz.prog 77 := Maps.Keyed.of_law (deep_law_laid laidOut (m := 2) (by omega) (of_decide_eq_true (by kernel_rfl)) (by kernel_rfl) (by kernel_rfl))

theorem keyed3 : Keyed Tryz.prog 3 := Maps.int_keyed Tryz.underlying3

theorem keyed9 : Keyed Tryz.prog 9 := Maps.string_keyed Tryz.underlying9


theorem jarCheck_c {j : Ja} {A0 : Option Addr} {k0 : Nat} (w : World) (hJ : Sl Ck.cells 13 w A0 j.cks) (hj : j.ok) : Cv Tryz.prog 13 #[.agg (j.arr A0 k0)] w (.int .i64 (jarErr j)) := by
  refine enter (E := [(0, .agg (j.arr A0 k0))]) Tryz.func13 rfl Tryz.ntmps13 rfl (by simp) ?_
  refine c_seq ?_
  refine c_region rfl ?_
  refine l_boxA rfl rfl ?_; intro g1
  refine gv rfl (y_assign rfl) ?_
  refine l_nil ?_
  refine q_then ?_
  refine c_seq ?_
  refine c_seq ?_
  refine c_region rfl ?_
  refine gv rfl (y_faddr off24_0 rfl rfl) ?_
  refine gv rfl (y_load (k := 0)  one22 rfl rfl rfl) ?_
  refine gv rfl (y_len elem22 rfl) ?_
  refine gv rfl (y_gtr rfl rfl) ?_
  refine l_nil ?_
  refine q_then ?_
  refine c_dec rfl ?_ ?_
  · intro h15
    refine c_seq ?_
    refine c_region rfl ?_
    refine gv rfl (y_assign rfl) ?_
    refine l_nil ?_
    refine q_then ?_
    refine c_ret ?_
    refine q_then_ret ?_
    exact q_ret1 Tryz.results13 rfl () trivial (congrArg (Value.int .i64) (by rw [jarErr, if_pos (by omega)])) hs_nil
  · intro h15
    refine c_skip ?_
    refine q_then ?_
    refine c_seq ?_
    refine c_region rfl ?_
    refine l_mkmap 77 (plainElem Tryz.prog 3) rfl ?_; intro g16
    refine l_mkmap 3 (plainElem Tryz.prog 3) rfl ?_; intro g17
    refine l_mkmap 9 (plainElem Tryz.prog 3) rfl ?_; intro g18
    refine gv rfl (y_assign rfl) ?_
    refine gv rfl (y_assign rfl) ?_
    refine gv rfl (y_assign rfl) ?_
    refine l_nil ?_
    refine q_then ?_
    refine c_seq ?_
    refine c_seq ?_
    refine c_region rfl ?_
    refine gv rfl (y_faddr off24_0 rfl rfl) ?_
    refine gv rfl (y_load (k := 3)  one22 rfl rfl rfl) ?_
    refine gv rfl (y_len elem22 rfl) ?_
    refine gv rfl (y_move rfl) ?_
    refine l_nil ?_
    refine q_then ?_
    refine c_block ?_
    refine loop (Ef := [(1, _), (3, _), (4, _), (5, _), (20, _), (21, _)]) (Hf := [_]) (fun s : Nat => s ≤ j.cks.length ∧ ∀ i, i < s → ckAt j i = 0) (fun s : Nat => [(22, .int .i64 (s : Int))]) (fun s : Nat => [.obj g16 (MapIs Tryz.prog 77 (plainElem Tryz.prog 3) s (fillD keyK (j.cks.take s))), .obj g17 (MapIs Tryz.prog 3 (plainElem Tryz.prog 3) s (fillD (fun c => Lit.int .i64 c.no) (j.cks.take s))), .obj g18 (MapIs Tryz.prog 9 (plainElem Tryz.prog 3) s (perD (j.cks.take s)))]) (fun s : Nat => j.cks.length - s) 0 ⟨by omega, none_yet⟩ (sub_cons rfl sub_nil) (sub_cons rfl (sub_cons rfl (sub_cons rfl (sub_cons rfl (sub_cons rfl (sub_cons rfl sub_nil)))))) (hs_pick (is := [2, 1, 0, 3]) rfl rfl) ?_
    rintro s ⟨hs, hI⟩
    refine c_sub (E' := [(22, _), (1, _), (3, _), (4, _), (5, _), (20, _), (21, _)]) (sub_cons rfl (sub_cons rfl (sub_cons rfl (sub_cons rfl (sub_cons rfl (sub_cons rfl (sub_cons rfl sub_nil))))))) ?_
    refine c_seq ?_
    refine c_region rfl ?_
    refine gv rfl (y_lss rfl rfl) ?_
    refine l_nil ?_
    refine q_then ?_
    refine c_seq ?_
    refine c_dec rfl ?_ ?_
    · intro h23
      have hlt : s < j.cks.length := by omega
      obtain ⟨v, hv⟩ := get_lt hlt
      have hvk := hj.2.1 v (List.mem_of_getElem? hv)
      have hvx := hj.2.2 v (List.mem_of_getElem? hv)
      have e7 : ckAt j s = ckE (j.cks.take s) j.next v := by unfold ckAt; rw [getD_of_get hv]
      have ek : Maps.has (fillD keyK (j.cks.take s)) (keyK v) = (j.cks.take s).any (fun a => keyEq a v) := has_fillD (by trivial) (fun a ha => keyK_inj keyed77 s3K (hj.2.1 a (List.mem_of_mem_take ha)) (hj.2.2 a (List.mem_of_mem_take ha)).1 hvk hvx.1)
      have en : Maps.has (fillD (fun c => Lit.int .i64 c.no) (j.cks.take s)) (Lit.int .i64 v.no) = (j.cks.take s).any (fun a => decide (a.no = v.no)) := has_fillD (by trivial) (fun a _ => by simp)
      have ed := cnt_perD (j.cks.take s) v.domain
      have etl : (j.cks.take s).length = s := by simp; omega
      refine c_skip ?_
      refine q_then ?_
      refine c_seq ?_
      refine c_block ?_
      refine c_seq ?_
      refine c_region rfl ?_
      refine gv rfl (y_move rfl) ?_
      refine gve rfl (y_iaddr elem22 size26 hJ rfl rfl rfl (by omega) hv) ?_; rintro _ ⟨p25, rfl, hp25⟩
      refine gv rfl (y_loadA_el agg26 rfl hp25 rfl) ?_
      refine l_allocA rfl zero26 ?_; intro g7
      refine gv rfl (y_assign rfl) ?_
      refine l_storeW (k := 0) (H' := [_, _, _, _, _]) size26 rfl rfl rfl rfl rfl rfl rfl ?_
      refine l_nil ?_
      refine q_then ?_
      refine c_seq ?_
      refine c_region rfl ?_
      refine gv rfl (y_move rfl) ?_
      refine gv rfl (y_loadW (k := 0)  agg26 rfl rfl rfl) ?_
      refine l_callU rfl ent45 rfl (fun w hm => keyOf_c w) ?_
      refine gv rfl (y_lookIok (k0 := 1) map72 keyed77 i64T3 rfl rfl rfl zero3 (keyK_of s3K hvk hvx.1)) ?_
      refine gv rfl (y_move rfl) ?_
      refine gv rfl (y_extract rfl rfl) ?_
      refine gv rfl (y_extract rfl rfl) ?_
      refine gv rfl (y_assign rfl) ?_
      refine gv rfl (y_assign rfl) ?_
      refine l_nil ?_
      refine q_then ?_
      refine c_seq ?_
      refine c_region rfl ?_
      refine gv rfl (y_move rfl) ?_
      refine gv rfl (y_faddr off26_12 rfl rfl) ?_
      refine gv rfl (y_load (k := 0)  one3 rfl rfl rfl) ?_
      refine gv rfl (y_lookIok (k0 := 2) map73 keyed3 i64T3 rfl rfl rfl zero3 (Maps.keyOf_int_mk Tryz.underlying3 (wf_i64 hvx.2.1 hvx.2.2))) ?_
      refine gv rfl (y_move rfl) ?_
      refine gv rfl (y_extract rfl rfl) ?_
      refine gv rfl (y_extract rfl rfl) ?_
      refine gv rfl (y_assign rfl) ?_
      refine gv rfl (y_assign rfl) ?_
      refine l_nil ?_
      refine q_then ?_
      refine c_seq ?_
      refine c_block ?_
      refine c_seq ?_
      refine c_region rfl ?_
      refine gv rfl (y_loadW (k := 0)  agg26 rfl rfl rfl) ?_
      refine l_callU rfl ent31 rfl (fun w hm => moments_c w) ?_
      refine gv rfl (y_not rfl rfl) ?_
      refine gv rfl (y_assign rfl) ?_
      refine l_nil ?_
      refine q_then ?_
      refine c_ndec rfl ?_ ?_
      · intro h41
        refine c_seq ?_
        refine c_region rfl ?_
        refine gv rfl (y_assign rfl) ?_
        refine l_nil ?_
        refine q_then ?_
        refine c_ret ?_
        refine q_block_ret (q_then_ret (q_block_ret (q_then_ret (q_loop_ret (q_block_ret (q_then_ret ?_))))))
        exact q_ret1 Tryz.results13 rfl () trivial (congrArg (Value.int .i64) (jarErr_at (by omega) hI hlt e7 (if_pos h41) (by decide)).symm) hs_nil
      · intro h41
        refine c_seq ?_
        refine c_region rfl ?_
        refine gv rfl (y_faddr off26_12 rfl rfl) ?_
        refine gv rfl (y_load (k := 0)  one3 rfl rfl rfl) ?_
        refine gv rfl (y_lss rfl rfl) ?_
        refine gv rfl (y_move rfl) ?_
        refine g_dec (t := 49) rfl ?_ ?_
        · intro h49
          refine g_off (t := 49) rfl rfl rfl rfl ?_
          refine g_off (t := 49) rfl rfl rfl rfl ?_
          refine g_off (t := 49) rfl rfl rfl rfl ?_
          refine g_off (t := 49) rfl rfl rfl rfl ?_
          refine g_off (t := 49) rfl rfl rfl rfl ?_
          refine gv rfl (y_pick_t rfl rfl) ?_
          refine gv rfl (y_assign rfl) ?_
          refine l_nil ?_
          refine q_then ?_
          refine c_cond_t rfl ?_
          refine c_seq ?_
          refine c_region rfl ?_
          refine gv rfl (y_assign rfl) ?_
          refine l_nil ?_
          refine q_then ?_
          refine c_ret ?_
          refine q_block_ret (q_then_ret (q_block_ret (q_then_ret (q_loop_ret (q_block_ret (q_then_ret ?_))))))
          exact q_ret1 Tryz.results13 rfl () trivial (congrArg (Value.int .i64) (jarErr_at (by omega) hI hlt e7 (ckE_4 h41 (by omega)) (by decide)).symm) hs_nil
        · intro h49
          refine g_on (t := 49) rfl rfl ?_
          refine gv rfl (y_faddr off26_12 rfl rfl) ?_
          refine g_on (t := 49) rfl rfl ?_
          refine gv rfl (y_load (k := 0)  one3 rfl rfl rfl) ?_
          refine g_on (t := 49) rfl rfl ?_
          refine gv rfl (y_faddr off24_1 rfl rfl) ?_
          refine g_on (t := 49) rfl rfl ?_
          refine gv rfl (y_load (k := 4)  one3 rfl rfl rfl) ?_
          refine g_on (t := 49) rfl rfl ?_
          refine gv rfl (y_geq rfl rfl) ?_
          refine gv rfl (y_pick_f rfl rfl) ?_
          refine gv rfl (y_assign rfl) ?_
          refine l_nil ?_
          refine q_then ?_
          refine c_dec rfl ?_ ?_
          · intro h45
            refine c_seq ?_
            refine c_region rfl ?_
            refine gv rfl (y_assign rfl) ?_
            refine l_nil ?_
            refine q_then ?_
            refine c_ret ?_
            refine q_block_ret (q_then_ret (q_block_ret (q_then_ret (q_loop_ret (q_block_ret (q_then_ret ?_))))))
            exact q_ret1 Tryz.results13 rfl () trivial (congrArg (Value.int .i64) (jarErr_at (by omega) hI hlt e7 (ckE_4 h41 (by omega)) (by decide)).symm) hs_nil
          · intro h45
            refine c_seq ?_
            refine c_region rfl ?_
            refine gv rfl (y_move rfl) ?_
            refine gv rfl (y_move rfl) ?_
            refine g_bool (t := 58) rfl ?_ ?_
            · intro h58
              rw [ek] at h58
              refine g_off (t := 58) rfl rfl rfl rfl ?_
              refine gv rfl (y_pick_t rfl rfl) ?_
              refine gv rfl (y_assign rfl) ?_
              refine l_nil ?_
              refine q_then ?_
              refine c_cond_t rfl ?_
              refine c_seq ?_
              refine c_region rfl ?_
              refine gv rfl (y_assign rfl) ?_
              refine l_nil ?_
              refine q_then ?_
              refine c_ret ?_
              refine q_block_ret (q_then_ret (q_block_ret (q_then_ret (q_loop_ret (q_block_ret (q_then_ret ?_))))))
              exact q_ret1 Tryz.results13 rfl () trivial (congrArg (Value.int .i64) (jarErr_at (by omega) hI hlt e7 (ckE_6 h41 (by omega) (.inl h58)) (by decide)).symm) hs_nil
            · intro h58
              rw [ek] at h58
              refine g_on (t := 58) rfl rfl ?_
              refine gv rfl (y_move rfl) ?_
              refine gv rfl (y_pick_f rfl rfl) ?_
              refine gv rfl (y_assign rfl) ?_
              refine l_nil ?_
              refine q_then ?_
              refine c_bool rfl ?_ ?_
              · intro h56
                rw [en] at h56
                refine c_seq ?_
                refine c_region rfl ?_
                refine gv rfl (y_assign rfl) ?_
                refine l_nil ?_
                refine q_then ?_
                refine c_ret ?_
                refine q_block_ret (q_then_ret (q_block_ret (q_then_ret (q_loop_ret (q_block_ret (q_then_ret ?_))))))
                exact q_ret1 Tryz.results13 rfl () trivial (congrArg (Value.int .i64) (jarErr_at (by omega) hI hlt e7 (ckE_6 h41 (by omega) (.inr h56)) (by decide)).symm) hs_nil
              · intro h56
                rw [en] at h56
                refine c_seq ?_
                refine c_region rfl ?_
                refine gv rfl (y_move rfl) ?_
                refine gv rfl (y_faddr off26_2 rfl rfl) ?_
                refine gv rfl (y_load (k := 0)  one9 rfl rfl rfl) ?_
                refine gv rfl (y_lookI (k0 := 3) map74 keyed9 i64T3 rfl rfl rfl zero3 (keyOf_dom hvk Tryz.underlying9)) ?_
                refine gv rfl (y_eql rfl rfl) ?_
                refine gv rfl (y_assign rfl) ?_
                refine l_nil ?_
                refine q_then ?_
                refine c_dec rfl ?_ ?_
                · intro h61
                  rw [ed] at h61
                  refine c_seq ?_
                  refine c_region rfl ?_
                  refine gv rfl (y_assign rfl) ?_
                  refine l_nil ?_
                  refine q_then ?_
                  refine c_ret ?_
                  refine q_block_ret (q_then_ret (q_block_ret (q_then_ret (q_loop_ret (q_block_ret (q_then_ret ?_))))))
                  exact q_ret1 Tryz.results13 rfl () trivial (congrArg (Value.int .i64) (jarErr_at (by omega) hI hlt e7 (ckE_2 h41 (by omega) (by simp [h58, h56]) (by omega)) (by decide)).symm) hs_nil
                · intro h61
                  rw [ed] at h61
                  refine c_skip ?_
                  refine q_block (q_then ?_)
                  refine c_seq ?_
                  refine c_drawp (l := #[false, false, false, false, false, false, false, false, false, false, false, false]) 12 (is := [0, 3, 4]) rfl rfl rfl rfl ?_
                  refine h_take (l' := #[true, false, false, false, false, false, false, false, false, false, false, false]) 0 rfl (by kernel_rfl) rfl rfl (np_then (np_block (np_then (np_loop (np_block (np_then np_post)))))) (hs_pick (is := [0, 3, 4]) rfl rfl) (y_move rfl) ?_
                  refine h_take (l' := #[true, true, false, false, false, false, false, false, false, false, false, false]) 1 rfl (by kernel_rfl) rfl rfl (np_then (np_block (np_then (np_loop (np_block (np_then np_post)))))) (hs_pick (is := [0, 3, 4]) rfl rfl) (y_loadW (k := 0)  agg26 rfl rfl rfl) ?_
                  refine h_take (l' := #[true, true, false, true, false, false, false, false, false, false, false, false]) 3 rfl (by kernel_rfl) rfl rfl (np_then (np_block (np_then (np_loop (np_block (np_then np_post)))))) (hs_pick (is := [0, 3, 4]) rfl rfl) (y_move rfl) ?_
                  refine h_take (l' := #[true, true, false, true, true, false, false, false, false, false, false, false]) 4 rfl (by kernel_rfl) rfl rfl (np_then (np_block (np_then (np_loop (np_block (np_then np_post)))))) (hs_pick (is := [0, 3, 4]) rfl rfl) (y_faddr off26_12 rfl rfl) ?_
                  refine h_take (l' := #[true, true, false, true, true, true, false, false, false, false, false, false]) 5 rfl (by kernel_rfl) rfl rfl (np_then (np_block (np_then (np_loop (np_block (np_then np_post)))))) (hs_pick (is := [0, 3, 4]) rfl rfl) (y_load (k := 0)  one3 rfl rfl rfl) ?_
                  refine h_take (l' := #[true, true, false, true, true, true, true, false, false, false, false, false]) 6 rfl (by kernel_rfl) rfl rfl (np_then (np_block (np_then (np_loop (np_block (np_then np_post)))))) (hs_pick (is := [0, 3, 4]) rfl rfl) (y_move rfl) ?_
                  refine h_take (l' := #[true, true, false, true, true, true, true, true, false, false, false, false]) 7 rfl (by kernel_rfl) rfl rfl (np_then (np_block (np_then (np_loop (np_block (np_then np_post)))))) (hs_pick (is := [0, 3, 4]) rfl rfl) (y_move rfl) ?_
                  refine h_only (l' := #[true, true, true, true, true, true, true, true, false, false, false, false]) 2 rfl (by kernel_rfl) rfl ?_
                  refine l_callU rfl ent45 rfl (fun w hm => keyOf_c w) ?_
                  refine l_nil ?_
                  refine q_step (fun _ => hs_pick (is := [0, 3, 4]) rfl rfl) ?_
                  refine h_only (l' := #[true, true, true, true, true, true, true, true, true, false, false, false]) 8 rfl (by kernel_rfl) rfl ?_
                  refine l_mapentry (k0 := 1) rfl map72 keyed77 rfl rfl rfl zero3 (plainElem_int Tryz.underlying3 (wf_i64 (by omega) (by omega))) (keyK_of s3K hvk hvx.1) (by rw [ek]; exact h58) ?_; intro s75
                  refine l_nil ?_
                  refine q_step (fun _ => hs_pick (is := [0, 3, 4]) rfl rfl) ?_
                  refine h_take (l' := #[true, true, true, true, true, true, true, true, true, true, false, false]) 9 rfl (by kernel_rfl) rfl rfl (np_then (np_block (np_then (np_loop (np_block (np_then np_post)))))) (hs_pick (is := [0, 3, 4]) rfl rfl) (y_extract rfl rfl) ?_
                  refine h_only (l' := #[true, true, true, true, true, true, true, true, true, true, true, false]) 10 rfl (by kernel_rfl) rfl ?_
                  refine l_entrystore (k0 := 1) (dd := .lit (.int .i64 (s : Int))) (H' := [_, _, _, _, _]) map72 keyed77 rfl rfl rfl rfl (by simp [maxLen]; omega) (keyK_of s3K hvk hvx.1) (plainElem_int Tryz.underlying3 (wf_i64 (by omega) (by omega))) rfl ?_
                  refine l_nil ?_
                  refine q_step (fun _ => hs_pick (is := [0, 3, 4]) rfl rfl) ?_
                  refine h_only (l' := #[true, true, true, true, true, true, true, true, true, true, true, true]) 11 rfl (by kernel_rfl) rfl ?_
                  refine l_mapset (k0 := 2) (dd := .lit (.int .i64 (s : Int))) (H' := [_, _, _, _, _]) map73 keyed3 rfl rfl rfl rfl (by simp [maxLen]; omega) (Maps.keyOf_int_mk Tryz.underlying3 (wf_i64 hvx.2.1 hvx.2.2)) (plainElem_int Tryz.underlying3 (wf_i64 (by omega) (by omega))) rfl ?_
                  refine l_nil ?_
                  refine q_step (fun _ => hs_pick (is := [0, 3, 4]) rfl rfl) ?_
                  refine h_done (by kernel_rfl) ?_
                  refine q_then ?_
                  refine c_region rfl ?_
                  refine gv rfl (y_move rfl) ?_
                  refine gv rfl (y_faddr off26_2 rfl rfl) ?_
                  refine gv rfl (y_load (k := 0)  one9 rfl rfl rfl) ?_
                  refine gv rfl (y_lookI (k0 := 3) map74 keyed9 i64T3 rfl rfl rfl zero3 (keyOf_dom hvk Tryz.underlying9)) ?_
                  refine gv rfl (y_add rfl rfl (wrap_in (by rw [ed]; omega) (by rw [ed]; have := List.length_filter_le (fun a => decide (a.domain = v.domain)) (j.cks.take s); omega))) ?_
                  refine l_mapset (k0 := 3) (dd := .lit (.int .i64 (cnt (perD (j.cks.take s)) (.string v.domain) + 1))) (H' := [_, _, _, _, _]) map74 keyed9 rfl rfl rfl rfl (by simp [maxLen]; omega) (keyOf_dom hvk Tryz.underlying9) (plainElem_int Tryz.underlying3 (wf_i64 (by rw [ed]; omega) (by rw [ed]; have := List.length_filter_le (fun a => decide (a.domain = v.domain)) (j.cks.take s); omega))) rfl ?_
                  refine l_nil ?_
                  refine q_block (q_then ?_)
                  refine c_region rfl ?_
                  refine gv rfl (y_add rfl rfl (wrap_in (by omega) (by omega))) ?_
                  refine gv rfl (y_move rfl) ?_
                  refine l_nil ?_
                  have f1 := fillD_snoc keyK (j.cks.take s) v
                  have f2 := fillD_snoc (fun c => Lit.int .i64 c.no) (j.cks.take s) v
                  rw [etl, ← take_snoc hv] at f1 f2
                  rw [← f1, ← f2, ← perD_snoc, ← take_snoc hv]
                  exact again (s + 1) ⟨by omega, step_all hI (by rw [e7]; exact ckE_0 h41 (by omega) (by simp [h58, h56]) (by omega))⟩ (by omega) (sub_cons rfl sub_nil) (sub_cons rfl (sub_cons rfl (sub_cons rfl (sub_cons rfl (sub_cons rfl (sub_cons rfl sub_nil)))))) (hs_pick (is := [1, 2, 3, 4]) rfl rfl)
    · intro h23
      refine c_exit ?_
      refine q_then_exit (q_loop_exit (q_block_exit (q_then ?_)))
      refine c_seq ?_
      refine c_seq ?_
      refine c_region rfl ?_
      refine gv rfl (y_faddr off24_1 rfl rfl) ?_
      refine gv rfl (y_load (k := 3)  one3 rfl rfl rfl) ?_
      refine gv rfl (y_lss rfl rfl) ?_
      refine gv rfl (y_move rfl) ?_
      refine g_dec (t := 86) rfl ?_ ?_
      · intro h86
        refine g_off (t := 86) rfl rfl rfl rfl ?_
        refine g_off (t := 86) rfl rfl rfl rfl ?_
        refine g_off (t := 86) rfl rfl rfl rfl ?_
        refine gv rfl (y_pick_t rfl rfl) ?_
        refine l_nil ?_
        refine q_then ?_
        refine c_cond_t rfl ?_
        refine c_seq ?_
        refine c_region rfl ?_
        refine gv rfl (y_assign rfl) ?_
        refine l_nil ?_
        refine q_then ?_
        refine c_ret ?_
        refine q_then_ret ?_
        exact q_ret1 Tryz.results13 rfl () trivial (congrArg (Value.int .i64) (by rw [jarErr_end (by omega) hI (by omega), if_pos (by omega)])) hs_nil
      · intro h86
        refine g_on (t := 86) rfl rfl ?_
        refine gv rfl (y_faddr off24_1 rfl rfl) ?_
        refine g_on (t := 86) rfl rfl ?_
        refine gv rfl (y_load (k := 3)  one3 rfl rfl rfl) ?_
        refine g_on (t := 86) rfl rfl ?_
        refine gv rfl (y_gtr rfl rfl) ?_
        refine gv rfl (y_pick_f rfl rfl) ?_
        refine l_nil ?_
        refine q_then ?_
        refine c_dec rfl ?_ ?_
        · intro h90
          refine c_seq ?_
          refine c_region rfl ?_
          refine gv rfl (y_assign rfl) ?_
          refine l_nil ?_
          refine q_then ?_
          refine c_ret ?_
          refine q_then_ret ?_
          exact q_ret1 Tryz.results13 rfl () trivial (congrArg (Value.int .i64) (by rw [jarErr_end (by omega) hI (by omega), if_pos (by omega)])) hs_nil
        · intro h90
          refine c_skip ?_
          refine q_then ?_
          refine c_seq ?_
          refine c_region rfl ?_
          refine gv rfl (y_assign rfl) ?_
          refine l_nil ?_
          refine q_then ?_
          refine c_ret ?_
          exact q_ret1 Tryz.results13 rfl () trivial (congrArg (Value.int .i64) (by rw [jarErr_end (by omega) hI (by omega), if_neg (by omega)])) hs_nil


theorem sameJa_c {j h : Ja} {A A2 : Option Addr} {k k2 : Nat} (w : World) (hA : Sl Ck.cells 13 w A j.cks) (hA2 : Sl Ck.cells 13 w A2 h.cks) (hlen : j.cks.length ≤ 1073741824) : Cv Tryz.prog 15 #[.agg (j.arr A k), .agg (h.arr A2 k2)] w (.bool (decide (j.next = h.next) && decide (j.cks = h.cks))) := by
  refine enter (E := [(0, .agg (j.arr A k)), (1, .agg (h.arr A2 k2))]) Tryz.func15 rfl Tryz.ntmps15 rfl (by simp) ?_
  refine c_seq ?_
  refine c_region rfl ?_
  refine l_boxA rfl rfl ?_; intro g2
  refine l_boxA rfl rfl ?_; intro g3
  refine gv rfl (y_assign rfl) ?_
  refine l_nil ?_
  refine q_then ?_
  refine c_seq ?_
  refine c_region rfl ?_
  refine gv rfl (y_faddr off24_1 rfl rfl) ?_
  refine gv rfl (y_load (k := 1)  one3 rfl rfl rfl) ?_
  refine gv rfl (y_faddr off24_1 rfl rfl) ?_
  refine gv rfl (y_load (k := 0)  one3 rfl rfl rfl) ?_
  refine gv rfl (y_eql rfl rfl) ?_
  refine gv rfl (y_move rfl) ?_
  refine g_dec (t := 10) rfl ?_ ?_
  · intro h10
    refine g_on (t := 10) rfl rfl ?_
    refine gv rfl (y_faddr off24_0 rfl rfl) ?_
    refine g_on (t := 10) rfl rfl ?_
    refine gv rfl (y_load (k := 1)  one22 rfl rfl rfl) ?_
    refine g_on (t := 10) rfl rfl ?_
    refine gv rfl (y_faddr off24_0 rfl rfl) ?_
    refine g_on (t := 10) rfl rfl ?_
    refine gv rfl (y_load (k := 0)  one22 rfl rfl rfl) ?_
    refine g_on (t := 10) rfl rfl ?_
    refine l_callU rfl ent18 rfl (fun w hm => sameCks_c w (hA.below hm.below) (hA2.below hm.below) (Nat.le_trans hlen (by decide))) ?_
    refine gv rfl (y_pick_t rfl rfl) ?_
    refine gv rfl (y_assign rfl) ?_
    refine l_nil ?_
    refine q_then ?_
    refine c_ret ?_
    exact q_ret1 Tryz.results15 rfl () trivial (congrArg Value.bool (by simp [h10])) hs_nil
  · intro h10
    refine g_off (t := 10) rfl rfl rfl rfl ?_
    refine g_off (t := 10) rfl rfl rfl rfl ?_
    refine g_off (t := 10) rfl rfl rfl rfl ?_
    refine g_off (t := 10) rfl rfl rfl rfl ?_
    refine g_off (t := 10) rfl rfl rfl rfl ?_
    refine gv rfl (y_pick_f rfl rfl) ?_
    refine gv rfl (y_assign rfl) ?_
    refine l_nil ?_
    refine q_then ?_
    refine c_ret ?_
    exact q_ret1 Tryz.results15 rfl () trivial (congrArg Value.bool (by simp [h10])) hs_nil


theorem ident_c  (w : World) : Cv Tryz.prog 43 #[] w (.agg identC.arr) := by
  refine enter (E := []) Tryz.func43 rfl Tryz.ntmps43 rfl (by simp) ?_
  refine c_seq ?_
  refine c_region rfl ?_
  refine l_allocA rfl zero26 ?_; intro g0
  refine l_nil ?_
  refine q_then ?_
  refine c_seq ?_
  refine c_region rfl ?_
  refine gv rfl (y_build (cs := #[_, _, _, _, _, _, _, _, _, _, _, _, _]) (cl := [_, _, _, _, _, _, _, _, _, _, _, _, _])  zero26 bld26 rfl rfl rfl rfl rfl) ?_
  refine l_storeW (k := 0) (H' := [_]) size26 rfl rfl rfl rfl rfl rfl rfl ?_
  refine l_nil ?_
  refine q_then ?_
  refine c_ret ?_
  exact q_retA (k := 0) Tryz.results43 agg26 rfl rfl rfl () trivial rfl hs_nil


theorem ent94 : enters Tryz.prog 94 = true := by kernel_rfl

theorem flat77 : ∀ (v0 : ByteArray) (v1 : ByteArray) (v2 : ByteArray), flatT Tryz.prog 77 [.string v0, .string v1, .string v2] = true := by intros; kernel_rfl

theorem one61 : oneT Tryz.prog 61 = true := by kernel_rfl

theorem off66_1 : fieldOff Tryz.prog 66 1 = some 2 := by kernel_rfl

theorem off66_0 : fieldOff Tryz.prog 66 0 = some 0 := by kernel_rfl

theorem ent61 : enters Tryz.prog 61 = true := by kernel_rfl

theorem ent60 : enters Tryz.prog 60 = true := by kernel_rfl


theorem isNaN_c {n : Int} (w : World) : Cv Tryz.prog 94 #[.int .i64 n] w (.bool false) := by
  refine enter (E := [(0, .int .i64 n)]) Tryz.func94 rfl Tryz.ntmps94 rfl (by simp) ?_
  refine c_seq ?_
  refine c_region rfl ?_
  refine gv rfl (y_assign rfl) ?_
  refine l_nil ?_
  refine q_then ?_
  refine c_seq ?_
  refine c_region rfl ?_
  refine gv rfl (y_move rfl) ?_
  refine gv rfl (y_move rfl) ?_
  refine gv rfl (y_neq rfl rfl) ?_
  refine gv rfl (y_assign rfl) ?_
  refine l_nil ?_
  refine q_then ?_
  refine c_ret ?_
  exact q_ret1 Tryz.results94 rfl () trivial (congrArg Value.bool (by simp)) hs_nil


theorem cmpInt_c {a b : Int} (w : World) : Cv Tryz.prog 61 #[.int .i64 a, .int .i64 b] w (.int .i64 (cmpF a b)) := by
  refine enter (E := [(0, .int .i64 a), (1, .int .i64 b)]) Tryz.func61 rfl Tryz.ntmps61 rfl (by simp) ?_
  refine c_seq ?_
  refine c_region rfl ?_
  refine gv rfl (y_assign rfl) ?_
  refine l_nil ?_
  refine q_then ?_
  refine c_seq ?_
  refine c_region rfl ?_
  refine gv rfl (y_move rfl) ?_
  refine l_callU rfl ent94 rfl (fun w hm => isNaN_c w) ?_
  refine gv rfl (y_assign rfl) ?_
  refine l_nil ?_
  refine q_then ?_
  refine c_seq ?_
  refine c_region rfl ?_
  refine gv rfl (y_move rfl) ?_
  refine l_callU rfl ent94 rfl (fun w hm => isNaN_c w) ?_
  refine gv rfl (y_assign rfl) ?_
  refine l_nil ?_
  refine q_then ?_
  refine c_seq ?_
  refine c_seq ?_
  refine c_region rfl ?_
  refine gv rfl (y_move rfl) ?_
  refine l_nil ?_
  refine q_then ?_
  refine c_cond_f rfl ?_
  refine c_skip ?_
  refine q_then ?_
  refine c_seq ?_
  refine c_seq ?_
  refine c_region rfl ?_
  refine gv rfl (y_move rfl) ?_
  refine l_nil ?_
  refine q_then ?_
  refine c_cond_f rfl ?_
  refine c_skip ?_
  refine q_then ?_
  refine c_seq ?_
  refine c_seq ?_
  refine c_region rfl ?_
  refine gv rfl (y_move rfl) ?_
  refine gv rfl (y_move rfl) ?_
  refine gv rfl (y_lss rfl rfl) ?_
  refine l_nil ?_
  refine q_then ?_
  refine c_dec rfl ?_ ?_
  · intro h16
    refine c_seq ?_
    refine c_region rfl ?_
    refine gv rfl (y_assign rfl) ?_
    refine l_nil ?_
    refine q_then ?_
    refine c_ret ?_
    refine q_then_ret ?_
    exact q_ret1 Tryz.results61 rfl () trivial (congrArg (Value.int .i64) (by unfold cmpF; (repeat' split) <;> omega)) hs_nil
  · intro h16
    refine c_skip ?_
    refine q_then ?_
    refine c_seq ?_
    refine c_seq ?_
    refine c_region rfl ?_
    refine gv rfl (y_move rfl) ?_
    refine gv rfl (y_move rfl) ?_
    refine gv rfl (y_gtr rfl rfl) ?_
    refine l_nil ?_
    refine q_then ?_
    refine c_dec rfl ?_ ?_
    · intro h19
      refine c_seq ?_
      refine c_region rfl ?_
      refine gv rfl (y_assign rfl) ?_
      refine l_nil ?_
      refine q_then ?_
      refine c_ret ?_
      refine q_then_ret ?_
      exact q_ret1 Tryz.results61 rfl () trivial (congrArg (Value.int .i64) (by unfold cmpF; (repeat' split) <;> omega)) hs_nil
    · intro h19
      refine c_skip ?_
      refine q_then ?_
      refine c_seq ?_
      refine c_region rfl ?_
      refine gv rfl (y_assign rfl) ?_
      refine l_nil ?_
      refine q_then ?_
      refine c_ret ?_
      exact q_ret1 Tryz.results61 rfl () trivial (congrArg (Value.int .i64) (by unfold cmpF; (repeat' split) <;> omega)) hs_nil


theorem orInt_c {l : List Int} {A : Option Addr} {k : Nat} (w : World) (hA : Sl i1 1 w A l) (hlen : l.length ≤ 9223372036854775806) : Cv Tryz.prog 60 #[.slice A l.length k] w (.int .i64 (orF l)) := by
  refine enter (E := [(0, .slice A l.length k)]) Tryz.func60 rfl Tryz.ntmps60 rfl (by simp) ?_
  refine c_seq ?_
  refine c_region rfl ?_
  refine gv rfl (y_assign rfl) ?_
  refine l_nil ?_
  refine q_then ?_
  refine c_seq ?_
  refine c_region rfl ?_
  refine gv rfl (y_assign rfl) ?_
  refine l_nil ?_
  refine q_then ?_
  refine c_seq ?_
  refine c_seq ?_
  refine c_region rfl ?_
  refine gv rfl (y_move rfl) ?_
  refine gv rfl (y_len elem51 rfl) ?_
  refine gv rfl (y_move rfl) ?_
  refine l_nil ?_
  refine q_then ?_
  refine c_block ?_
  refine loop (Ef := [(3, _), (6, _), (7, _)]) (Hf := []) (fun s : Nat => s ≤ l.length ∧ ∀ j, j < s → ∀ u, l[j]? = some u → decide (u ≠ 0) = false) (fun s : Nat => [(8, .int .i64 (s : Int))]) (fun s : Nat => []) (fun s : Nat => l.length - s) 0 ⟨by omega, none_get⟩ (sub_cons rfl sub_nil) (sub_cons rfl (sub_cons rfl (sub_cons rfl sub_nil))) (hs_pick (is := []) rfl rfl) ?_
  rintro s ⟨hs, hI⟩
  refine c_sub (E' := [(8, _), (3, _), (6, _), (7, _)]) (sub_cons rfl (sub_cons rfl (sub_cons rfl (sub_cons rfl sub_nil)))) ?_
  refine c_seq ?_
  refine c_region rfl ?_
  refine gv rfl (y_lss rfl rfl) ?_
  refine l_nil ?_
  refine q_then ?_
  refine c_seq ?_
  refine c_dec rfl ?_ ?_
  · intro h9
    have hlt : s < l.length := by omega
    obtain ⟨v, hv⟩ := get_lt hlt
    refine c_skip ?_
    refine q_then ?_
    refine c_seq ?_
    refine c_block ?_
    refine c_seq ?_
    refine c_region rfl ?_
    refine gve rfl (y_iaddr elem51 size3 hA rfl rfl rfl (by omega) hv) ?_; rintro _ ⟨p10, rfl, hp10⟩
    refine gv rfl (y_load_el0 one3 hp10 rfl) ?_
    refine gv rfl (y_assign rfl) ?_
    refine l_nil ?_
    refine q_then ?_
    refine c_seq ?_
    refine c_region rfl ?_
    refine gv rfl (y_move rfl) ?_
    refine gv rfl (y_move rfl) ?_
    refine gv rfl (y_neq rfl rfl) ?_
    refine l_nil ?_
    refine q_then ?_
    refine c_dec rfl ?_ ?_
    · intro h14
      refine c_seq ?_
      refine c_region rfl ?_
      refine gv rfl (y_move rfl) ?_
      refine gv rfl (y_assign rfl) ?_
      refine l_nil ?_
      refine q_then ?_
      refine c_ret ?_
      refine q_block_ret (q_then_ret (q_loop_ret (q_block_ret (q_then_ret ?_))))
      exact q_ret1 Tryz.results60 rfl () trivial (congrArg (Value.int .i64) (orF_at hI hv h14).symm) hs_nil
    · intro h14
      refine c_skip ?_
      refine q_block (q_then ?_)
      refine c_region rfl ?_
      refine gv rfl (y_add rfl rfl (wrap_in (by omega) (by omega))) ?_
      refine gv rfl (y_move rfl) ?_
      refine l_nil ?_
      exact again (s + 1) ⟨by omega, step_get hI hv (by simp; omega)⟩ (by omega) (sub_cons rfl sub_nil) (sub_cons rfl (sub_cons rfl (sub_cons rfl sub_nil))) (hs_pick (is := []) rfl rfl)
  · intro h9
    refine c_exit ?_
    refine q_then_exit (q_loop_exit (q_block_exit (q_then ?_)))
    refine c_seq ?_
    refine c_region rfl ?_
    refine gv rfl (y_move rfl) ?_
    refine gv rfl (y_assign rfl) ?_
    refine l_nil ?_
    refine q_then ?_
    refine c_ret ?_
    exact q_ret1 Tryz.results60 rfl () trivial (congrArg (Value.int .i64) (orF_none hI (by omega)).symm) hs_nil


theorem minInt_c {l : List Int} {A : Option Addr} {k : Nat} {fv : Value} {f : Int → Int → Int} (w : World) (hA : Sl i1 1 w A l) (hne : l ≠ []) (hlen : l.length ≤ 1073741824) (F : ∀ x ∈ l, ∀ y ∈ l, FnV Tryz.prog w fv [.int .i64 x, .int .i64 y] (.int .i64 (f x y))) : Cv Tryz.prog 72 #[.slice A l.length k, fv] w (.int .i64 (minF f l)) := by
  refine enter (E := [(0, .slice A l.length k), (1, fv)]) Tryz.func72 rfl Tryz.ntmps72 rfl (by simp) ?_
  have h0 : 0 < l.length := List.length_pos_iff.2 hne
  obtain ⟨v0, hv0⟩ := get_lt h0
  have e1 := minT_one (f := f) hv0
  refine c_seq ?_
  refine c_region rfl ?_
  refine gv rfl (y_assign rfl) ?_
  refine l_nil ?_
  refine q_then ?_
  refine c_seq ?_
  refine c_seq ?_
  refine c_region rfl ?_
  refine gv rfl (y_move rfl) ?_
  refine gv rfl (y_len elem51 rfl) ?_
  refine gv rfl (y_lss rfl rfl) ?_
  refine l_nil ?_
  refine q_then ?_
  refine c_dec rfl ?_ ?_
  · intro h9
    exact absurd h9 (by omega)
  · intro h9
    refine c_skip ?_
    refine q_then ?_
    refine c_seq ?_
    refine c_region rfl ?_
    refine gv rfl (y_move rfl) ?_
    refine gve rfl (y_iaddr elem51 size3 hA rfl rfl rfl (by omega) hv0) ?_; rintro _ ⟨p12, rfl, hp12⟩
    refine gv rfl (y_load_el0 one3 hp12 rfl) ?_
    refine gv rfl (y_assign rfl) ?_
    refine l_nil ?_
    refine q_then ?_
    refine c_seq ?_
    refine c_seq ?_
    refine c_region rfl ?_
    refine gv rfl (y_assign rfl) ?_
    refine l_nil ?_
    refine q_then ?_
    refine c_block ?_
    rw [← e1]
    refine loop (Ef := [(0, _), (1, _)]) (Hf := []) (fun s : Nat => (1 ≤ s ∧ s ≤ l.length) ∧ minT f l s ∈ l) (fun s : Nat => [(6, .int .i64 (s : Int)), (5, .int .i64 (minT f l s))]) (fun s : Nat => []) (fun s : Nat => l.length - s) 1 ⟨⟨Nat.le_refl _, h0⟩, by rw [e1]; exact List.mem_of_getElem? hv0⟩ (sub_cons rfl (sub_cons rfl sub_nil)) (sub_cons rfl (sub_cons rfl sub_nil)) (hs_pick (is := []) rfl rfl) ?_
    rintro s ⟨hs, hI⟩
    refine c_sub (E' := [(6, _), (5, _), (0, _), (1, _)]) (sub_cons rfl (sub_cons rfl (sub_cons rfl (sub_cons rfl sub_nil)))) ?_
    refine c_seq ?_
    refine c_seq ?_
    refine c_region rfl ?_
    refine gv rfl (y_move rfl) ?_
    refine gv rfl (y_move rfl) ?_
    refine gv rfl (y_len elem51 rfl) ?_
    refine gv rfl (y_lss rfl rfl) ?_
    refine l_nil ?_
    refine q_then ?_
    refine c_dec rfl ?_ ?_
    · intro h17
      have hlt : s < l.length := by omega
      obtain ⟨v, hv⟩ := get_lt hlt
      have em0 := minT_succ (f := f) hs.1 hv
      refine c_skip ?_
      refine q_then ?_
      refine c_seq ?_
      refine c_block ?_
      refine c_seq ?_
      refine c_region rfl ?_
      refine gv rfl (y_move rfl) ?_
      refine gv rfl (y_move rfl) ?_
      refine gv rfl (y_move rfl) ?_
      refine gve rfl (y_iaddr elem51 size3 hA rfl rfl rfl (by omega) hv) ?_; rintro _ ⟨p23, rfl, hp23⟩
      refine gv rfl (y_load_el0 one3 hp23 rfl) ?_
      refine gv rfl (y_move rfl) ?_
      refine l_callF rfl rfl rfl (F _ (List.mem_of_getElem? hv) _ hI) ?_
      refine gv rfl (y_lss rfl rfl) ?_
      refine l_nil ?_
      refine q_then ?_
      refine c_dec rfl ?_ ?_
      · intro h27
        have em : minT f l (s + 1) = v := by rw [em0, if_pos h27]
        refine c_region rfl ?_
        refine gv rfl (y_move rfl) ?_
        refine gv rfl (y_move rfl) ?_
        refine gve rfl (y_iaddr elem51 size3 hA rfl rfl rfl (by omega) hv) ?_; rintro _ ⟨p30, rfl, hp30⟩
        refine gv rfl (y_load_el0 one3 hp30 rfl) ?_
        refine gv rfl (y_assign rfl) ?_
        refine l_nil ?_
        refine q_block (q_then ?_)
        refine c_region rfl ?_
        refine gv rfl (y_move rfl) ?_
        refine gv rfl (y_add rfl rfl (wrap_in (by omega) (by omega))) ?_
        refine gv rfl (y_assign rfl) ?_
        refine l_nil ?_
        rw [← em]
        exact again (s + 1) ⟨by omega, by rw [em]; exact List.mem_of_getElem? hv⟩ (by omega) (sub_cons rfl (sub_cons rfl sub_nil)) (sub_cons rfl (sub_cons rfl sub_nil)) (hs_pick (is := []) rfl rfl)
      · intro h27
        have em : minT f l (s + 1) = minT f l s := by rw [em0, if_neg h27]
        refine c_skip ?_
        refine q_block (q_then ?_)
        refine c_region rfl ?_
        refine gv rfl (y_move rfl) ?_
        refine gv rfl (y_add rfl rfl (wrap_in (by omega) (by omega))) ?_
        refine gv rfl (y_assign rfl) ?_
        refine l_nil ?_
        rw [← em]
        exact again (s + 1) ⟨by omega, by rw [em]; exact hI⟩ (by omega) (sub_cons rfl (sub_cons rfl sub_nil)) (sub_cons rfl (sub_cons rfl sub_nil)) (hs_pick (is := []) rfl rfl)
    · intro h17
      refine c_exit ?_
      refine q_then_exit (q_loop_exit (q_block_exit (q_then ?_)))
      refine c_seq ?_
      refine c_region rfl ?_
      refine gv rfl (y_move rfl) ?_
      refine gv rfl (y_assign rfl) ?_
      refine l_nil ?_
      refine q_then ?_
      refine c_ret ?_
      exact q_ret1 Tryz.results72 rfl () trivial (congrArg (Value.int .i64) (by unfold minT; rw [List.take_of_length_le (by omega)])) hs_nil


theorem idxFn_ck_c {l : List Ck} {A : Option Addr} {k : Nat} {fv : Value} {p : Ck → Bool} (w : World) (hA : Sl Ck.cells 13 w A l) (hlen : l.length ≤ 9223372036854775806) (F : ∀ x ∈ l, FnV Tryz.prog w fv [.agg x.arr] (.bool (p x))) : Cv Tryz.prog 70 #[.slice A l.length k, fv] w (.int .i64 (fidx p l)) := by
  refine enter (E := [(0, .slice A l.length k), (1, fv)]) Tryz.func70 rfl Tryz.ntmps70 rfl (by simp) ?_
  refine c_seq ?_
  refine c_region rfl ?_
  refine gv rfl (y_assign rfl) ?_
  refine l_nil ?_
  refine q_then ?_
  refine c_seq ?_
  refine c_seq ?_
  refine c_region rfl ?_
  refine gv rfl (y_move rfl) ?_
  refine gv rfl (y_len elem22 rfl) ?_
  refine gv rfl (y_move rfl) ?_
  refine l_nil ?_
  refine q_then ?_
  refine c_block ?_
  refine loop (Ef := [(0, _), (1, _), (7, _)]) (Hf := []) (fun s : Nat => s ≤ l.length ∧ ∀ j, j < s → ∀ u, l[j]? = some u → p u = false) (fun s : Nat => [(8, .int .i64 (s : Int))]) (fun s : Nat => []) (fun s : Nat => l.length - s) 0 ⟨by omega, none_get⟩ (sub_cons rfl sub_nil) (sub_cons rfl (sub_cons rfl (sub_cons rfl sub_nil))) (hs_pick (is := []) rfl rfl) ?_
  rintro s ⟨hs, hI⟩
  refine c_sub (E' := [(8, _), (0, _), (1, _), (7, _)]) (sub_cons rfl (sub_cons rfl (sub_cons rfl (sub_cons rfl sub_nil)))) ?_
  refine c_seq ?_
  refine c_region rfl ?_
  refine gv rfl (y_lss rfl rfl) ?_
  refine l_nil ?_
  refine q_then ?_
  refine c_seq ?_
  refine c_dec rfl ?_ ?_
  · intro h9
    have hlt : s < l.length := by omega
    obtain ⟨v, hv⟩ := get_lt hlt
    refine c_skip ?_
    refine q_then ?_
    refine c_seq ?_
    refine c_block ?_
    refine c_seq ?_
    refine c_region rfl ?_
    refine gv rfl (y_move rfl) ?_
    refine gv rfl (y_assign rfl) ?_
    refine l_nil ?_
    refine q_then ?_
    refine c_seq ?_
    refine c_region rfl ?_
    refine gv rfl (y_move rfl) ?_
    refine gv rfl (y_move rfl) ?_
    refine gv rfl (y_move rfl) ?_
    refine gve rfl (y_iaddr elem22 size26 hA rfl rfl rfl (by omega) hv) ?_; rintro _ ⟨p14, rfl, hp14⟩
    refine gv rfl (y_loadA_el agg26 rfl hp14 rfl) ?_
    refine l_callF rfl rfl rfl (F v (List.mem_of_getElem? hv)) ?_
    refine l_nil ?_
    refine q_then ?_
    refine c_bool rfl ?_ ?_
    · intro h16
      refine c_seq ?_
      refine c_region rfl ?_
      refine gv rfl (y_move rfl) ?_
      refine gv rfl (y_assign rfl) ?_
      refine l_nil ?_
      refine q_then ?_
      refine c_ret ?_
      refine q_block_ret (q_then_ret (q_loop_ret (q_block_ret (q_then_ret ?_))))
      exact q_ret1 Tryz.results70 rfl () trivial (congrArg (Value.int .i64) (fidx_at hI hv h16).symm) hs_nil
    · intro h16
      refine c_skip ?_
      refine q_block (q_then ?_)
      refine c_region rfl ?_
      refine gv rfl (y_add rfl rfl (wrap_in (by omega) (by omega))) ?_
      refine gv rfl (y_move rfl) ?_
      refine l_nil ?_
      exact again (s + 1) ⟨by omega, step_get hI hv h16⟩ (by omega) (sub_cons rfl sub_nil) (sub_cons rfl (sub_cons rfl (sub_cons rfl sub_nil))) (hs_pick (is := []) rfl rfl)
  · intro h9
    refine c_exit ?_
    refine q_then_exit (q_loop_exit (q_block_exit (q_then ?_)))
    refine c_seq ?_
    refine c_region rfl ?_
    refine gv rfl (y_assign rfl) ?_
    refine l_nil ?_
    refine q_then ?_
    refine c_ret ?_
    exact q_ret1 Tryz.results70 rfl () trivial (congrArg (Value.int .i64) (fidx_none hI (by omega)).symm) hs_nil


theorem lay1_c {x c : Ck} {p : Addr} (w : World) (hp : El w p c.cells) : Cv Tryz.prog 71 #[.agg x.arr, .pointer (some p)] w (.bool (keyEq x c)) := by
  refine enter (E := [(0, .agg x.arr), (1, .pointer (some p))]) Tryz.func71 rfl Tryz.ntmps71 rfl (by simp) ?_
  refine c_seq ?_
  refine c_region rfl ?_
  refine l_boxA rfl rfl ?_; intro g2
  refine gv rfl (y_assign rfl) ?_
  refine l_nil ?_
  refine q_then ?_
  refine c_seq ?_
  refine c_drawp (l := #[false, false, false, false, false, false]) 6 (is := [0]) rfl rfl rfl rfl ?_
  refine h_take (l' := #[true, false, false, false, false, false]) 0 rfl (by kernel_rfl) rfl rfl (np_then np_post) (hs_pick (is := [0]) rfl rfl) (y_loadW (k := 0)  agg26 rfl rfl rfl) ?_
  refine h_take (l' := #[true, false, true, false, false, false]) 2 rfl (by kernel_rfl) rfl rfl (np_then np_post) (hs_pick (is := [0]) rfl rfl) (y_loadA_el agg26 rfl hp rfl) ?_
  refine h_only (l' := #[true, true, true, false, false, false]) 1 rfl (by kernel_rfl) rfl ?_
  refine l_callU rfl ent45 rfl (fun w hm => keyOf_c w) ?_
  refine l_nil ?_
  refine q_step (fun _ => hs_pick (is := [0]) rfl rfl) ?_
  refine h_only (l' := #[true, true, true, true, false, false]) 3 rfl (by kernel_rfl) rfl ?_
  refine l_callU rfl ent45 rfl (fun w hm => keyOf_c w) ?_
  refine l_nil ?_
  refine q_step (fun _ => hs_pick (is := [0]) rfl rfl) ?_
  refine h_take (l' := #[true, true, true, true, true, false]) 4 rfl (by kernel_rfl) rfl rfl (np_then np_post) (hs_pick (is := [0]) rfl rfl) (y_eqS (flat77 _ _ _) rfl rfl (by exact key_eqc x c)) ?_
  refine h_take (l' := #[true, true, true, true, true, true]) 5 rfl (by kernel_rfl) rfl rfl (np_then np_post) (hs_pick (is := [0]) rfl rfl) (y_assign rfl) ?_
  refine h_done (by kernel_rfl) ?_
  refine q_then ?_
  refine c_ret ?_
  exact q_ret1 Tryz.results71 rfl () trivial rfl hs_nil


theorem put1_c {x c : Ck} {p : Addr} (w : World) (hp : El w p c.cells) : Cv Tryz.prog 36 #[.agg x.arr, .pointer (some p)] w (.bool (decide (x.domain = c.domain))) := by
  refine enter (E := [(0, .agg x.arr), (1, .pointer (some p))]) Tryz.func36 rfl Tryz.ntmps36 rfl (by simp) ?_
  refine c_seq ?_
  refine c_region rfl ?_
  refine l_boxA rfl rfl ?_; intro g2
  refine gv rfl (y_assign rfl) ?_
  refine l_nil ?_
  refine q_then ?_
  refine c_seq ?_
  refine c_region rfl ?_
  refine gv rfl (y_faddr off26_2 rfl rfl) ?_
  refine gv rfl (y_load (k := 0)  one9 rfl rfl rfl) ?_
  refine gv rfl (y_faddr_p off26_2 rfl) ?_
  refine gv rfl (y_load_el one9 hp rfl rfl) ?_
  refine gv rfl (y_seq rfl rfl) ?_
  refine gv rfl (y_assign rfl) ?_
  refine l_nil ?_
  refine q_then ?_
  refine c_ret ?_
  exact q_ret1 Tryz.results36 rfl () trivial rfl hs_nil


theorem put2_c {x : Ck} (w : World) : Cv Tryz.prog 37 #[.agg x.arr] w (.bool true) := by
  refine enter (E := [(0, .agg x.arr)]) Tryz.func37 rfl Tryz.ntmps37 rfl (by simp) ?_
  refine c_seq ?_
  refine c_region rfl ?_
  refine l_boxA rfl rfl ?_; intro g1
  refine gv rfl (y_assign rfl) ?_
  refine l_nil ?_
  refine q_then ?_
  refine c_seq ?_
  refine c_region rfl ?_
  refine gv rfl (y_assign rfl) ?_
  refine l_nil ?_
  refine q_then ?_
  refine c_ret ?_
  exact q_ret1 Tryz.results37 rfl () trivial rfl hs_nil


theorem expire1_c {c : Ck} {gb go n k : Nat} {A : Option Addr} {next now : Int} (w : World) (hp : El w ⟨gb, 0, none⟩ [.pointer (some ⟨go, 0, none⟩)]) (hO : El w ⟨go, 0, none⟩ [.slice A n k, .int .i64 next, .int .i64 now]) : Cv Tryz.prog 69 #[.agg c.arr, .pointer (some ⟨gb, 0, none⟩)] w (.bool (!decide (c.expiry > now))) := by
  refine enter (E := [(0, .agg c.arr), (1, .pointer (some ⟨gb, 0, none⟩))]) Tryz.func69 rfl Tryz.ntmps69 rfl (by simp) ?_
  refine c_seq ?_
  refine c_region rfl ?_
  refine l_boxA rfl rfl ?_; intro g2
  refine gv rfl (y_assign rfl) ?_
  refine l_nil ?_
  refine q_then ?_
  refine c_seq ?_
  refine c_drawp (l := #[false, false, false, false, false, false, false, false]) 8 (is := [0]) rfl rfl rfl rfl ?_
  refine h_take (l' := #[true, false, false, false, false, false, false, false]) 0 rfl (by kernel_rfl) rfl rfl (np_then np_post) (hs_pick (is := [0]) rfl rfl) (y_loadW (k := 0)  agg26 rfl rfl rfl) ?_
  refine h_take (l' := #[true, true, false, false, false, false, false, false]) 1 rfl (by kernel_rfl) rfl rfl (np_then np_post) (hs_pick (is := [0]) rfl rfl) (y_load_elg one61 hp rfl rfl) ?_
  refine h_take (l' := #[true, true, true, false, false, false, false, false]) 2 rfl (by kernel_rfl) rfl rfl (np_then np_post) (hs_pick (is := [0]) rfl rfl) (y_nilCheck rfl) ?_
  refine h_take (l' := #[true, true, true, true, false, false, false, false]) 3 rfl (by kernel_rfl) rfl rfl (np_then np_post) (hs_pick (is := [0]) rfl rfl) (y_faddr off66_1 rfl rfl) ?_
  refine h_take (l' := #[true, true, true, true, true, false, false, false]) 4 rfl (by kernel_rfl) rfl rfl (np_then np_post) (hs_pick (is := [0]) rfl rfl) (y_load_elg one3 hO rfl rfl) ?_
  refine h_only (l' := #[true, true, true, true, true, true, false, false]) 5 rfl (by kernel_rfl) rfl ?_
  refine l_callU rfl ent19 rfl (fun w hm => live_c w) ?_
  refine l_nil ?_
  refine q_step (fun _ => hs_pick (is := [0]) rfl rfl) ?_
  refine h_take (l' := #[true, true, true, true, true, true, true, false]) 6 rfl (by kernel_rfl) rfl rfl (np_then np_post) (hs_pick (is := [0]) rfl rfl) (y_not rfl rfl) ?_
  refine h_take (l' := #[true, true, true, true, true, true, true, true]) 7 rfl (by kernel_rfl) rfl rfl (np_then np_post) (hs_pick (is := [0]) rfl rfl) (y_assign rfl) ?_
  refine h_done (by kernel_rfl) ?_
  refine q_then ?_
  refine c_ret ?_
  exact q_ret1 Tryz.results69 rfl () trivial rfl hs_nil


theorem evict1_c {l : List Ck} {i j : Int} {gb go k : Nat} {A : Option Addr} {next now : Int} (w : World) (hp : El w ⟨gb, 0, none⟩ [.pointer (some ⟨go, 0, none⟩)]) (hO : El w ⟨go, 0, none⟩ [.slice A l.length k, .int .i64 next, .int .i64 now]) (hS : Sl Ck.cells 13 w A l) (hi : 0 ≤ i ∧ i < l.length) (hj : 0 ≤ j ∧ j < l.length) : Cv Tryz.prog 73 #[.int .i64 i, .int .i64 j, .pointer (some ⟨gb, 0, none⟩)] w (.int .i64 (useF l i j)) := by
  refine enter (E := [(0, .int .i64 i), (1, .int .i64 j), (2, .pointer (some ⟨gb, 0, none⟩))]) Tryz.func73 rfl Tryz.ntmps73 rfl (by simp) ?_
  obtain ⟨u, hu⟩ := get_lt (l := l) (i := i.toNat) (by omega)
  obtain ⟨v, hv⟩ := get_lt (l := l) (i := j.toNat) (by omega)
  have eu := getD_of_get (d := Ck.none_) hu
  have ev := getD_of_get (d := Ck.none_) hv
  refine c_seq ?_
  refine c_region rfl ?_
  refine gv rfl (y_assign rfl) ?_
  refine l_nil ?_
  refine q_then ?_
  refine c_seq ?_
  refine c_drawp (l := #[false, false, false, false, false, false, false, false, false, false, false, false, false, false, false, false, false, false, false, false]) 20 (is := []) rfl rfl rfl rfl ?_
  refine h_take (l' := #[true, false, false, false, false, false, false, false, false, false, false, false, false, false, false, false, false, false, false, false]) 0 rfl (by kernel_rfl) rfl rfl (np_then np_post) (hs_pick (is := []) rfl rfl) (y_load_elg one61 hp rfl rfl) ?_
  refine h_take (l' := #[true, true, false, false, false, false, false, false, false, false, false, false, false, false, false, false, false, false, false, false]) 1 rfl (by kernel_rfl) rfl rfl (np_then np_post) (hs_pick (is := []) rfl rfl) (y_nilCheck rfl) ?_
  refine h_take (l' := #[true, true, true, false, false, false, false, false, false, false, false, false, false, false, false, false, false, false, false, false]) 2 rfl (by kernel_rfl) rfl rfl (np_then np_post) (hs_pick (is := []) rfl rfl) (y_faddr off66_0 rfl rfl) ?_
  refine h_take (l' := #[true, true, true, true, false, false, false, false, false, false, false, false, false, false, false, false, false, false, false, false]) 3 rfl (by kernel_rfl) rfl rfl (np_then np_post) (hs_pick (is := []) rfl rfl) (y_faddr off24_0 rfl rfl) ?_
  refine h_take (l' := #[true, true, true, true, true, false, false, false, false, false, false, false, false, false, false, false, false, false, false, false]) 4 rfl (by kernel_rfl) rfl rfl (np_then np_post) (hs_pick (is := []) rfl rfl) (y_load_elg one22 hO rfl rfl) ?_
  refine h_take (l' := #[true, true, true, true, true, true, false, false, false, false, false, false, false, false, false, false, false, false, false, false]) 5 rfl (by kernel_rfl) rfl rfl (np_then np_post) (hs_pick (is := []) rfl rfl) (y_move rfl) ?_
  refine h_takee (l' := #[true, true, true, true, true, true, true, false, false, false, false, false, false, false, false, false, false, false, false, false]) 6 rfl (by kernel_rfl) rfl rfl (np_then np_post) (hs_pick (is := []) rfl rfl) (y_iaddr elem22 size26 hS rfl rfl rfl (by omega) hu) ?_; rintro _ ⟨p14, rfl, hp14⟩
  refine h_take (l' := #[true, true, true, true, true, true, true, true, false, false, false, false, false, false, false, false, false, false, false, false]) 7 rfl (by kernel_rfl) rfl rfl (np_then np_post) (hs_pick (is := []) rfl rfl) (y_loadA_el agg26 rfl hp14 rfl) ?_
  refine h_take (l' := #[true, true, true, true, true, true, true, true, true, false, false, false, false, false, false, false, false, false, false, false]) 8 rfl (by kernel_rfl) rfl rfl (np_then np_post) (hs_pick (is := []) rfl rfl) (y_load_elg one61 hp rfl rfl) ?_
  refine h_take (l' := #[true, true, true, true, true, true, true, true, true, true, false, false, false, false, false, false, false, false, false, false]) 9 rfl (by kernel_rfl) rfl rfl (np_then np_post) (hs_pick (is := []) rfl rfl) (y_nilCheck rfl) ?_
  refine h_take (l' := #[true, true, true, true, true, true, true, true, true, true, true, false, false, false, false, false, false, false, false, false]) 10 rfl (by kernel_rfl) rfl rfl (np_then np_post) (hs_pick (is := []) rfl rfl) (y_faddr off66_0 rfl rfl) ?_
  refine h_take (l' := #[true, true, true, true, true, true, true, true, true, true, true, true, false, false, false, false, false, false, false, false]) 11 rfl (by kernel_rfl) rfl rfl (np_then np_post) (hs_pick (is := []) rfl rfl) (y_faddr off24_0 rfl rfl) ?_
  refine h_take (l' := #[true, true, true, true, true, true, true, true, true, true, true, true, true, false, false, false, false, false, false, false]) 12 rfl (by kernel_rfl) rfl rfl (np_then np_post) (hs_pick (is := []) rfl rfl) (y_load_elg one22 hO rfl rfl) ?_
  refine h_take (l' := #[true, true, true, true, true, true, true, true, true, true, true, true, true, true, false, false, false, false, false, false]) 13 rfl (by kernel_rfl) rfl rfl (np_then np_post) (hs_pick (is := []) rfl rfl) (y_move rfl) ?_
  refine h_takee (l' := #[true, true, true, true, true, true, true, true, true, true, true, true, true, true, true, false, false, false, false, false]) 14 rfl (by kernel_rfl) rfl rfl (np_then np_post) (hs_pick (is := []) rfl rfl) (y_iaddr elem22 size26 hS rfl rfl rfl (by omega) hv) ?_; rintro _ ⟨p22, rfl, hp22⟩
  refine h_take (l' := #[true, true, true, true, true, true, true, true, true, true, true, true, true, true, true, true, false, false, false, false]) 15 rfl (by kernel_rfl) rfl rfl (np_then np_post) (hs_pick (is := []) rfl rfl) (y_loadA_el agg26 rfl hp22 rfl) ?_
  refine h_two (l' := #[true, true, true, true, true, true, true, true, true, true, true, true, true, true, true, true, true, false, false, false]) (l'' := #[true, true, true, true, true, true, true, true, true, true, true, true, true, true, true, true, false, true, false, false]) 16 17 rfl rfl (by kernel_rfl) rfl rfl ?_ ?_
  · skip
    refine l_allocA rfl zero26 ?_; intro g6
    refine l_nil ?_
    refine q_step (fun _ => hs_pick (is := []) rfl rfl) ?_
    refine h_only (l' := #[true, true, true, true, true, true, true, true, true, true, true, true, true, true, true, true, true, true, false, false]) 17 rfl (by kernel_rfl) rfl ?_
    refine l_allocA rfl zero26 ?_; intro g7
    refine l_nil ?_
    refine q_step (fun _ => hs_pick (is := []) rfl rfl) ?_
    refine h_only (l' := #[true, true, true, true, true, true, true, true, true, true, true, true, true, true, true, true, true, true, true, false]) 18 rfl (by kernel_rfl) rfl ?_
    refine l_storeW (k := 1) (H' := [_, _]) size26 rfl rfl rfl rfl rfl rfl rfl ?_
    refine l_nil ?_
    refine q_step (fun _ => hs_pick (is := []) rfl rfl) ?_
    refine h_only (l' := #[true, true, true, true, true, true, true, true, true, true, true, true, true, true, true, true, true, true, true, true]) 19 rfl (by kernel_rfl) rfl ?_
    refine l_storeW (k := 0) (H' := [_, _]) size26 rfl rfl rfl rfl rfl rfl rfl ?_
    refine l_nil ?_
    refine q_step (fun _ => hs_pick (is := []) rfl rfl) ?_
    refine h_done (by kernel_rfl) ?_
    refine q_then ?_
    refine c_seq ?_
    refine c_drawp (l := #[false, false, false, false, false, false, false, false, false, false, false, false, false]) 13 (is := [0, 1]) rfl rfl rfl rfl ?_
    refine h_take (l' := #[true, false, false, false, false, false, false, false, false, false, false, false, false]) 0 rfl (by kernel_rfl) rfl rfl (np_then np_post) (hs_pick (is := [0, 1]) rfl rfl) (y_faddr off26_11 rfl rfl) ?_
    refine h_take (l' := #[true, true, false, false, false, false, false, false, false, false, false, false, false]) 1 rfl (by kernel_rfl) rfl rfl (np_then np_post) (hs_pick (is := [0, 1]) rfl rfl) (y_load (k := 1)  one3 rfl rfl rfl) ?_
    refine h_take (l' := #[true, true, true, false, false, false, false, false, false, false, false, false, false]) 2 rfl (by kernel_rfl) rfl rfl (np_then np_post) (hs_pick (is := [0, 1]) rfl rfl) (y_faddr off26_11 rfl rfl) ?_
    refine h_take (l' := #[true, true, true, true, false, false, false, false, false, false, false, false, false]) 3 rfl (by kernel_rfl) rfl rfl (np_then np_post) (hs_pick (is := [0, 1]) rfl rfl) (y_load (k := 0)  one3 rfl rfl rfl) ?_
    refine h_take (l' := #[true, true, true, true, false, true, false, false, false, false, false, false, false]) 5 rfl (by kernel_rfl) rfl rfl (np_then np_post) (hs_pick (is := [0, 1]) rfl rfl) (y_faddr off26_12 rfl rfl) ?_
    refine h_take (l' := #[true, true, true, true, false, true, true, false, false, false, false, false, false]) 6 rfl (by kernel_rfl) rfl rfl (np_then np_post) (hs_pick (is := [0, 1]) rfl rfl) (y_load (k := 1)  one3 rfl rfl rfl) ?_
    refine h_take (l' := #[true, true, true, true, false, true, true, true, false, false, false, false, false]) 7 rfl (by kernel_rfl) rfl rfl (np_then np_post) (hs_pick (is := [0, 1]) rfl rfl) (y_faddr off26_12 rfl rfl) ?_
    refine h_take (l' := #[true, true, true, true, false, true, true, true, true, false, false, false, false]) 8 rfl (by kernel_rfl) rfl rfl (np_then np_post) (hs_pick (is := [0, 1]) rfl rfl) (y_load (k := 0)  one3 rfl rfl rfl) ?_
    refine h_only (l' := #[true, true, true, true, true, true, true, true, true, false, false, false, false]) 4 rfl (by kernel_rfl) rfl ?_
    refine l_callU rfl ent61 rfl (fun w hm => cmpInt_c w) ?_
    refine l_nil ?_
    refine q_step (fun _ => hs_pick (is := [0, 1]) rfl rfl) ?_
    refine h_only (l' := #[true, true, true, true, true, true, true, true, true, true, false, false, false]) 9 rfl (by kernel_rfl) rfl ?_
    refine l_callU rfl ent61 rfl (fun w hm => cmpInt_c w) ?_
    refine l_nil ?_
    refine q_step (fun _ => hs_pick (is := [0, 1]) rfl rfl) ?_
    refine h_only (l' := #[true, true, true, true, true, true, true, true, true, true, true, false, false]) 10 rfl (by kernel_rfl) rfl ?_
    refine l_bslice (cl := [_, _]) rfl elem51 ap3 zero3 rfl rfl rfl rfl rfl rfl rfl ?_; intro g34
    refine l_nil ?_
    refine q_step (fun _ => hs_pick (is := [1, 2]) rfl rfl) ?_
    refine h_only (l' := #[true, true, true, true, true, true, true, true, true, true, true, true, false]) 11 rfl (by kernel_rfl) rfl ?_
    refine l_callU rfl ent60 rfl (fun w hm => orInt_c (l := [cmpF u.used v.used, cmpF u.no v.no]) w (sl_of_blk hm (k := 0) rfl rfl (fun _ => rfl)) (by simp)) ?_
    refine l_nil ?_
    refine q_step (fun _ => hs_pick (is := [1, 2]) rfl rfl) ?_
    refine h_take (l' := #[true, true, true, true, true, true, true, true, true, true, true, true, true]) 12 rfl (by kernel_rfl) rfl rfl (np_then np_post) (hs_pick (is := [1, 2]) rfl rfl) (y_assign rfl) ?_
    refine h_done (by kernel_rfl) ?_
    refine q_then ?_
    refine c_ret ?_
    exact q_ret1 Tryz.results73 rfl () trivial (congrArg (Value.int .i64) (by unfold useF; rw [eu, ev])) hs_nil
  · skip
    refine l_allocA rfl zero26 ?_; intro g7
    refine l_nil ?_
    refine q_step (fun _ => hs_pick (is := []) rfl rfl) ?_
    refine h_only (l' := #[true, true, true, true, true, true, true, true, true, true, true, true, true, true, true, true, true, true, false, false]) 16 rfl (by kernel_rfl) rfl ?_
    refine l_allocA rfl zero26 ?_; intro g6
    refine l_nil ?_
    refine q_step (fun _ => hs_pick (is := []) rfl rfl) ?_
    refine h_only (l' := #[true, true, true, true, true, true, true, true, true, true, true, true, true, true, true, true, true, true, true, false]) 18 rfl (by kernel_rfl) rfl ?_
    refine l_storeW (k := 0) (H' := [_, _]) size26 rfl rfl rfl rfl rfl rfl rfl ?_
    refine l_nil ?_
    refine q_step (fun _ => hs_pick (is := []) rfl rfl) ?_
    refine h_only (l' := #[true, true, true, true, true, true, true, true, true, true, true, true, true, true, true, true, true, true, true, true]) 19 rfl (by kernel_rfl) rfl ?_
    refine l_storeW (k := 1) (H' := [_, _]) size26 rfl rfl rfl rfl rfl rfl rfl ?_
    refine l_nil ?_
    refine q_step (fun _ => hs_pick (is := []) rfl rfl) ?_
    refine h_done (by kernel_rfl) ?_
    refine q_then ?_
    refine c_seq ?_
    refine c_drawp (l := #[false, false, false, false, false, false, false, false, false, false, false, false, false]) 13 (is := [0, 1]) rfl rfl rfl rfl ?_
    refine h_take (l' := #[true, false, false, false, false, false, false, false, false, false, false, false, false]) 0 rfl (by kernel_rfl) rfl rfl (np_then np_post) (hs_pick (is := [0, 1]) rfl rfl) (y_faddr off26_11 rfl rfl) ?_
    refine h_take (l' := #[true, true, false, false, false, false, false, false, false, false, false, false, false]) 1 rfl (by kernel_rfl) rfl rfl (np_then np_post) (hs_pick (is := [0, 1]) rfl rfl) (y_load (k := 0)  one3 rfl rfl rfl) ?_
    refine h_take (l' := #[true, true, true, false, false, false, false, false, false, false, false, false, false]) 2 rfl (by kernel_rfl) rfl rfl (np_then np_post) (hs_pick (is := [0, 1]) rfl rfl) (y_faddr off26_11 rfl rfl) ?_
    refine h_take (l' := #[true, true, true, true, false, false, false, false, false, false, false, false, false]) 3 rfl (by kernel_rfl) rfl rfl (np_then np_post) (hs_pick (is := [0, 1]) rfl rfl) (y_load (k := 1)  one3 rfl rfl rfl) ?_
    refine h_take (l' := #[true, true, true, true, false, true, false, false, false, false, false, false, false]) 5 rfl (by kernel_rfl) rfl rfl (np_then np_post) (hs_pick (is := [0, 1]) rfl rfl) (y_faddr off26_12 rfl rfl) ?_
    refine h_take (l' := #[true, true, true, true, false, true, true, false, false, false, false, false, false]) 6 rfl (by kernel_rfl) rfl rfl (np_then np_post) (hs_pick (is := [0, 1]) rfl rfl) (y_load (k := 0)  one3 rfl rfl rfl) ?_
    refine h_take (l' := #[true, true, true, true, false, true, true, true, false, false, false, false, false]) 7 rfl (by kernel_rfl) rfl rfl (np_then np_post) (hs_pick (is := [0, 1]) rfl rfl) (y_faddr off26_12 rfl rfl) ?_
    refine h_take (l' := #[true, true, true, true, false, true, true, true, true, false, false, false, false]) 8 rfl (by kernel_rfl) rfl rfl (np_then np_post) (hs_pick (is := [0, 1]) rfl rfl) (y_load (k := 1)  one3 rfl rfl rfl) ?_
    refine h_only (l' := #[true, true, true, true, true, true, true, true, true, false, false, false, false]) 4 rfl (by kernel_rfl) rfl ?_
    refine l_callU rfl ent61 rfl (fun w hm => cmpInt_c w) ?_
    refine l_nil ?_
    refine q_step (fun _ => hs_pick (is := [0, 1]) rfl rfl) ?_
    refine h_only (l' := #[true, true, true, true, true, true, true, true, true, true, false, false, false]) 9 rfl (by kernel_rfl) rfl ?_
    refine l_callU rfl ent61 rfl (fun w hm => cmpInt_c w) ?_
    refine l_nil ?_
    refine q_step (fun _ => hs_pick (is := [0, 1]) rfl rfl) ?_
    refine h_only (l' := #[true, true, true, true, true, true, true, true, true, true, true, false, false]) 10 rfl (by kernel_rfl) rfl ?_
    refine l_bslice (cl := [_, _]) rfl elem51 ap3 zero3 rfl rfl rfl rfl rfl rfl rfl ?_; intro g34
    refine l_nil ?_
    refine q_step (fun _ => hs_pick (is := [1, 2]) rfl rfl) ?_
    refine h_only (l' := #[true, true, true, true, true, true, true, true, true, true, true, true, false]) 11 rfl (by kernel_rfl) rfl ?_
    refine l_callU rfl ent60 rfl (fun w hm => orInt_c (l := [cmpF u.used v.used, cmpF u.no v.no]) w (sl_of_blk hm (k := 0) rfl rfl (fun _ => rfl)) (by simp)) ?_
    refine l_nil ?_
    refine q_step (fun _ => hs_pick (is := [1, 2]) rfl rfl) ?_
    refine h_take (l' := #[true, true, true, true, true, true, true, true, true, true, true, true, true]) 12 rfl (by kernel_rfl) rfl rfl (np_then np_post) (hs_pick (is := [1, 2]) rfl rfl) (y_assign rfl) ?_
    refine h_done (by kernel_rfl) ?_
    refine q_then ?_
    refine c_ret ?_
    exact q_ret1 Tryz.results73 rfl () trivial (congrArg (Value.int .i64) (by unfold useF; rw [eu, ev])) hs_nil

theorem ent70 : enters Tryz.prog 70 = true := by kernel_rfl


theorem cloneCk_c {l : List Ck} {A : Option Addr} {k : Nat} (w : World) (hA : Sl Ck.cells 13 w A l) (hlen : l.length ≤ 1073741824) (hk0 : A = none → k = 0) : Ct Tryz.prog 57 #[.slice A l.length k] w (fun x : Option Addr × Nat => .slice x.1 l.length x.2) (fun x => [.row (.slice x.1 l.length x.2) 26 13 l.length (l.flatMap Ck.cells)]) (fun _ => True) := by
  refine enter (E := [(0, .slice A l.length k)]) Tryz.func57 rfl Tryz.ntmps57 rfl (by simp) ?_
  refine c_nilrow 26 13 ?_
  refine c_seq ?_
  refine c_region rfl ?_
  refine gv rfl (y_assign rfl) ?_
  refine l_nil ?_
  refine q_then ?_
  refine c_seq ?_
  refine c_seq ?_
  refine c_region rfl ?_
  refine gv rfl (y_move rfl) ?_
  refine gv rfl (y_snil elem22 rfl rfl) ?_
  refine l_nil ?_
  refine q_then ?_
  refine c_bool rfl ?_ ?_
  · intro h4
    refine c_seq ?_
    refine c_region rfl ?_
    refine gv rfl (y_assign rfl) ?_
    refine l_nil ?_
    refine q_then ?_
    refine c_ret ?_
    refine q_then_ret ?_
    obtain rfl : A = none := by simpa using h4
    have el : l = [] := by
      cases l with
      | nil => rfl
      | cons a l => obtain ⟨ad, h, _⟩ := hA 0 a rfl; cases h
    subst el
    exact q_ret1 Tryz.results57 rfl (none, 0) trivial (by have hk := hk0 rfl; subst hk; rfl) (hs_pick (is := [0]) rfl rfl)
  · intro h4
    obtain ⟨ad, rfl⟩ : ∃ ad, A = some ad := by cases A with
      | none => simp at h4
      | some ad => exact ⟨ad, rfl⟩
    refine c_skip ?_
    refine q_then ?_
    refine c_seq ?_
    refine c_region rfl ?_
    refine l_bslice0 13 rfl elem22 size26 ?_; intro g5
    refine gv rfl (y_move rfl) ?_
    refine l_append_old (k := 0) (zs := l.flatMap Ck.cells) rfl elem22 ap26 hA (fun _ => rfl) rfl rfl rfl (fun _ => rfl) (by omega) (by omega) (by simp) ?_; intro A7 c7
    refine gv rfl (y_assign rfl) ?_
    refine l_nil ?_
    refine q_then ?_
    refine c_ret ?_
    exact q_ret1 Tryz.results57 rfl (A7, c7) trivial (by rw [Nat.zero_add]) (by rw [Nat.zero_add]; exact hs_pick (is := [0]) rfl rfl)


theorem delCk_m {l : List Ck} {A : Option Addr} {k : Nat} {fv : Value} {p : Ck → Bool} {F : List Res} (w : World) (hlen : l.length ≤ 1073741824) (Fp : ∀ x ∈ l, FnH Tryz.prog w F fv [.agg x.arr] (.bool (p x))) : Cm Tryz.prog 68 #[.slice A l.length k, fv] w (.row (.slice A l.length k) 26 13 l.length (l.flatMap Ck.cells) :: F) (fun x : Option Addr × Nat => .slice x.1 (l.filter (fun v => !p v)).length x.2) (fun x => .row (.slice x.1 (l.filter (fun v => !p v)).length x.2) 26 13 (l.filter (fun v => !p v)).length ((l.filter (fun v => !p v)).flatMap Ck.cells) :: F) (fun _ => True) := by
  refine enterM (E := [(0, .slice A l.length k), (1, fv)]) Tryz.func68 rfl Tryz.ntmps68 rfl (by simp) ?_
  refine c_seq ?_
  refine c_region rfl ?_
  refine gv rfl (y_assign rfl) ?_
  refine l_nil ?_
  refine q_then ?_
  refine c_seq ?_
  refine c_region rfl ?_
  refine gv rfl (y_move rfl) ?_
  refine gv rfl (y_move rfl) ?_
  refine l_callU rfl ent70 rfl (fun w hm => idxFn_ck_c (p := p) w (sl_of_row hm (k := 0) rfl (fun _ => rfl) rfl) (Nat.le_trans hlen (by decide)) (fun x hx => (Fp x hx).fnV (hs_tail (A := [_]) _ _ hm))) ?_
  refine gv rfl (y_assign rfl) ?_
  refine l_nil ?_
  refine q_then ?_
  refine c_seq ?_
  refine c_seq ?_
  refine c_region rfl ?_
  refine gv rfl (y_move rfl) ?_
  refine gv rfl (y_eql rfl rfl) ?_
  refine l_nil ?_
  refine q_then ?_
  refine c_dec rfl ?_ ?_
  · intro h12
    refine c_seq ?_
    refine c_region rfl ?_
    refine gv rfl (y_move rfl) ?_
    refine gv rfl (y_assign rfl) ?_
    refine l_nil ?_
    refine q_then ?_
    refine c_ret ?_
    refine q_then_ret ?_
    have e9 := delF_none h12
    exact q_ret1 Tryz.results68 rfl (A, k) trivial (by rw [e9]) (by rw [e9]; exact hs_app (B := [_]) (is := [0]) rfl rfl)
  · intro h12
    obtain ⟨i0, e0, hi0, D0⟩ := DelF.start h12
    rw [e0]
    refine c_skip ?_
    refine q_then ?_
    refine c_seq ?_
    refine c_seq ?_
    refine c_region rfl ?_
    refine gv rfl (y_move rfl) ?_
    refine gv rfl (y_add rfl rfl (wrap_in (by omega) (by omega))) ?_
    refine gv rfl (y_assign rfl) ?_
    refine l_nil ?_
    refine q_then ?_
    refine c_block ?_
    refine c_rowopen (k := 0) rfl (flat_ne Ck.len13 (by decide) hi0) ?_
    intro g0 R0 hAe hx1 hx2 hnc hcm
    subst hAe
    refine loop (Ef := [(0, _), (1, _)]) (Hf := [] ++ F) (fun x : Nat × Nat × List Ck => DelF p l x.1 x.2.1 x.2.2 ∧ x.2.1 < x.1) (fun x : Nat × Nat × List Ck => [(6, .int .i64 (x.1 : Int)), (5, .int .i64 (x.2.1 : Int))]) (fun x : Nat × Nat × List Ck => [.blk g0 (.cells (rowF Ck.cells x.2.2 R0) 26 (0, 0))]) (fun x : Nat × Nat × List Ck => l.length - x.1) (i0 + 1, i0, l) ⟨D0, Nat.lt_succ_self _⟩ (sub_cons rfl (sub_cons rfl sub_nil)) (sub_cons rfl (sub_cons rfl sub_nil)) (hs_app (A := [_]) (B := [_]) (is := [0]) rfl rfl) ?_
    rintro ⟨j, i, m⟩ ⟨D, hij⟩
    dsimp only at D hij ⊢
    refine c_sub (E' := [(6, _), (5, _), (0, _), (1, _)]) (sub_cons rfl (sub_cons rfl (sub_cons rfl (sub_cons rfl sub_nil)))) ?_
    refine c_seq ?_
    refine c_seq ?_
    refine c_region rfl ?_
    refine gv rfl (y_move rfl) ?_
    refine gv rfl (y_move rfl) ?_
    refine gv rfl (y_len elem22 rfl) ?_
    refine gv rfl (y_lss rfl rfl) ?_
    refine l_nil ?_
    refine q_then ?_
    refine c_dec rfl ?_ ?_
    · intro h19
      have hlt : j < l.length := by omega
      obtain ⟨v, hv⟩ := get_lt hlt
      refine c_skip ?_
      refine q_then ?_
      refine c_seq ?_
      refine c_block ?_
      refine c_seq ?_
      refine c_region rfl ?_
      refine gv rfl (y_move rfl) ?_
      refine gv rfl (y_move rfl) ?_
      refine gv rfl (y_iaddr_own (r := (j * 13)) elem22 size26 rfl rfl (by omega) (by omega) (by simp)) ?_
      refine gv rfl (y_loadA (k := 0) (vs := v.cells) agg26 rfl rfl rfl (by exact rowF_get Ck.len13 (D.at hv))) ?_
      refine l_allocA rfl zero26 ?_; intro g7
      refine l_storeW (k := 0) (H' := _ :: _ :: F) size26 rfl rfl rfl rfl rfl rfl rfl ?_
      refine l_nil ?_
      refine q_then ?_
      refine c_seq ?_
      refine c_region rfl ?_
      refine gv rfl (y_move rfl) ?_
      refine gv rfl (y_loadW (k := 0)  agg26 rfl rfl rfl) ?_
      refine l_callH rfl rfl rfl (hs_tail (A := [_, _])) (Fp v (List.mem_of_getElem? hv)) ?_
      refine gv rfl (y_not rfl rfl) ?_
      refine l_nil ?_
      refine q_then ?_
      refine c_bool rfl ?_ ?_
      · intro h29
        refine c_seq ?_
        refine c_region rfl ?_
        refine gv rfl (y_move rfl) ?_
        refine gv rfl (y_move rfl) ?_
        refine gv rfl (y_loadW (k := 0)  agg26 rfl rfl rfl) ?_
        refine gv rfl (y_iaddr_own (r := (i * 13)) elem22 size26 rfl rfl (by omega) (by omega) (by simp)) ?_
        refine l_storeA (k := 1) (cs' := rowF Ck.cells (m.set i v) R0) (H' := _ :: _ :: F) size26 rfl rfl rfl rfl rfl (by have h2 := D.len; rw [rowF_len Ck.len13]; omega) (rowF_set Ck.len13 (by rw [D.len]; omega)) rfl ?_
        refine l_nil ?_
        refine q_then ?_
        refine c_region rfl ?_
        refine gv rfl (y_move rfl) ?_
        refine gv rfl (y_add rfl rfl (wrap_in (by omega) (by omega))) ?_
        refine gv rfl (y_assign rfl) ?_
        refine l_nil ?_
        refine q_block (q_then ?_)
        refine c_region rfl ?_
        refine gv rfl (y_move rfl) ?_
        refine gv rfl (y_add rfl rfl (wrap_in (by omega) (by omega))) ?_
        refine gv rfl (y_assign rfl) ?_
        refine l_nil ?_
        exact again (j + 1, i + 1, m.set i v) ⟨D.keep hv (by simpa using h29), Nat.succ_lt_succ hij⟩ (by omega) (sub_cons rfl (sub_cons rfl sub_nil)) (sub_cons rfl (sub_cons rfl sub_nil)) (hs_app (A := [_]) (B := [_, _]) (is := [1]) rfl rfl)
      · intro h29
        refine c_skip ?_
        refine q_block (q_then ?_)
        refine c_region rfl ?_
        refine gv rfl (y_move rfl) ?_
        refine gv rfl (y_add rfl rfl (wrap_in (by omega) (by omega))) ?_
        refine gv rfl (y_assign rfl) ?_
        refine l_nil ?_
        exact again (j + 1, i, m) ⟨D.drop hv (by simpa using h29), Nat.lt_succ_of_lt hij⟩ (by omega) (sub_cons rfl (sub_cons rfl sub_nil)) (sub_cons rfl (sub_cons rfl sub_nil)) (hs_app (A := [_]) (B := [_, _]) (is := [1]) rfl rfl)
    · intro h19
      have hj : j = l.length := by have := D.jn; omega
      subst hj
      have hDl := D.len
      refine c_exit ?_
      refine q_then_exit (q_loop_exit (q_block_exit (q_then ?_)))
      refine c_seq ?_
      refine c_region rfl ?_
      refine gv rfl (y_move rfl) ?_
      refine gv rfl (y_move rfl) ?_
      refine gv rfl (y_slfrom elem22 size26 rfl rfl (by omega) (by omega) hnc (by omega)) ?_
      refine l_clear0 (k := 0) (sz := 13) (H' := _ :: F) elem22 zero26 rfl rfl rfl (by simp; omega) rfl (by rw [rowF_len Ck.len13, D.len]; simp; omega) rfl rfl ?_
      refine l_nil ?_
      refine q_then ?_
      refine c_seq ?_
      refine c_rowclose (k := 0) (n := i) (c := k) (sz := 13) (xs := (l.filter (fun v => !p v)).flatMap Ck.cells) rfl ((sweep_size (sz := 13) Ck.len13 (by rw [D.len]; omega) (zero_len _ _)).trans (by rw [D.len]; omega)) (by omega) hcm (by rw [← D.end_]; exact sweep_take Ck.len13 (by rw [D.len]; omega)) ?_
      refine c_region rfl ?_
      refine gv rfl (y_move rfl) ?_
      refine gv rfl (y_move rfl) ?_
      refine gv rfl (y_slto elem22 size26 rfl rfl (by omega) (by omega)) ?_
      refine gv rfl (y_assign rfl) ?_
      refine l_nil ?_
      refine q_then ?_
      refine c_ret ?_
      have e9 : (l.filter (fun v => !p v)).length = i := by rw [← D.end_]; simp [D.len]; omega
      exact q_ret1 Tryz.results68 rfl (some ⟨g0, 0, none⟩, k) trivial (by rw [e9]; rfl) (by rw [e9]; exact hs_app (B := [_]) (is := [0]) rfl rfl)


theorem delete_m {l : List Ck} {A : Option Addr} {k : Nat} {i : Int} {F : List Res} (w : World) (hlen : l.length ≤ 1073741824) (hi : 0 ≤ i ∧ i < l.length) : Cm Tryz.prog 74 #[.slice A l.length k, .int .i64 i, .int .i64 (i + 1)] w (.row (.slice A l.length k) 26 13 l.length (l.flatMap Ck.cells) :: F) (fun x : Option Addr × Nat => .slice x.1 (l.eraseIdx i.toNat).length x.2) (fun x => .row (.slice x.1 (l.eraseIdx i.toNat).length x.2) 26 13 (l.eraseIdx i.toNat).length ((l.eraseIdx i.toNat).flatMap Ck.cells) :: F) (fun _ => True) := by
  refine enterM (E := [(0, .slice A l.length k), (1, .int .i64 i), (2, .int .i64 (i + 1))]) Tryz.func74 rfl Tryz.ntmps74 rfl (by simp) ?_
  have hel : (l.eraseIdx i.toNat).length = l.length - 1 := List.length_eraseIdx_of_lt (by omega)
  have hee : l.eraseIdx i.toNat = l.take i.toNat ++ l.drop (i.toNat + 1) := List.eraseIdx_eq_take_drop_succ ..
  have hi1 : (i + 1).toNat = i.toNat + 1 := by omega
  refine c_rowopen (k := 0) rfl (flat_ne Ck.len13 (by decide) (i := i.toNat) (by omega)) ?_
  intro g0 R0 hAe hx1 hx2 hnc hcm
  subst hAe
  refine c_seq ?_
  refine c_region rfl ?_
  refine gv rfl (y_assign rfl) ?_
  refine l_nil ?_
  refine q_then ?_
  refine c_seq ?_
  refine c_region rfl ?_
  refine gv rfl (y_move rfl) ?_
  refine gv rfl (y_move rfl) ?_
  refine gv rfl (y_move rfl) ?_
  refine gv rfl (y_move rfl) ?_
  refine gv rfl (y_len elem22 rfl) ?_
  refine gve rfl (y_sl3 elem22 size26 rfl rfl rfl rfl (by omega) (by omega) (by omega) (by omega)) ?_; rintro v13 _
  refine l_nil ?_
  refine q_then ?_
  refine c_seq ?_
  refine c_seq ?_
  refine c_region rfl ?_
  refine gv rfl (y_move rfl) ?_
  refine gv rfl (y_move rfl) ?_
  refine gv rfl (y_eql rfl rfl) ?_
  refine l_nil ?_
  refine q_then ?_
  refine c_dec rfl ?_ ?_
  · intro h16
    exact absurd h16 (by omega)
  · intro h16
    refine c_skip ?_
    refine q_then ?_
    refine c_seq ?_
    refine c_region rfl ?_
    refine gv rfl (y_move rfl) ?_
    refine gv rfl (y_len elem22 rfl) ?_
    refine gv rfl (y_assign rfl) ?_
    refine l_nil ?_
    refine q_then ?_
    refine c_seq ?_
    refine c_drawp (l := #[false, false, false, false, false, false, false, false]) 7 (is := []) rfl rfl rfl rfl ?_
    refine h_take (l' := #[true, false, false, false, false, false, false, false]) 0 rfl (by kernel_rfl) rfl rfl (np_then np_post) (hs_pick (is := []) rfl rfl) (y_move rfl) ?_
    refine h_take (l' := #[true, true, false, false, false, false, false, false]) 1 rfl (by kernel_rfl) rfl rfl (np_then np_post) (hs_pick (is := []) rfl rfl) (y_move rfl) ?_
    refine h_take (l' := #[true, true, true, false, false, false, false, false]) 2 rfl (by kernel_rfl) rfl rfl (np_then np_post) (hs_pick (is := []) rfl rfl) (y_slto elem22 size26 rfl rfl (by omega) (by omega)) ?_
    refine h_take (l' := #[true, true, true, true, false, false, false, false]) 3 rfl (by kernel_rfl) rfl rfl (np_then np_post) (hs_pick (is := []) rfl rfl) (y_move rfl) ?_
    refine h_take (l' := #[true, true, true, true, true, false, false, false]) 4 rfl (by kernel_rfl) rfl rfl (np_then np_post) (hs_pick (is := []) rfl rfl) (y_move rfl) ?_
    refine h_take (l' := #[true, true, true, true, true, true, false, false]) 5 rfl (by kernel_rfl) rfl rfl (np_then np_post) (hs_pick (is := []) rfl rfl) (y_slfromX elem22 size26 rfl rfl (by omega) (by omega) hnc) ?_
    refine h_only (l' := #[true, true, true, true, true, true, true, false]) 6 rfl (by kernel_rfl) rfl ?_
    refine l_append_in (k := 0) (news := ((l.drop (i.toNat + 1)).flatMap Ck.cells)) (cs' := (rowF Ck.cells (l.take i.toNat ++ l.drop (i.toNat + 1) ++ l.drop (l.length - 1)) R0)) (H' := _ :: F) rfl elem22 ap26 rfl rfl rfl (by rw [hi1]; exact del_news Ck.len13 hnc) (by rw [flat_len Ck.len13, List.length_drop, hi1]) (flat_one Ck.one _) (by omega) (by rw [flat_len Ck.len13, List.length_drop, List.size_toArray, List.length_append, flat_len Ck.len13]; omega) (by exact del_cells Ck.len13 (by omega)) rfl ?_
    refine l_nil ?_
    refine q_step (fun _ => hs_pick (is := []) rfl rfl) ?_
    refine h_only (l' := #[true, true, true, true, true, true, true, true]) 7 rfl (by kernel_rfl) rfl ?_
    refine gv rfl (y_assign rfl) ?_
    refine l_nil ?_
    refine q_step (fun h => by cases h) ?_
    refine h_done (by kernel_rfl) ?_
    refine q_then ?_
    refine c_seq ?_
    have hlm : (l.take i.toNat ++ l.drop (i.toNat + 1) ++ l.drop (l.length - 1)).length = l.length := by simp; omega
    refine c_region rfl ?_
    refine gv rfl (y_move rfl) ?_
    refine gv rfl (y_move rfl) ?_
    refine gv rfl (y_len elem22 rfl) ?_
    refine gv rfl (y_move rfl) ?_
    refine gv rfl (y_slft elem22 size26 rfl rfl rfl (by omega) (by omega) (by omega) (by omega)) ?_
    refine l_clear0 (k := 0) (sz := 13) (H' := _ :: F) elem22 zero26 rfl rfl rfl (by omega) rfl (by rw [rowF_len Ck.len13, hlm]; simp; omega) rfl rfl ?_
    refine l_nil ?_
    refine q_then ?_
    refine c_seq ?_
    refine c_rowclose (k := 0) (n := (l.eraseIdx i.toNat).length) (c := k) (sz := 13) (xs := (l.eraseIdx i.toNat).flatMap Ck.cells) rfl ((sweep_size (sz := 13) Ck.len13 (by rw [hlm]; omega) (zero_len _ _)).trans (by rw [hlm]; omega)) (by omega) hcm ?_ ?_
    · have ez : (↑(i.toNat + (l.length - (i + 1).toNat)) : Int).toNat = (l.eraseIdx i.toNat).length := by omega
      rw [ez]
      refine (sweep_take Ck.len13 (by rw [hlm]; omega)).trans ?_
      rw [hee, List.take_append_of_le_length (by simp), List.take_of_length_le (by simp)]
    refine c_region rfl ?_
    refine gv rfl (y_move rfl) ?_
    refine gv rfl (y_assign rfl) ?_
    refine l_nil ?_
    refine q_then ?_
    refine c_ret ?_
    exact q_ret1 Tryz.results74 rfl (some ⟨g0, 0, none⟩, k) trivial (by congr 1; omega) (by exact hs_app (B := [_]) (is := [0]) rfl rfl)

theorem ent57 : enters Tryz.prog 57 = true := by kernel_rfl

theorem zero66 : zeroOf Tryz.prog 66 = some (.agg #[.slice none 0 0, .int .i64 0, .int .i64 0]) := by kernel_rfl

theorem bld66 : bldT Tryz.prog 66 = some [(0, 2), (2, 1)] := by kernel_rfl

theorem ent68 : enters Tryz.prog 68 = true := by kernel_rfl

theorem ent69 : enters Tryz.prog 69 = true := by kernel_rfl

theorem ent71 : enters Tryz.prog 71 = true := by kernel_rfl


theorem own_c {j : Ja} {now : Int} {A0 : Option Addr} {k0 : Nat} (w : World) (hJ : Sl Ck.cells 13 w A0 j.cks) (hlen : j.cks.length ≤ 1073741824) (hk0 : A0 = none → k0 = 0) : Ct Tryz.prog 32 #[.agg (j.arr A0 k0), .int .i64 now] w (fun x : Nat × Option Addr × Nat => .pointer (some ⟨x.1, 0, none⟩)) (fun x => [.blk x.1 (.cells #[.slice x.2.1 j.cks.length x.2.2, .int .i64 j.next, .int .i64 now] 66 (0, 0)), .row (.slice x.2.1 j.cks.length x.2.2) 26 13 j.cks.length (j.cks.flatMap Ck.cells)]) (fun _ => True) := by
  refine enter (E := [(0, .agg (j.arr A0 k0)), (1, .int .i64 now)]) Tryz.func32 rfl Tryz.ntmps32 rfl (by simp) ?_
  refine c_seq ?_
  refine c_region rfl ?_
  refine l_boxA rfl rfl ?_; intro g2
  refine gv rfl (y_assign rfl) ?_
  refine l_nil ?_
  refine q_then ?_
  refine c_seq ?_
  refine c_drawp (l := #[false, false, false, false, false, false, false, false, false, false]) 10 (is := [0]) rfl rfl rfl rfl ?_
  refine h_take (l' := #[true, false, false, false, false, false, false, false, false, false]) 0 rfl (by kernel_rfl) rfl rfl (np_then np_post) (hs_pick (is := [0]) rfl rfl) (y_faddr off24_0 rfl rfl) ?_
  refine h_take (l' := #[true, true, false, false, false, false, false, false, false, false]) 1 rfl (by kernel_rfl) rfl rfl (np_then np_post) (hs_pick (is := [0]) rfl rfl) (y_load (k := 0)  one22 rfl rfl rfl) ?_
  refine h_take (l' := #[true, true, false, true, false, false, false, false, false, false]) 3 rfl (by kernel_rfl) rfl rfl (np_then np_post) (hs_pick (is := [0]) rfl rfl) (y_faddr off24_1 rfl rfl) ?_
  refine h_take (l' := #[true, true, false, true, true, false, false, false, false, false]) 4 rfl (by kernel_rfl) rfl rfl (np_then np_post) (hs_pick (is := [0]) rfl rfl) (y_load (k := 0)  one3 rfl rfl rfl) ?_
  refine h_take (l' := #[true, true, false, true, true, false, true, false, false, false]) 6 rfl (by kernel_rfl) rfl rfl (np_then np_post) (hs_pick (is := [0]) rfl rfl) (y_move rfl) ?_
  refine h_only (l' := #[true, true, true, true, true, false, true, false, false, false]) 2 rfl (by kernel_rfl) rfl ?_
  refine l_call rfl ent57 rfl (fun w hm => cloneCk_c w (hJ.below hm.below) hlen hk0) ?_; rintro x7 h7
  refine l_nil ?_
  refine q_step (fun _ => hs_pick (is := [1]) rfl rfl) ?_
  refine h_take (l' := #[true, true, true, true, true, true, true, false, false, false]) 5 rfl (by kernel_rfl) rfl rfl (np_then np_post) (hs_pick (is := [1]) rfl rfl) (y_build (cs := #[_, _]) (cl := [_, _])  zero24 bld24 rfl rfl rfl rfl rfl) ?_
  refine h_take (l' := #[true, true, true, true, true, true, true, true, false, false]) 7 rfl (by kernel_rfl) rfl rfl (np_then np_post) (hs_pick (is := [1]) rfl rfl) (y_build (cs := #[_, _, _]) (cl := [_, _, _])  zero66 bld66 rfl rfl rfl rfl rfl) ?_
  refine h_only (l' := #[true, true, true, true, true, true, true, true, true, false]) 8 rfl (by kernel_rfl) rfl ?_
  refine l_boxA rfl rfl ?_; intro g13
  refine l_nil ?_
  refine q_step (fun _ => hs_pick (is := [2]) rfl rfl) ?_
  refine h_take (l' := #[true, true, true, true, true, true, true, true, true, true]) 9 rfl (by kernel_rfl) rfl rfl (np_then np_post) (hs_pick (is := [2]) rfl rfl) (y_assign rfl) ?_
  refine h_done (by kernel_rfl) ?_
  refine q_then ?_
  refine c_ret ?_
  exact q_ret1 Tryz.results32 rfl (g13, x7) trivial rfl (hs_pick (is := [0, 1]) rfl rfl)


theorem expire_m {l : List Ck} {next now : Int} {go k : Nat} {A : Option Addr} {F : List Res} (w : World) (hlen : l.length ≤ 1073741824) : Cm Tryz.prog 33 #[.pointer (some ⟨go, 0, none⟩)] w (.blk go (.cells #[.slice A l.length k, .int .i64 next, .int .i64 now] 66 (0, 0)) :: .row (.slice A l.length k) 26 13 l.length (l.flatMap Ck.cells) :: F) (fun x : Option Addr × Nat => .tuple #[]) (fun x => .blk go (.cells #[.slice x.1 (liveL now l).length x.2, .int .i64 next, .int .i64 now] 66 (0, 0)) :: .row (.slice x.1 (liveL now l).length x.2) 26 13 (liveL now l).length ((liveL now l).flatMap Ck.cells) :: F) (fun _ => True) := by
  refine enterM (E := [(0, .pointer (some ⟨go, 0, none⟩))]) Tryz.func33 rfl Tryz.ntmps33 rfl (by simp) ?_
  refine c_seq ?_
  refine c_region rfl ?_
  refine l_box1 rfl rfl rfl ?_; intro g1
  refine l_nil ?_
  refine q_then ?_
  refine c_drawp (l := #[false, false, false, false, false, false, false, false, false, false, false, false]) 8 (is := [0, 1]) rfl rfl rfl rfl ?_
  refine h_take (l' := #[true, false, false, false, false, false, false, false, false, false, false, false]) 0 rfl (by kernel_rfl) rfl rfl np_post (hs_pick (is := [0, 1]) rfl rfl) (y_load (k := 0)  one61 rfl rfl rfl) ?_
  refine h_take (l' := #[true, true, false, false, false, false, false, false, false, false, false, false]) 1 rfl (by kernel_rfl) rfl rfl np_post (hs_pick (is := [0, 1]) rfl rfl) (y_load (k := 0)  one61 rfl rfl rfl) ?_
  refine h_take (l' := #[true, true, true, false, false, false, false, false, false, false, false, false]) 2 rfl (by kernel_rfl) rfl rfl np_post (hs_pick (is := [0, 1]) rfl rfl) (y_nilCheck rfl) ?_
  refine h_take (l' := #[true, true, true, true, false, false, false, false, false, false, false, false]) 3 rfl (by kernel_rfl) rfl rfl np_post (hs_pick (is := [0, 1]) rfl rfl) (y_faddr off66_0 rfl rfl) ?_
  refine h_take (l' := #[true, true, true, true, true, false, false, false, false, false, false, false]) 4 rfl (by kernel_rfl) rfl rfl np_post (hs_pick (is := [0, 1]) rfl rfl) (y_faddr off24_0 rfl rfl) ?_
  refine h_take (l' := #[true, true, true, true, true, true, false, false, false, false, false, false]) 5 rfl (by kernel_rfl) rfl rfl np_post (hs_pick (is := [0, 1]) rfl rfl) (y_load (k := 1)  one22 rfl rfl rfl) ?_
  refine h_take (l' := #[true, true, true, true, true, true, true, false, false, false, false, false]) 6 rfl (by kernel_rfl) rfl rfl np_post (hs_pick (is := [0, 1]) rfl rfl) (y_mkfn rfl) ?_
  refine h_only (l' := #[true, true, true, true, true, true, true, true, false, false, false, false]) 7 rfl (by kernel_rfl) rfl ?_
  refine l_hs (hs_app (A := [_, _, _]) (B := [_, _, _]) (is := [2, 0, 1]) rfl rfl) ?_
  refine l_callM (fs := []) rfl ent68 rfl rfl (delCk_m (l := l) (p := fun x => !decide (x.expiry > now)) _ hlen (fun x hx => FnH.mk (fs := []) (cs := [_]) ent69 (fun w1 hm1 => expire1_c w1 (el_of_blk hm1 (k := 0) rfl) (el_of_blk hm1 (k := 1) rfl)))) ?_; rintro ⟨A9, c9⟩ _
  refine l_nil ?_
  refine q_step (fun _ => hs_pick (is := [1, 2]) rfl rfl) ?_
  refine h_only (l' := #[true, true, true, true, true, true, true, true, true, false, false, false]) 8 rfl (by kernel_rfl) rfl ?_
  refine gv rfl (y_nilCheck rfl) ?_
  refine l_nil ?_
  refine q_step (fun h => by cases h) ?_
  refine h_only (l' := #[true, true, true, true, true, true, true, true, true, true, false, false]) 9 rfl (by kernel_rfl) rfl ?_
  refine gv rfl (y_faddr off66_0 rfl rfl) ?_
  refine l_nil ?_
  refine q_step (fun h => by cases h) ?_
  refine h_only (l' := #[true, true, true, true, true, true, true, true, true, true, true, false]) 10 rfl (by kernel_rfl) rfl ?_
  refine gv rfl (y_faddr off24_0 rfl rfl) ?_
  refine l_nil ?_
  refine q_step (fun h => by cases h) ?_
  refine h_only (l' := #[true, true, true, true, true, true, true, true, true, true, true, true]) 11 rfl (by kernel_rfl) rfl ?_
  refine l_store (k := 2) (cs' := #[_, _, _]) (H' := _ :: _ :: _ :: F) size22 rfl rfl rfl rfl rfl rfl rfl ?_
  refine l_nil ?_
  refine q_step (fun h => by cases h) ?_
  refine h_done (by kernel_rfl) ?_
  exact q_ret0 (.inr rfl) rfl (A9, c9) trivial rfl (by skip; exact hs_app (B := [_, _, _]) (is := [2, 0]) rfl rfl)


theorem rowF_all {α : Type} {f : α → List Value} {sz n : Nat} (hf : ∀ x, (f x).length = sz) {l : List α} {R : List Value} (h : n = l.length) : (rowF f l R).toList.take (n * sz) = l.flatMap f := by
  subst h; rw [rowF_take hf (Nat.le_refl _), List.take_length]

theorem lay_m {c : Ck} {l : List Ck} {next now : Int} {go k : Nat} {A : Option Addr} {F : List Res} (w : World) (hlen : l.length ≤ 1073741823) (hnx : 0 ≤ next ∧ next ≤ 1099511627776) : Cm Tryz.prog 34 #[.pointer (some ⟨go, 0, none⟩), .agg c.arr] w (.blk go (.cells #[.slice A l.length k, .int .i64 next, .int .i64 now] 66 (0, 0)) :: .row (.slice A l.length k) 26 13 l.length (l.flatMap Ck.cells) :: F) (fun x : Option Addr × Nat => .tuple #[]) (fun x => .blk go (.cells #[.slice x.1 (layL l next c).length x.2, .int .i64 (layN l next c), .int .i64 now] 66 (0, 0)) :: .row (.slice x.1 (layL l next c).length x.2) 26 13 (layL l next c).length ((layL l next c).flatMap Ck.cells) :: F) (fun _ => True) := by
  refine enterM (E := [(0, .pointer (some ⟨go, 0, none⟩)), (1, .agg c.arr)]) Tryz.func34 rfl Tryz.ntmps34 rfl (by simp) ?_
  refine c_seq ?_
  refine c_region rfl ?_
  refine l_boxA rfl rfl ?_; intro g3
  refine l_nil ?_
  refine q_then ?_
  refine c_seq ?_
  refine c_region rfl ?_
  refine gv rfl (y_move rfl) ?_
  refine gv rfl (y_nilCheck rfl) ?_
  refine gv rfl (y_faddr off66_0 rfl rfl) ?_
  refine gv rfl (y_faddr off24_0 rfl rfl) ?_
  refine gv rfl (y_load (k := 1)  one22 rfl rfl rfl) ?_
  refine gv rfl (y_mkfn rfl) ?_
  refine l_callU rfl ent70 rfl (fun w hm => idxFn_ck_c (p := fun x => keyEq x c) w (sl_of_row hm (k := 2) rfl (fun _ => rfl) rfl) (Nat.le_trans hlen (by decide)) (fun x hx => FnV.mk (fs := []) (cs := [_]) ent71 (fun w1 hb => lay1_c w1 ((el_of_blk hm (k := 0) rfl).below hb)))) ?_
  refine gv rfl (y_assign rfl) ?_
  refine l_nil ?_
  refine q_then ?_
  refine c_seq ?_
  refine c_seq ?_
  refine c_region rfl ?_
  refine gv rfl (y_move rfl) ?_
  refine gv rfl (y_geq rfl rfl) ?_
  refine l_nil ?_
  refine q_then ?_
  refine c_dec rfl ?_ ?_
  · intro h13
    obtain ⟨i0, e0, hi0⟩ := fidx_pos h13
    obtain ⟨v, hv⟩ := get_lt hi0
    have e1 : (fidx (fun x => keyEq x c) l).toNat = i0 := by omega
    have hv2 : l[(fidx (fun x => keyEq x c) l).toNat]? = some v := by rw [e1]; exact hv
    refine c_seq ?_
    refine c_drawp (l := #[false, false, false, false, false, false, false, false, false, false, false, false, false, false, false, false, false, false, false, false, false, false]) 22 (is := [1, 2]) rfl rfl rfl rfl ?_
    refine h_take (l' := #[true, false, false, false, false, false, false, false, false, false, false, false, false, false, false, false, false, false, false, false, false, false]) 0 rfl (by kernel_rfl) rfl rfl (np_then (np_then np_post)) (hs_pick (is := [1, 2]) rfl rfl) (y_move rfl) ?_
    refine h_take (l' := #[true, true, false, false, false, false, false, false, false, false, false, false, false, false, false, false, false, false, false, false, false, false]) 1 rfl (by kernel_rfl) rfl rfl (np_then (np_then np_post)) (hs_pick (is := [1, 2]) rfl rfl) (y_nilCheck rfl) ?_
    refine h_take (l' := #[true, true, true, false, false, false, false, false, false, false, false, false, false, false, false, false, false, false, false, false, false, false]) 2 rfl (by kernel_rfl) rfl rfl (np_then (np_then np_post)) (hs_pick (is := [1, 2]) rfl rfl) (y_faddr off66_0 rfl rfl) ?_
    refine h_take (l' := #[true, true, true, true, false, false, false, false, false, false, false, false, false, false, false, false, false, false, false, false, false, false]) 3 rfl (by kernel_rfl) rfl rfl (np_then (np_then np_post)) (hs_pick (is := [1, 2]) rfl rfl) (y_faddr off24_0 rfl rfl) ?_
    refine h_take (l' := #[true, true, true, true, true, false, false, false, false, false, false, false, false, false, false, false, false, false, false, false, false, false]) 4 rfl (by kernel_rfl) rfl rfl (np_then (np_then np_post)) (hs_pick (is := [1, 2]) rfl rfl) (y_load (k := 0)  one22 rfl rfl rfl) ?_
    refine h_take (l' := #[true, true, true, true, true, true, false, false, false, false, false, false, false, false, false, false, false, false, false, false, false, false]) 5 rfl (by kernel_rfl) rfl rfl (np_then (np_then np_post)) (hs_pick (is := [1, 2]) rfl rfl) (y_move rfl) ?_
    refine h_take (l' := #[true, true, true, true, true, true, true, false, false, false, false, false, false, false, false, false, false, false, false, false, false, false]) 6 rfl (by kernel_rfl) rfl rfl (np_then (np_then np_post)) (hs_pick (is := [1, 2]) rfl rfl) (y_iaddr_row (k := 1) elem22 size26 rfl (fun _ => rfl) rfl rfl rfl (by omega) hv2) ?_
    refine h_take (l' := #[true, true, true, true, true, true, true, true, false, false, false, false, false, false, false, false, false, false, false, false, false, false]) 7 rfl (by kernel_rfl) rfl rfl (np_then (np_then np_post)) (hs_pick (is := [1, 2]) rfl rfl) (y_faddr_row (k := 1) off26_10 rfl (fun _ => rfl) rfl rfl hv2 rfl) ?_
    refine h_take (l' := #[true, true, true, true, true, true, true, true, true, false, false, false, false, false, false, false, false, false, false, false, false, false]) 8 rfl (by kernel_rfl) rfl rfl (np_then (np_then np_post)) (hs_pick (is := [1, 2]) rfl rfl) (y_load_row (k := 1) one3 rfl (fun _ => rfl) rfl 10 rfl rfl hv2 rfl) ?_
    refine h_take (l' := #[true, true, true, true, true, true, true, true, true, true, false, false, false, false, false, false, false, false, false, false, false, false]) 9 rfl (by kernel_rfl) rfl rfl (np_then (np_then np_post)) (hs_pick (is := [1, 2]) rfl rfl) (y_move rfl) ?_
    refine h_take (l' := #[true, true, true, true, true, true, true, true, true, true, true, false, false, false, false, false, false, false, false, false, false, false]) 10 rfl (by kernel_rfl) rfl rfl (np_then (np_then np_post)) (hs_pick (is := [1, 2]) rfl rfl) (y_nilCheck rfl) ?_
    refine h_take (l' := #[true, true, true, true, true, true, true, true, true, true, true, true, false, false, false, false, false, false, false, false, false, false]) 11 rfl (by kernel_rfl) rfl rfl (np_then (np_then np_post)) (hs_pick (is := [1, 2]) rfl rfl) (y_faddr off66_0 rfl rfl) ?_
    refine h_take (l' := #[true, true, true, true, true, true, true, true, true, true, true, true, true, false, false, false, false, false, false, false, false, false]) 12 rfl (by kernel_rfl) rfl rfl (np_then (np_then np_post)) (hs_pick (is := [1, 2]) rfl rfl) (y_faddr off24_0 rfl rfl) ?_
    refine h_take (l' := #[true, true, true, true, true, true, true, true, true, true, true, true, true, true, false, false, false, false, false, false, false, false]) 13 rfl (by kernel_rfl) rfl rfl (np_then (np_then np_post)) (hs_pick (is := [1, 2]) rfl rfl) (y_load (k := 0)  one22 rfl rfl rfl) ?_
    refine h_take (l' := #[true, true, true, true, true, true, true, true, true, true, true, true, true, true, true, false, false, false, false, false, false, false]) 14 rfl (by kernel_rfl) rfl rfl (np_then (np_then np_post)) (hs_pick (is := [1, 2]) rfl rfl) (y_move rfl) ?_
    refine h_take (l' := #[true, true, true, true, true, true, true, true, true, true, true, true, true, true, true, true, false, false, false, false, false, false]) 15 rfl (by kernel_rfl) rfl rfl (np_then (np_then np_post)) (hs_pick (is := [1, 2]) rfl rfl) (y_iaddr_row (k := 1) elem22 size26 rfl (fun _ => rfl) rfl rfl rfl (by omega) hv2) ?_
    refine h_take (l' := #[true, true, true, true, true, true, true, true, true, true, true, true, true, true, true, true, true, false, false, false, false, false]) 16 rfl (by kernel_rfl) rfl rfl (np_then (np_then np_post)) (hs_pick (is := [1, 2]) rfl rfl) (y_faddr_row (k := 1) off26_12 rfl (fun _ => rfl) rfl rfl hv2 rfl) ?_
    refine h_take (l' := #[true, true, true, true, true, true, true, true, true, true, true, true, true, true, true, true, true, true, false, false, false, false]) 17 rfl (by kernel_rfl) rfl rfl (np_then (np_then np_post)) (hs_pick (is := [1, 2]) rfl rfl) (y_load_row (k := 1) one3 rfl (fun _ => rfl) rfl 12 rfl rfl hv2 rfl) ?_
    refine h_take (l' := #[true, true, true, true, true, true, true, true, true, true, true, true, true, true, true, true, true, true, true, false, false, false]) 18 rfl (by kernel_rfl) rfl rfl (np_then (np_then np_post)) (hs_pick (is := [1, 2]) rfl rfl) (y_faddr off26_10 rfl rfl) ?_
    refine h_only (l' := #[true, true, true, true, true, true, true, true, true, true, true, true, true, true, true, true, true, true, true, true, false, false]) 19 rfl (by kernel_rfl) rfl ?_
    refine l_store (k := 0) (cs' := #[_, _, _, _, _, _, _, _, _, _, _, _, _]) (H' := _ :: _ :: _ :: F) size3 rfl rfl rfl rfl rfl rfl rfl ?_
    refine l_nil ?_
    refine q_step (fun _ => hs_pick (is := [1, 2]) rfl rfl) ?_
    refine h_take (l' := #[true, true, true, true, true, true, true, true, true, true, true, true, true, true, true, true, true, true, true, true, true, false]) 20 rfl (by kernel_rfl) rfl rfl (np_then (np_then np_post)) (hs_pick (is := [1, 2]) rfl rfl) (y_faddr off26_12 rfl rfl) ?_
    refine h_only (l' := #[true, true, true, true, true, true, true, true, true, true, true, true, true, true, true, true, true, true, true, true, true, true]) 21 rfl (by kernel_rfl) rfl ?_
    refine l_store (k := 0) (cs' := #[_, _, _, _, _, _, _, _, _, _, _, _, _]) (H' := _ :: _ :: _ :: F) size3 rfl rfl rfl rfl rfl rfl rfl ?_
    refine l_nil ?_
    refine q_step (fun _ => hs_pick (is := [1, 2]) rfl rfl) ?_
    refine h_done (by kernel_rfl) ?_
    refine q_then ?_
    refine c_seq ?_
    refine c_rowopen (k := 2) rfl (flat_ne Ck.len13 (by decide) hi0) ?_
    intro g0 R0 hAe hx1 hx2 hnc hcm
    subst hAe
    refine c_drawp (l := #[false, false, false, false, false, false, false, false, false]) 8 (is := [0, 1, 2]) rfl rfl rfl rfl ?_
    refine h_take (l' := #[true, false, false, false, false, false, false, false, false]) 0 rfl (by kernel_rfl) rfl rfl (np_then (np_then np_post)) (hs_pick (is := [0, 1, 2]) rfl rfl) (y_move rfl) ?_
    refine h_take (l' := #[true, true, false, false, false, false, false, false, false]) 1 rfl (by kernel_rfl) rfl rfl (np_then (np_then np_post)) (hs_pick (is := [0, 1, 2]) rfl rfl) (y_nilCheck rfl) ?_
    refine h_take (l' := #[true, true, true, false, false, false, false, false, false]) 2 rfl (by kernel_rfl) rfl rfl (np_then (np_then np_post)) (hs_pick (is := [0, 1, 2]) rfl rfl) (y_faddr off66_0 rfl rfl) ?_
    refine h_take (l' := #[true, true, true, true, false, false, false, false, false]) 3 rfl (by kernel_rfl) rfl rfl (np_then (np_then np_post)) (hs_pick (is := [0, 1, 2]) rfl rfl) (y_faddr off24_0 rfl rfl) ?_
    refine h_take (l' := #[true, true, true, true, true, false, false, false, false]) 4 rfl (by kernel_rfl) rfl rfl (np_then (np_then np_post)) (hs_pick (is := [0, 1, 2]) rfl rfl) (y_load (k := 1)  one22 rfl rfl rfl) ?_
    refine h_take (l' := #[true, true, true, true, true, true, false, false, false]) 5 rfl (by kernel_rfl) rfl rfl (np_then (np_then np_post)) (hs_pick (is := [0, 1, 2]) rfl rfl) (y_move rfl) ?_
    refine h_take (l' := #[true, true, true, true, true, true, true, false, false]) 6 rfl (by kernel_rfl) rfl rfl (np_then (np_then np_post)) (hs_pick (is := [0, 1, 2]) rfl rfl) (y_loadW (k := 0)  agg26 rfl rfl rfl) ?_
    refine h_take (l' := #[true, true, true, true, true, true, true, true, false]) 7 rfl (by kernel_rfl) rfl rfl (np_then (np_then np_post)) (hs_pick (is := [0, 1, 2]) rfl rfl) (y_iaddr_own (r := ((fidx (fun x => keyEq x c) l).toNat * 13)) elem22 size26 rfl rfl (by omega) (by omega) (by simp)) ?_
    refine h_only (l' := #[true, true, true, true, true, true, true, true, true]) 8 rfl (by kernel_rfl) rfl ?_
    refine l_storeA (k := 2) (cs' := (rowF Ck.cells (l.set (fidx (fun x => keyEq x c) l).toNat { c with created := v.created, no := v.no }) R0)) (H' := _ :: _ :: _ :: F) size26 rfl rfl rfl rfl rfl (by rw [List.size_toArray, List.length_append, hx1]; omega) (by exact rowF_set (v := { c with created := v.created, no := v.no }) Ck.len13 (by omega)) rfl ?_
    refine l_nil ?_
    refine q_step (fun h => by cases h) ?_
    refine h_done (by kernel_rfl) ?_
    refine q_then ?_
    refine c_rowclose (k := 2) (n := l.length) (c := k) (sz := 13) (xs := (l.set (fidx (fun x => keyEq x c) l).toNat { c with created := v.created, no := v.no }).flatMap Ck.cells) rfl (by rw [rowF_len Ck.len13, List.length_set]; omega) hnc hcm (rowF_all Ck.len13 List.length_set.symm) ?_
    refine c_ret ?_
    refine q_then_ret ?_
    have eL : layL l next c = l.set (fidx (fun x => keyEq x c) l).toNat { c with created := v.created, no := v.no } := by unfold layL; rw [show atI c l = (fidx (fun x => keyEq x c) l) from rfl, if_pos h13, getD_of_get hv2]
    have eN : layN l next c = next := if_pos h13
    exact q_ret0 (.inl rfl) rfl (some ⟨g0, 0, none⟩, k) trivial rfl (by rw [eL, eN, List.length_set]; exact hs_app (B := [_, _, _]) (is := [1, 2]) rfl rfl)
  · intro h13
    refine c_skip ?_
    refine q_then ?_
    refine c_seq ?_
    refine c_region rfl ?_
    refine gv rfl (y_move rfl) ?_
    refine gv rfl (y_nilCheck rfl) ?_
    refine gv rfl (y_faddr off66_0 rfl rfl) ?_
    refine gv rfl (y_faddr off24_1 rfl rfl) ?_
    refine gv rfl (y_load (k := 1)  one3 rfl rfl rfl) ?_
    refine gv rfl (y_faddr off26_12 rfl rfl) ?_
    refine l_store (k := 0) (cs' := #[_, _, _, _, _, _, _, _, _, _, _, _, _]) (H' := _ :: _ :: _ :: F) size3 rfl rfl rfl rfl rfl rfl rfl ?_
    refine l_nil ?_
    refine q_then ?_
    refine c_seq ?_
    refine c_region rfl ?_
    refine gv rfl (y_move rfl) ?_
    refine gv rfl (y_nilCheck rfl) ?_
    refine gv rfl (y_faddr off66_0 rfl rfl) ?_
    refine gv rfl (y_faddr off24_1 rfl rfl) ?_
    refine gv rfl (y_load (k := 1)  one3 rfl rfl rfl) ?_
    refine gv rfl (y_add rfl rfl (wrap_in (by omega) (by omega))) ?_
    refine gv rfl (y_nilCheck rfl) ?_
    refine gv rfl (y_faddr off66_0 rfl rfl) ?_
    refine gv rfl (y_faddr off24_1 rfl rfl) ?_
    refine l_store (k := 1) (cs' := #[_, _, _]) (H' := _ :: _ :: _ :: F) size3 rfl rfl rfl rfl rfl rfl rfl ?_
    refine l_nil ?_
    refine q_then ?_
    refine c_drawp (l := #[false, false, false, false, false, false, false, false, false, false, false, false, false]) 9 (is := [0, 1]) rfl rfl rfl rfl ?_
    refine h_take (l' := #[true, false, false, false, false, false, false, false, false, false, false, false, false]) 0 rfl (by kernel_rfl) rfl rfl np_post (hs_pick (is := [0, 1]) rfl rfl) (y_move rfl) ?_
    refine h_take (l' := #[true, true, false, false, false, false, false, false, false, false, false, false, false]) 1 rfl (by kernel_rfl) rfl rfl np_post (hs_pick (is := [0, 1]) rfl rfl) (y_move rfl) ?_
    refine h_take (l' := #[true, true, true, false, false, false, false, false, false, false, false, false, false]) 2 rfl (by kernel_rfl) rfl rfl np_post (hs_pick (is := [0, 1]) rfl rfl) (y_nilCheck rfl) ?_
    refine h_take (l' := #[true, true, true, true, false, false, false, false, false, false, false, false, false]) 3 rfl (by kernel_rfl) rfl rfl np_post (hs_pick (is := [0, 1]) rfl rfl) (y_faddr off66_0 rfl rfl) ?_
    refine h_take (l' := #[true, true, true, true, true, false, false, false, false, false, false, false, false]) 4 rfl (by kernel_rfl) rfl rfl np_post (hs_pick (is := [0, 1]) rfl rfl) (y_faddr off24_0 rfl rfl) ?_
    refine h_take (l' := #[true, true, true, true, true, true, false, false, false, false, false, false, false]) 5 rfl (by kernel_rfl) rfl rfl np_post (hs_pick (is := [0, 1]) rfl rfl) (y_load (k := 1)  one22 rfl rfl rfl) ?_
    refine h_take (l' := #[true, true, true, true, true, true, true, false, false, false, false, false, false]) 6 rfl (by kernel_rfl) rfl rfl np_post (hs_pick (is := [0, 1]) rfl rfl) (y_loadW (k := 0)  agg26 rfl rfl rfl) ?_
    refine h_only (l' := #[true, true, true, true, true, true, true, true, false, false, false, false, false]) 7 rfl (by kernel_rfl) rfl ?_
    refine l_bslice (cl := [_, _, _, _, _, _, _, _, _, _, _, _, _]) rfl elem22 ap26 zero26 rfl rfl rfl rfl rfl rfl rfl ?_; intro g64
    refine l_nil ?_
    refine q_step (fun _ => hs_pick (is := [1, 2]) rfl rfl) ?_
    refine h_only (l' := #[true, true, true, true, true, true, true, true, true, false, false, false, false]) 8 rfl (by kernel_rfl) rfl ?_
    refine l_append (k := 3) (j := 0) (zs := (l ++ [{ c with no := next }]).flatMap Ck.cells) rfl elem22 ap26 rfl rfl rfl rfl rfl rfl (by omega) (by omega) (by exact app_one (c := { c with no := next })) ?_; intro A65 c65
    refine l_nil ?_
    refine q_step (fun _ => hs_pick (is := [1, 2]) rfl rfl) ?_
    refine h_only (l' := #[true, true, true, true, true, true, true, true, true, true, false, false, false]) 9 rfl (by kernel_rfl) rfl ?_
    refine gv rfl (y_nilCheck rfl) ?_
    refine l_nil ?_
    refine q_step (fun h => by cases h) ?_
    refine h_only (l' := #[true, true, true, true, true, true, true, true, true, true, true, false, false]) 10 rfl (by kernel_rfl) rfl ?_
    refine gv rfl (y_faddr off66_0 rfl rfl) ?_
    refine l_nil ?_
    refine q_step (fun h => by cases h) ?_
    refine h_only (l' := #[true, true, true, true, true, true, true, true, true, true, true, true, false]) 11 rfl (by kernel_rfl) rfl ?_
    refine gv rfl (y_faddr off24_0 rfl rfl) ?_
    refine l_nil ?_
    refine q_step (fun h => by cases h) ?_
    refine h_only (l' := #[true, true, true, true, true, true, true, true, true, true, true, true, true]) 12 rfl (by kernel_rfl) rfl ?_
    refine l_store (k := 2) (cs' := #[_, _, _]) (H' := _ :: _ :: _ :: _ :: F) size22 rfl rfl rfl rfl rfl rfl rfl ?_
    refine l_nil ?_
    refine q_step (fun h => by cases h) ?_
    refine h_done (by kernel_rfl) ?_
    have eL : layL l next c = l ++ [{ c with no := next }] := if_neg h13
    have eN : layN l next c = next + 1 := if_neg h13
    exact q_ret0 (.inr rfl) rfl (A65, c65) trivial rfl (by rw [eL, eN, len_snoc]; exact hs_app (B := [_, _, _, _]) (is := [2, 3]) rfl rfl)

theorem ent72 : enters Tryz.prog 72 = true := by kernel_rfl

theorem ent74 : enters Tryz.prog 74 = true := by kernel_rfl

theorem ent73 : enters Tryz.prog 73 = true := by kernel_rfl

theorem ent32 : enters Tryz.prog 32 = true := by kernel_rfl

theorem ent33 : enters Tryz.prog 33 = true := by kernel_rfl

theorem ent34 : enters Tryz.prog 34 = true := by kernel_rfl

theorem ent35 : enters Tryz.prog 35 = true := by kernel_rfl

theorem ent36 : enters Tryz.prog 36 = true := by kernel_rfl

theorem ent37 : enters Tryz.prog 37 = true := by kernel_rfl


theorem evict_m {l : List Ck} {next now most : Int} {go k : Nat} {A : Option Addr} {fv : Value} {q : Ck → Bool} {F : List Res} (w : World) (hlen : l.length ≤ 1073741824) (h0 : 0 ≤ most) (Fq : ∀ x : Ck, FnH Tryz.prog w F fv [.agg x.arr] (.bool (q x))) : Cm Tryz.prog 35 #[.pointer (some ⟨go, 0, none⟩), .int .i64 most, fv] w (.blk go (.cells #[.slice A l.length k, .int .i64 next, .int .i64 now] 66 (0, 0)) :: .row (.slice A l.length k) 26 13 l.length (l.flatMap Ck.cells) :: F) (fun x : Option Addr × Nat => .tuple #[]) (fun x => .blk go (.cells #[.slice x.1 (evictL most q l).length x.2, .int .i64 next, .int .i64 now] 66 (0, 0)) :: .row (.slice x.1 (evictL most q l).length x.2) 26 13 (evictL most q l).length ((evictL most q l).flatMap Ck.cells) :: F) (fun _ => True) := by
  refine enterM (E := [(0, .pointer (some ⟨go, 0, none⟩)), (1, .int .i64 most), (2, fv)]) Tryz.func35 rfl Tryz.ntmps35 rfl (by simp) ?_
  refine c_seq ?_
  refine c_region rfl ?_
  refine l_box1 rfl rfl rfl ?_; intro g3
  refine l_nil ?_
  refine q_then ?_
  refine c_block ?_
  refine loop (Ef := [(1, _), (2, _), (3, _)]) (Hf := [_] ++ F) (fun x : List Ck × Option Addr × Nat => evictL most q x.1 = evictL most q l ∧ x.1.length ≤ 1073741824) (fun x : List Ck × Option Addr × Nat => []) (fun x : List Ck × Option Addr × Nat => [.blk go (.cells #[.slice x.2.1 x.1.length x.2.2, .int .i64 next, .int .i64 now] 66 (0, 0)), .row (.slice x.2.1 x.1.length x.2.2) 26 13 x.1.length (x.1.flatMap Ck.cells)]) (fun x : List Ck × Option Addr × Nat => x.1.length) (l, A, k) ⟨rfl, hlen⟩ sub_nil (sub_cons rfl (sub_cons rfl (sub_cons rfl sub_nil))) (hs_app (A := [_, _, _]) (B := [_, _, _]) (is := [1, 2, 0]) rfl rfl) ?_
  rintro ⟨m, A9, k9⟩ hI
  dsimp only at hI ⊢
  refine c_sub (E' := [(1, _), (2, _), (3, _)]) (sub_cons rfl (sub_cons rfl (sub_cons rfl sub_nil))) ?_
  refine c_block ?_
  refine c_seq ?_
  refine c_region rfl ?_
  refine gv rfl (y_assign rfl) ?_
  refine l_nil ?_
  refine q_then ?_
  refine c_seq ?_
  refine c_seq ?_
  refine c_region rfl ?_
  refine gv rfl (y_load (k := 2)  one61 rfl rfl rfl) ?_
  refine gv rfl (y_nilCheck rfl) ?_
  refine gv rfl (y_faddr off66_0 rfl rfl) ?_
  refine gv rfl (y_faddr off24_0 rfl rfl) ?_
  refine gv rfl (y_load (k := 0)  one22 rfl rfl rfl) ?_
  refine gv rfl (y_len elem22 rfl) ?_
  refine gv rfl (y_move rfl) ?_
  refine l_nil ?_
  refine q_then ?_
  refine c_block ?_
  refine c_nilrow 3 1 ?_
  refine loop (Ef := [(1, _), (2, _), (3, _), (14, _), (15, _)]) (Hf := [_, _, _] ++ F) (fun y : Nat × Option Addr × Nat => y.1 ≤ m.length) (fun y : Nat × Option Addr × Nat => [(16, .int .i64 (y.1 : Int)), (6, .slice y.2.1 (idxT q m y.1).length y.2.2)]) (fun y : Nat × Option Addr × Nat => [.row (.slice y.2.1 (idxT q m y.1).length y.2.2) 3 1 (idxT q m y.1).length ((idxT q m y.1).flatMap i1)]) (fun y : Nat × Option Addr × Nat => m.length - y.1) (0, none, 0) (Nat.zero_le _) (sub_cons rfl (sub_cons rfl sub_nil)) (sub_cons rfl (sub_cons rfl (sub_cons rfl (sub_cons rfl (sub_cons rfl sub_nil))))) (hs_app (A := [_, _, _, _]) (B := [_, _, _, _]) (is := [0, 1, 2, 3]) rfl rfl) ?_
  rintro ⟨s, A6, k6⟩ hs
  dsimp only at hs ⊢
  refine c_sub (E' := [(16, _), (6, _), (1, _), (2, _), (3, _), (14, _), (15, _)]) (sub_cons rfl (sub_cons rfl (sub_cons rfl (sub_cons rfl (sub_cons rfl (sub_cons rfl (sub_cons rfl sub_nil))))))) ?_
  refine c_seq ?_
  refine c_region rfl ?_
  refine gv rfl (y_lss rfl rfl) ?_
  refine l_nil ?_
  refine q_then ?_
  refine c_seq ?_
  refine c_dec rfl ?_ ?_
  · intro h17
    have hlt : s < m.length := by omega
    obtain ⟨v, hv⟩ := get_lt hlt
    have hg := getD_of_get (d := Ck.none_) hv
    refine c_skip ?_
    refine q_then ?_
    refine c_seq ?_
    refine c_block ?_
    refine c_seq ?_
    refine c_region rfl ?_
    refine gv rfl (y_move rfl) ?_
    refine gv rfl (y_iaddr_row (k := 2) elem22 size26 rfl (fun _ => rfl) rfl rfl rfl (by omega) hv) ?_
    refine gv rfl (y_loadA_row (k := 2) agg26 rfl (fun _ => rfl) rfl rfl rfl hv rfl) ?_
    refine l_allocA rfl zero26 ?_; intro g8
    refine gv rfl (y_assign rfl) ?_
    refine l_storeW (k := 0) (H' := _ :: _ :: _ :: _ :: _ :: F) size26 rfl rfl rfl rfl rfl rfl rfl ?_
    refine l_nil ?_
    refine q_then ?_
    refine c_seq ?_
    refine c_region rfl ?_
    refine gv rfl (y_move rfl) ?_
    refine gv rfl (y_loadW (k := 0)  agg26 rfl rfl rfl) ?_
    refine l_callH rfl rfl rfl (hs_tail (A := [_, _, _, _, _])) (Fq v) ?_
    refine l_nil ?_
    refine q_then ?_
    refine c_bool rfl ?_ ?_
    · intro h23
      have ev : idxT q m (s + 1) = idxT q m s ++ [(s : Int)] := by rw [idxT, addL, hg, if_pos h23]
      have hil := idxT_len q m s
      have hm1 := hI.2
      refine c_region rfl ?_
      refine gv rfl (y_move rfl) ?_
      refine gv rfl (y_move rfl) ?_
      refine l_bslice (cl := [_]) rfl elem51 ap3 zero3 rfl rfl rfl rfl rfl rfl rfl ?_; intro g26
      refine l_append (k := 2) (j := 0) (zs := (idxT q m s ++ [(s : Int)]).flatMap i1) rfl elem51 ap3 rfl rfl rfl rfl rfl rfl (by omega) (by omega) app_one ?_; intro A27 c27
      refine gv rfl (y_assign rfl) ?_
      refine l_nil ?_
      refine q_block (q_then ?_)
      refine c_region rfl ?_
      refine gv rfl (y_add rfl rfl (wrap_in (by omega) (by omega))) ?_
      refine gv rfl (y_move rfl) ?_
      refine l_nil ?_
      rw [← len_snoc (idxT q m s) (s : Int), ← ev]
      exact again (s + 1, A27, c27) (Nat.succ_le_of_lt hlt) (by omega) (sub_cons rfl (sub_cons rfl sub_nil)) (sub_cons rfl (sub_cons rfl (sub_cons rfl (sub_cons rfl (sub_cons rfl sub_nil))))) (hs_app (A := [_, _, _, _]) (B := [_, _, _, _, _, _]) (is := [2, 3, 4, 5]) rfl rfl)
    · intro h23
      have ev : idxT q m (s + 1) = idxT q m s := by rw [idxT, addL, hg, if_neg (by rw [h23]; simp)]
      refine c_skip ?_
      refine q_block (q_then ?_)
      refine c_region rfl ?_
      refine gv rfl (y_add rfl rfl (wrap_in (by omega) (by omega))) ?_
      refine gv rfl (y_move rfl) ?_
      refine l_nil ?_
      rw [← ev]
      exact again (s + 1, A6, k6) (Nat.succ_le_of_lt hlt) (by omega) (sub_cons rfl (sub_cons rfl sub_nil)) (sub_cons rfl (sub_cons rfl (sub_cons rfl (sub_cons rfl (sub_cons rfl sub_nil))))) (hs_app (A := [_, _, _, _]) (B := [_, _, _, _, _]) (is := [1, 2, 3, 4]) rfl rfl)
  · intro h17
    have hs9 : s = m.length := by omega
    subst hs9
    have hil := idxT_len q m m.length
    have hm1 := hI.2
    refine c_exit ?_
    refine q_then_exit (q_loop_exit (q_block_exit (q_then ?_)))
    refine c_seq ?_
    refine c_seq ?_
    refine c_region rfl ?_
    refine gv rfl (y_move rfl) ?_
    refine gv rfl (y_len elem51 rfl) ?_
    refine gv rfl (y_move rfl) ?_
    refine gv rfl (y_leq rfl rfl) ?_
    refine l_nil ?_
    refine q_then ?_
    refine c_dec rfl ?_ ?_
    · intro h32
      refine c_ret ?_
      refine q_then_ret (q_block_ret (q_loop_ret (q_block_ret ?_)))
      have e9 : evictL most q l = m := hI.1.symm.trans (evictL_stop h32)
      exact q_ret0 (.inl rfl) rfl (A9, k9) trivial rfl (by rw [e9]; exact hs_app (B := [_, _, _, _]) (is := [1, 2]) rfl rfl)
    · intro h32
      have hl9 : 0 ≤ (minF (useF m) (idxT q m m.length)) ∧ (minF (useF m) (idxT q m m.length)) < m.length := leastI_lt h0 h32
      have hne : idxT q m m.length ≠ [] := by intro e; rw [e] at h32; simp at h32; omega
      refine c_skip ?_
      refine q_then ?_
      refine c_seq ?_
      refine c_region rfl ?_
      refine gv rfl (y_move rfl) ?_
      refine gv rfl (y_mkfn rfl) ?_
      refine l_callU rfl ent72 rfl (fun w hm => minInt_c (f := useF m) w (sl_of_row hm (k := 0) rfl (fun _ => rfl) rfl) hne (by omega) (fun x hx y hy => FnV.mk (fs := []) (cs := [_]) ent73 (fun w1 hb => evict1_c w1 ((el_of_blk hm (k := 3) rfl).below hb) ((el_of_blk hm (k := 1) rfl).below hb) ((sl_of_row hm (k := 2) rfl (fun _ => rfl) rfl).below hb) (by obtain ⟨i, h1, rfl, _⟩ := idxT_mem.1 hx; omega) (by obtain ⟨i, h1, rfl, _⟩ := idxT_mem.1 hy; omega)))) ?_
      refine gv rfl (y_assign rfl) ?_
      refine l_nil ?_
      refine q_then ?_
      refine c_drawp (l := #[false, false, false, false, false, false, false, false, false, false, false, false, false, false]) 10 (is := [0, 1, 3]) rfl rfl rfl rfl ?_
      refine h_take (l' := #[true, false, false, false, false, false, false, false, false, false, false, false, false, false]) 0 rfl (by kernel_rfl) rfl rfl (np_block (np_loop (np_block np_post))) (hs_pick (is := [0, 1, 3]) rfl rfl) (y_load (k := 2)  one61 rfl rfl rfl) ?_
      refine h_take (l' := #[true, true, false, false, false, false, false, false, false, false, false, false, false, false]) 1 rfl (by kernel_rfl) rfl rfl (np_block (np_loop (np_block np_post))) (hs_pick (is := [0, 1, 3]) rfl rfl) (y_load (k := 2)  one61 rfl rfl rfl) ?_
      refine h_take (l' := #[true, true, true, false, false, false, false, false, false, false, false, false, false, false]) 2 rfl (by kernel_rfl) rfl rfl (np_block (np_loop (np_block np_post))) (hs_pick (is := [0, 1, 3]) rfl rfl) (y_nilCheck rfl) ?_
      refine h_take (l' := #[true, true, true, true, false, false, false, false, false, false, false, false, false, false]) 3 rfl (by kernel_rfl) rfl rfl (np_block (np_loop (np_block np_post))) (hs_pick (is := [0, 1, 3]) rfl rfl) (y_faddr off66_0 rfl rfl) ?_
      refine h_take (l' := #[true, true, true, true, true, false, false, false, false, false, false, false, false, false]) 4 rfl (by kernel_rfl) rfl rfl (np_block (np_loop (np_block np_post))) (hs_pick (is := [0, 1, 3]) rfl rfl) (y_faddr off24_0 rfl rfl) ?_
      refine h_take (l' := #[true, true, true, true, true, true, false, false, false, false, false, false, false, false]) 5 rfl (by kernel_rfl) rfl rfl (np_block (np_loop (np_block np_post))) (hs_pick (is := [0, 1, 3]) rfl rfl) (y_load (k := 1)  one22 rfl rfl rfl) ?_
      refine h_take (l' := #[true, true, true, true, true, true, true, false, false, false, false, false, false, false]) 6 rfl (by kernel_rfl) rfl rfl (np_block (np_loop (np_block np_post))) (hs_pick (is := [0, 1, 3]) rfl rfl) (y_move rfl) ?_
      refine h_take (l' := #[true, true, true, true, true, true, true, true, false, false, false, false, false, false]) 7 rfl (by kernel_rfl) rfl rfl (np_block (np_loop (np_block np_post))) (hs_pick (is := [0, 1, 3]) rfl rfl) (y_move rfl) ?_
      refine h_take (l' := #[true, true, true, true, true, true, true, true, true, false, false, false, false, false]) 8 rfl (by kernel_rfl) rfl rfl (np_block (np_loop (np_block np_post))) (hs_pick (is := [0, 1, 3]) rfl rfl) (y_add rfl rfl (wrap_in (by omega) (by omega))) ?_
      refine h_only (l' := #[true, true, true, true, true, true, true, true, true, true, false, false, false, false]) 9 rfl (by kernel_rfl) rfl ?_
      refine l_hs (hs_app (A := [_, _, _, _]) (B := [_, _, _, _]) (is := [2, 0, 1, 3]) rfl rfl) ?_
      refine l_callM (fs := []) rfl ent74 rfl rfl (delete_m (l := m) _ hI.2 hl9) ?_; rintro ⟨A45, c45⟩ _
      refine l_nil ?_
      refine q_step (fun _ => hs_pick (is := [1, 2, 3]) rfl rfl) ?_
      refine h_only (l' := #[true, true, true, true, true, true, true, true, true, true, true, false, false, false]) 10 rfl (by kernel_rfl) rfl ?_
      refine gv rfl (y_nilCheck rfl) ?_
      refine l_nil ?_
      refine q_step (fun h => by cases h) ?_
      refine h_only (l' := #[true, true, true, true, true, true, true, true, true, true, true, true, false, false]) 11 rfl (by kernel_rfl) rfl ?_
      refine gv rfl (y_faddr off66_0 rfl rfl) ?_
      refine l_nil ?_
      refine q_step (fun h => by cases h) ?_
      refine h_only (l' := #[true, true, true, true, true, true, true, true, true, true, true, true, true, false]) 12 rfl (by kernel_rfl) rfl ?_
      refine gv rfl (y_faddr off24_0 rfl rfl) ?_
      refine l_nil ?_
      refine q_step (fun h => by cases h) ?_
      refine h_only (l' := #[true, true, true, true, true, true, true, true, true, true, true, true, true, true]) 13 rfl (by kernel_rfl) rfl ?_
      refine l_store (k := 2) (cs' := #[_, _, _]) (H' := _ :: _ :: _ :: _ :: F) size22 rfl rfl rfl rfl rfl rfl rfl ?_
      refine l_nil ?_
      refine q_step (fun h => by cases h) ?_
      refine h_done (by kernel_rfl) ?_
      refine q_block ?_
      have he9 := List.length_eraseIdx_of_lt (l := m) (i := (minF (useF m) (idxT q m m.length)).toNat) (by omega)
      exact again (m.eraseIdx (minF (useF m) (idxT q m m.length)).toNat, A45, c45) ⟨(evictL_step h0 h32).symm.trans hI.1, by have h7 := hI.2; dsimp only; omega⟩ (by dsimp only; omega) sub_nil (sub_cons rfl (sub_cons rfl (sub_cons rfl sub_nil))) (hs_app (A := [_, _, _]) (B := [_, _, _, _]) (is := [2, 0, 3]) rfl rfl)


theorem layL_len (l : List Ck) (n : Int) (c : Ck) : (layL l n c).length ≤ l.length + 1 := by
  unfold layL; split
  · rw [List.length_set]; omega
  · simp

theorem liveL_len (now : Int) (l : List Ck) : (liveL now l).length ≤ l.length := List.length_filter_le _ _

theorem evictN_len (most : Int) (q : Ck → Bool) : ∀ (n : Nat) (l : List Ck), (evictN most q n l).length ≤ l.length
  | 0, _ => Nat.le_refl _
  | n + 1, l => by
    unfold evictN
    split
    · exact Nat.le_refl _
    · exact Nat.le_trans (evictN_len most q n _) (List.length_eraseIdx_le ..)

theorem evictL_len (most : Int) (q : Ck → Bool) (l : List Ck) : (evictL most q l).length ≤ l.length := evictN_len most q _ l

theorem put_c {j : Ja} {c : Ck} {now : Int} {A0 : Option Addr} {k0 : Nat} (w : World) (hJ : Sl Ck.cells 13 w A0 j.cks) (hj : j.ok) (hk0 : A0 = none → k0 = 0) : Ct Tryz.prog 10 #[.agg (j.arr A0 k0), .agg c.arr, .int .i64 now] w (fun x : Option Addr × Nat => .tuple #[.agg #[.slice x.1 (putJ j c now).cks.length x.2, .int .i64 (putJ j c now).next], .int .i64 (putE j c now)]) (fun x => [.row (.slice x.1 (putJ j c now).cks.length x.2) 26 13 (putJ j c now).cks.length ((putJ j c now).cks.flatMap Ck.cells)]) (fun _ => True) := by
  refine enter (E := [(0, .agg (j.arr A0 k0)), (1, .agg c.arr), (2, .int .i64 now)]) Tryz.func10 rfl Tryz.ntmps10 rfl (by simp) ?_
  refine c_nilrow 26 13 ?_
  refine c_seq ?_
  refine c_region rfl ?_
  refine l_boxA rfl rfl ?_; intro g3
  refine l_boxA rfl rfl ?_; intro g4
  refine l_allocA rfl zero24 ?_; intro g6
  refine gv rfl (y_assign rfl) ?_
  refine l_nil ?_
  refine q_then ?_
  refine c_seq ?_
  refine c_seq ?_
  refine c_region rfl ?_
  refine gv rfl (y_loadW (k := 2)  agg24 rfl rfl rfl) ?_
  refine l_callU rfl ent13 rfl (fun w hm => jarCheck_c w (hJ.below hm.below) hj) ?_
  refine gv rfl (y_assign rfl) ?_
  refine l_nil ?_
  refine q_then ?_
  refine c_seq ?_
  refine c_region rfl ?_
  refine gv rfl (y_move rfl) ?_
  refine gv rfl (y_neq rfl rfl) ?_
  refine l_nil ?_
  refine q_then ?_
  refine c_dec rfl ?_ ?_
  · intro h13
    refine c_seq ?_
    refine c_region rfl ?_
    refine gv rfl (y_build (cs := #[_, _]) (cl := [_, _])  zero24 bld24 rfl rfl rfl rfl rfl) ?_
    refine gv rfl (y_move rfl) ?_
    refine l_storeW (k := 0) (H' := [_, _, _, _]) size24 rfl rfl rfl rfl rfl rfl rfl ?_
    refine gv rfl (y_assign rfl) ?_
    refine l_nil ?_
    refine q_then ?_
    refine c_ret ?_
    refine q_then_ret ?_
    have eE : putE j c now = jarErr j := by unfold putE; rw [if_pos h13]
    have eJ : putJ j c now = ⟨[], 0⟩ := if_pos (by rw [eE]; exact h13)
    exact q_retA1 (k := 0) Tryz.results10 agg24 rfl rfl rfl rfl (none, 0) trivial (by rw [eE, eJ] <;> rfl) (by rw [eJ]; exact hs_pick (is := [3]) rfl rfl)
  · intro h13
    have hz : jarErr j = 0 := Decidable.not_not.1 h13
    obtain ⟨hz1, hz2, hz3⟩ := jarErr_iff.1 hz
    have hl1 := liveL_len now j.cks
    have hl2 := layL_len (liveL now j.cks) j.next c
    have hl3 := liveL_len now (layL (liveL now j.cks) j.next c)
    have hl4 := evictL_len 4 (fun x => decide (x.domain = c.domain)) (liveL now (layL (liveL now j.cks) j.next c))
    refine c_skip ?_
    refine q_then ?_
    refine c_seq ?_
    refine c_block ?_
    refine c_seq ?_
    refine c_seq ?_
    refine c_region rfl ?_
    refine gv rfl (y_move rfl) ?_
    refine l_callU rfl ent30 rfl (fun w hm => is_c w) ?_
    refine gv rfl (y_not rfl rfl) ?_
    refine gv rfl (y_assign rfl) ?_
    refine l_nil ?_
    refine q_then ?_
    refine c_ndec rfl ?_ ?_
    · intro h16
      refine c_skip ?_
      refine q_then ?_
      refine c_cond_t rfl ?_
      refine c_seq ?_
      refine c_region rfl ?_
      refine gv rfl (y_build (cs := #[_, _]) (cl := [_, _])  zero24 bld24 rfl rfl rfl rfl rfl) ?_
      refine l_storeW (k := 0) (H' := [_, _, _, _]) size24 rfl rfl rfl rfl rfl rfl rfl ?_
      refine gv rfl (y_assign rfl) ?_
      refine l_nil ?_
      refine q_then ?_
      refine c_ret ?_
      refine q_block_ret (q_then_ret ?_)
      have eE : putE j c now = 3 := by unfold putE; rw [if_neg h13, if_pos (by first | exact .inl h16 | exact .inr h16)]
      have eJ : putJ j c now = ⟨[], 0⟩ := if_pos (by rw [eE]; decide)
      exact q_retA1 (k := 0) Tryz.results10 agg24 rfl rfl rfl rfl (none, 0) trivial (by rw [eE, eJ] <;> rfl) (by rw [eJ]; exact hs_pick (is := [3]) rfl rfl)
    · intro h16
      have hnow := h16
      refine c_region rfl ?_
      refine gv rfl (y_loadW (k := 1)  agg26 rfl rfl rfl) ?_
      refine l_callU rfl ent31 rfl (fun w hm => moments_c w) ?_
      refine gv rfl (y_not rfl rfl) ?_
      refine gv rfl (y_assign rfl) ?_
      refine l_nil ?_
      refine q_then ?_
      refine c_ndec rfl ?_ ?_
      · intro h16
        refine c_seq ?_
        refine c_region rfl ?_
        refine gv rfl (y_build (cs := #[_, _]) (cl := [_, _])  zero24 bld24 rfl rfl rfl rfl rfl) ?_
        refine l_storeW (k := 0) (H' := [_, _, _, _]) size24 rfl rfl rfl rfl rfl rfl rfl ?_
        refine gv rfl (y_assign rfl) ?_
        refine l_nil ?_
        refine q_then ?_
        refine c_ret ?_
        refine q_block_ret (q_then_ret ?_)
        have eE : putE j c now = 3 := by unfold putE; rw [if_neg h13, if_pos (by first | exact .inl h16 | exact .inr h16)]
        have eJ : putJ j c now = ⟨[], 0⟩ := if_pos (by rw [eE]; decide)
        exact q_retA1 (k := 0) Tryz.results10 agg24 rfl rfl rfl rfl (none, 0) trivial (by rw [eE, eJ] <;> rfl) (by rw [eJ]; exact hs_pick (is := [3]) rfl rfl)
      · intro h16
        refine c_seq ?_
        refine c_region rfl ?_
        refine gv rfl (y_faddr off24_1 rfl rfl) ?_
        refine gv rfl (y_load (k := 2)  one3 rfl rfl rfl) ?_
        refine gv rfl (y_eql rfl rfl) ?_
        refine gv rfl (y_assign rfl) ?_
        refine l_nil ?_
        refine q_then ?_
        refine c_dec rfl ?_ ?_
        · intro h24
          refine c_seq ?_
          refine c_region rfl ?_
          refine gv rfl (y_build (cs := #[_, _]) (cl := [_, _])  zero24 bld24 rfl rfl rfl rfl rfl) ?_
          refine l_storeW (k := 0) (H' := [_, _, _, _]) size24 rfl rfl rfl rfl rfl rfl rfl ?_
          refine gv rfl (y_assign rfl) ?_
          refine l_nil ?_
          refine q_then ?_
          refine c_ret ?_
          refine q_block_ret (q_then_ret ?_)
          have eE : putE j c now = 2 := by unfold putE; rw [if_neg h13, if_neg (by intro h; rcases h with h | h; exact h hnow; exact h h16), if_pos h24]
          have eJ : putJ j c now = ⟨[], 0⟩ := if_pos (by rw [eE]; decide)
          exact q_retA1 (k := 0) Tryz.results10 agg24 rfl rfl rfl rfl (none, 0) trivial (by rw [eE, eJ] <;> rfl) (by rw [eJ]; exact hs_pick (is := [3]) rfl rfl)
        · intro h24
          refine c_skip ?_
          refine q_block (q_then ?_)
          refine c_seq ?_
          refine c_region rfl ?_
          refine gv rfl (y_loadW (k := 2)  agg24 rfl rfl rfl) ?_
          refine gv rfl (y_move rfl) ?_
          refine l_call rfl ent32 rfl (fun w hm => own_c w (hJ.below hm.below) hj.1 hk0) ?_; rintro ⟨gO, AO, kO⟩ h31
          refine gv rfl (y_assign rfl) ?_
          refine l_nil ?_
          refine q_then ?_
          refine c_seq ?_
          refine c_region rfl ?_
          refine gv rfl (y_move rfl) ?_
          refine l_hs (hs_pick (is := [0, 1, 2, 3, 4, 5]) rfl rfl) ?_
          refine l_callM (fs := []) rfl ent33 rfl rfl (expire_m (l := j.cks) _ hj.1) ?_; rintro ⟨A33, c33⟩ _
          refine l_nil ?_
          refine q_then ?_
          refine c_seq ?_
          refine c_region rfl ?_
          refine gv rfl (y_move rfl) ?_
          refine gv rfl (y_loadW (k := 3)  agg26 rfl rfl rfl) ?_
          refine l_hs (hs_pick (is := [0, 1, 2, 3, 4, 5]) rfl rfl) ?_
          refine l_callM (fs := []) rfl ent34 rfl rfl (lay_m (l := (liveL now j.cks)) (c := c) _ (by omega) (by omega)) ?_; rintro ⟨A36, c36⟩ _
          refine l_nil ?_
          refine q_then ?_
          refine c_seq ?_
          refine c_region rfl ?_
          refine gv rfl (y_move rfl) ?_
          refine l_hs (hs_pick (is := [0, 1, 2, 3, 4, 5]) rfl rfl) ?_
          refine l_callM (fs := []) rfl ent33 rfl rfl (expire_m (l := (layL (liveL now j.cks) j.next c)) _ (by omega)) ?_; rintro ⟨A38, c38⟩ _
          refine l_nil ?_
          refine q_then ?_
          refine c_seq ?_
          refine c_region rfl ?_
          refine gv rfl (y_move rfl) ?_
          refine gv rfl (y_mkfn rfl) ?_
          refine l_hs (hs_pick (is := [0, 1, 2, 3, 4, 5]) rfl rfl) ?_
          refine l_callM (fs := []) rfl ent35 rfl rfl (evict_m (l := (liveL now (layL (liveL now j.cks) j.next c))) (q := fun x => decide (x.domain = c.domain)) _ (by omega) (by decide) (fun x => FnH.mk (fs := []) (cs := [_]) ent36 (fun w1 hm1 => put1_c w1 (el_of_blk hm1 (k := 1) rfl)))) ?_; rintro ⟨A41, c41⟩ _
          refine l_nil ?_
          refine q_then ?_
          refine c_seq ?_
          refine c_region rfl ?_
          refine gv rfl (y_move rfl) ?_
          refine l_hs (hs_pick (is := [0, 1, 2, 3, 4, 5]) rfl rfl) ?_
          refine l_callM (fs := []) rfl ent35 rfl rfl (evict_m (l := (evictL 4 (fun x => decide (x.domain = c.domain)) (liveL now (layL (liveL now j.cks) j.next c)))) (q := fun _ => true) _ (by omega) (by decide) (fun x => FnH.mk (fs := []) (cs := []) ent37 (fun w1 hm1 => put2_c w1))) ?_; rintro ⟨A43, c43⟩ _
          refine l_nil ?_
          refine q_then ?_
          refine c_seq ?_
          refine c_region rfl ?_
          refine gv rfl (y_move rfl) ?_
          refine gv rfl (y_nilCheck rfl) ?_
          refine gv rfl (y_faddr off66_0 rfl rfl) ?_
          refine gv rfl (y_loadA (k := 0) (vs := [_, _])  agg24 rfl rfl rfl rfl) ?_
          refine l_storeW (k := 2) (H' := [_, _, _, _, _, _]) size24 rfl rfl rfl rfl rfl rfl rfl ?_
          refine gv rfl (y_assign rfl) ?_
          refine l_nil ?_
          refine q_then ?_
          refine c_ret ?_
          have eE : putE j c now = 0 := by unfold putE; rw [if_neg h13, if_neg (by intro h; rcases h with h | h; exact h hnow; exact h h16), if_neg h24]
          have eJ : putJ j c now = ⟨putL j c now, layN (liveL now j.cks) j.next c⟩ := if_neg (by rw [eE]; simp)
          exact q_retA1 (k := 2) Tryz.results10 agg24 rfl rfl rfl rfl (A43, c43) trivial (by rw [eE, eJ] <;> rfl) (by rw [eJ]; exact hs_pick (is := [1]) rfl rfl)

theorem boolT4 : boolT Tryz.prog 4 = true := by kernel_rfl

theorem ent123 : enters Tryz.prog 123 = true := by kernel_rfl

theorem ent102 : enters Tryz.prog 102 = true := by kernel_rfl

theorem ent103 : enters Tryz.prog 103 = true := by kernel_rfl

theorem ent124 : enters Tryz.prog 124 = true := by kernel_rfl

theorem ent104 : enters Tryz.prog 104 = true := by kernel_rfl

theorem ent118 : enters Tryz.prog 118 = true := by kernel_rfl

theorem ent96 : enters Tryz.prog 96 = true := by kernel_rfl

theorem off82_1 : fieldOff Tryz.prog 82 1 = some 5 := by kernel_rfl

theorem off26_4 : fieldOff Tryz.prog 26 4 = some 4 := by kernel_rfl

theorem off82_0 : fieldOff Tryz.prog 82 0 = some 0 := by kernel_rfl

theorem off35_0 : fieldOff Tryz.prog 35 0 = some 0 := by kernel_rfl

theorem off35_1 : fieldOff Tryz.prog 35 1 = some 1 := by kernel_rfl

theorem ent87 : enters Tryz.prog 87 = true := by kernel_rfl

theorem off26_5 : fieldOff Tryz.prog 26 5 = some 5 := by kernel_rfl

theorem off35_2 : fieldOff Tryz.prog 35 2 = some 2 := by kernel_rfl

theorem off26_6 : fieldOff Tryz.prog 26 6 = some 6 := by kernel_rfl

theorem off35_3 : fieldOff Tryz.prog 35 3 = some 3 := by kernel_rfl

theorem off35_4 : fieldOff Tryz.prog 35 4 = some 4 := by kernel_rfl

theorem off26_8 : fieldOff Tryz.prog 26 8 = some 8 := by kernel_rfl


theorem let1_c {c : Int} (w : World) : Cv Tryz.prog 103 #[.int .i32 c] w (.bool (badR c)) := by
  refine enter (E := [(0, .int .i32 c)]) Tryz.func103 rfl Tryz.ntmps103 rfl (by simp) ?_
  refine c_seq ?_
  refine c_region rfl ?_
  refine gv rfl (y_assign rfl) ?_
  refine l_nil ?_
  refine q_then ?_
  refine c_seq ?_
  refine c_region rfl ?_
  refine gv rfl (y_move rfl) ?_
  refine gv rfl (y_lss rfl rfl) ?_
  refine gv rfl (y_move rfl) ?_
  refine g_dec (t := 5) rfl ?_ ?_
  · intro h5
    refine g_on (t := 5) rfl rfl ?_
    refine gv rfl (y_move rfl) ?_
    refine g_on (t := 5) rfl rfl ?_
    refine gv rfl (y_neq rfl rfl) ?_
    refine gv rfl (y_pick_t rfl rfl) ?_
    refine gv rfl (y_move rfl) ?_
    refine g_dec (t := 9) rfl ?_ ?_
    · intro h9
      refine g_off (t := 9) rfl rfl rfl rfl ?_
      refine g_off (t := 9) rfl rfl rfl rfl ?_
      refine gv rfl (y_pick_t rfl rfl) ?_
      refine gv rfl (y_assign rfl) ?_
      refine l_nil ?_
      refine q_then ?_
      refine c_ret ?_
      exact q_ret1 Tryz.results103 rfl () trivial (congrArg Value.bool (by simp only [badR]; rw [eq_comm]; (try simp only [decide_eq_true_eq, decide_eq_false_iff_not]); first | omega | (simp; omega) | (apply decide_eq_decide.2; omega))) hs_nil
    · intro h9
      refine g_on (t := 9) rfl rfl ?_
      refine gv rfl (y_move rfl) ?_
      refine g_on (t := 9) rfl rfl ?_
      refine gv rfl (y_eql rfl rfl) ?_
      refine gv rfl (y_pick_f rfl rfl) ?_
      refine gv rfl (y_assign rfl) ?_
      refine l_nil ?_
      refine q_then ?_
      refine c_ret ?_
      exact q_ret1 Tryz.results103 rfl () trivial (congrArg Value.bool (by simp only [badR]; rw [eq_comm]; (try simp only [decide_eq_true_eq, decide_eq_false_iff_not]); first | omega | (simp; omega) | (apply decide_eq_decide.2; omega))) hs_nil
  · intro h5
    refine g_off (t := 5) rfl rfl rfl rfl ?_
    refine g_off (t := 5) rfl rfl rfl rfl ?_
    refine gv rfl (y_pick_f rfl rfl) ?_
    refine gv rfl (y_move rfl) ?_
    refine g_on (t := 9) rfl rfl ?_
    refine gv rfl (y_move rfl) ?_
    refine g_on (t := 9) rfl rfl ?_
    refine gv rfl (y_eql rfl rfl) ?_
    refine gv rfl (y_pick_f rfl rfl) ?_
    refine gv rfl (y_assign rfl) ?_
    refine l_nil ?_
    refine q_then ?_
    refine c_ret ?_
    exact q_ret1 Tryz.results103 rfl () trivial (congrArg Value.bool (by simp only [badR]; rw [eq_comm]; (try simp only [decide_eq_true_eq, decide_eq_false_iff_not]); first | omega | (simp; omega) | (apply decide_eq_decide.2; omega))) hs_nil


theorem sIndexFn_c {l : List UInt8} {fv : Value} (w : World) (F : ∀ c : Int, FnV Tryz.prog w fv [.int .i32 c] (.bool (badR c))) : Cv Tryz.prog 123 #[.string (B l), fv, .bool true] w (.int .i64 (fidx badB l)) := by
  refine enter (E := [(0, .string (B l)), (1, fv), (2, .bool true)]) Tryz.func123 rfl Tryz.ntmps123 rfl (by simp) ?_
  refine c_seq ?_
  refine c_region rfl ?_
  refine gv rfl (y_assign rfl) ?_
  refine l_nil ?_
  refine q_then ?_
  refine c_seq ?_
  refine c_seq ?_
  refine c_region rfl ?_
  refine gv rfl (y_move rfl) ?_
  refine l_range rfl strT9 rfl ?_; intro g10
  refine l_nil ?_
  refine q_then ?_
  refine c_block ?_
  refine loop (Ef := [(1, _), (2, _), (10, _)]) (Hf := []) (fun s : Nat => ∀ j, j < s → ∀ u, l[j]? = some u → badB u = false) (fun s : Nat => []) (fun s : Nat => [.blk g10 (.stringIter (B l) s)]) (fun s : Nat => l.length - s) 0 none_get sub_nil (sub_cons rfl (sub_cons rfl (sub_cons rfl sub_nil))) (hs_pick (is := [0]) rfl rfl) ?_
  rintro s hI
  refine c_sub (E' := [(1, _), (2, _), (10, _)]) (sub_cons rfl (sub_cons rfl (sub_cons rfl sub_nil))) ?_
  refine c_seq ?_
  refine c_region rfl ?_
  refine l_next (k := 0) (H' := [_]) rfl rfl rfl rfl ?_ ?_
  · intro n11
    obtain ⟨v, hv⟩ := get_lt n11
    have hbb := dec_bad hv
    refine gv rfl (y_extract rfl rfl) ?_
    refine l_nil ?_
    refine q_then ?_
    refine c_seq ?_
    refine c_cond_t rfl ?_
    refine c_skip ?_
    refine q_then ?_
    refine c_block ?_
    refine c_seq ?_
    refine c_region rfl ?_
    refine gv rfl (y_extract rfl rfl) ?_
    refine gv rfl (y_extract rfl rfl) ?_
    refine gv rfl (y_assign rfl) ?_
    refine gv rfl (y_assign rfl) ?_
    refine l_nil ?_
    refine q_then ?_
    refine c_seq ?_
    refine c_region rfl ?_
    refine gv rfl (y_move rfl) ?_
    refine gv rfl (y_move rfl) ?_
    refine l_callF rfl rfl rfl (F _) ?_
    refine gv rfl (y_move rfl) ?_
    refine gv rfl (y_beq boolT4 rfl rfl rfl) ?_
    refine l_nil ?_
    refine q_then ?_
    refine c_bool rfl ?_ ?_
    · intro h19
      have hbv : badB v = true := by rw [hbb] at h19; simpa using h19
      refine c_seq ?_
      refine c_region rfl ?_
      refine gv rfl (y_move rfl) ?_
      refine gv rfl (y_assign rfl) ?_
      refine l_nil ?_
      refine q_then ?_
      refine c_ret ?_
      refine q_block_ret (q_loop_ret (q_block_ret (q_then_ret ?_)))
      exact q_ret1 Tryz.results123 rfl () trivial (congrArg (Value.int .i64) (fidx_at hI hv hbv).symm) hs_nil
    · intro h19
      have hbv : badB v = false := by rw [hbb] at h19; simpa using h19
      have hst := (dec_step hI hv hbv).1
      refine c_skip ?_
      refine q_block ?_
      exact again (s + (Utf8.decode (B l) s).2) (dec_step hI hv hbv).2 (by omega) sub_nil (sub_cons rfl (sub_cons rfl (sub_cons rfl sub_nil))) (hs_pick (is := [0]) rfl rfl)
  · intro n11
    refine gv rfl (y_extract rfl rfl) ?_
    refine l_nil ?_
    refine q_then ?_
    refine c_seq ?_
    refine c_cond_f rfl ?_
    refine c_exit ?_
    refine q_then_exit (q_loop_exit (q_block_exit (q_then ?_)))
    refine c_seq ?_
    refine c_region rfl ?_
    refine gv rfl (y_assign rfl) ?_
    refine l_nil ?_
    refine q_then ?_
    refine c_ret ?_
    exact q_ret1 Tryz.results123 rfl () trivial (congrArg (Value.int .i64) (fidx_none hI (by omega)).symm) hs_nil


theorem indexFn_c {l : List UInt8} {fv : Value} (w : World) (F : ∀ c : Int, FnV Tryz.prog w fv [.int .i32 c] (.bool (badR c))) : Cv Tryz.prog 102 #[.string (B l), fv] w (.int .i64 (fidx badB l)) := by
  refine enter (E := [(0, .string (B l)), (1, fv)]) Tryz.func102 rfl Tryz.ntmps102 rfl (by simp) ?_
  refine c_seq ?_
  refine c_region rfl ?_
  refine gv rfl (y_assign rfl) ?_
  refine l_nil ?_
  refine q_then ?_
  refine c_seq ?_
  refine c_region rfl ?_
  refine gv rfl (y_move rfl) ?_
  refine gv rfl (y_move rfl) ?_
  refine l_callU rfl ent123 rfl (fun w hm => sIndexFn_c w (fun c => (F c).above hm.below)) ?_
  refine gv rfl (y_assign rfl) ?_
  refine l_nil ?_
  refine q_then ?_
  refine c_ret ?_
  exact q_ret1 Tryz.results102 rfl () trivial rfl hs_nil


theorem let_c {l : List UInt8} (w : World) : Cv Tryz.prog 78 #[.string (B l)] w (.bool (letF l)) := by
  refine enter (E := [(0, .string (B l))]) Tryz.func78 rfl Tryz.ntmps78 rfl (by simp) ?_
  refine c_seq ?_
  refine c_region rfl ?_
  refine gv rfl (y_assign rfl) ?_
  refine l_nil ?_
  refine q_then ?_
  refine c_seq ?_
  refine c_region rfl ?_
  refine gv rfl (y_move rfl) ?_
  refine l_callU rfl ent102 rfl (fun w hm => indexFn_c w (fun c => FnV.named ent103 (fun w2 _ => let1_c w2))) ?_
  refine gv rfl (y_lss rfl rfl) ?_
  refine gv rfl (y_assign rfl) ?_
  refine l_nil ?_
  refine q_then ?_
  refine c_ret ?_
  exact q_ret1 Tryz.results78 rfl () trivial rfl hs_nil


theorem slIndex1_c {l : List UInt8} {b : UInt8} (w : World) : Cv Tryz.prog 124 #[.string (B l), .string (B [b])] w (.int .i64 (ibF l b)) := by
  refine enter (E := [(0, .string (B l)), (1, .string (B [b]))]) Tryz.func124 rfl Tryz.ntmps124 rfl (by simp) ?_
  refine c_seq ?_
  refine c_region rfl ?_
  refine gv rfl (y_assign rfl) ?_
  refine l_nil ?_
  refine q_then ?_
  refine c_seq ?_
  refine c_region rfl ?_
  refine gv rfl (y_move rfl) ?_
  refine gv rfl (y_slen Tryz.underlying9 rfl rfl) ?_
  refine gv rfl (y_assign rfl) ?_
  refine l_nil ?_
  refine q_then ?_
  refine c_seq ?_
  refine c_block ?_
  refine c_seq ?_
  refine c_region rfl ?_
  refine gv rfl (y_move rfl) ?_
  refine gv rfl (y_eql rfl rfl) ?_
  refine gv rfl (y_move rfl) ?_
  refine g_dec (t := 19) rfl ?_ ?_
  · intro h19
    refine g_off (t := 19) rfl rfl rfl rfl ?_
    refine g_off (t := 19) rfl rfl rfl rfl ?_
    refine g_off (t := 19) rfl rfl rfl rfl ?_
    refine gv rfl (y_pick_t rfl rfl) ?_
    refine gv rfl (y_assign rfl) ?_
    refine l_nil ?_
    refine q_then ?_
    refine c_cond_t rfl ?_
    refine c_seq ?_
    refine c_region rfl ?_
    refine gv rfl (y_assign rfl) ?_
    refine l_nil ?_
    refine q_then ?_
    refine c_ret ?_
    refine q_block_ret (q_then_ret ?_)
    exact q_ret1 Tryz.results124 rfl () trivial (absurd h19 (by simp)) hs_nil
  · intro h19
    refine g_on (t := 19) rfl rfl ?_
    refine gv rfl (y_move rfl) ?_
    refine g_on (t := 19) rfl rfl ?_
    refine gv rfl (y_move rfl) ?_
    refine g_on (t := 19) rfl rfl ?_
    refine gv rfl (y_seq rfl rfl) ?_
    refine gv rfl (y_pick_f rfl rfl) ?_
    refine gv rfl (y_assign rfl) ?_
    refine l_nil ?_
    refine q_then ?_
    refine c_dec rfl ?_ ?_
    · intro h16
      refine c_seq ?_
      refine c_region rfl ?_
      refine gv rfl (y_assign rfl) ?_
      refine l_nil ?_
      refine q_then ?_
      refine c_ret ?_
      refine q_block_ret (q_then_ret ?_)
      exact q_ret1 Tryz.results124 rfl () trivial (congrArg (Value.int .i64) (by rw [← h16, ibF_cons, if_pos rfl])) hs_nil
    · intro h16
      refine c_seq ?_
      refine c_region rfl ?_
      refine gv rfl (y_move rfl) ?_
      refine gv rfl (y_eql rfl rfl) ?_
      refine gv rfl (y_assign rfl) ?_
      refine l_nil ?_
      refine q_then ?_
      refine c_dec rfl ?_ ?_
      · intro h24
        refine c_seq ?_
        refine c_region rfl ?_
        refine gv rfl (y_move rfl) ?_
        refine gv rfl (y_move rfl) ?_
        refine gv rfl (y_sidx Tryz.underlying9 rfl rfl (by omega) (by omega)) ?_
        refine l_callU rfl ent138 rfl (fun w hm => slIndexByte_c w) ?_
        refine gv rfl (y_assign rfl) ?_
        refine l_nil ?_
        refine q_then ?_
        refine c_ret ?_
        refine q_block_ret (q_then_ret ?_)
        exact q_ret1 Tryz.results124 rfl () trivial rfl hs_nil
      · intro h24
        exact absurd rfl h24


theorem index1_c {l : List UInt8} {b : UInt8} (w : World) : Cv Tryz.prog 104 #[.string (B l), .string (B [b])] w (.int .i64 (ibF l b)) := by
  refine enter (E := [(0, .string (B l)), (1, .string (B [b]))]) Tryz.func104 rfl Tryz.ntmps104 rfl (by simp) ?_
  refine c_seq ?_
  refine c_region rfl ?_
  refine gv rfl (y_assign rfl) ?_
  refine l_nil ?_
  refine q_then ?_
  refine c_seq ?_
  refine c_region rfl ?_
  refine gv rfl (y_move rfl) ?_
  refine gv rfl (y_move rfl) ?_
  refine l_callU rfl ent124 rfl (fun w hm => slIndex1_c w) ?_
  refine gv rfl (y_assign rfl) ?_
  refine l_nil ?_
  refine q_then ?_
  refine c_ret ?_
  exact q_ret1 Tryz.results104 rfl () trivial rfl hs_nil


theorem contains1_c {l : List UInt8} {b : UInt8} (w : World) : Cv Tryz.prog 79 #[.string (B l), .string (B [b])] w (.bool (decide (ibF l b ≥ 0))) := by
  refine enter (E := [(0, .string (B l)), (1, .string (B [b]))]) Tryz.func79 rfl Tryz.ntmps79 rfl (by simp) ?_
  refine c_seq ?_
  refine c_region rfl ?_
  refine gv rfl (y_assign rfl) ?_
  refine l_nil ?_
  refine q_then ?_
  refine c_seq ?_
  refine c_region rfl ?_
  refine gv rfl (y_move rfl) ?_
  refine gv rfl (y_move rfl) ?_
  refine l_callU rfl ent104 rfl (fun w hm => index1_c w) ?_
  refine gv rfl (y_geq rfl rfl) ?_
  refine gv rfl (y_assign rfl) ?_
  refine l_nil ?_
  refine q_then ?_
  refine c_ret ?_
  exact q_ret1 Tryz.results79 rfl () trivial rfl hs_nil


theorem slCutPrefix_c {l m : List UInt8} (w : World) : Cv Tryz.prog 118 #[.string (B l), .string (B m)] w (.tuple #[.string (B (if m <+: l then l.drop m.length else l)), .bool (decide (m <+: l))]) := by
  refine enter (E := [(0, .string (B l)), (1, .string (B m))]) Tryz.func118 rfl Tryz.ntmps118 rfl (by simp) ?_
  refine c_seq ?_
  refine c_region rfl ?_
  refine gv rfl (y_assign rfl) ?_
  refine gv rfl (y_assign rfl) ?_
  refine l_nil ?_
  refine q_then ?_
  refine c_seq ?_
  refine c_seq ?_
  refine c_region rfl ?_
  refine gv rfl (y_move rfl) ?_
  refine gv rfl (y_move rfl) ?_
  refine l_callU rfl ent101 rfl (fun w hm => lHasPrefix_c w) ?_
  refine gv rfl (y_not rfl rfl) ?_
  refine l_nil ?_
  refine q_then ?_
  refine c_ndec rfl ?_ ?_
  · intro h9
    refine c_seq ?_
    refine c_region rfl ?_
    refine gv rfl (y_move rfl) ?_
    refine gv rfl (y_assign rfl) ?_
    refine gv rfl (y_assign rfl) ?_
    refine l_nil ?_
    refine q_then ?_
    refine c_ret ?_
    refine q_then_ret ?_
    exact q_ret2 Tryz.results118 rfl rfl () trivial (by rw [if_neg h9, decide_eq_false h9]) hs_nil
  · intro h9
    refine c_skip ?_
    refine q_then ?_
    refine c_seq ?_
    refine c_region rfl ?_
    refine gv rfl (y_move rfl) ?_
    refine gv rfl (y_move rfl) ?_
    refine gv rfl (y_slen Tryz.underlying9 rfl rfl) ?_
    refine gv rfl (y_sfrom Tryz.underlying9 rfl rfl (by omega) (by have := h9.length_le; omega) rfl) ?_
    refine gv rfl (y_assign rfl) ?_
    refine gv rfl (y_assign rfl) ?_
    refine l_nil ?_
    refine q_then ?_
    refine c_ret ?_
    exact q_ret2 Tryz.results118 rfl rfl () trivial (by rw [if_pos h9, decide_eq_true h9]; rfl) hs_nil


theorem cutPrefix_c {l m : List UInt8} (w : World) : Cv Tryz.prog 96 #[.string (B l), .string (B m)] w (.tuple #[.string (B (if m <+: l then l.drop m.length else l)), .bool (decide (m <+: l))]) := by
  refine enter (E := [(0, .string (B l)), (1, .string (B m))]) Tryz.func96 rfl Tryz.ntmps96 rfl (by simp) ?_
  refine c_seq ?_
  refine c_region rfl ?_
  refine gv rfl (y_assign rfl) ?_
  refine gv rfl (y_assign rfl) ?_
  refine l_nil ?_
  refine q_then ?_
  refine c_seq ?_
  refine c_region rfl ?_
  refine gv rfl (y_move rfl) ?_
  refine gv rfl (y_move rfl) ?_
  refine l_callU rfl ent118 rfl (fun w hm => slCutPrefix_c w) ?_
  refine gv rfl (y_extract rfl rfl) ?_
  refine gv rfl (y_extract rfl rfl) ?_
  refine gv rfl (y_assign rfl) ?_
  refine gv rfl (y_assign rfl) ?_
  refine l_nil ?_
  refine q_then ?_
  refine c_ret ?_
  exact q_ret2 Tryz.results96 rfl rfl () trivial rfl hs_nil


theorem chr47 (x : UInt8) : decide ((x.toNat : Int) = 47) = decide (x = 47) := by
  apply decide_eq_decide.2
  constructor
  · intro h
    have h1 : x.toNat = (47 : UInt8).toNat := by have h2 : (47 : UInt8).toNat = 47 := rfl; omega
    exact UInt8.toNat_inj.1 h1
  · rintro rfl; rfl

theorem pathMatch_c {l m : List UInt8} (w : World) (hm1 : m.length ≤ 1073741824) : Cv Tryz.prog 87 #[.string (B l), .string (B m)] w (.bool (pathF l m)) := by
  refine enter (E := [(0, .string (B l)), (1, .string (B m))]) Tryz.func87 rfl Tryz.ntmps87 rfl (by simp) ?_
  refine c_seq ?_
  refine c_region rfl ?_
  refine gv rfl (y_assign rfl) ?_
  refine l_nil ?_
  refine q_then ?_
  refine c_seq ?_
  refine c_region rfl ?_
  refine gv rfl (y_move rfl) ?_
  refine gv rfl (y_move rfl) ?_
  refine l_callU rfl ent96 rfl (fun w hm => cutPrefix_c w) ?_
  refine gv rfl (y_move rfl) ?_
  refine gv rfl (y_extract rfl rfl) ?_
  refine gv rfl (y_extract rfl rfl) ?_
  refine gv rfl (y_assign rfl) ?_
  refine gv rfl (y_assign rfl) ?_
  refine l_nil ?_
  refine q_then ?_
  refine c_seq ?_
  refine c_block ?_
  refine c_seq ?_
  refine c_region rfl ?_
  refine gv rfl (y_move rfl) ?_
  refine gv rfl (y_not rfl rfl) ?_
  refine gv rfl (y_assign rfl) ?_
  refine l_nil ?_
  refine q_then ?_
  refine c_ndec rfl ?_ ?_
  · intro h13
    refine c_seq ?_
    refine c_region rfl ?_
    refine gv rfl (y_assign rfl) ?_
    refine l_nil ?_
    refine q_then ?_
    refine c_ret ?_
    refine q_block_ret (q_then_ret ?_)
    exact q_ret1 Tryz.results87 rfl () trivial (congrArg Value.bool (if_neg h13).symm) hs_nil
  · intro h13
    rw [if_pos h13]
    refine c_seq ?_
    refine c_region rfl ?_
    refine gv rfl (y_move rfl) ?_
    refine gv rfl (y_seq rfl rfl) ?_
    refine gv rfl (y_assign rfl) ?_
    refine l_nil ?_
    refine q_then ?_
    refine c_dec rfl ?_ ?_
    · intro h16
      refine c_seq ?_
      refine c_region rfl ?_
      refine gv rfl (y_assign rfl) ?_
      refine l_nil ?_
      refine q_then ?_
      refine c_ret ?_
      refine q_block_ret (q_then_ret ?_)
      exact q_ret1 Tryz.results87 rfl () trivial (congrArg Value.bool (by unfold pathF; rw [if_pos h13, if_pos h16])) hs_nil
    · intro h16
      refine c_skip ?_
      refine q_block (q_then ?_)
      refine c_seq ?_
      refine c_region rfl ?_
      refine gv rfl (y_move rfl) ?_
      refine l_callU rfl ent108 rfl (fun w hm => hasSuffix_c (l := m) (m := [47]) w (Nat.le_trans hm1 (by decide))) ?_
      refine gv rfl (y_move rfl) ?_
      refine g_dec (t := 21) rfl ?_ ?_
      · intro h21
        refine g_off (t := 21) rfl rfl rfl rfl ?_
        refine g_off (t := 21) rfl rfl rfl rfl ?_
        refine g_off (t := 21) rfl rfl rfl rfl ?_
        refine gv rfl (y_pick_t rfl rfl) ?_
        refine gv rfl (y_assign rfl) ?_
        refine l_nil ?_
        refine q_then ?_
        refine c_ret ?_
        exact q_ret1 Tryz.results87 rfl () trivial (congrArg Value.bool (by unfold pathF; rw [if_pos h13, if_neg h16, decide_eq_true h21, Bool.true_or])) hs_nil
      · intro h21
        refine g_on (t := 21) rfl rfl ?_
        refine gv rfl (y_move rfl) ?_
        refine g_on (t := 21) rfl rfl ?_
        refine gv rfl (y_sidx Tryz.underlying9 rfl rfl (by omega) (by have hx := List.length_pos_iff.2 h16; omega)) ?_
        refine g_on (t := 21) rfl rfl ?_
        refine gv rfl (y_eql rfl rfl) ?_
        refine gv rfl (y_pick_f rfl rfl) ?_
        refine gv rfl (y_assign rfl) ?_
        refine l_nil ?_
        refine q_then ?_
        refine c_ret ?_
        exact q_ret1 Tryz.results87 rfl () trivial (congrArg Value.bool (by unfold pathF; rw [if_pos h13, if_neg h16, decide_eq_false h21, Bool.false_or]; exact chr47 _)) hs_nil


theorem askLive_c {f : Fr} {now : Int} {c : Ck} (w : World) : Cv Tryz.prog 50 #[.agg (askA f now), .agg c.arr] w (.bool (decide (c.expiry > now))) := by
  refine enter (E := [(0, .agg (askA f now)), (1, .agg c.arr)]) Tryz.func50 rfl Tryz.ntmps50 rfl (by simp) ?_
  refine c_seq ?_
  refine c_region rfl ?_
  refine l_boxA rfl rfl ?_; intro g2
  refine l_boxA rfl rfl ?_; intro g3
  refine gv rfl (y_assign rfl) ?_
  refine l_nil ?_
  refine q_then ?_
  refine c_seq ?_
  refine c_region rfl ?_
  refine gv rfl (y_loadW (k := 0)  agg26 rfl rfl rfl) ?_
  refine gv rfl (y_faddr off82_1 rfl rfl) ?_
  refine gv rfl (y_load (k := 1)  one3 rfl rfl rfl) ?_
  refine l_callU rfl ent19 rfl (fun w hm => live_c w) ?_
  refine gv rfl (y_assign rfl) ?_
  refine l_nil ?_
  refine q_then ?_
  refine c_ret ?_
  exact q_ret1 Tryz.results50 rfl () trivial rfl hs_nil


theorem askAt_c {ad : List UInt8 → Bool} {f : Fr} {now : Int} {c : Ck} (w : World) (hAd : AddrIs Tryz.prog 107 w ad) (hf : f.host.length ≤ 1073741824) (hc : c.domain.length ≤ 1073741824) : Cv Tryz.prog 51 #[.agg (askA f now), .agg c.arr] w (.bool (atF ad f c)) := by
  refine enter (E := [(0, .agg (askA f now)), (1, .agg c.arr)]) Tryz.func51 rfl Tryz.ntmps51 rfl (by simp) ?_
  refine c_seq ?_
  refine c_region rfl ?_
  refine l_boxA rfl rfl ?_; intro g2
  refine l_boxA rfl rfl ?_; intro g3
  refine gv rfl (y_assign rfl) ?_
  refine l_nil ?_
  refine q_then ?_
  refine c_seq ?_
  refine c_seq ?_
  refine c_region rfl ?_
  refine gv rfl (y_faddr off26_4 rfl rfl) ?_
  refine gv rfl (y_load (k := 0)  one4 rfl rfl rfl) ?_
  refine l_nil ?_
  refine q_then ?_
  refine c_bool rfl ?_ ?_
  · intro h6
    refine c_seq ?_
    refine c_region rfl ?_
    refine gv rfl (y_faddr off82_0 rfl rfl) ?_
    refine gv rfl (y_faddr off35_0 rfl rfl) ?_
    refine gv rfl (y_load (k := 1)  one9 rfl rfl rfl) ?_
    refine gv rfl (y_faddr off26_2 rfl rfl) ?_
    refine gv rfl (y_load (k := 0)  one9 rfl rfl rfl) ?_
    refine gv rfl (y_seq rfl rfl) ?_
    refine gv rfl (y_assign rfl) ?_
    refine l_nil ?_
    refine q_then ?_
    refine c_ret ?_
    refine q_then_ret ?_
    exact q_ret1 Tryz.results51 rfl () trivial (congrArg Value.bool (by unfold atF; rw [if_pos h6])) hs_nil
  · intro h6
    refine c_skip ?_
    refine q_then ?_
    refine c_seq ?_
    refine c_region rfl ?_
    refine gv rfl (y_faddr off82_0 rfl rfl) ?_
    refine gv rfl (y_faddr off35_0 rfl rfl) ?_
    refine gv rfl (y_load (k := 1)  one9 rfl rfl rfl) ?_
    refine gv rfl (y_faddr off26_2 rfl rfl) ?_
    refine gv rfl (y_load (k := 0)  one9 rfl rfl rfl) ?_
    refine l_callU rfl ent86 rfl (fun w hm => match_c w (hAd.above hm.below) hf hc) ?_
    refine gv rfl (y_assign rfl) ?_
    refine l_nil ?_
    refine q_then ?_
    refine c_ret ?_
    exact q_ret1 Tryz.results51 rfl () trivial (congrArg Value.bool (by unfold atF; rw [if_neg (by rw [h6]; simp)])) hs_nil


theorem askAlong_c {f : Fr} {now : Int} {c : Ck} (w : World) (hp : c.path.length ≤ 1073741824) : Cv Tryz.prog 52 #[.agg (askA f now), .agg c.arr] w (.bool (pathF f.path c.path)) := by
  refine enter (E := [(0, .agg (askA f now)), (1, .agg c.arr)]) Tryz.func52 rfl Tryz.ntmps52 rfl (by simp) ?_
  refine c_seq ?_
  refine c_region rfl ?_
  refine l_boxA rfl rfl ?_; intro g2
  refine l_boxA rfl rfl ?_; intro g3
  refine gv rfl (y_assign rfl) ?_
  refine l_nil ?_
  refine q_then ?_
  refine c_seq ?_
  refine c_region rfl ?_
  refine gv rfl (y_faddr off82_0 rfl rfl) ?_
  refine gv rfl (y_faddr off35_1 rfl rfl) ?_
  refine gv rfl (y_load (k := 1)  one9 rfl rfl rfl) ?_
  refine gv rfl (y_faddr off26_3 rfl rfl) ?_
  refine gv rfl (y_load (k := 0)  one9 rfl rfl rfl) ?_
  refine l_callU rfl ent87 rfl (fun w hm => pathMatch_c w hp) ?_
  refine gv rfl (y_assign rfl) ?_
  refine l_nil ?_
  refine q_then ?_
  refine c_ret ?_
  exact q_ret1 Tryz.results52 rfl () trivial rfl hs_nil


theorem askMay_c {f : Fr} {now : Int} {c : Ck} (w : World) : Cv Tryz.prog 53 #[.agg (askA f now), .agg c.arr] w (.bool (mayA f c)) := by
  refine enter (E := [(0, .agg (askA f now)), (1, .agg c.arr)]) Tryz.func53 rfl Tryz.ntmps53 rfl (by simp) ?_
  refine c_seq ?_
  refine c_region rfl ?_
  refine l_boxA rfl rfl ?_; intro g2
  refine l_boxA rfl rfl ?_; intro g3
  refine gv rfl (y_assign rfl) ?_
  refine l_nil ?_
  refine q_then ?_
  refine c_seq ?_
  refine c_block ?_
  refine c_seq ?_
  refine c_seq ?_
  refine c_region rfl ?_
  refine gv rfl (y_faddr off26_5 rfl rfl) ?_
  refine gv rfl (y_load (k := 0)  one4 rfl rfl rfl) ?_
  refine gv rfl (y_move rfl) ?_
  refine g_bool (t := 8) rfl ?_ ?_
  · intro h8
    refine g_on (t := 8) rfl rfl ?_
    refine gv rfl (y_faddr off82_0 rfl rfl) ?_
    refine g_on (t := 8) rfl rfl ?_
    refine gv rfl (y_faddr off35_2 rfl rfl) ?_
    refine g_on (t := 8) rfl rfl ?_
    refine gv rfl (y_load (k := 1)  one4 rfl rfl rfl) ?_
    refine g_on (t := 8) rfl rfl ?_
    refine gv rfl (y_not rfl rfl) ?_
    refine gv rfl (y_pick_t rfl rfl) ?_
    refine gv rfl (y_assign rfl) ?_
    refine l_nil ?_
    refine q_then ?_
    refine c_bool rfl ?_ ?_
    · intro h5
      refine c_skip ?_
      refine q_then ?_
      refine c_cond_t rfl ?_
      refine c_seq ?_
      refine c_region rfl ?_
      refine gv rfl (y_assign rfl) ?_
      refine l_nil ?_
      refine q_then ?_
      refine c_ret ?_
      refine q_block_ret (q_then_ret ?_)
      exact q_ret1 Tryz.results53 rfl () trivial (congrArg Value.bool (by simp [mayA, *])) hs_nil
    · intro h5
      refine c_seq ?_
      refine c_region rfl ?_
      refine gv rfl (y_faddr off26_6 rfl rfl) ?_
      refine gv rfl (y_load (k := 0)  one4 rfl rfl rfl) ?_
      refine gv rfl (y_move rfl) ?_
      refine g_bool (t := 16) rfl ?_ ?_
      · intro h16
        refine g_on (t := 16) rfl rfl ?_
        refine gv rfl (y_faddr off82_0 rfl rfl) ?_
        refine g_on (t := 16) rfl rfl ?_
        refine gv rfl (y_faddr off35_3 rfl rfl) ?_
        refine g_on (t := 16) rfl rfl ?_
        refine gv rfl (y_load (k := 1)  one4 rfl rfl rfl) ?_
        refine gv rfl (y_pick_t rfl rfl) ?_
        refine gv rfl (y_assign rfl) ?_
        refine l_nil ?_
        refine q_then ?_
        refine c_bool rfl ?_ ?_
        · intro h5
          refine c_skip ?_
          refine q_then ?_
          refine c_cond_t rfl ?_
          refine c_seq ?_
          refine c_region rfl ?_
          refine gv rfl (y_assign rfl) ?_
          refine l_nil ?_
          refine q_then ?_
          refine c_ret ?_
          refine q_block_ret (q_then_ret ?_)
          exact q_ret1 Tryz.results53 rfl () trivial (congrArg Value.bool (by simp [mayA, *])) hs_nil
        · intro h5
          refine c_region rfl ?_
          refine gv rfl (y_faddr off82_0 rfl rfl) ?_
          refine gv rfl (y_faddr off35_4 rfl rfl) ?_
          refine gv rfl (y_load (k := 1)  one4 rfl rfl rfl) ?_
          refine gv rfl (y_move rfl) ?_
          refine g_bool (t := 24) rfl ?_ ?_
          · intro h24
            refine g_on (t := 24) rfl rfl ?_
            refine gv rfl (y_faddr off26_8 rfl rfl) ?_
            refine g_on (t := 24) rfl rfl ?_
            refine gv rfl (y_load (k := 0)  one3 rfl rfl rfl) ?_
            refine g_on (t := 24) rfl rfl ?_
            refine gv rfl (y_neq rfl rfl) ?_
            refine gv rfl (y_pick_t rfl rfl) ?_
            refine gv rfl (y_assign rfl) ?_
            refine l_nil ?_
            refine q_then ?_
            refine c_dec rfl ?_ ?_
            · intro h5
              refine c_seq ?_
              refine c_region rfl ?_
              refine gv rfl (y_assign rfl) ?_
              refine l_nil ?_
              refine q_then ?_
              refine c_ret ?_
              refine q_block_ret (q_then_ret ?_)
              exact q_ret1 Tryz.results53 rfl () trivial (congrArg Value.bool (by simp [mayA, *])) hs_nil
            · intro h5
              refine c_skip ?_
              refine q_block (q_then ?_)
              refine c_seq ?_
              refine c_region rfl ?_
              refine gv rfl (y_assign rfl) ?_
              refine l_nil ?_
              refine q_then ?_
              refine c_ret ?_
              exact q_ret1 Tryz.results53 rfl () trivial (congrArg Value.bool (by simp [mayA, *])) hs_nil
          · intro h24
            refine g_off (t := 24) rfl rfl rfl rfl ?_
            refine g_off (t := 24) rfl rfl rfl rfl ?_
            refine g_off (t := 24) rfl rfl rfl rfl ?_
            refine gv rfl (y_pick_f rfl rfl) ?_
            refine gv rfl (y_assign rfl) ?_
            refine l_nil ?_
            refine q_then ?_
            refine c_cond_f rfl ?_
            refine c_skip ?_
            refine q_block (q_then ?_)
            refine c_seq ?_
            refine c_region rfl ?_
            refine gv rfl (y_assign rfl) ?_
            refine l_nil ?_
            refine q_then ?_
            refine c_ret ?_
            exact q_ret1 Tryz.results53 rfl () trivial (congrArg Value.bool (by simp [mayA, *])) hs_nil
      · intro h16
        refine g_off (t := 16) rfl rfl rfl rfl ?_
        refine g_off (t := 16) rfl rfl rfl rfl ?_
        refine g_off (t := 16) rfl rfl rfl rfl ?_
        refine gv rfl (y_pick_f rfl rfl) ?_
        refine gv rfl (y_assign rfl) ?_
        refine l_nil ?_
        refine q_then ?_
        refine c_cond_f rfl ?_
        refine c_region rfl ?_
        refine gv rfl (y_faddr off82_0 rfl rfl) ?_
        refine gv rfl (y_faddr off35_4 rfl rfl) ?_
        refine gv rfl (y_load (k := 1)  one4 rfl rfl rfl) ?_
        refine gv rfl (y_move rfl) ?_
        refine g_bool (t := 24) rfl ?_ ?_
        · intro h24
          refine g_on (t := 24) rfl rfl ?_
          refine gv rfl (y_faddr off26_8 rfl rfl) ?_
          refine g_on (t := 24) rfl rfl ?_
          refine gv rfl (y_load (k := 0)  one3 rfl rfl rfl) ?_
          refine g_on (t := 24) rfl rfl ?_
          refine gv rfl (y_neq rfl rfl) ?_
          refine gv rfl (y_pick_t rfl rfl) ?_
          refine gv rfl (y_assign rfl) ?_
          refine l_nil ?_
          refine q_then ?_
          refine c_dec rfl ?_ ?_
          · intro h5
            refine c_seq ?_
            refine c_region rfl ?_
            refine gv rfl (y_assign rfl) ?_
            refine l_nil ?_
            refine q_then ?_
            refine c_ret ?_
            refine q_block_ret (q_then_ret ?_)
            exact q_ret1 Tryz.results53 rfl () trivial (congrArg Value.bool (by simp [mayA, *])) hs_nil
          · intro h5
            refine c_skip ?_
            refine q_block (q_then ?_)
            refine c_seq ?_
            refine c_region rfl ?_
            refine gv rfl (y_assign rfl) ?_
            refine l_nil ?_
            refine q_then ?_
            refine c_ret ?_
            exact q_ret1 Tryz.results53 rfl () trivial (congrArg Value.bool (by simp [mayA, *])) hs_nil
        · intro h24
          refine g_off (t := 24) rfl rfl rfl rfl ?_
          refine g_off (t := 24) rfl rfl rfl rfl ?_
          refine g_off (t := 24) rfl rfl rfl rfl ?_
          refine gv rfl (y_pick_f rfl rfl) ?_
          refine gv rfl (y_assign rfl) ?_
          refine l_nil ?_
          refine q_then ?_
          refine c_cond_f rfl ?_
          refine c_skip ?_
          refine q_block (q_then ?_)
          refine c_seq ?_
          refine c_region rfl ?_
          refine gv rfl (y_assign rfl) ?_
          refine l_nil ?_
          refine q_then ?_
          refine c_ret ?_
          exact q_ret1 Tryz.results53 rfl () trivial (congrArg Value.bool (by simp [mayA, *])) hs_nil
  · intro h8
    refine g_off (t := 8) rfl rfl rfl rfl ?_
    refine g_off (t := 8) rfl rfl rfl rfl ?_
    refine g_off (t := 8) rfl rfl rfl rfl ?_
    refine g_off (t := 8) rfl rfl rfl rfl ?_
    refine gv rfl (y_pick_f rfl rfl) ?_
    refine gv rfl (y_assign rfl) ?_
    refine l_nil ?_
    refine q_then ?_
    refine c_cond_f rfl ?_
    refine c_seq ?_
    refine c_region rfl ?_
    refine gv rfl (y_faddr off26_6 rfl rfl) ?_
    refine gv rfl (y_load (k := 0)  one4 rfl rfl rfl) ?_
    refine gv rfl (y_move rfl) ?_
    refine g_bool (t := 16) rfl ?_ ?_
    · intro h16
      refine g_on (t := 16) rfl rfl ?_
      refine gv rfl (y_faddr off82_0 rfl rfl) ?_
      refine g_on (t := 16) rfl rfl ?_
      refine gv rfl (y_faddr off35_3 rfl rfl) ?_
      refine g_on (t := 16) rfl rfl ?_
      refine gv rfl (y_load (k := 1)  one4 rfl rfl rfl) ?_
      refine gv rfl (y_pick_t rfl rfl) ?_
      refine gv rfl (y_assign rfl) ?_
      refine l_nil ?_
      refine q_then ?_
      refine c_bool rfl ?_ ?_
      · intro h5
        refine c_skip ?_
        refine q_then ?_
        refine c_cond_t rfl ?_
        refine c_seq ?_
        refine c_region rfl ?_
        refine gv rfl (y_assign rfl) ?_
        refine l_nil ?_
        refine q_then ?_
        refine c_ret ?_
        refine q_block_ret (q_then_ret ?_)
        exact q_ret1 Tryz.results53 rfl () trivial (congrArg Value.bool (by simp [mayA, *])) hs_nil
      · intro h5
        refine c_region rfl ?_
        refine gv rfl (y_faddr off82_0 rfl rfl) ?_
        refine gv rfl (y_faddr off35_4 rfl rfl) ?_
        refine gv rfl (y_load (k := 1)  one4 rfl rfl rfl) ?_
        refine gv rfl (y_move rfl) ?_
        refine g_bool (t := 24) rfl ?_ ?_
        · intro h24
          refine g_on (t := 24) rfl rfl ?_
          refine gv rfl (y_faddr off26_8 rfl rfl) ?_
          refine g_on (t := 24) rfl rfl ?_
          refine gv rfl (y_load (k := 0)  one3 rfl rfl rfl) ?_
          refine g_on (t := 24) rfl rfl ?_
          refine gv rfl (y_neq rfl rfl) ?_
          refine gv rfl (y_pick_t rfl rfl) ?_
          refine gv rfl (y_assign rfl) ?_
          refine l_nil ?_
          refine q_then ?_
          refine c_dec rfl ?_ ?_
          · intro h5
            refine c_seq ?_
            refine c_region rfl ?_
            refine gv rfl (y_assign rfl) ?_
            refine l_nil ?_
            refine q_then ?_
            refine c_ret ?_
            refine q_block_ret (q_then_ret ?_)
            exact q_ret1 Tryz.results53 rfl () trivial (congrArg Value.bool (by simp [mayA, *])) hs_nil
          · intro h5
            refine c_skip ?_
            refine q_block (q_then ?_)
            refine c_seq ?_
            refine c_region rfl ?_
            refine gv rfl (y_assign rfl) ?_
            refine l_nil ?_
            refine q_then ?_
            refine c_ret ?_
            exact q_ret1 Tryz.results53 rfl () trivial (congrArg Value.bool (by simp [mayA, *])) hs_nil
        · intro h24
          refine g_off (t := 24) rfl rfl rfl rfl ?_
          refine g_off (t := 24) rfl rfl rfl rfl ?_
          refine g_off (t := 24) rfl rfl rfl rfl ?_
          refine gv rfl (y_pick_f rfl rfl) ?_
          refine gv rfl (y_assign rfl) ?_
          refine l_nil ?_
          refine q_then ?_
          refine c_cond_f rfl ?_
          refine c_skip ?_
          refine q_block (q_then ?_)
          refine c_seq ?_
          refine c_region rfl ?_
          refine gv rfl (y_assign rfl) ?_
          refine l_nil ?_
          refine q_then ?_
          refine c_ret ?_
          exact q_ret1 Tryz.results53 rfl () trivial (congrArg Value.bool (by simp [mayA, *])) hs_nil
    · intro h16
      refine g_off (t := 16) rfl rfl rfl rfl ?_
      refine g_off (t := 16) rfl rfl rfl rfl ?_
      refine g_off (t := 16) rfl rfl rfl rfl ?_
      refine gv rfl (y_pick_f rfl rfl) ?_
      refine gv rfl (y_assign rfl) ?_
      refine l_nil ?_
      refine q_then ?_
      refine c_cond_f rfl ?_
      refine c_region rfl ?_
      refine gv rfl (y_faddr off82_0 rfl rfl) ?_
      refine gv rfl (y_faddr off35_4 rfl rfl) ?_
      refine gv rfl (y_load (k := 1)  one4 rfl rfl rfl) ?_
      refine gv rfl (y_move rfl) ?_
      refine g_bool (t := 24) rfl ?_ ?_
      · intro h24
        refine g_on (t := 24) rfl rfl ?_
        refine gv rfl (y_faddr off26_8 rfl rfl) ?_
        refine g_on (t := 24) rfl rfl ?_
        refine gv rfl (y_load (k := 0)  one3 rfl rfl rfl) ?_
        refine g_on (t := 24) rfl rfl ?_
        refine gv rfl (y_neq rfl rfl) ?_
        refine gv rfl (y_pick_t rfl rfl) ?_
        refine gv rfl (y_assign rfl) ?_
        refine l_nil ?_
        refine q_then ?_
        refine c_dec rfl ?_ ?_
        · intro h5
          refine c_seq ?_
          refine c_region rfl ?_
          refine gv rfl (y_assign rfl) ?_
          refine l_nil ?_
          refine q_then ?_
          refine c_ret ?_
          refine q_block_ret (q_then_ret ?_)
          exact q_ret1 Tryz.results53 rfl () trivial (congrArg Value.bool (by simp [mayA, *])) hs_nil
        · intro h5
          refine c_skip ?_
          refine q_block (q_then ?_)
          refine c_seq ?_
          refine c_region rfl ?_
          refine gv rfl (y_assign rfl) ?_
          refine l_nil ?_
          refine q_then ?_
          refine c_ret ?_
          exact q_ret1 Tryz.results53 rfl () trivial (congrArg Value.bool (by simp [mayA, *])) hs_nil
      · intro h24
        refine g_off (t := 24) rfl rfl rfl rfl ?_
        refine g_off (t := 24) rfl rfl rfl rfl ?_
        refine g_off (t := 24) rfl rfl rfl rfl ?_
        refine gv rfl (y_pick_f rfl rfl) ?_
        refine gv rfl (y_assign rfl) ?_
        refine l_nil ?_
        refine q_then ?_
        refine c_cond_f rfl ?_
        refine c_skip ?_
        refine q_block (q_then ?_)
        refine c_seq ?_
        refine c_region rfl ?_
        refine gv rfl (y_assign rfl) ?_
        refine l_nil ?_
        refine q_then ?_
        refine c_ret ?_
        exact q_ret1 Tryz.results53 rfl () trivial (congrArg Value.bool (by simp [mayA, *])) hs_nil

theorem ent115 : enters Tryz.prog 115 = true := by kernel_rfl

theorem ent93 : enters Tryz.prog 93 = true := by kernel_rfl

theorem ent58 : enters Tryz.prog 58 = true := by kernel_rfl

theorem ent59 : enters Tryz.prog 59 = true := by kernel_rfl


end Go.Gx
