/- This text proves: functions of the program, walked: what each answers, for every input. No condition beyond those that each theorem names. -/
import Derived.Test.YtgehghoammpiaaaGreatDoorProg
import Derived.Test.YtgehghoammpiaaaGreatDoorGP
import Derived.Test.YtgehghoammpiaaaGreatDoorGy6
import Derived.KernelRfl
namespace Go.Gx
open Go.Proofs Go.Maps
theorem off26_9 : fieldOff Tryz.prog 26 9 = some 9 := by kernel_rfl
theorem one3 : oneT Tryz.prog 3 = true := by kernel_rfl
theorem off26_10 : fieldOff Tryz.prog 26 10 = some 10 := by kernel_rfl
theorem ent30 : enters Tryz.prog 30 = true := by kernel_rfl
theorem off26_11 : fieldOff Tryz.prog 26 11 = some 11 := by kernel_rfl
theorem zero77 : zeroOf Tryz.prog 77 = some (.agg #[.string (B []), .string (B []), .string (B [])]) := by kernel_rfl
theorem off26_0 : fieldOff Tryz.prog 26 0 = some 0 := by kernel_rfl
theorem one9 : oneT Tryz.prog 9 = true := by kernel_rfl
theorem off26_2 : fieldOff Tryz.prog 26 2 = some 2 := by kernel_rfl
theorem off26_3 : fieldOff Tryz.prog 26 3 = some 3 := by kernel_rfl
theorem bld77 : bldT Tryz.prog 77 = some [(0, 1), (1, 1), (2, 1)] := by kernel_rfl
theorem size77 : sizeT Tryz.prog 77 3 = true := by kernel_rfl
theorem agg77 : aggT Tryz.prog 77 3 = true := by kernel_rfl
theorem off53_0 : fieldOff Tryz.prog 53 0 = some 0 := by kernel_rfl
theorem off53_2 : fieldOff Tryz.prog 53 2 = some 11 := by kernel_rfl
theorem one51 : oneT Tryz.prog 51 = true := by kernel_rfl
theorem elem51 : elemT Tryz.prog 51 3 = true := by kernel_rfl
theorem size3 : sizeT Tryz.prog 3 1 = true := by kernel_rfl
theorem elem22 : elemT Tryz.prog 22 26 = true := by kernel_rfl
theorem size26 : sizeT Tryz.prog 26 13 = true := by kernel_rfl
theorem agg26 : aggT Tryz.prog 26 13 = true := by kernel_rfl
theorem flat26 : ∀ (v0 : ByteArray) (v1 : ByteArray) (v2 : ByteArray) (v3 : ByteArray) (v4 : Bool) (v5 : Bool) (v6 : Bool) (v7 : Bool) (v8 : Int) (v9 : Int) (v10 : Int) (v11 : Int) (v12 : Int), flatT Tryz.prog 26 [.string v0, .string v1, .string v2, .string v3, .bool v4, .bool v5, .bool v6, .bool v7, .int .i64 v8, .int .i64 v9, .int .i64 v10, .int .i64 v11, .int .i64 v12] = true := by intros; kernel_rfl
theorem ent101 : enters Tryz.prog 101 = true := by kernel_rfl
theorem ent131 : enters Tryz.prog 131 = true := by kernel_rfl
theorem off163_1 : fieldOff Tryz.prog 163 1 = some 1 := by kernel_rfl
theorem one107 : oneT Tryz.prog 107 = true := by kernel_rfl
theorem off163_0 : fieldOff Tryz.prog 163 0 = some 0 := by kernel_rfl
theorem ent132 : enters Tryz.prog 132 = true := by kernel_rfl
theorem elem124 : elemT Tryz.prog 124 5 = true := by kernel_rfl
theorem size5 : sizeT Tryz.prog 5 1 = true := by kernel_rfl
theorem one5 : oneT Tryz.prog 5 = true := by kernel_rfl
theorem ent155 : enters Tryz.prog 155 = true := by kernel_rfl
theorem ent152 : enters Tryz.prog 152 = true := by kernel_rfl
theorem off53_1 : fieldOff Tryz.prog 53 1 = some 1 := by kernel_rfl
theorem arr50 : arrT Tryz.prog 50 10 4 = true := by kernel_rfl
theorem size4 : sizeT Tryz.prog 4 1 = true := by kernel_rfl
theorem one4 : oneT Tryz.prog 4 = true := by kernel_rfl
theorem ent134 : enters Tryz.prog 134 = true := by kernel_rfl
theorem ent138 : enters Tryz.prog 138 = true := by kernel_rfl
theorem ent119 : enters Tryz.prog 119 = true := by kernel_rfl
theorem strT9 : strT Tryz.prog 9 = true := by kernel_rfl
theorem bytesT124 : bytesT Tryz.prog 124 5 = true := by kernel_rfl
theorem one158 : oneT Tryz.prog 158 = true := by kernel_rfl
theorem zero158 : zeroOf Tryz.prog 158 = some (.nilFunc) := by kernel_rfl
theorem size158 : sizeT Tryz.prog 158 1 = true := by kernel_rfl
theorem ent140 : enters Tryz.prog 140 = true := by kernel_rfl
theorem ent141 : enters Tryz.prog 141 = true := by kernel_rfl
theorem ent142 : enters Tryz.prog 142 = true := by kernel_rfl
theorem ent121 : enters Tryz.prog 121 = true := by kernel_rfl
theorem ent95 : enters Tryz.prog 95 = true := by kernel_rfl
theorem elem117 : elemT Tryz.prog 117 9 = true := by kernel_rfl
theorem size9 : sizeT Tryz.prog 9 1 = true := by kernel_rfl
theorem ent122 : enters Tryz.prog 122 = true := by kernel_rfl
theorem ent100 : enters Tryz.prog 100 = true := by kernel_rfl
theorem ent107 : enters Tryz.prog 107 = true := by kernel_rfl
theorem ent108 : enters Tryz.prog 108 = true := by kernel_rfl
theorem ent86 : enters Tryz.prog 86 = true := by kernel_rfl
theorem off116_0 : fieldOff Tryz.prog 116 0 = some 0 := by kernel_rfl
theorem off116_1 : fieldOff Tryz.prog 116 1 = some 1 := by kernel_rfl
theorem zero163 : zeroOf Tryz.prog 163 = some (.agg #[.string (B []), .nilFunc]) := by kernel_rfl
theorem bld163 : bldT Tryz.prog 163 = some [(0, 1), (1, 1)] := by kernel_rfl
theorem conc163 : Tryz.prog.concrete 163 = true := by kernel_rfl
theorem conc164 : Tryz.prog.concrete 164 = true := by kernel_rfl
theorem zero166 : zeroOf Tryz.prog 166 = some (.agg #[]) := by kernel_rfl
theorem bld166 : bldT Tryz.prog 166 = some [] := by kernel_rfl
theorem conc166 : Tryz.prog.concrete 166 = true := by kernel_rfl
theorem ent195 : enters Tryz.prog 195 = true := by kernel_rfl
theorem ent151 : enters Tryz.prog 151 = true := by kernel_rfl
theorem ent77 : enters Tryz.prog 77 = true := by kernel_rfl
theorem ent196 : enters Tryz.prog 196 = true := by kernel_rfl
theorem ent197 : enters Tryz.prog 197 = true := by kernel_rfl
theorem off49_0 : fieldOff Tryz.prog 49 0 = some 0 := by kernel_rfl
theorem one46 : oneT Tryz.prog 46 = true := by kernel_rfl
theorem elem46 : elemT Tryz.prog 46 116 = true := by kernel_rfl
theorem size116 : sizeT Tryz.prog 116 4 = true := by kernel_rfl
theorem agg116 : aggT Tryz.prog 116 4 = true := by kernel_rfl
theorem zero116 : zeroOf Tryz.prog 116 = some (.agg #[.int .i64 0, .string (B []), .int .i64 0, .int .i64 0]) := by kernel_rfl
theorem ent133 : enters Tryz.prog 133 = true := by kernel_rfl
theorem off116_2 : fieldOff Tryz.prog 116 2 = some 2 := by kernel_rfl
theorem off116_3 : fieldOff Tryz.prog 116 3 = some 3 := by kernel_rfl
theorem off49_1 : fieldOff Tryz.prog 49 1 = some 1 := by kernel_rfl
theorem agg49 : aggT Tryz.prog 49 13 = true := by kernel_rfl
theorem ent112 : enters Tryz.prog 112 = true := by kernel_rfl
theorem agg53 : aggT Tryz.prog 53 12 = true := by kernel_rfl
theorem ent113 : enters Tryz.prog 113 = true := by kernel_rfl
theorem off49_2 : fieldOff Tryz.prog 49 2 = some 2 := by kernel_rfl
theorem arr47 : arrT Tryz.prog 47 11 3 = true := by kernel_rfl
theorem ent135 : enters Tryz.prog 135 = true := by kernel_rfl
theorem ib154 : IsIB Tryz.prog 154 := fun args w => run_callFunc_extern (e := Extern.BytealgIndexByte.indexByte) Tryz.func154 (by kernel_rfl) (by kernel_rfl) (by kernel_rfl) (by kernel_rfl) args w

theorem live_c {c : Ck} {now : Int} (w : World) : Cv Tryz.prog 19 #[.agg c.arr, .int .i64 now] w (.bool (decide (c.expiry > now))) := by
  refine enter (E := [(0, .agg c.arr), (1, .int .i64 now)]) Tryz.func19 rfl Tryz.ntmps19 rfl (by simp) ?_
  refine c_seq ?_
  refine c_region rfl ?_
  refine l_boxA rfl rfl ?_; intro g2
  refine gv rfl (y_assign rfl) ?_
  refine l_nil ?_
  refine q_then ?_
  refine c_seq ?_
  refine c_region rfl ?_
  refine gv rfl (y_faddr off26_9 rfl rfl) ?_
  refine gv rfl (y_load (k := 0)  one3 rfl rfl rfl) ?_
  refine gv rfl (y_move rfl) ?_
  refine gv rfl (y_gtr rfl rfl) ?_
  refine gv rfl (y_assign rfl) ?_
  refine l_nil ?_
  refine q_then ?_
  refine c_ret ?_
  exact q_ret1 Tryz.results19 rfl () trivial rfl hs_nil

theorem is_c {n : Int} (w : World) : Cv Tryz.prog 30 #[.int .i64 n] w (.bool (decide (isM n))) := by
  refine enter (E := [(0, .int .i64 n)]) Tryz.func30 rfl Tryz.ntmps30 rfl (by simp) ?_
  refine c_seq ?_
  refine c_region rfl ?_
  refine gv rfl (y_assign rfl) ?_
  refine l_nil ?_
  refine q_then ?_
  refine c_seq ?_
  refine c_region rfl ?_
  refine gv rfl (y_move rfl) ?_
  refine gv rfl (y_geq rfl rfl) ?_
  refine gv rfl (y_move rfl) ?_
  refine g_dec (t := 5) rfl ?_ ?_
  · intro h5
    refine g_on (t := 5) rfl rfl ?_
    refine gv rfl (y_move rfl) ?_
    refine g_on (t := 5) rfl rfl ?_
    refine gv rfl (y_leq rfl rfl) ?_
    refine gv rfl (y_pick_t rfl rfl) ?_
    refine gv rfl (y_assign rfl) ?_
    refine l_nil ?_
    refine q_then ?_
    refine c_ret ?_
    exact q_ret1 Tryz.results30 rfl () trivial (bd (by unfold isM; omega)) hs_nil
  · intro h5
    refine g_off (t := 5) rfl rfl rfl rfl ?_
    refine g_off (t := 5) rfl rfl rfl rfl ?_
    refine gv rfl (y_pick_f rfl rfl) ?_
    refine gv rfl (y_assign rfl) ?_
    refine l_nil ?_
    refine q_then ?_
    refine c_ret ?_
    exact q_ret1 Tryz.results30 rfl () trivial (bf (by unfold isM; omega)) hs_nil

theorem purpose_c {n : Int} (w : World) : Cv Tryz.prog 109 #[.int .i64 n] w (.bool (decide (0 ≤ n ∧ n ≤ 10))) := by
  refine enter (E := [(0, .int .i64 n)]) Tryz.func109 rfl Tryz.ntmps109 rfl (by simp) ?_
  refine c_seq ?_
  refine c_region rfl ?_
  refine gv rfl (y_assign rfl) ?_
  refine l_nil ?_
  refine q_then ?_
  refine c_seq ?_
  refine c_region rfl ?_
  refine gv rfl (y_move rfl) ?_
  refine gv rfl (y_geq rfl rfl) ?_
  refine gv rfl (y_move rfl) ?_
  refine g_dec (t := 5) rfl ?_ ?_
  · intro h5
    refine g_on (t := 5) rfl rfl ?_
    refine gv rfl (y_move rfl) ?_
    refine g_on (t := 5) rfl rfl ?_
    refine gv rfl (y_leq rfl rfl) ?_
    refine gv rfl (y_pick_t rfl rfl) ?_
    refine gv rfl (y_assign rfl) ?_
    refine l_nil ?_
    refine q_then ?_
    refine c_ret ?_
    exact q_ret1 Tryz.results109 rfl () trivial (bd (by omega)) hs_nil
  · intro h5
    refine g_off (t := 5) rfl rfl rfl rfl ?_
    refine g_off (t := 5) rfl rfl rfl rfl ?_
    refine gv rfl (y_pick_f rfl rfl) ?_
    refine gv rfl (y_assign rfl) ?_
    refine l_nil ?_
    refine q_then ?_
    refine c_ret ?_
    exact q_ret1 Tryz.results109 rfl () trivial (bf (by omega)) hs_nil

theorem moments_c {c : Ck} (w : World) : Cv Tryz.prog 31 #[.agg c.arr] w (.bool (decide (isM c.created ∧ isM c.used))) := by
  refine enter (E := [(0, .agg c.arr)]) Tryz.func31 rfl Tryz.ntmps31 rfl (by simp) ?_
  refine c_seq ?_
  refine c_region rfl ?_
  refine l_boxA rfl rfl ?_; intro g1
  refine gv rfl (y_assign rfl) ?_
  refine l_nil ?_
  refine q_then ?_
  refine c_seq ?_
  refine c_region rfl ?_
  refine gv rfl (y_faddr off26_10 rfl rfl) ?_
  refine gv rfl (y_load (k := 0)  one3 rfl rfl rfl) ?_
  refine l_callU rfl ent30 rfl (fun w hm => is_c w) ?_
  refine gv rfl (y_move rfl) ?_
  refine g_dec (t := 6) rfl ?_ ?_
  · intro h6
    refine g_on (t := 6) rfl rfl ?_
    refine gv rfl (y_faddr off26_11 rfl rfl) ?_
    refine g_on (t := 6) rfl rfl ?_
    refine gv rfl (y_load (k := 0)  one3 rfl rfl rfl) ?_
    refine g_on (t := 6) rfl rfl ?_
    refine l_callU rfl ent30 rfl (fun w hm => is_c w) ?_
    refine gv rfl (y_pick_t rfl rfl) ?_
    refine gv rfl (y_assign rfl) ?_
    refine l_nil ?_
    refine q_then ?_
    refine c_ret ?_
    exact q_ret1 Tryz.results31 rfl () trivial (bd (by simp [*])) hs_nil
  · intro h6
    refine g_off (t := 6) rfl rfl rfl rfl ?_
    refine g_off (t := 6) rfl rfl rfl rfl ?_
    refine g_off (t := 6) rfl rfl rfl rfl ?_
    refine gv rfl (y_pick_f rfl rfl) ?_
    refine gv rfl (y_assign rfl) ?_
    refine l_nil ?_
    refine q_then ?_
    refine c_ret ?_
    exact q_ret1 Tryz.results31 rfl () trivial (bf (by simp [*])) hs_nil

theorem keyOf_c {c : Ck} (w : World) : Cv Tryz.prog 45 #[.agg c.arr] w (.agg #[.string (B c.name), .string (B c.domain), .string (B c.path)]) := by
  refine enter (E := [(0, .agg c.arr)]) Tryz.func45 rfl Tryz.ntmps45 rfl (by simp) ?_
  refine c_seq ?_
  refine c_region rfl ?_
  refine l_boxA rfl rfl ?_; intro g1
  refine l_allocA rfl zero77 ?_; intro g2
  refine l_nil ?_
  refine q_then ?_
  refine c_seq ?_
  refine c_region rfl ?_
  refine gv rfl (y_faddr off26_0 rfl rfl) ?_
  refine gv rfl (y_load (k := 1)  one9 rfl rfl rfl) ?_
  refine gv rfl (y_faddr off26_2 rfl rfl) ?_
  refine gv rfl (y_load (k := 1)  one9 rfl rfl rfl) ?_
  refine gv rfl (y_faddr off26_3 rfl rfl) ?_
  refine gv rfl (y_load (k := 1)  one9 rfl rfl rfl) ?_
  refine gv rfl (y_build (cs := #[_, _, _]) (cl := [_, _, _])  zero77 bld77 rfl rfl rfl rfl rfl) ?_
  refine l_storeW (k := 0) (H' := [_, _]) size77 rfl rfl rfl rfl rfl rfl rfl ?_
  refine l_nil ?_
  refine q_then ?_
  refine c_ret ?_
  exact q_retA (k := 0) Tryz.results45 agg77 rfl rfl rfl () trivial rfl hs_nil

theorem after_c {n s : Int} (w : World) (hn : -11644473600 ≤ n ∧ n ≤ 253402300799) (hs : -9223372036854775808 ≤ s ∧ s ≤ 9223372036854775807) : Cv Tryz.prog 135 #[.int .i64 n, .int .i64 s] w (.int .i64 (afterM n s)) := by
  refine enter (E := [(0, .int .i64 n), (1, .int .i64 s)]) Tryz.func135 rfl Tryz.ntmps135 rfl (by simp) ?_
  refine c_seq ?_
  refine c_region rfl ?_
  refine gv rfl (y_assign rfl) ?_
  refine l_nil ?_
  refine q_then ?_
  refine c_seq ?_
  refine c_seq ?_
  refine c_region rfl ?_
  refine gv rfl (y_move rfl) ?_
  refine gv rfl (y_lss rfl rfl) ?_
  refine l_nil ?_
  refine q_then ?_
  refine c_dec rfl ?_ ?_
  · intro h6
    refine c_seq ?_
    refine c_region rfl ?_
    refine gv rfl (y_move rfl) ?_
    refine gv rfl (y_move rfl) ?_
    refine gv rfl (y_sub_ rfl rfl (wrap_in (by omega) (by omega))) ?_
    refine gv rfl (y_move rfl) ?_
    refine gv rfl (y_max rfl rfl rfl) ?_
    refine gv rfl (y_neg rfl (wrap_in (by omega) (by omega))) ?_
    refine gv rfl (y_min rfl rfl rfl) ?_
    refine gv rfl (y_sub_ rfl rfl (wrap_in (by omega) (by omega))) ?_
    refine gv rfl (y_assign rfl) ?_
    refine l_nil ?_
    refine q_then ?_
    refine c_ret ?_
    refine q_then_ret ?_
    exact q_ret1 Tryz.results135 rfl () trivial (congrArg (Value.int .i64) (by unfold afterM; rw [if_pos h6]; (repeat split) <;> omega)) hs_nil
  · intro h6
    refine c_skip ?_
    refine q_then ?_
    refine c_seq ?_
    refine c_region rfl ?_
    refine gv rfl (y_move rfl) ?_
    refine gv rfl (y_move rfl) ?_
    refine gv rfl (y_sub_ rfl rfl (wrap_in (by omega) (by omega))) ?_
    refine gv rfl (y_move rfl) ?_
    refine gv rfl (y_min rfl rfl rfl) ?_
    refine gv rfl (y_add rfl rfl (wrap_in (by omega) (by omega))) ?_
    refine gv rfl (y_assign rfl) ?_
    refine l_nil ?_
    refine q_then ?_
    refine c_ret ?_
    exact q_ret1 Tryz.results135 rfl () trivial (congrArg (Value.int .i64) (by unfold afterM; rw [if_neg h6]; (repeat split) <;> omega)) hs_nil

theorem capBad_c {n : Int} (w : World) : Cv Tryz.prog 111 #[.int .i64 n] w (.bool (decide (n < 1 ∨ n > 1000000000))) := by
  refine enter (E := [(0, .int .i64 n)]) Tryz.func111 rfl Tryz.ntmps111 rfl (by simp) ?_
  refine c_seq ?_
  refine c_region rfl ?_
  refine gv rfl (y_assign rfl) ?_
  refine l_nil ?_
  refine q_then ?_
  refine c_seq ?_
  refine c_region rfl ?_
  refine gv rfl (y_move rfl) ?_
  refine gv rfl (y_lss rfl rfl) ?_
  refine gv rfl (y_move rfl) ?_
  refine g_dec (t := 5) rfl ?_ ?_
  · intro h5
    refine g_off (t := 5) rfl rfl rfl rfl ?_
    refine g_off (t := 5) rfl rfl rfl rfl ?_
    refine gv rfl (y_pick_t rfl rfl) ?_
    refine gv rfl (y_assign rfl) ?_
    refine l_nil ?_
    refine q_then ?_
    refine c_ret ?_
    exact q_ret1 Tryz.results111 rfl () trivial (bt (by omega)) hs_nil
  · intro h5
    refine g_on (t := 5) rfl rfl ?_
    refine gv rfl (y_move rfl) ?_
    refine g_on (t := 5) rfl rfl ?_
    refine gv rfl (y_gtr rfl rfl) ?_
    refine gv rfl (y_pick_f rfl rfl) ?_
    refine gv rfl (y_assign rfl) ?_
    refine l_nil ?_
    refine q_then ?_
    refine c_ret ?_
    exact q_ret1 Tryz.results111 rfl () trivial (bd (by omega)) hs_nil

theorem conCheck_c {g : Co} {A : Option Addr} {k : Nat} (w : World) (hA : Sl i1 1 w A g.vs) (hlen : g.vs.length ≤ 9223372036854775806) : Cv Tryz.prog 89 #[.agg (g.arr A k)] w (.int .i64 (conErr g)) := by
  refine enter (E := [(0, .agg (g.arr A k))]) Tryz.func89 rfl Tryz.ntmps89 rfl (by simp) ?_
  refine c_seq ?_
  refine c_region rfl ?_
  refine l_boxA rfl rfl ?_; intro g1
  refine gv rfl (y_assign rfl) ?_
  refine l_nil ?_
  refine q_then ?_
  refine c_seq ?_
  refine c_seq ?_
  refine c_region rfl ?_
  refine gv rfl (y_faddr off53_0 rfl rfl) ?_
  refine gv rfl (y_load (k := 0)  one3 rfl rfl rfl) ?_
  refine gv rfl (y_lss rfl rfl) ?_
  refine gv rfl (y_move rfl) ?_
  refine g_dec (t := 8) rfl ?_ ?_
  · intro h8
    refine g_off (t := 8) rfl rfl rfl rfl ?_
    refine g_off (t := 8) rfl rfl rfl rfl ?_
    refine g_off (t := 8) rfl rfl rfl rfl ?_
    refine gv rfl (y_pick_t rfl rfl) ?_
    refine l_nil ?_
    refine q_then ?_
    refine c_cond_t rfl ?_
    refine c_seq ?_
    refine c_region rfl ?_
    refine gv rfl (y_assign rfl) ?_
    refine l_nil ?_
    refine q_then ?_
    refine c_ret ?_
    refine q_then_ret ?_
    exact q_ret1 Tryz.results89 rfl () trivial (congrArg (Value.int .i64) (by unfold conErr; first | rw [if_pos (by omega)] | (rw [if_neg (by omega), firstE_at hI (by rw [e7]; (repeat' split) <;> omega) hlt, e7]; (repeat' split) <;> omega) | (rw [if_neg (by omega), firstE_zero (fun j hj => hI j (by omega))]))) hs_nil
  · intro h8
    refine g_on (t := 8) rfl rfl ?_
    refine gv rfl (y_faddr off53_0 rfl rfl) ?_
    refine g_on (t := 8) rfl rfl ?_
    refine gv rfl (y_load (k := 0)  one3 rfl rfl rfl) ?_
    refine g_on (t := 8) rfl rfl ?_
    refine gv rfl (y_gtr rfl rfl) ?_
    refine gv rfl (y_pick_f rfl rfl) ?_
    refine l_nil ?_
    refine q_then ?_
    refine c_dec rfl ?_ ?_
    · intro h12
      refine c_seq ?_
      refine c_region rfl ?_
      refine gv rfl (y_assign rfl) ?_
      refine l_nil ?_
      refine q_then ?_
      refine c_ret ?_
      refine q_then_ret ?_
      exact q_ret1 Tryz.results89 rfl () trivial (congrArg (Value.int .i64) (by unfold conErr; first | rw [if_pos (by omega)] | (rw [if_neg (by omega), firstE_at hI (by rw [e7]; (repeat' split) <;> omega) hlt, e7]; (repeat' split) <;> omega) | (rw [if_neg (by omega), firstE_zero (fun j hj => hI j (by omega))]))) hs_nil
    · intro h12
      refine c_skip ?_
      refine q_then ?_
      refine c_seq ?_
      refine c_seq ?_
      refine c_region rfl ?_
      refine gv rfl (y_faddr off53_2 rfl rfl) ?_
      refine gv rfl (y_load (k := 0)  one51 rfl rfl rfl) ?_
      refine gv rfl (y_len elem51 rfl) ?_
      refine gv rfl (y_move rfl) ?_
      refine l_nil ?_
      refine q_then ?_
      refine c_block ?_
      refine loop (Ef := [(1, _), (14, _), (15, _)]) (Hf := [_]) (fun s : Nat => s ≤ g.vs.length ∧ ∀ j, j < s → ven1 g.vs j = 0) (fun s : Nat => [(16, .int .i64 (s : Int))]) (fun s : Nat => []) (fun s : Nat => g.vs.length - s) 0 ⟨by omega, none_yet⟩ (sub_cons rfl sub_nil) (sub_cons rfl (sub_cons rfl (sub_cons rfl sub_nil))) (hs_pick (is := [0]) rfl rfl) ?_
      rintro s ⟨hs, hI⟩
      refine c_sub (E' := [(16, _), (1, _), (14, _), (15, _)]) (sub_cons rfl (sub_cons rfl (sub_cons rfl (sub_cons rfl sub_nil)))) ?_
      refine c_seq ?_
      refine c_region rfl ?_
      refine gv rfl (y_lss rfl rfl) ?_
      refine l_nil ?_
      refine q_then ?_
      refine c_seq ?_
      refine c_dec rfl ?_ ?_
      · intro h17
        have hlt : s < g.vs.length := by omega
        obtain ⟨v, hv⟩ := get_lt hlt
        have ev := getD_of_get (d := 0) hv
        have e7 : ven1 g.vs s = if v < 1 ∨ v > 40 then 3 else if 0 < s ∧ v ≤ g.vs.getD (s - 1) 0 then 4 else 0 := by unfold ven1; rw [ev]
        refine c_skip ?_
        refine q_then ?_
        refine c_seq ?_
        refine c_block ?_
        refine c_seq ?_
        refine c_region rfl ?_
        refine gv rfl (y_move rfl) ?_
        refine gve rfl (y_iaddr elem51 size3 hA rfl rfl rfl (by omega) hv) ?_; rintro _ ⟨p19, rfl, hp19⟩
        refine gv rfl (y_load_el0 one3 hp19 rfl) ?_
        refine gv rfl (y_assign rfl) ?_
        refine gv rfl (y_assign rfl) ?_
        refine l_nil ?_
        refine q_then ?_
        refine c_block ?_
        refine c_seq ?_
        refine c_region rfl ?_
        refine gv rfl (y_move rfl) ?_
        refine gv rfl (y_lss rfl rfl) ?_
        refine gv rfl (y_move rfl) ?_
        refine g_dec (t := 24) rfl ?_ ?_
        · intro h24
          refine g_off (t := 24) rfl rfl rfl rfl ?_
          refine g_off (t := 24) rfl rfl rfl rfl ?_
          refine gv rfl (y_pick_t rfl rfl) ?_
          refine gv rfl (y_assign rfl) ?_
          refine l_nil ?_
          refine q_then ?_
          refine c_cond_t rfl ?_
          refine c_seq ?_
          refine c_region rfl ?_
          refine gv rfl (y_assign rfl) ?_
          refine l_nil ?_
          refine q_then ?_
          refine c_ret ?_
          refine q_block_ret (q_block_ret (q_then_ret (q_loop_ret (q_block_ret (q_then_ret ?_)))))
          exact q_ret1 Tryz.results89 rfl () trivial (congrArg (Value.int .i64) (by unfold conErr; first | rw [if_pos (by omega)] | (rw [if_neg (by omega), firstE_at hI (by rw [e7]; (repeat' split) <;> omega) hlt, e7]; (repeat' split) <;> omega) | (rw [if_neg (by omega), firstE_zero (fun j hj => hI j (by omega))]))) hs_nil
        · intro h24
          refine g_on (t := 24) rfl rfl ?_
          refine gv rfl (y_move rfl) ?_
          refine g_on (t := 24) rfl rfl ?_
          refine gv rfl (y_gtr rfl rfl) ?_
          refine gv rfl (y_pick_f rfl rfl) ?_
          refine gv rfl (y_assign rfl) ?_
          refine l_nil ?_
          refine q_then ?_
          refine c_dec rfl ?_ ?_
          · intro h21
            refine c_seq ?_
            refine c_region rfl ?_
            refine gv rfl (y_assign rfl) ?_
            refine l_nil ?_
            refine q_then ?_
            refine c_ret ?_
            refine q_block_ret (q_block_ret (q_then_ret (q_loop_ret (q_block_ret (q_then_ret ?_)))))
            exact q_ret1 Tryz.results89 rfl () trivial (congrArg (Value.int .i64) (by unfold conErr; first | rw [if_pos (by omega)] | (rw [if_neg (by omega), firstE_at hI (by rw [e7]; (repeat' split) <;> omega) hlt, e7]; (repeat' split) <;> omega) | (rw [if_neg (by omega), firstE_zero (fun j hj => hI j (by omega))]))) hs_nil
          · intro h21
            refine c_seq ?_
            refine c_region rfl ?_
            refine gv rfl (y_move rfl) ?_
            refine gv rfl (y_gtr rfl rfl) ?_
            refine gv rfl (y_move rfl) ?_
            refine g_dec (t := 31) rfl ?_ ?_
            · intro h31
              have hlt2 : s - 1 < g.vs.length := by omega
              obtain ⟨v2, hv2⟩ := get_lt hlt2
              have ev2 := getD_of_get (d := 0) hv2
              have e3 : ((s : Int) - 1).toNat = s - 1 := by omega
              rw [← e3] at hv2
              rw [ev2] at e7
              refine g_on (t := 31) rfl rfl ?_
              refine gv rfl (y_move rfl) ?_
              refine g_on (t := 31) rfl rfl ?_
              refine gv rfl (y_faddr off53_2 rfl rfl) ?_
              refine g_on (t := 31) rfl rfl ?_
              refine gv rfl (y_load (k := 0)  one51 rfl rfl rfl) ?_
              refine g_on (t := 31) rfl rfl ?_
              refine gv rfl (y_move rfl) ?_
              refine g_on (t := 31) rfl rfl ?_
              refine gv rfl (y_sub_ rfl rfl (wrap_in (by omega) (by omega))) ?_
              refine g_on (t := 31) rfl rfl ?_
              refine gve rfl (y_iaddr elem51 size3 hA rfl rfl rfl (by omega) hv2) ?_; rintro _ ⟨p37, rfl, hp37⟩
              refine g_on (t := 31) rfl rfl ?_
              refine gv rfl (y_load_el0 one3 hp37 rfl) ?_
              refine g_on (t := 31) rfl rfl ?_
              refine gv rfl (y_leq rfl rfl) ?_
              refine gv rfl (y_pick_t rfl rfl) ?_
              refine gv rfl (y_assign rfl) ?_
              refine l_nil ?_
              refine q_then ?_
              refine c_dec rfl ?_ ?_
              · intro h28
                refine c_seq ?_
                refine c_region rfl ?_
                refine gv rfl (y_assign rfl) ?_
                refine l_nil ?_
                refine q_then ?_
                refine c_ret ?_
                refine q_block_ret (q_block_ret (q_then_ret (q_loop_ret (q_block_ret (q_then_ret ?_)))))
                exact q_ret1 Tryz.results89 rfl () trivial (congrArg (Value.int .i64) (by unfold conErr; first | rw [if_pos (by omega)] | (rw [if_neg (by omega), firstE_at hI (by rw [e7]; (repeat' split) <;> omega) hlt, e7]; (repeat' split) <;> omega) | (rw [if_neg (by omega), firstE_zero (fun j hj => hI j (by omega))]))) hs_nil
              · intro h28
                refine c_skip ?_
                refine q_block (q_block (q_then ?_))
                refine c_region rfl ?_
                refine gv rfl (y_add rfl rfl (wrap_in (by omega) (by omega))) ?_
                refine gv rfl (y_move rfl) ?_
                refine l_nil ?_
                exact again (s + 1) ⟨by omega, step_all hI (by rw [e7]; (repeat' split) <;> omega)⟩ (by omega) (sub_cons rfl sub_nil) (sub_cons rfl (sub_cons rfl (sub_cons rfl sub_nil))) (hs_pick (is := [0]) rfl rfl)
            · intro h31
              refine g_off (t := 31) rfl rfl rfl rfl ?_
              refine g_off (t := 31) rfl rfl rfl rfl ?_
              refine g_off (t := 31) rfl rfl rfl rfl ?_
              refine g_off (t := 31) rfl rfl rfl rfl ?_
              refine g_off (t := 31) rfl rfl rfl rfl ?_
              refine g_off (t := 31) rfl rfl rfl rfl ?_
              refine g_off (t := 31) rfl rfl rfl rfl ?_
              refine g_off (t := 31) rfl rfl rfl rfl ?_
              refine gv rfl (y_pick_f rfl rfl) ?_
              refine gv rfl (y_assign rfl) ?_
              refine l_nil ?_
              refine q_then ?_
              refine c_cond_f rfl ?_
              refine c_skip ?_
              refine q_block (q_block (q_then ?_))
              refine c_region rfl ?_
              refine gv rfl (y_add rfl rfl (wrap_in (by omega) (by omega))) ?_
              refine gv rfl (y_move rfl) ?_
              refine l_nil ?_
              exact again (s + 1) ⟨by omega, step_all hI (by rw [e7]; (repeat' split) <;> omega)⟩ (by omega) (sub_cons rfl sub_nil) (sub_cons rfl (sub_cons rfl (sub_cons rfl sub_nil))) (hs_pick (is := [0]) rfl rfl)
      · intro h17
        refine c_exit ?_
        refine q_then_exit (q_loop_exit (q_block_exit (q_then ?_)))
        refine c_seq ?_
        refine c_region rfl ?_
        refine gv rfl (y_assign rfl) ?_
        refine l_nil ?_
        refine q_then ?_
        refine c_ret ?_
        exact q_ret1 Tryz.results89 rfl () trivial (congrArg (Value.int .i64) (by unfold conErr; first | rw [if_pos (by omega)] | (rw [if_neg (by omega), firstE_at hI (by rw [e7]; (repeat' split) <;> omega) hlt, e7]; (repeat' split) <;> omega) | (rw [if_neg (by omega), firstE_zero (fun j hj => hI j (by omega))]))) hs_nil

theorem sameCks_c {l m : List Ck} {A A2 : Option Addr} {k k2 : Nat} (w : World) (hA : Sl Ck.cells 13 w A l) (hA2 : Sl Ck.cells 13 w A2 m) (hlen : l.length ≤ 9223372036854775806) : Cv Tryz.prog 18 #[.slice A l.length k, .slice A2 m.length k2] w (.bool (decide (l = m))) := by
  refine enter (E := [(0, .slice A l.length k), (1, .slice A2 m.length k2)]) Tryz.func18 rfl Tryz.ntmps18 rfl (by simp) ?_
  refine c_seq ?_
  refine c_region rfl ?_
  refine gv rfl (y_assign rfl) ?_
  refine l_nil ?_
  refine q_then ?_
  refine c_seq ?_
  refine c_seq ?_
  refine c_region rfl ?_
  refine gv rfl (y_move rfl) ?_
  refine gv rfl (y_len elem22 rfl) ?_
  refine gv rfl (y_move rfl) ?_
  refine gv rfl (y_len elem22 rfl) ?_
  refine gv rfl (y_neq rfl rfl) ?_
  refine l_nil ?_
  refine q_then ?_
  refine c_dec rfl ?_ ?_
  · intro h10
    refine c_seq ?_
    refine c_region rfl ?_
    refine gv rfl (y_assign rfl) ?_
    refine l_nil ?_
    refine q_then ?_
    refine c_ret ?_
    refine q_then_ret ?_
    exact q_ret1 Tryz.results18 rfl () trivial (bf (fun e => by subst e; simp at h10)) hs_nil
  · intro h10
    refine c_skip ?_
    refine q_then ?_
    refine c_seq ?_
    refine c_seq ?_
    refine c_region rfl ?_
    refine gv rfl (y_assign rfl) ?_
    refine l_nil ?_
    refine q_then ?_
    refine c_block ?_
    refine loop (Ef := [(0, _), (1, _)]) (Hf := []) (fun s : Nat => s ≤ l.length ∧ ∀ j, j < s → l.getD j .none_ = m.getD j .none_) (fun s : Nat => [(5, .int .i64 (s : Int))]) (fun s : Nat => []) (fun s : Nat => l.length - s) 0 ⟨by omega, none_yet⟩ (sub_cons rfl sub_nil) (sub_cons rfl (sub_cons rfl sub_nil)) (hs_pick (is := []) rfl rfl) ?_
    rintro s ⟨hs, hI⟩
    refine c_sub (E' := [(5, _), (0, _), (1, _)]) (sub_cons rfl (sub_cons rfl (sub_cons rfl sub_nil))) ?_
    refine c_seq ?_
    refine c_seq ?_
    refine c_region rfl ?_
    refine gv rfl (y_move rfl) ?_
    refine gv rfl (y_move rfl) ?_
    refine gv rfl (y_len elem22 rfl) ?_
    refine gv rfl (y_lss rfl rfl) ?_
    refine l_nil ?_
    refine q_then ?_
    refine c_dec rfl ?_ ?_
    · intro h14
      have hlt : s < l.length := by omega
      have hlt2 : s < m.length := by omega
      obtain ⟨v, hv⟩ := get_lt hlt
      obtain ⟨v2, hv2⟩ := get_lt hlt2
      have ev := getD_of_get (d := .none_) hv
      have ev2 := getD_of_get (d := .none_) hv2
      refine c_skip ?_
      refine q_then ?_
      refine c_seq ?_
      refine c_block ?_
      refine c_seq ?_
      refine c_drawp (l := #[false, false, false, false, false, false, false, false, false]) 9 (is := []) rfl rfl rfl rfl ?_
      refine h_take (l' := #[true, false, false, false, false, false, false, false, false]) 0 rfl (by kernel_rfl) rfl rfl (np_then (np_block (np_then (np_loop (np_block (np_then np_post)))))) (hs_pick (is := []) rfl rfl) (y_move rfl) ?_
      refine h_take (l' := #[true, true, false, false, false, false, false, false, false]) 1 rfl (by kernel_rfl) rfl rfl (np_then (np_block (np_then (np_loop (np_block (np_then np_post)))))) (hs_pick (is := []) rfl rfl) (y_move rfl) ?_
      refine h_takee (l' := #[true, true, true, false, false, false, false, false, false]) 2 rfl (by kernel_rfl) rfl rfl (np_then (np_block (np_then (np_loop (np_block (np_then np_post)))))) (hs_pick (is := []) rfl rfl) (y_iaddr elem22 size26 hA rfl rfl rfl (by omega) hv) ?_; rintro _ ⟨p19, rfl, hp19⟩
      refine h_take (l' := #[true, true, true, true, false, false, false, false, false]) 3 rfl (by kernel_rfl) rfl rfl (np_then (np_block (np_then (np_loop (np_block (np_then np_post)))))) (hs_pick (is := []) rfl rfl) (y_loadA_el agg26 rfl hp19 rfl) ?_
      refine h_take (l' := #[true, true, true, true, true, false, false, false, false]) 4 rfl (by kernel_rfl) rfl rfl (np_then (np_block (np_then (np_loop (np_block (np_then np_post)))))) (hs_pick (is := []) rfl rfl) (y_move rfl) ?_
      refine h_take (l' := #[true, true, true, true, true, true, false, false, false]) 5 rfl (by kernel_rfl) rfl rfl (np_then (np_block (np_then (np_loop (np_block (np_then np_post)))))) (hs_pick (is := []) rfl rfl) (y_move rfl) ?_
      refine h_takee (l' := #[true, true, true, true, true, true, true, false, false]) 6 rfl (by kernel_rfl) rfl rfl (np_then (np_block (np_then (np_loop (np_block (np_then np_post)))))) (hs_pick (is := []) rfl rfl) (y_iaddr elem22 size26 hA2 rfl rfl rfl (by omega) hv2) ?_; rintro _ ⟨p23, rfl, hp23⟩
      refine h_take (l' := #[true, true, true, true, true, true, true, true, false]) 7 rfl (by kernel_rfl) rfl rfl (np_then (np_block (np_then (np_loop (np_block (np_then np_post)))))) (hs_pick (is := []) rfl rfl) (y_loadA_el agg26 rfl hp23 rfl) ?_
      refine h_take (l' := #[true, true, true, true, true, true, true, true, true]) 8 rfl (by kernel_rfl) rfl rfl (np_then (np_block (np_then (np_loop (np_block (np_then np_post)))))) (hs_pick (is := []) rfl rfl) (y_neS (flat26 _ _ _ _ _ _ _ _ _ _ _ _ _) rfl rfl (Ck.eqc _ _)) ?_
      refine h_done (by kernel_rfl) ?_
      refine q_then ?_
      refine c_ndec rfl ?_ ?_
      · intro h25
        refine c_seq ?_
        refine c_region rfl ?_
        refine gv rfl (y_assign rfl) ?_
        refine l_nil ?_
        refine q_then ?_
        refine c_ret ?_
        refine q_block_ret (q_then_ret (q_loop_ret (q_block_ret (q_then_ret ?_))))
        exact q_ret1 Tryz.results18 rfl () trivial (bf (fun e => by subst e; rw [hv] at hv2; cases hv2; simp at h25)) hs_nil
      · intro h25
        refine c_skip ?_
        refine q_block (q_then ?_)
        refine c_region rfl ?_
        refine gv rfl (y_move rfl) ?_
        refine gv rfl (y_add rfl rfl (wrap_in (by omega) (by omega))) ?_
        refine gv rfl (y_assign rfl) ?_
        refine l_nil ?_
        exact again (s + 1) ⟨by omega, step_all hI (by rw [ev, ev2]; simpa using h25)⟩ (by omega) (sub_cons rfl sub_nil) (sub_cons rfl (sub_cons rfl sub_nil)) (hs_pick (is := []) rfl rfl)
    · intro h14
      refine c_exit ?_
      refine q_then_exit (q_loop_exit (q_block_exit (q_then ?_)))
      refine c_seq ?_
      refine c_region rfl ?_
      refine gv rfl (y_assign rfl) ?_
      refine l_nil ?_
      refine q_then ?_
      refine c_ret ?_
      exact q_ret1 Tryz.results18 rfl () trivial (bt (ext_getC (by omega) (fun j hj => hI j (by omega)))) hs_nil

theorem lHasPrefix_c {l m : List UInt8} (w : World) : Cv Tryz.prog 101 #[.string (B l), .string (B m)] w (.bool (decide (m <+: l))) := by
  refine enter (E := [(0, .string (B l)), (1, .string (B m))]) Tryz.func101 rfl Tryz.ntmps101 rfl (by simp) ?_
  refine c_seq ?_
  refine c_region rfl ?_
  refine gv rfl (y_assign rfl) ?_
  refine l_nil ?_
  refine q_then ?_
  refine c_seq ?_
  refine c_region rfl ?_
  refine gv rfl (y_move rfl) ?_
  refine gv rfl (y_slen Tryz.underlying9 rfl rfl) ?_
  refine gv rfl (y_move rfl) ?_
  refine gv rfl (y_slen Tryz.underlying9 rfl rfl) ?_
  refine gv rfl (y_geq rfl rfl) ?_
  refine gv rfl (y_move rfl) ?_
  refine g_dec (t := 10) rfl ?_ ?_
  · intro h10
    refine g_on (t := 10) rfl rfl ?_
    refine gv rfl (y_move rfl) ?_
    refine g_on (t := 10) rfl rfl ?_
    refine gv rfl (y_move rfl) ?_
    refine g_on (t := 10) rfl rfl ?_
    refine gv rfl (y_slen Tryz.underlying9 rfl rfl) ?_
    refine g_on (t := 10) rfl rfl ?_
    refine gv rfl (y_sto Tryz.underlying9 rfl rfl (by omega) (by omega) rfl) ?_
    refine g_on (t := 10) rfl rfl ?_
    refine gv rfl (y_move rfl) ?_
    refine g_on (t := 10) rfl rfl ?_
    refine gv rfl (y_seq rfl rfl) ?_
    refine gv rfl (y_pick_t rfl rfl) ?_
    refine gv rfl (y_assign rfl) ?_
    refine l_nil ?_
    refine q_then ?_
    refine c_ret ?_
    exact q_ret1 Tryz.results101 rfl () trivial (bd pre_t) hs_nil
  · intro h10
    refine g_off (t := 10) rfl rfl rfl rfl ?_
    refine g_off (t := 10) rfl rfl rfl rfl ?_
    refine g_off (t := 10) rfl rfl rfl rfl ?_
    refine g_off (t := 10) rfl rfl rfl rfl ?_
    refine g_off (t := 10) rfl rfl rfl rfl ?_
    refine g_off (t := 10) rfl rfl rfl rfl ?_
    refine gv rfl (y_pick_f rfl rfl) ?_
    refine gv rfl (y_assign rfl) ?_
    refine l_nil ?_
    refine q_then ?_
    refine c_ret ?_
    exact q_ret1 Tryz.results101 rfl () trivial (bf (fun h => h10 (by have := h.length_le; omega))) hs_nil

theorem lHasSuffix_c {l m : List UInt8} (w : World) (hl : l.length ≤ 9223372036854775807) : Cv Tryz.prog 131 #[.string (B l), .string (B m)] w (.bool (decide (m <:+ l))) := by
  refine enter (E := [(0, .string (B l)), (1, .string (B m))]) Tryz.func131 rfl Tryz.ntmps131 rfl (by simp) ?_
  refine c_seq ?_
  refine c_region rfl ?_
  refine gv rfl (y_assign rfl) ?_
  refine l_nil ?_
  refine q_then ?_
  refine c_seq ?_
  refine c_region rfl ?_
  refine gv rfl (y_move rfl) ?_
  refine gv rfl (y_slen Tryz.underlying9 rfl rfl) ?_
  refine gv rfl (y_move rfl) ?_
  refine gv rfl (y_slen Tryz.underlying9 rfl rfl) ?_
  refine gv rfl (y_geq rfl rfl) ?_
  refine gv rfl (y_move rfl) ?_
  refine g_dec (t := 10) rfl ?_ ?_
  · intro h10
    refine g_on (t := 10) rfl rfl ?_
    refine gv rfl (y_move rfl) ?_
    refine g_on (t := 10) rfl rfl ?_
    refine gv rfl (y_move rfl) ?_
    refine g_on (t := 10) rfl rfl ?_
    refine gv rfl (y_slen Tryz.underlying9 rfl rfl) ?_
    refine g_on (t := 10) rfl rfl ?_
    refine gv rfl (y_move rfl) ?_
    refine g_on (t := 10) rfl rfl ?_
    refine gv rfl (y_slen Tryz.underlying9 rfl rfl) ?_
    refine g_on (t := 10) rfl rfl ?_
    refine gv rfl (y_sub_ rfl rfl (wrap_in (by omega) (by omega))) ?_
    refine g_on (t := 10) rfl rfl ?_
    refine gv rfl (y_sfrom Tryz.underlying9 rfl rfl (by omega) (by omega) rfl) ?_
    refine g_on (t := 10) rfl rfl ?_
    refine gv rfl (y_move rfl) ?_
    refine g_on (t := 10) rfl rfl ?_
    refine gv rfl (y_seq rfl rfl) ?_
    refine gv rfl (y_pick_t rfl rfl) ?_
    refine gv rfl (y_assign rfl) ?_
    refine l_nil ?_
    refine q_then ?_
    refine c_ret ?_
    exact q_ret1 Tryz.results131 rfl () trivial (bd (by rw [show ((l.length : Int) - (m.length : Int)).toNat = l.length - m.length by omega]; exact suf_t (by omega))) hs_nil
  · intro h10
    refine g_off (t := 10) rfl rfl rfl rfl ?_
    refine g_off (t := 10) rfl rfl rfl rfl ?_
    refine g_off (t := 10) rfl rfl rfl rfl ?_
    refine g_off (t := 10) rfl rfl rfl rfl ?_
    refine g_off (t := 10) rfl rfl rfl rfl ?_
    refine g_off (t := 10) rfl rfl rfl rfl ?_
    refine g_off (t := 10) rfl rfl rfl rfl ?_
    refine g_off (t := 10) rfl rfl rfl rfl ?_
    refine g_off (t := 10) rfl rfl rfl rfl ?_
    refine gv rfl (y_pick_f rfl rfl) ?_
    refine gv rfl (y_assign rfl) ?_
    refine l_nil ?_
    refine q_then ?_
    refine c_ret ?_
    exact q_ret1 Tryz.results131 rfl () trivial (bf (fun h => h10 (by have := h.length_le; omega))) hs_nil

theorem hasPrefix_c {l m : List UInt8} (w : World) : Cv Tryz.prog 77 #[.string (B l), .string (B m)] w (.bool (decide (m <+: l))) := by
  refine enter (E := [(0, .string (B l)), (1, .string (B m))]) Tryz.func77 rfl Tryz.ntmps77 rfl (by simp) ?_
  refine c_seq ?_
  refine c_region rfl ?_
  refine gv rfl (y_assign rfl) ?_
  refine l_nil ?_
  refine q_then ?_
  refine c_seq ?_
  refine c_region rfl ?_
  refine gv rfl (y_move rfl) ?_
  refine gv rfl (y_move rfl) ?_
  refine l_callU rfl ent101 rfl (fun w hm => lHasPrefix_c w) ?_
  refine gv rfl (y_assign rfl) ?_
  refine l_nil ?_
  refine q_then ?_
  refine c_ret ?_
  exact q_ret1 Tryz.results77 rfl () trivial rfl hs_nil

theorem hasSuffix_c {l m : List UInt8} (w : World) (hl : l.length ≤ 9223372036854775807) : Cv Tryz.prog 108 #[.string (B l), .string (B m)] w (.bool (decide (m <:+ l))) := by
  refine enter (E := [(0, .string (B l)), (1, .string (B m))]) Tryz.func108 rfl Tryz.ntmps108 rfl (by simp) ?_
  refine c_seq ?_
  refine c_region rfl ?_
  refine gv rfl (y_assign rfl) ?_
  refine l_nil ?_
  refine q_then ?_
  refine c_seq ?_
  refine c_region rfl ?_
  refine gv rfl (y_move rfl) ?_
  refine gv rfl (y_move rfl) ?_
  refine l_callU rfl ent131 rfl (fun w hm => lHasSuffix_c w hl) ?_
  refine gv rfl (y_assign rfl) ?_
  refine l_nil ?_
  refine q_then ?_
  refine c_ret ?_
  exact q_ret1 Tryz.results108 rfl () trivial rfl hs_nil

theorem sameText_c {l m : List UInt8} (w : World) : Cv Tryz.prog 151 #[.string (B l), .string (B m)] w (.bool (decide (l = m))) := by
  refine enter (E := [(0, .string (B l)), (1, .string (B m))]) Tryz.func151 rfl Tryz.ntmps151 rfl (by simp) ?_
  refine c_seq ?_
  refine c_region rfl ?_
  refine gv rfl (y_assign rfl) ?_
  refine l_nil ?_
  refine q_then ?_
  refine c_seq ?_
  refine c_region rfl ?_
  refine gv rfl (y_move rfl) ?_
  refine gv rfl (y_move rfl) ?_
  refine gv rfl (y_seq rfl rfl) ?_
  refine gv rfl (y_assign rfl) ?_
  refine l_nil ?_
  refine q_then ?_
  refine c_ret ?_
  exact q_ret1 Tryz.results151 rfl () trivial rfl hs_nil

theorem byName_c {t : List UInt8} {c : Ck} {fv : Value} {b : Bool} (w : World) (F : FnV Tryz.prog w fv [.string (B c.name), .string (B t)] (.bool b)) : Cv Tryz.prog 195 #[.agg #[.string (B t), fv], .agg c.arr] w (.bool b) := by
  refine enter (E := [(0, .agg #[.string (B t), fv]), (1, .agg c.arr)]) Tryz.func195 rfl Tryz.ntmps195 rfl (by simp) ?_
  refine c_seq ?_
  refine c_region rfl ?_
  refine l_boxA rfl rfl ?_; intro g2
  refine l_boxA rfl rfl ?_; intro g3
  refine gv rfl (y_assign rfl) ?_
  refine l_nil ?_
  refine q_then ?_
  refine c_seq ?_
  refine c_region rfl ?_
  refine gv rfl (y_faddr off163_1 rfl rfl) ?_
  refine gv rfl (y_load (k := 1)  one107 rfl rfl rfl) ?_
  refine gv rfl (y_faddr off26_0 rfl rfl) ?_
  refine gv rfl (y_load (k := 0)  one9 rfl rfl rfl) ?_
  refine gv rfl (y_faddr off163_0 rfl rfl) ?_
  refine gv rfl (y_load (k := 1)  one9 rfl rfl rfl) ?_
  refine l_callF rfl rfl rfl (F) ?_
  refine gv rfl (y_assign rfl) ?_
  refine l_nil ?_
  refine q_then ?_
  refine c_ret ?_
  exact q_ret1 Tryz.results195 rfl () trivial rfl hs_nil

theorem nobody_c {c : Ck} (w : World) : Cv Tryz.prog 197 #[.agg #[], .agg c.arr] w (.bool false) := by
  refine enter (E := [(0, .agg #[]), (1, .agg c.arr)]) Tryz.func197 rfl Tryz.ntmps197 rfl (by simp) ?_
  refine c_seq ?_
  refine c_region rfl ?_
  refine l_boxA rfl rfl ?_; intro g2
  refine l_boxA rfl rfl ?_; intro g3
  refine gv rfl (y_assign rfl) ?_
  refine l_nil ?_
  refine q_then ?_
  refine c_seq ?_
  refine c_region rfl ?_
  refine gv rfl (y_assign rfl) ?_
  refine l_nil ?_
  refine q_then ?_
  refine c_ret ?_
  exact q_ret1 Tryz.results197 rfl () trivial rfl hs_nil

theorem idxFn_int_c {l : List Int} {A : Option Addr} {k : Nat} {fv : Value} {p : Int → Bool} (w : World) (hA : Sl i1 1 w A l) (hlen : l.length ≤ 9223372036854775806) (F : ∀ x ∈ l, FnV Tryz.prog w fv [.int .i64 x] (.bool (p x))) : Cv Tryz.prog 132 #[.slice A l.length k, fv] w (.int .i64 (fidx p l)) := by
  refine enter (E := [(0, .slice A l.length k), (1, fv)]) Tryz.func132 rfl Tryz.ntmps132 rfl (by simp) ?_
  refine c_seq ?_
  refine c_region rfl ?_
  refine gv rfl (y_assign rfl) ?_
  refine l_nil ?_
  refine q_then ?_
  refine c_seq ?_
  refine c_seq ?_
  refine c_region rfl ?_
  refine gv rfl (y_move rfl) ?_
  refine gv rfl (y_len elem51 rfl) ?_
  refine gv rfl (y_move rfl) ?_
  refine l_nil ?_
  refine q_then ?_
  refine c_block ?_
  refine loop (Ef := [(0, _), (1, _), (7, _)]) (Hf := []) (fun s : Nat => s ≤ l.length ∧ ∀ j, j < s → ∀ u, l[j]? = some u → p u = false) (fun s : Nat => [(8, .int .i64 (s : Int))]) (fun s : Nat => []) (fun s : Nat => l.length - s) 0 ⟨by omega, none_get⟩ (sub_cons rfl sub_nil) (sub_cons rfl (sub_cons rfl (sub_cons rfl sub_nil))) (hs_pick (is := []) rfl rfl) ?_
  rintro s ⟨hs, hI⟩
  refine c_sub (E' := [(8, _), (0, _), (1, _), (7, _)]) (sub_cons rfl (sub_cons rfl (sub_cons rfl (sub_cons rfl sub_nil)))) ?_
  refine c_seq ?_
  refine c_region rfl ?_
  refine gv rfl (y_lss rfl rfl) ?_
  refine l_nil ?_
  refine q_then ?_
  refine c_seq ?_
  refine c_dec rfl ?_ ?_
  · intro h9
    have hlt : s < l.length := by omega
    obtain ⟨v, hv⟩ := get_lt hlt
    refine c_skip ?_
    refine q_then ?_
    refine c_seq ?_
    refine c_block ?_
    refine c_seq ?_
    refine c_region rfl ?_
    refine gv rfl (y_move rfl) ?_
    refine gv rfl (y_assign rfl) ?_
    refine l_nil ?_
    refine q_then ?_
    refine c_seq ?_
    refine c_region rfl ?_
    refine gv rfl (y_move rfl) ?_
    refine gv rfl (y_move rfl) ?_
    refine gv rfl (y_move rfl) ?_
    refine gve rfl (y_iaddr elem51 size3 hA rfl rfl rfl (by omega) hv) ?_; rintro _ ⟨p14, rfl, hp14⟩
    refine gv rfl (y_load_el0 one3 hp14 rfl) ?_
    refine l_callF rfl rfl rfl (F v (List.mem_of_getElem? hv)) ?_
    refine l_nil ?_
    refine q_then ?_
    refine c_bool rfl ?_ ?_
    · intro h16
      refine c_seq ?_
      refine c_region rfl ?_
      refine gv rfl (y_move rfl) ?_
      refine gv rfl (y_assign rfl) ?_
      refine l_nil ?_
      refine q_then ?_
      refine c_ret ?_
      refine q_block_ret (q_then_ret (q_loop_ret (q_block_ret (q_then_ret ?_))))
      exact q_ret1 Tryz.results132 rfl () trivial (congrArg (Value.int .i64) (fidx_at hI hv h16).symm) hs_nil
    · intro h16
      refine c_skip ?_
      refine q_block (q_then ?_)
      refine c_region rfl ?_
      refine gv rfl (y_add rfl rfl (wrap_in (by omega) (by omega))) ?_
      refine gv rfl (y_move rfl) ?_
      refine l_nil ?_
      exact again (s + 1) ⟨by omega, step_get hI hv h16⟩ (by omega) (sub_cons rfl sub_nil) (sub_cons rfl (sub_cons rfl (sub_cons rfl sub_nil))) (hs_pick (is := []) rfl rfl)
  · intro h9
    refine c_exit ?_
    refine q_then_exit (q_loop_exit (q_block_exit (q_then ?_)))
    refine c_seq ?_
    refine c_region rfl ?_
    refine gv rfl (y_assign rfl) ?_
    refine l_nil ?_
    refine q_then ?_
    refine c_ret ?_
    exact q_ret1 Tryz.results132 rfl () trivial (congrArg (Value.int .i64) (fidx_none hI (by omega)).symm) hs_nil

theorem conFn_int_c {l : List Int} {A : Option Addr} {k : Nat} {fv : Value} {p : Int → Bool} (w : World) (hA : Sl i1 1 w A l) (hlen : l.length ≤ 9223372036854775806) (F : ∀ x ∈ l, FnV Tryz.prog w fv [.int .i64 x] (.bool (p x))) : Cv Tryz.prog 110 #[.slice A l.length k, fv] w (.bool (l.any p)) := by
  refine enter (E := [(0, .slice A l.length k), (1, fv)]) Tryz.func110 rfl Tryz.ntmps110 rfl (by simp) ?_
  refine c_seq ?_
  refine c_region rfl ?_
  refine gv rfl (y_assign rfl) ?_
  refine l_nil ?_
  refine q_then ?_
  refine c_seq ?_
  refine c_region rfl ?_
  refine gv rfl (y_move rfl) ?_
  refine gv rfl (y_move rfl) ?_
  refine l_callU rfl ent132 rfl (fun w hm => idxFn_int_c w (hA.below hm.below) hlen (fun x hx => (F x hx).above hm.below)) ?_
  refine gv rfl (y_geq rfl rfl) ?_
  refine gv rfl (y_assign rfl) ?_
  refine l_nil ?_
  refine q_then ?_
  refine c_ret ?_
  exact q_ret1 Tryz.results110 rfl () trivial (congrArg Value.bool (fidx_any p l)) hs_nil

theorem idxFn_byte_c {l : List UInt8} {A : Option Addr} {k : Nat} {fv : Value} {p : UInt8 → Bool} (w : World) (hA : Sl b1 1 w A l) (hlen : l.length ≤ 9223372036854775806) (F : ∀ x ∈ l, FnV Tryz.prog w fv [.int .u8 x.toNat] (.bool (p x))) : Cv Tryz.prog 155 #[.slice A l.length k, fv] w (.int .i64 (fidx p l)) := by
  refine enter (E := [(0, .slice A l.length k), (1, fv)]) Tryz.func155 rfl Tryz.ntmps155 rfl (by simp) ?_
  refine c_seq ?_
  refine c_region rfl ?_
  refine gv rfl (y_assign rfl) ?_
  refine l_nil ?_
  refine q_then ?_
  refine c_seq ?_
  refine c_seq ?_
  refine c_region rfl ?_
  refine gv rfl (y_move rfl) ?_
  refine gv rfl (y_len elem124 rfl) ?_
  refine gv rfl (y_move rfl) ?_
  refine l_nil ?_
  refine q_then ?_
  refine c_block ?_
  refine loop (Ef := [(0, _), (1, _), (7, _)]) (Hf := []) (fun s : Nat => s ≤ l.length ∧ ∀ j, j < s → ∀ u, l[j]? = some u → p u = false) (fun s : Nat => [(8, .int .i64 (s : Int))]) (fun s : Nat => []) (fun s : Nat => l.length - s) 0 ⟨by omega, none_get⟩ (sub_cons rfl sub_nil) (sub_cons rfl (sub_cons rfl (sub_cons rfl sub_nil))) (hs_pick (is := []) rfl rfl) ?_
  rintro s ⟨hs, hI⟩
  refine c_sub (E' := [(8, _), (0, _), (1, _), (7, _)]) (sub_cons rfl (sub_cons rfl (sub_cons rfl (sub_cons rfl sub_nil)))) ?_
  refine c_seq ?_
  refine c_region rfl ?_
  refine gv rfl (y_lss rfl rfl) ?_
  refine l_nil ?_
  refine q_then ?_
  refine c_seq ?_
  refine c_dec rfl ?_ ?_
  · intro h9
    have hlt : s < l.length := by omega
    obtain ⟨v, hv⟩ := get_lt hlt
    refine c_skip ?_
    refine q_then ?_
    refine c_seq ?_
    refine c_block ?_
    refine c_seq ?_
    refine c_region rfl ?_
    refine gv rfl (y_move rfl) ?_
    refine gv rfl (y_assign rfl) ?_
    refine l_nil ?_
    refine q_then ?_
    refine c_seq ?_
    refine c_region rfl ?_
    refine gv rfl (y_move rfl) ?_
    refine gv rfl (y_move rfl) ?_
    refine gv rfl (y_move rfl) ?_
    refine gve rfl (y_iaddr elem124 size5 hA rfl rfl rfl (by omega) hv) ?_; rintro _ ⟨p14, rfl, hp14⟩
    refine gv rfl (y_load_el0 one5 hp14 rfl) ?_
    refine l_callF rfl rfl rfl (F v (List.mem_of_getElem? hv)) ?_
    refine l_nil ?_
    refine q_then ?_
    refine c_bool rfl ?_ ?_
    · intro h16
      refine c_seq ?_
      refine c_region rfl ?_
      refine gv rfl (y_move rfl) ?_
      refine gv rfl (y_assign rfl) ?_
      refine l_nil ?_
      refine q_then ?_
      refine c_ret ?_
      refine q_block_ret (q_then_ret (q_loop_ret (q_block_ret (q_then_ret ?_))))
      exact q_ret1 Tryz.results155 rfl () trivial (congrArg (Value.int .i64) (fidx_at hI hv h16).symm) hs_nil
    · intro h16
      refine c_skip ?_
      refine q_block (q_then ?_)
      refine c_region rfl ?_
      refine gv rfl (y_add rfl rfl (wrap_in (by omega) (by omega))) ?_
      refine gv rfl (y_move rfl) ?_
      refine l_nil ?_
      exact again (s + 1) ⟨by omega, step_get hI hv h16⟩ (by omega) (sub_cons rfl sub_nil) (sub_cons rfl (sub_cons rfl (sub_cons rfl sub_nil))) (hs_pick (is := []) rfl rfl)
  · intro h9
    refine c_exit ?_
    refine q_then_exit (q_loop_exit (q_block_exit (q_then ?_)))
    refine c_seq ?_
    refine c_region rfl ?_
    refine gv rfl (y_assign rfl) ?_
    refine l_nil ?_
    refine q_then ?_
    refine c_ret ?_
    exact q_ret1 Tryz.results155 rfl () trivial (congrArg (Value.int .i64) (fidx_none hI (by omega)).symm) hs_nil

theorem conFn_byte_c {l : List UInt8} {A : Option Addr} {k : Nat} {fv : Value} {p : UInt8 → Bool} (w : World) (hA : Sl b1 1 w A l) (hlen : l.length ≤ 9223372036854775806) (F : ∀ x ∈ l, FnV Tryz.prog w fv [.int .u8 x.toNat] (.bool (p x))) : Cv Tryz.prog 141 #[.slice A l.length k, fv] w (.bool (l.any p)) := by
  refine enter (E := [(0, .slice A l.length k), (1, fv)]) Tryz.func141 rfl Tryz.ntmps141 rfl (by simp) ?_
  refine c_seq ?_
  refine c_region rfl ?_
  refine gv rfl (y_assign rfl) ?_
  refine l_nil ?_
  refine q_then ?_
  refine c_seq ?_
  refine c_region rfl ?_
  refine gv rfl (y_move rfl) ?_
  refine gv rfl (y_move rfl) ?_
  refine l_callU rfl ent155 rfl (fun w hm => idxFn_byte_c w (hA.below hm.below) hlen (fun x hx => (F x hx).above hm.below)) ?_
  refine gv rfl (y_geq rfl rfl) ?_
  refine gv rfl (y_assign rfl) ?_
  refine l_nil ?_
  refine q_then ?_
  refine c_ret ?_
  exact q_ret1 Tryz.results141 rfl () trivial (congrArg Value.bool (fidx_any p l)) hs_nil

theorem idxInt_c {l : List Int} {A : Option Addr} {k : Nat} {x : Int} (w : World) (hA : Sl i1 1 w A l) (hlen : l.length ≤ 9223372036854775806) : Cv Tryz.prog 152 #[.slice A l.length k, .int .i64 x] w (.int .i64 (fidx (fun y => decide (x = y)) l)) := by
  refine enter (E := [(0, .slice A l.length k), (1, .int .i64 x)]) Tryz.func152 rfl Tryz.ntmps152 rfl (by simp) ?_
  refine c_seq ?_
  refine c_region rfl ?_
  refine gv rfl (y_assign rfl) ?_
  refine l_nil ?_
  refine q_then ?_
  refine c_seq ?_
  refine c_seq ?_
  refine c_region rfl ?_
  refine gv rfl (y_move rfl) ?_
  refine gv rfl (y_len elem51 rfl) ?_
  refine gv rfl (y_move rfl) ?_
  refine l_nil ?_
  refine q_then ?_
  refine c_block ?_
  refine loop (Ef := [(0, _), (1, _), (7, _)]) (Hf := []) (fun s : Nat => s ≤ l.length ∧ ∀ j, j < s → ∀ u, l[j]? = some u → decide (x = u) = false) (fun s : Nat => [(8, .int .i64 (s : Int))]) (fun s : Nat => []) (fun s : Nat => l.length - s) 0 ⟨by omega, none_get⟩ (sub_cons rfl sub_nil) (sub_cons rfl (sub_cons rfl (sub_cons rfl sub_nil))) (hs_pick (is := []) rfl rfl) ?_
  rintro s ⟨hs, hI⟩
  refine c_sub (E' := [(8, _), (0, _), (1, _), (7, _)]) (sub_cons rfl (sub_cons rfl (sub_cons rfl (sub_cons rfl sub_nil)))) ?_
  refine c_seq ?_
  refine c_region rfl ?_
  refine gv rfl (y_lss rfl rfl) ?_
  refine l_nil ?_
  refine q_then ?_
  refine c_seq ?_
  refine c_dec rfl ?_ ?_
  · intro h9
    have hlt : s < l.length := by omega
    obtain ⟨v, hv⟩ := get_lt hlt
    refine c_skip ?_
    refine q_then ?_
    refine c_seq ?_
    refine c_block ?_
    refine c_seq ?_
    refine c_region rfl ?_
    refine gv rfl (y_move rfl) ?_
    refine gv rfl (y_assign rfl) ?_
    refine l_nil ?_
    refine q_then ?_
    refine c_seq ?_
    refine c_region rfl ?_
    refine gv rfl (y_move rfl) ?_
    refine gv rfl (y_move rfl) ?_
    refine gv rfl (y_move rfl) ?_
    refine gve rfl (y_iaddr elem51 size3 hA rfl rfl rfl (by omega) hv) ?_; rintro _ ⟨p14, rfl, hp14⟩
    refine gv rfl (y_load_el0 one3 hp14 rfl) ?_
    refine gv rfl (y_eql rfl rfl) ?_
    refine l_nil ?_
    refine q_then ?_
    refine c_dec rfl ?_ ?_
    · intro h16
      refine c_seq ?_
      refine c_region rfl ?_
      refine gv rfl (y_move rfl) ?_
      refine gv rfl (y_assign rfl) ?_
      refine l_nil ?_
      refine q_then ?_
      refine c_ret ?_
      refine q_block_ret (q_then_ret (q_loop_ret (q_block_ret (q_then_ret ?_))))
      exact q_ret1 Tryz.results152 rfl () trivial (congrArg (Value.int .i64) (fidx_at hI hv (by simp [h16])).symm) hs_nil
    · intro h16
      refine c_skip ?_
      refine q_block (q_then ?_)
      refine c_region rfl ?_
      refine gv rfl (y_add rfl rfl (wrap_in (by omega) (by omega))) ?_
      refine gv rfl (y_move rfl) ?_
      refine l_nil ?_
      exact again (s + 1) ⟨by omega, step_get hI hv (by simp [h16])⟩ (by omega) (sub_cons rfl sub_nil) (sub_cons rfl (sub_cons rfl (sub_cons rfl sub_nil))) (hs_pick (is := []) rfl rfl)
  · intro h9
    refine c_exit ?_
    refine q_then_exit (q_loop_exit (q_block_exit (q_then ?_)))
    refine c_seq ?_
    refine c_region rfl ?_
    refine gv rfl (y_assign rfl) ?_
    refine l_nil ?_
    refine q_then ?_
    refine c_ret ?_
    exact q_ret1 Tryz.results152 rfl () trivial (congrArg (Value.int .i64) (fidx_none hI (by omega)).symm) hs_nil

theorem conInt_c {l : List Int} {A : Option Addr} {k : Nat} {x : Int} (w : World) (hA : Sl i1 1 w A l) (hlen : l.length ≤ 9223372036854775806) : Cv Tryz.prog 134 #[.slice A l.length k, .int .i64 x] w (.bool (l.contains x)) := by
  refine enter (E := [(0, .slice A l.length k), (1, .int .i64 x)]) Tryz.func134 rfl Tryz.ntmps134 rfl (by simp) ?_
  refine c_seq ?_
  refine c_region rfl ?_
  refine gv rfl (y_assign rfl) ?_
  refine l_nil ?_
  refine q_then ?_
  refine c_seq ?_
  refine c_region rfl ?_
  refine gv rfl (y_move rfl) ?_
  refine gv rfl (y_move rfl) ?_
  refine l_callU rfl ent152 rfl (fun w hm => idxInt_c w (hA.below hm.below) hlen) ?_
  refine gv rfl (y_geq rfl rfl) ?_
  refine gv rfl (y_assign rfl) ?_
  refine l_nil ?_
  refine q_then ?_
  refine c_ret ?_
  exact q_ret1 Tryz.results134 rfl () trivial (congrArg Value.bool (by rw [fidx_any]; exact Bool.eq_iff_iff.2 (by simp))) hs_nil

theorem may_c {g : Co} {A : Option Addr} {n : Nat} {k v : Int} (w : World) (hA : Sl i1 1 w A g.vs) (hlen : g.vs.length ≤ 9223372036854775806) : Cv Tryz.prog 113 #[.agg (g.arr A n), .int .i64 k, .int .i64 v] w (.bool (mayF g k v)) := by
  refine enter (E := [(0, .agg (g.arr A n)), (1, .int .i64 k), (2, .int .i64 v)]) Tryz.func113 rfl Tryz.ntmps113 rfl (by simp) ?_
  refine c_seq ?_
  refine c_region rfl ?_
  refine l_boxA rfl rfl ?_; intro g3
  refine gv rfl (y_assign rfl) ?_
  refine l_nil ?_
  refine q_then ?_
  refine c_seq ?_
  refine c_seq ?_
  refine c_region rfl ?_
  refine gv rfl (y_move rfl) ?_
  refine gv rfl (y_neq rfl rfl) ?_
  refine gv rfl (y_move rfl) ?_
  refine g_dec (t := 9) rfl ?_ ?_
  · intro h9
    refine g_on (t := 9) rfl rfl ?_
    refine gv rfl (y_move rfl) ?_
    refine g_on (t := 9) rfl rfl ?_
    refine gv rfl (y_lss rfl rfl) ?_
    refine g_on (t := 9) rfl rfl ?_
    refine gv rfl (y_move rfl) ?_
    refine g_dec (t := 12) rfl ?_ ?_
    · intro h12
      refine g_off (t := 12) rfl rfl rfl rfl ?_
      refine g_off (t := 12) rfl rfl rfl rfl ?_
      refine g_on (t := 9) rfl rfl ?_
      refine gv rfl (y_pick_t rfl rfl) ?_
      refine g_on (t := 9) rfl rfl ?_
      refine gv rfl (y_move rfl) ?_
      refine g_off (t := 16) rfl rfl rfl rfl ?_
      refine g_off (t := 16) rfl rfl rfl rfl ?_
      refine g_off (t := 16) rfl rfl rfl rfl ?_
      refine g_off (t := 16) rfl rfl rfl rfl ?_
      refine g_off (t := 16) rfl rfl rfl rfl ?_
      refine g_off (t := 16) rfl rfl rfl rfl ?_
      refine g_on (t := 9) rfl rfl ?_
      refine gv rfl (y_pick_t rfl rfl) ?_
      refine gv rfl (y_pick_t rfl rfl) ?_
      refine l_nil ?_
      refine q_then ?_
      refine c_cond_t rfl ?_
      refine c_seq ?_
      refine c_region rfl ?_
      refine gv rfl (y_assign rfl) ?_
      refine l_nil ?_
      refine q_then ?_
      refine c_ret ?_
      refine q_then_ret ?_
      exact q_ret1 Tryz.results113 rfl () trivial (congrArg Value.bool (by first | (unfold mayF; simp [*]; done) | (unfold mayF; generalize g.pu (k - 1).toNat = b at *; cases b <;> simp_all))) hs_nil
    · intro h12
      refine g_on (t := 12) rfl rfl ?_
      refine gv rfl (y_move rfl) ?_
      refine g_on (t := 12) rfl rfl ?_
      refine gv rfl (y_gtr rfl rfl) ?_
      refine g_on (t := 9) rfl rfl ?_
      refine gv rfl (y_pick_f rfl rfl) ?_
      refine g_on (t := 9) rfl rfl ?_
      refine gv rfl (y_move rfl) ?_
      refine g_dec (t := 16) rfl ?_ ?_
      · intro h16
        refine g_off (t := 16) rfl rfl rfl rfl ?_
        refine g_off (t := 16) rfl rfl rfl rfl ?_
        refine g_off (t := 16) rfl rfl rfl rfl ?_
        refine g_off (t := 16) rfl rfl rfl rfl ?_
        refine g_off (t := 16) rfl rfl rfl rfl ?_
        refine g_off (t := 16) rfl rfl rfl rfl ?_
        refine g_on (t := 9) rfl rfl ?_
        refine gv rfl (y_pick_t rfl rfl) ?_
        refine gv rfl (y_pick_t rfl rfl) ?_
        refine l_nil ?_
        refine q_then ?_
        refine c_cond_t rfl ?_
        refine c_seq ?_
        refine c_region rfl ?_
        refine gv rfl (y_assign rfl) ?_
        refine l_nil ?_
        refine q_then ?_
        refine c_ret ?_
        refine q_then_ret ?_
        exact q_ret1 Tryz.results113 rfl () trivial (congrArg Value.bool (by first | (unfold mayF; simp [*]; done) | (unfold mayF; generalize g.pu (k - 1).toNat = b at *; cases b <;> simp_all))) hs_nil
      · intro h16
        refine g_on (t := 16) rfl rfl ?_
        refine gv rfl (y_move rfl) ?_
        refine g_on (t := 16) rfl rfl ?_
        refine gv rfl (y_sub_ rfl rfl (wrap_in (by omega) (by omega))) ?_
        refine g_on (t := 16) rfl rfl ?_
        refine gv rfl (y_faddr off53_1 rfl rfl) ?_
        refine g_on (t := 16) rfl rfl ?_
        refine gv rfl (y_iaddr_arr arr50 size4 rfl rfl (by omega) (by omega) rfl) ?_
        refine g_on (t := 16) rfl rfl ?_
        refine gv rfl (y_load (k := 0) one4 rfl rfl (by rw [Nat.mul_one]; exact co_pu g A n (i := (k - 1).toNat) (by omega))) ?_
        refine g_on (t := 16) rfl rfl ?_
        refine gv rfl (y_not rfl rfl) ?_
        refine g_on (t := 9) rfl rfl ?_
        refine gv rfl (y_pick_f rfl rfl) ?_
        refine gv rfl (y_pick_t rfl rfl) ?_
        refine l_nil ?_
        refine q_then ?_
        refine c_bool rfl ?_ ?_
        · intro h24
          refine c_seq ?_
          refine c_region rfl ?_
          refine gv rfl (y_assign rfl) ?_
          refine l_nil ?_
          refine q_then ?_
          refine c_ret ?_
          refine q_then_ret ?_
          exact q_ret1 Tryz.results113 rfl () trivial (congrArg Value.bool (by first | (unfold mayF; simp [*]; done) | (unfold mayF; generalize g.pu (k - 1).toNat = b at *; cases b <;> simp_all))) hs_nil
        · intro h24
          refine c_skip ?_
          refine q_then ?_
          refine c_seq ?_
          refine c_region rfl ?_
          refine gv rfl (y_move rfl) ?_
          refine gv rfl (y_eql rfl rfl) ?_
          refine gv rfl (y_move rfl) ?_
          refine g_dec (t := 27) rfl ?_ ?_
          · intro h27
            refine g_off (t := 27) rfl rfl rfl rfl ?_
            refine g_off (t := 27) rfl rfl rfl rfl ?_
            refine g_off (t := 27) rfl rfl rfl rfl ?_
            refine g_off (t := 27) rfl rfl rfl rfl ?_
            refine gv rfl (y_pick_t rfl rfl) ?_
            refine gv rfl (y_assign rfl) ?_
            refine l_nil ?_
            refine q_then ?_
            refine c_ret ?_
            exact q_ret1 Tryz.results113 rfl () trivial (congrArg Value.bool (by first | (unfold mayF; simp [*]; done) | (unfold mayF; generalize g.pu (k - 1).toNat = b at *; cases b <;> simp_all))) hs_nil
          · intro h27
            refine g_on (t := 27) rfl rfl ?_
            refine gv rfl (y_faddr off53_2 rfl rfl) ?_
            refine g_on (t := 27) rfl rfl ?_
            refine gv rfl (y_load (k := 0)  one51 rfl rfl rfl) ?_
            refine g_on (t := 27) rfl rfl ?_
            refine gv rfl (y_move rfl) ?_
            refine g_on (t := 27) rfl rfl ?_
            refine l_callU rfl ent134 rfl (fun w hm => conInt_c w (hA.below hm.below) hlen) ?_
            refine gv rfl (y_pick_f rfl rfl) ?_
            refine gv rfl (y_assign rfl) ?_
            refine l_nil ?_
            refine q_then ?_
            refine c_ret ?_
            exact q_ret1 Tryz.results113 rfl () trivial (congrArg Value.bool (by first | (unfold mayF; simp [*]; done) | (unfold mayF; generalize g.pu (k - 1).toNat = b at *; cases b <;> simp_all))) hs_nil
  · intro h9
    refine g_off (t := 9) rfl rfl rfl rfl ?_
    refine g_off (t := 9) rfl rfl rfl rfl ?_
    refine g_off (t := 9) rfl rfl rfl rfl ?_
    refine g_und (t := 12) rfl rfl rfl ?_
    refine g_und (t := 12) rfl rfl rfl ?_
    refine g_off (t := 9) rfl rfl rfl rfl ?_
    refine g_off (t := 9) rfl rfl rfl rfl ?_
    refine g_und (t := 16) rfl rfl rfl ?_
    refine g_und (t := 16) rfl rfl rfl ?_
    refine g_und (t := 16) rfl rfl rfl ?_
    refine g_und (t := 16) rfl rfl rfl ?_
    refine g_und (t := 16) rfl rfl rfl ?_
    refine g_und (t := 16) rfl rfl rfl ?_
    refine g_off (t := 9) rfl rfl rfl rfl ?_
    refine gv rfl (y_pick_f rfl rfl) ?_
    refine l_nil ?_
    refine q_then ?_
    refine c_cond_f rfl ?_
    refine c_skip ?_
    refine q_then ?_
    refine c_seq ?_
    refine c_region rfl ?_
    refine gv rfl (y_move rfl) ?_
    refine gv rfl (y_eql rfl rfl) ?_
    refine gv rfl (y_move rfl) ?_
    refine g_dec (t := 27) rfl ?_ ?_
    · intro h27
      refine g_off (t := 27) rfl rfl rfl rfl ?_
      refine g_off (t := 27) rfl rfl rfl rfl ?_
      refine g_off (t := 27) rfl rfl rfl rfl ?_
      refine g_off (t := 27) rfl rfl rfl rfl ?_
      refine gv rfl (y_pick_t rfl rfl) ?_
      refine gv rfl (y_assign rfl) ?_
      refine l_nil ?_
      refine q_then ?_
      refine c_ret ?_
      exact q_ret1 Tryz.results113 rfl () trivial (congrArg Value.bool (by first | (unfold mayF; simp [*]; done) | (unfold mayF; generalize g.pu (k - 1).toNat = b at *; cases b <;> simp_all))) hs_nil
    · intro h27
      refine g_on (t := 27) rfl rfl ?_
      refine gv rfl (y_faddr off53_2 rfl rfl) ?_
      refine g_on (t := 27) rfl rfl ?_
      refine gv rfl (y_load (k := 0)  one51 rfl rfl rfl) ?_
      refine g_on (t := 27) rfl rfl ?_
      refine gv rfl (y_move rfl) ?_
      refine g_on (t := 27) rfl rfl ?_
      refine l_callU rfl ent134 rfl (fun w hm => conInt_c w (hA.below hm.below) hlen) ?_
      refine gv rfl (y_pick_f rfl rfl) ?_
      refine gv rfl (y_assign rfl) ?_
      refine l_nil ?_
      refine q_then ?_
      refine c_ret ?_
      exact q_ret1 Tryz.results113 rfl () trivial (congrArg Value.bool (by first | (unfold mayF; simp [*]; done) | (unfold mayF; generalize g.pu (k - 1).toNat = b at *; cases b <;> simp_all))) hs_nil

theorem slIndexByte_c {l : List UInt8} {b : UInt8} (w : World) : Cv Tryz.prog 138 #[.string (B l), .int .u8 (b.toNat : Int)] w (.int .i64 (ibF l b)) := by
  refine enter (E := [(0, .string (B l)), (1, .int .u8 (b.toNat : Int))]) Tryz.func138 rfl Tryz.ntmps138 rfl (by simp) ?_
  refine c_seq ?_
  refine c_region rfl ?_
  refine gv rfl (y_assign rfl) ?_
  refine l_nil ?_
  refine q_then ?_
  refine c_seq ?_
  refine c_region rfl ?_
  refine gv rfl (y_move rfl) ?_
  refine gv rfl (y_move rfl) ?_
  refine gv rfl (y_ib ib154 rfl rfl) ?_
  refine gv rfl (y_assign rfl) ?_
  refine l_nil ?_
  refine q_then ?_
  refine c_ret ?_
  exact q_ret1 Tryz.results138 rfl () trivial rfl hs_nil

theorem indexByte_c {l : List UInt8} {b : UInt8} (w : World) : Cv Tryz.prog 119 #[.string (B l), .int .u8 (b.toNat : Int)] w (.int .i64 (ibF l b)) := by
  refine enter (E := [(0, .string (B l)), (1, .int .u8 (b.toNat : Int))]) Tryz.func119 rfl Tryz.ntmps119 rfl (by simp) ?_
  refine c_seq ?_
  refine c_region rfl ?_
  refine gv rfl (y_assign rfl) ?_
  refine l_nil ?_
  refine q_then ?_
  refine c_seq ?_
  refine c_region rfl ?_
  refine gv rfl (y_move rfl) ?_
  refine gv rfl (y_move rfl) ?_
  refine l_callU rfl ent138 rfl (fun w hm => slIndexByte_c w) ?_
  refine gv rfl (y_assign rfl) ?_
  refine l_nil ?_
  refine q_then ?_
  refine c_ret ?_
  exact q_ret1 Tryz.results119 rfl () trivial rfl hs_nil

theorem cut_c {l : List UInt8} {b : UInt8} (w : World) (hl : l.length ≤ 1073741824) : Cv Tryz.prog 97 #[.string (B l), .int .u8 (b.toNat : Int)] w (.tuple #[.string (B (cutF b l).1), .string (B (cutF b l).2.1), .bool (cutF b l).2.2]) := by
  refine enter (E := [(0, .string (B l)), (1, .int .u8 (b.toNat : Int))]) Tryz.func97 rfl Tryz.ntmps97 rfl (by simp) ?_
  have hr := ib_range l b
  refine c_seq ?_
  refine c_region rfl ?_
  refine gv rfl (y_assign rfl) ?_
  refine gv rfl (y_assign rfl) ?_
  refine gv rfl (y_assign rfl) ?_
  refine l_nil ?_
  refine q_then ?_
  refine c_seq ?_
  refine c_region rfl ?_
  refine gv rfl (y_move rfl) ?_
  refine gv rfl (y_move rfl) ?_
  refine l_callU rfl ent119 rfl (fun w hm => indexByte_c w) ?_
  refine gv rfl (y_assign rfl) ?_
  refine l_nil ?_
  refine q_then ?_
  refine c_seq ?_
  refine c_seq ?_
  refine c_region rfl ?_
  refine gv rfl (y_move rfl) ?_
  refine gv rfl (y_lss rfl rfl) ?_
  refine l_nil ?_
  refine q_then ?_
  refine c_dec rfl ?_ ?_
  · intro h12
    refine c_seq ?_
    refine c_region rfl ?_
    refine gv rfl (y_move rfl) ?_
    refine gv rfl (y_assign rfl) ?_
    refine gv rfl (y_assign rfl) ?_
    refine gv rfl (y_assign rfl) ?_
    refine l_nil ?_
    refine q_then ?_
    refine c_ret ?_
    refine q_then_ret ?_
    exact q_ret3 Tryz.results97 rfl rfl rfl () trivial (by rw [show cutF b l = (l, [], false) from if_pos h12]; rfl) hs_nil
  · intro h12
    refine c_skip ?_
    refine q_then ?_
    refine c_seq ?_
    refine c_drawp (l := #[false, false, false, false, false, false, false, false, false, false]) 10 (is := []) rfl rfl rfl rfl ?_
    refine h_take (l' := #[true, false, false, false, false, false, false, false, false, false]) 0 rfl (by kernel_rfl) rfl rfl (np_then np_post) (hs_pick (is := []) rfl rfl) (y_move rfl) ?_
    refine h_take (l' := #[true, true, false, false, false, false, false, false, false, false]) 1 rfl (by kernel_rfl) rfl rfl (np_then np_post) (hs_pick (is := []) rfl rfl) (y_move rfl) ?_
    refine h_take (l' := #[true, true, true, false, false, false, false, false, false, false]) 2 rfl (by kernel_rfl) rfl rfl (np_then np_post) (hs_pick (is := []) rfl rfl) (y_sto Tryz.underlying9 rfl rfl (by omega) (by omega) rfl) ?_
    refine h_take (l' := #[true, true, true, true, false, false, false, false, false, false]) 3 rfl (by kernel_rfl) rfl rfl (np_then np_post) (hs_pick (is := []) rfl rfl) (y_move rfl) ?_
    refine h_take (l' := #[true, true, true, true, true, false, false, false, false, false]) 4 rfl (by kernel_rfl) rfl rfl (np_then np_post) (hs_pick (is := []) rfl rfl) (y_move rfl) ?_
    refine h_take (l' := #[true, true, true, true, true, true, false, false, false, false]) 5 rfl (by kernel_rfl) rfl rfl (np_then np_post) (hs_pick (is := []) rfl rfl) (y_add rfl rfl (wrap_in (by omega) (by omega))) ?_
    refine h_take (l' := #[true, true, true, true, true, true, true, false, false, false]) 6 rfl (by kernel_rfl) rfl rfl (np_then np_post) (hs_pick (is := []) rfl rfl) (y_sfrom Tryz.underlying9 rfl rfl (by omega) (by omega) rfl) ?_
    refine h_take (l' := #[true, true, true, true, true, true, true, true, false, false]) 7 rfl (by kernel_rfl) rfl rfl (np_then np_post) (hs_pick (is := []) rfl rfl) (y_assign rfl) ?_
    refine h_take (l' := #[true, true, true, true, true, true, true, true, true, false]) 8 rfl (by kernel_rfl) rfl rfl (np_then np_post) (hs_pick (is := []) rfl rfl) (y_assign rfl) ?_
    refine h_take (l' := #[true, true, true, true, true, true, true, true, true, true]) 9 rfl (by kernel_rfl) rfl rfl (np_then np_post) (hs_pick (is := []) rfl rfl) (y_assign rfl) ?_
    refine h_done (by kernel_rfl) ?_
    refine q_then ?_
    refine c_ret ?_
    exact q_ret3 Tryz.results97 rfl rfl rfl () trivial (by rw [show cutF b l = (l.take (ibF l b).toNat, l.drop (ibF l b + 1).toNat, true) from if_neg h12]) hs_nil

theorem outer_c {c : UInt8} (w : World) : Cv Tryz.prog 140 #[.int .u8 (c.toNat : Int)] w (.bool (outer c)) := by
  refine enter (E := [(0, .int .u8 (c.toNat : Int))]) Tryz.func140 rfl Tryz.ntmps140 rfl (by simp) ?_
  refine c_seq ?_
  refine c_region rfl ?_
  refine gv rfl (y_assign rfl) ?_
  refine l_nil ?_
  refine q_then ?_
  refine c_seq ?_
  refine c_region rfl ?_
  refine gv rfl (y_move rfl) ?_
  refine gv rfl (y_geq rfl rfl) ?_
  refine gv rfl (y_move rfl) ?_
  refine g_dec (t := 5) rfl ?_ ?_
  · intro h5
    refine g_on (t := 5) rfl rfl ?_
    refine gv rfl (y_move rfl) ?_
    refine g_on (t := 5) rfl rfl ?_
    refine gv rfl (y_leq rfl rfl) ?_
    refine gv rfl (y_pick_t rfl rfl) ?_
    refine gv rfl (y_move rfl) ?_
    refine g_dec (t := 9) rfl ?_ ?_
    · intro h9
      refine g_off (t := 9) rfl rfl rfl rfl ?_
      refine g_off (t := 9) rfl rfl rfl rfl ?_
      refine g_off (t := 9) rfl rfl rfl rfl ?_
      refine g_und (t := 12) rfl rfl rfl ?_
      refine g_und (t := 12) rfl rfl rfl ?_
      refine g_off (t := 9) rfl rfl rfl rfl ?_
      refine gv rfl (y_pick_t rfl rfl) ?_
      refine gv rfl (y_assign rfl) ?_
      refine l_nil ?_
      refine q_then ?_
      refine c_ret ?_
      exact q_ret1 Tryz.results140 rfl () trivial (bt (by omega)) hs_nil
    · intro h9
      refine g_on (t := 9) rfl rfl ?_
      refine gv rfl (y_move rfl) ?_
      refine g_on (t := 9) rfl rfl ?_
      refine gv rfl (y_geq rfl rfl) ?_
      refine g_on (t := 9) rfl rfl ?_
      refine gv rfl (y_move rfl) ?_
      refine g_dec (t := 12) rfl ?_ ?_
      · intro h12
        refine g_on (t := 12) rfl rfl ?_
        refine gv rfl (y_move rfl) ?_
        refine g_on (t := 12) rfl rfl ?_
        refine gv rfl (y_leq rfl rfl) ?_
        refine g_on (t := 9) rfl rfl ?_
        refine gv rfl (y_pick_t rfl rfl) ?_
        refine gv rfl (y_pick_f rfl rfl) ?_
        refine gv rfl (y_assign rfl) ?_
        refine l_nil ?_
        refine q_then ?_
        refine c_ret ?_
        exact q_ret1 Tryz.results140 rfl () trivial (bd (by omega)) hs_nil
      · intro h12
        refine g_off (t := 12) rfl rfl rfl rfl ?_
        refine g_off (t := 12) rfl rfl rfl rfl ?_
        refine g_on (t := 9) rfl rfl ?_
        refine gv rfl (y_pick_f rfl rfl) ?_
        refine gv rfl (y_pick_f rfl rfl) ?_
        refine gv rfl (y_assign rfl) ?_
        refine l_nil ?_
        refine q_then ?_
        refine c_ret ?_
        exact q_ret1 Tryz.results140 rfl () trivial (bf (by omega)) hs_nil
  · intro h5
    refine g_off (t := 5) rfl rfl rfl rfl ?_
    refine g_off (t := 5) rfl rfl rfl rfl ?_
    refine gv rfl (y_pick_f rfl rfl) ?_
    refine gv rfl (y_move rfl) ?_
    refine g_on (t := 9) rfl rfl ?_
    refine gv rfl (y_move rfl) ?_
    refine g_on (t := 9) rfl rfl ?_
    refine gv rfl (y_geq rfl rfl) ?_
    refine g_on (t := 9) rfl rfl ?_
    refine gv rfl (y_move rfl) ?_
    refine g_dec (t := 12) rfl ?_ ?_
    · intro h12
      refine g_on (t := 12) rfl rfl ?_
      refine gv rfl (y_move rfl) ?_
      refine g_on (t := 12) rfl rfl ?_
      refine gv rfl (y_leq rfl rfl) ?_
      refine g_on (t := 9) rfl rfl ?_
      refine gv rfl (y_pick_t rfl rfl) ?_
      refine gv rfl (y_pick_f rfl rfl) ?_
      refine gv rfl (y_assign rfl) ?_
      refine l_nil ?_
      refine q_then ?_
      refine c_ret ?_
      exact q_ret1 Tryz.results140 rfl () trivial (bd (by omega)) hs_nil
    · intro h12
      refine g_off (t := 12) rfl rfl rfl rfl ?_
      refine g_off (t := 12) rfl rfl rfl rfl ?_
      refine g_on (t := 9) rfl rfl ?_
      refine gv rfl (y_pick_f rfl rfl) ?_
      refine gv rfl (y_pick_f rfl rfl) ?_
      refine gv rfl (y_assign rfl) ?_
      refine l_nil ?_
      refine q_then ?_
      refine c_ret ?_
      exact q_ret1 Tryz.results140 rfl () trivial (bf (by omega)) hs_nil

theorem fold_c {l : List UInt8} (w : World) (hl : l.length ≤ 1073741824) : Cv Tryz.prog 121 #[.string (B l)] w (.string (B (l.map lowB))) := by
  refine enter (E := [(0, .string (B l))]) Tryz.func121 rfl Tryz.ntmps121 rfl (by simp) ?_
  refine c_seq ?_
  refine c_region rfl ?_
  refine gv rfl (y_assign rfl) ?_
  refine l_nil ?_
  refine q_then ?_
  refine c_seq ?_
  refine c_region rfl ?_
  refine gv rfl (y_move rfl) ?_
  refine l_s2b rfl strT9 bytesT124 rfl ?_; intro g7 c7 R7 m7 hm7
  refine gv rfl (y_assign rfl) ?_
  refine l_nil ?_
  refine q_then ?_
  refine c_seq ?_
  refine c_seq ?_
  refine c_region rfl ?_
  refine gv rfl (y_move rfl) ?_
  refine gv rfl (y_len elem124 rfl) ?_
  refine gv rfl (y_move rfl) ?_
  refine l_nil ?_
  refine q_then ?_
  refine c_block ?_
  refine loop (Ef := [(3, _), (8, _), (9, _)]) (Hf := []) (fun s : Nat => s ≤ l.length) (fun s : Nat => [(10, .int .i64 (s : Int))]) (fun s : Nat => [.blk g7 (.cells (rowB (foldTo l s) R7) 5 (m7, m7 + 1))]) (fun s : Nat => l.length - s) 0 (Nat.zero_le _) (sub_cons rfl sub_nil) (sub_cons rfl (sub_cons rfl (sub_cons rfl sub_nil))) (hs_pick (is := [0]) rfl rfl) ?_
  rintro s hs
  refine c_sub (E' := [(10, _), (3, _), (8, _), (9, _)]) (sub_cons rfl (sub_cons rfl (sub_cons rfl (sub_cons rfl sub_nil)))) ?_
  refine c_seq ?_
  refine c_region rfl ?_
  refine gv rfl (y_lss rfl rfl) ?_
  refine l_nil ?_
  refine q_then ?_
  refine c_seq ?_
  refine c_dec rfl ?_ ?_
  · intro h11
    have hlt : s < l.length := by omega
    obtain ⟨v, hv⟩ := get_lt hlt
    refine c_skip ?_
    refine q_then ?_
    refine c_seq ?_
    refine c_block ?_
    refine c_seq ?_
    refine c_region rfl ?_
    refine gv rfl (y_move rfl) ?_
    refine gv rfl (y_iaddr_own (r := s) elem124 size5 rfl rfl (by omega) (by omega) (by simp)) ?_
    refine gv rfl (y_load (k := 0) one5 rfl rfl (rowB_at (foldTo_at hv))) ?_
    refine gv rfl (y_assign rfl) ?_
    refine gv rfl (y_assign rfl) ?_
    refine l_nil ?_
    refine q_then ?_
    refine c_seq ?_
    refine c_region rfl ?_
    refine gv rfl (y_move rfl) ?_
    refine gv rfl (y_geq rfl rfl) ?_
    refine gv rfl (y_move rfl) ?_
    refine g_dec (t := 17) rfl ?_ ?_
    · intro h17
      refine g_on (t := 17) rfl rfl ?_
      refine gv rfl (y_move rfl) ?_
      refine g_on (t := 17) rfl rfl ?_
      refine gv rfl (y_leq rfl rfl) ?_
      refine gv rfl (y_pick_t rfl rfl) ?_
      refine l_nil ?_
      refine q_then ?_
      refine c_dec rfl ?_ ?_
      · intro h20
        refine c_region rfl ?_
        refine gv rfl (y_move rfl) ?_
        refine gv rfl (y_move rfl) ?_
        refine gv rfl (y_move rfl) ?_
        refine gv rfl (y_add rfl rfl (wrap_u8 (by omega) (by omega))) ?_
        refine gv rfl (y_iaddr_own (r := s) elem124 size5 rfl rfl (by omega) (by omega) (by simp)) ?_
        refine l_storeB (k := 0) (H' := [_]) size5 rfl rfl rfl (by rw [foldTo_len]; omega) (by rw [foldTo_len]; exact hm7) (lowB_nat (by omega) (by omega)) (foldTo_set hv) rfl ?_
        refine l_nil ?_
        refine q_block (q_then ?_)
        refine c_region rfl ?_
        refine gv rfl (y_add rfl rfl (wrap_in (by omega) (by omega))) ?_
        refine gv rfl (y_move rfl) ?_
        refine l_nil ?_
        exact again (s + 1) (by omega) (by omega) (sub_cons rfl sub_nil) (sub_cons rfl (sub_cons rfl (sub_cons rfl sub_nil))) (hs_pick (is := [0]) rfl rfl)
      · intro h20
        refine c_skip ?_
        refine q_block (q_then ?_)
        refine c_region rfl ?_
        refine gv rfl (y_add rfl rfl (wrap_in (by omega) (by omega))) ?_
        refine gv rfl (y_move rfl) ?_
        refine l_nil ?_
        rw [foldTo_same hv (by omega)]
        exact again (s + 1) (by omega) (by omega) (sub_cons rfl sub_nil) (sub_cons rfl (sub_cons rfl (sub_cons rfl sub_nil))) (hs_pick (is := [0]) rfl rfl)
    · intro h17
      refine g_off (t := 17) rfl rfl rfl rfl ?_
      refine g_off (t := 17) rfl rfl rfl rfl ?_
      refine gv rfl (y_pick_f rfl rfl) ?_
      refine l_nil ?_
      refine q_then ?_
      refine c_cond_f rfl ?_
      refine c_skip ?_
      refine q_block (q_then ?_)
      refine c_region rfl ?_
      refine gv rfl (y_add rfl rfl (wrap_in (by omega) (by omega))) ?_
      refine gv rfl (y_move rfl) ?_
      refine l_nil ?_
      rw [foldTo_same hv (by omega)]
      exact again (s + 1) (by omega) (by omega) (sub_cons rfl sub_nil) (sub_cons rfl (sub_cons rfl (sub_cons rfl sub_nil))) (hs_pick (is := [0]) rfl rfl)
  · intro h11
    refine c_exit ?_
    refine q_then_exit (q_loop_exit (q_block_exit (q_then ?_)))
    refine c_seq ?_
    refine c_region rfl ?_
    refine gv rfl (y_move rfl) ?_
    refine gv rfl (y_b2s (k := 0) bytesT124 strT9 rfl rfl (foldTo_len _ _)) ?_
    refine gv rfl (y_assign rfl) ?_
    refine l_nil ?_
    refine q_then ?_
    refine c_ret ?_
    exact q_ret1 Tryz.results121 rfl () trivial (by rw [foldTo_all (by omega)]) hs_nil

theorem label2_c {c : UInt8} {p : Addr} {fv : Value} (w : World) (hp : El w p [fv]) (F : FnV Tryz.prog w fv [.int .u8 (c.toNat : Int)] (.bool (outer c))) : Cv Tryz.prog 142 #[.int .u8 (c.toNat : Int), .pointer (some p)] w (.bool (outB c)) := by
  refine enter (E := [(0, .int .u8 (c.toNat : Int)), (1, .pointer (some p))]) Tryz.func142 rfl Tryz.ntmps142 rfl (by simp) ?_
  refine c_seq ?_
  refine c_region rfl ?_
  refine gv rfl (y_assign rfl) ?_
  refine l_nil ?_
  refine q_then ?_
  refine c_seq ?_
  refine c_region rfl ?_
  refine gv rfl (y_load_el0 one158 hp rfl) ?_
  refine gv rfl (y_move rfl) ?_
  refine l_callF rfl rfl rfl (F) ?_
  refine gv rfl (y_not rfl rfl) ?_
  refine gv rfl (y_move rfl) ?_
  refine g_bool (t := 8) rfl ?_ ?_
  · intro h8
    refine g_on (t := 8) rfl rfl ?_
    refine gv rfl (y_move rfl) ?_
    refine g_on (t := 8) rfl rfl ?_
    refine gv rfl (y_neq rfl rfl) ?_
    refine gv rfl (y_pick_t rfl rfl) ?_
    refine gv rfl (y_assign rfl) ?_
    refine l_nil ?_
    refine q_then ?_
    refine c_ret ?_
    exact q_ret1 Tryz.results142 rfl () trivial (congrArg Value.bool (by simp only [outB, *]; rfl)) hs_nil
  · intro h8
    refine g_off (t := 8) rfl rfl rfl rfl ?_
    refine g_off (t := 8) rfl rfl rfl rfl ?_
    refine gv rfl (y_pick_f rfl rfl) ?_
    refine gv rfl (y_assign rfl) ?_
    refine l_nil ?_
    refine q_then ?_
    refine c_ret ?_
    exact q_ret1 Tryz.results142 rfl () trivial (congrArg Value.bool (by simp only [outB, *]; rfl)) hs_nil

theorem label_c {l : List UInt8} (w : World) (hl : l.length ≤ 1073741824) : Cv Tryz.prog 122 #[.string (B l)] w (.bool (labelF l)) := by
  refine enter (E := [(0, .string (B l))]) Tryz.func122 rfl Tryz.ntmps122 rfl (by simp) ?_
  refine c_seq ?_
  refine c_region rfl ?_
  refine gv rfl (y_assign rfl) ?_
  refine l_nil ?_
  refine q_then ?_
  refine c_seq ?_
  refine c_region rfl ?_
  refine l_alloc1 rfl zero158 rfl ?_; intro g3
  refine l_store (k := 0) (cs' := #[_]) (H' := [_]) size158 rfl rfl rfl rfl rfl rfl rfl ?_
  refine l_nil ?_
  refine q_then ?_
  refine c_seq ?_
  refine c_seq ?_
  refine c_drawp (l := #[false, false, false, false, false, false, false, false, false, false, false, false, false, false, false, false, false, false, false, false, false, false, false, false]) 24 (is := [0]) rfl rfl rfl rfl ?_
  refine h_take (l' := #[true, false, false, false, false, false, false, false, false, false, false, false, false, false, false, false, false, false, false, false, false, false, false, false]) 0 rfl (by kernel_rfl) rfl rfl (np_then (np_then np_post)) (hs_pick (is := [0]) rfl rfl) (y_move rfl) ?_
  refine h_take (l' := #[true, true, false, false, false, false, false, false, false, false, false, false, false, false, false, false, false, false, false, false, false, false, false, false]) 1 rfl (by kernel_rfl) rfl rfl (np_then (np_then np_post)) (hs_pick (is := [0]) rfl rfl) (y_seq rfl rfl) ?_
  refine h_take (l' := #[true, true, true, false, false, false, false, false, false, false, false, false, false, false, false, false, false, false, false, false, false, false, false, false]) 2 rfl (by kernel_rfl) rfl rfl (np_then (np_then np_post)) (hs_pick (is := [0]) rfl rfl) (y_move rfl) ?_
  refine h_dec (t := 6) rfl ?_ ?_
  · intro h6
    refine h_off (t := 6) (l' := #[true, true, true, true, false, false, false, false, false, false, false, false, false, false, false, false, false, false, false, false, false, false, false, false]) 3 rfl (by kernel_rfl) rfl rfl (np_then (np_then np_post)) (hs_pick (is := [0]) rfl rfl) rfl rfl rfl ?_
    refine h_off (t := 6) (l' := #[true, true, true, true, true, false, false, false, false, false, false, false, false, false, false, false, false, false, false, false, false, false, false, false]) 4 rfl (by kernel_rfl) rfl rfl (np_then (np_then np_post)) (hs_pick (is := [0]) rfl rfl) rfl rfl rfl ?_
    refine h_off (t := 6) (l' := #[true, true, true, true, true, true, false, false, false, false, false, false, false, false, false, false, false, false, false, false, false, false, false, false]) 5 rfl (by kernel_rfl) rfl rfl (np_then (np_then np_post)) (hs_pick (is := [0]) rfl rfl) rfl rfl rfl ?_
    refine h_take (l' := #[true, true, true, true, true, true, true, false, false, false, false, false, false, false, false, false, false, false, false, false, false, false, false, false]) 6 rfl (by kernel_rfl) rfl rfl (np_then (np_then np_post)) (hs_pick (is := [0]) rfl rfl) (y_pick_t rfl rfl) ?_
    refine h_take (l' := #[true, true, true, true, true, true, true, true, false, false, false, false, false, false, false, false, false, false, false, false, false, false, false, false]) 7 rfl (by kernel_rfl) rfl rfl (np_then (np_then np_post)) (hs_pick (is := [0]) rfl rfl) (y_move rfl) ?_
    refine h_off (t := 11) (l' := #[true, true, true, true, true, true, true, true, true, false, false, false, false, false, false, false, false, false, false, false, false, false, false, false]) 8 rfl (by kernel_rfl) rfl rfl (np_then (np_then np_post)) (hs_pick (is := [0]) rfl rfl) rfl rfl rfl ?_
    refine h_off (t := 11) (l' := #[true, true, true, true, true, true, true, true, true, true, false, false, false, false, false, false, false, false, false, false, false, false, false, false]) 9 rfl (by kernel_rfl) rfl rfl (np_then (np_then np_post)) (hs_pick (is := [0]) rfl rfl) rfl rfl rfl ?_
    refine h_off (t := 11) (l' := #[true, true, true, true, true, true, true, true, true, true, true, false, false, false, false, false, false, false, false, false, false, false, false, false]) 10 rfl (by kernel_rfl) rfl rfl (np_then (np_then np_post)) (hs_pick (is := [0]) rfl rfl) rfl rfl rfl ?_
    refine h_only (l' := #[true, true, true, true, true, true, true, true, true, true, true, true, false, false, false, false, false, false, false, false, false, false, false, false]) 11 rfl (by kernel_rfl) rfl ?_
    refine g_off (t := 11) rfl rfl rfl rfl ?_
    refine l_nil ?_
    refine q_step (fun _ => hs_pick (is := [0]) rfl rfl) ?_
    refine h_off (t := 11) (l' := #[true, true, true, true, true, true, true, true, true, true, true, true, true, false, false, false, false, false, false, false, false, false, false, false]) 12 rfl (by kernel_rfl) rfl rfl (np_then (np_then np_post)) (hs_pick (is := [0]) rfl rfl) rfl rfl rfl ?_
    refine h_take (l' := #[true, true, true, true, true, true, true, true, true, true, true, true, true, true, false, false, false, false, false, false, false, false, false, false]) 13 rfl (by kernel_rfl) rfl rfl (np_then (np_then np_post)) (hs_pick (is := [0]) rfl rfl) (y_pick_t rfl rfl) ?_
    refine h_take (l' := #[true, true, true, true, true, true, true, true, true, true, true, true, true, true, true, false, false, false, false, false, false, false, false, false]) 14 rfl (by kernel_rfl) rfl rfl (np_then (np_then np_post)) (hs_pick (is := [0]) rfl rfl) (y_move rfl) ?_
    refine h_off (t := 18) (l' := #[true, true, true, true, true, true, true, true, true, true, true, true, true, true, true, true, false, false, false, false, false, false, false, false]) 15 rfl (by kernel_rfl) rfl rfl (np_then (np_then np_post)) (hs_pick (is := [0]) rfl rfl) rfl rfl rfl ?_
    refine h_off (t := 18) (l' := #[true, true, true, true, true, true, true, true, true, true, true, true, true, true, true, true, true, false, false, false, false, false, false, false]) 16 rfl (by kernel_rfl) rfl rfl (np_then (np_then np_post)) (hs_pick (is := [0]) rfl rfl) rfl rfl rfl ?_
    refine h_off (t := 18) (l' := #[true, true, true, true, true, true, true, true, true, true, true, true, true, true, true, true, true, true, false, false, false, false, false, false]) 17 rfl (by kernel_rfl) rfl rfl (np_then (np_then np_post)) (hs_pick (is := [0]) rfl rfl) rfl rfl rfl ?_
    refine h_off (t := 18) (l' := #[true, true, true, true, true, true, true, true, true, true, true, true, true, true, true, true, true, true, true, false, false, false, false, false]) 18 rfl (by kernel_rfl) rfl rfl (np_then (np_then np_post)) (hs_pick (is := [0]) rfl rfl) rfl rfl rfl ?_
    refine h_off (t := 18) (l' := #[true, true, true, true, true, true, true, true, true, true, true, true, true, true, true, true, true, true, true, true, false, false, false, false]) 19 rfl (by kernel_rfl) rfl rfl (np_then (np_then np_post)) (hs_pick (is := [0]) rfl rfl) rfl rfl rfl ?_
    refine h_off (t := 18) (l' := #[true, true, true, true, true, true, true, true, true, true, true, true, true, true, true, true, true, true, true, true, true, false, false, false]) 20 rfl (by kernel_rfl) rfl rfl (np_then (np_then np_post)) (hs_pick (is := [0]) rfl rfl) rfl rfl rfl ?_
    refine h_only (l' := #[true, true, true, true, true, true, true, true, true, true, true, true, true, true, true, true, true, true, true, true, true, true, false, false]) 21 rfl (by kernel_rfl) rfl ?_
    refine g_off (t := 18) rfl rfl rfl rfl ?_
    refine l_nil ?_
    refine q_step (fun _ => hs_pick (is := [0]) rfl rfl) ?_
    refine h_off (t := 18) (l' := #[true, true, true, true, true, true, true, true, true, true, true, true, true, true, true, true, true, true, true, true, true, true, true, false]) 22 rfl (by kernel_rfl) rfl rfl (np_then (np_then np_post)) (hs_pick (is := [0]) rfl rfl) rfl rfl rfl ?_
    refine h_take (l' := #[true, true, true, true, true, true, true, true, true, true, true, true, true, true, true, true, true, true, true, true, true, true, true, true]) 23 rfl (by kernel_rfl) rfl rfl (np_then (np_then np_post)) (hs_pick (is := [0]) rfl rfl) (y_pick_t rfl rfl) ?_
    refine h_done (by kernel_rfl) ?_
    refine q_then ?_
    refine c_cond_t rfl ?_
    refine c_seq ?_
    refine c_region rfl ?_
    refine gv rfl (y_assign rfl) ?_
    refine l_nil ?_
    refine q_then ?_
    refine c_ret ?_
    refine q_then_ret ?_
    exact q_ret1 Tryz.results122 rfl () trivial (congrArg Value.bool (by simp only [labelF, *, if_true, if_false, Bool.false_eq_true])) hs_nil
  · intro h6
    refine h_takeg (t := 6) (l' := #[true, true, true, true, false, false, false, false, false, false, false, false, false, false, false, false, false, false, false, false, false, false, false, false]) 3 rfl (by kernel_rfl) rfl rfl (np_then (np_then np_post)) (hs_pick (is := [0]) rfl rfl) rfl rfl (y_move rfl) ?_
    refine h_takeg (t := 6) (l' := #[true, true, true, true, true, false, false, false, false, false, false, false, false, false, false, false, false, false, false, false, false, false, false, false]) 4 rfl (by kernel_rfl) rfl rfl (np_then (np_then np_post)) (hs_pick (is := [0]) rfl rfl) rfl rfl (y_slen Tryz.underlying9 rfl rfl) ?_
    refine h_takeg (t := 6) (l' := #[true, true, true, true, true, true, false, false, false, false, false, false, false, false, false, false, false, false, false, false, false, false, false, false]) 5 rfl (by kernel_rfl) rfl rfl (np_then (np_then np_post)) (hs_pick (is := [0]) rfl rfl) rfl rfl (y_gtr rfl rfl) ?_
    refine h_take (l' := #[true, true, true, true, true, true, true, false, false, false, false, false, false, false, false, false, false, false, false, false, false, false, false, false]) 6 rfl (by kernel_rfl) rfl rfl (np_then (np_then np_post)) (hs_pick (is := [0]) rfl rfl) (y_pick_f rfl rfl) ?_
    refine h_take (l' := #[true, true, true, true, true, true, true, true, false, false, false, false, false, false, false, false, false, false, false, false, false, false, false, false]) 7 rfl (by kernel_rfl) rfl rfl (np_then (np_then np_post)) (hs_pick (is := [0]) rfl rfl) (y_move rfl) ?_
    refine h_dec (t := 11) rfl ?_ ?_
    · intro h11
      refine h_off (t := 11) (l' := #[true, true, true, true, true, true, true, true, true, false, false, false, false, false, false, false, false, false, false, false, false, false, false, false]) 8 rfl (by kernel_rfl) rfl rfl (np_then (np_then np_post)) (hs_pick (is := [0]) rfl rfl) rfl rfl rfl ?_
      refine h_off (t := 11) (l' := #[true, true, true, true, true, true, true, true, true, true, false, false, false, false, false, false, false, false, false, false, false, false, false, false]) 9 rfl (by kernel_rfl) rfl rfl (np_then (np_then np_post)) (hs_pick (is := [0]) rfl rfl) rfl rfl rfl ?_
      refine h_off (t := 11) (l' := #[true, true, true, true, true, true, true, true, true, true, true, false, false, false, false, false, false, false, false, false, false, false, false, false]) 10 rfl (by kernel_rfl) rfl rfl (np_then (np_then np_post)) (hs_pick (is := [0]) rfl rfl) rfl rfl rfl ?_
      refine h_only (l' := #[true, true, true, true, true, true, true, true, true, true, true, true, false, false, false, false, false, false, false, false, false, false, false, false]) 11 rfl (by kernel_rfl) rfl ?_
      refine g_off (t := 11) rfl rfl rfl rfl ?_
      refine l_nil ?_
      refine q_step (fun _ => hs_pick (is := [0]) rfl rfl) ?_
      refine h_off (t := 11) (l' := #[true, true, true, true, true, true, true, true, true, true, true, true, true, false, false, false, false, false, false, false, false, false, false, false]) 12 rfl (by kernel_rfl) rfl rfl (np_then (np_then np_post)) (hs_pick (is := [0]) rfl rfl) rfl rfl rfl ?_
      refine h_take (l' := #[true, true, true, true, true, true, true, true, true, true, true, true, true, true, false, false, false, false, false, false, false, false, false, false]) 13 rfl (by kernel_rfl) rfl rfl (np_then (np_then np_post)) (hs_pick (is := [0]) rfl rfl) (y_pick_t rfl rfl) ?_
      refine h_take (l' := #[true, true, true, true, true, true, true, true, true, true, true, true, true, true, true, false, false, false, false, false, false, false, false, false]) 14 rfl (by kernel_rfl) rfl rfl (np_then (np_then np_post)) (hs_pick (is := [0]) rfl rfl) (y_move rfl) ?_
      refine h_off (t := 18) (l' := #[true, true, true, true, true, true, true, true, true, true, true, true, true, true, true, true, false, false, false, false, false, false, false, false]) 15 rfl (by kernel_rfl) rfl rfl (np_then (np_then np_post)) (hs_pick (is := [0]) rfl rfl) rfl rfl rfl ?_
      refine h_off (t := 18) (l' := #[true, true, true, true, true, true, true, true, true, true, true, true, true, true, true, true, true, false, false, false, false, false, false, false]) 16 rfl (by kernel_rfl) rfl rfl (np_then (np_then np_post)) (hs_pick (is := [0]) rfl rfl) rfl rfl rfl ?_
      refine h_off (t := 18) (l' := #[true, true, true, true, true, true, true, true, true, true, true, true, true, true, true, true, true, true, false, false, false, false, false, false]) 17 rfl (by kernel_rfl) rfl rfl (np_then (np_then np_post)) (hs_pick (is := [0]) rfl rfl) rfl rfl rfl ?_
      refine h_off (t := 18) (l' := #[true, true, true, true, true, true, true, true, true, true, true, true, true, true, true, true, true, true, true, false, false, false, false, false]) 18 rfl (by kernel_rfl) rfl rfl (np_then (np_then np_post)) (hs_pick (is := [0]) rfl rfl) rfl rfl rfl ?_
      refine h_off (t := 18) (l' := #[true, true, true, true, true, true, true, true, true, true, true, true, true, true, true, true, true, true, true, true, false, false, false, false]) 19 rfl (by kernel_rfl) rfl rfl (np_then (np_then np_post)) (hs_pick (is := [0]) rfl rfl) rfl rfl rfl ?_
      refine h_off (t := 18) (l' := #[true, true, true, true, true, true, true, true, true, true, true, true, true, true, true, true, true, true, true, true, true, false, false, false]) 20 rfl (by kernel_rfl) rfl rfl (np_then (np_then np_post)) (hs_pick (is := [0]) rfl rfl) rfl rfl rfl ?_
      refine h_only (l' := #[true, true, true, true, true, true, true, true, true, true, true, true, true, true, true, true, true, true, true, true, true, true, false, false]) 21 rfl (by kernel_rfl) rfl ?_
      refine g_off (t := 18) rfl rfl rfl rfl ?_
      refine l_nil ?_
      refine q_step (fun _ => hs_pick (is := [0]) rfl rfl) ?_
      refine h_off (t := 18) (l' := #[true, true, true, true, true, true, true, true, true, true, true, true, true, true, true, true, true, true, true, true, true, true, true, false]) 22 rfl (by kernel_rfl) rfl rfl (np_then (np_then np_post)) (hs_pick (is := [0]) rfl rfl) rfl rfl rfl ?_
      refine h_take (l' := #[true, true, true, true, true, true, true, true, true, true, true, true, true, true, true, true, true, true, true, true, true, true, true, true]) 23 rfl (by kernel_rfl) rfl rfl (np_then (np_then np_post)) (hs_pick (is := [0]) rfl rfl) (y_pick_t rfl rfl) ?_
      refine h_done (by kernel_rfl) ?_
      refine q_then ?_
      refine c_cond_t rfl ?_
      refine c_seq ?_
      refine c_region rfl ?_
      refine gv rfl (y_assign rfl) ?_
      refine l_nil ?_
      refine q_then ?_
      refine c_ret ?_
      refine q_then_ret ?_
      exact q_ret1 Tryz.results122 rfl () trivial (congrArg Value.bool (by simp only [labelF, *, if_true, if_false, Bool.false_eq_true])) hs_nil
    · intro h11
      refine h_takeg (t := 11) (l' := #[true, true, true, true, true, true, true, true, true, false, false, false, false, false, false, false, false, false, false, false, false, false, false, false]) 8 rfl (by kernel_rfl) rfl rfl (np_then (np_then np_post)) (hs_pick (is := [0]) rfl rfl) rfl rfl (y_load (k := 0)  one158 rfl rfl rfl) ?_
      refine h_takeg (t := 11) (l' := #[true, true, true, true, true, true, true, true, true, true, false, false, false, false, false, false, false, false, false, false, false, false, false, false]) 9 rfl (by kernel_rfl) rfl rfl (np_then (np_then np_post)) (hs_pick (is := [0]) rfl rfl) rfl rfl (y_move rfl) ?_
      have hpos : 0 < l.length := List.length_pos_iff.2 h6
      refine h_takeg (t := 11) (l' := #[true, true, true, true, true, true, true, true, true, true, true, false, false, false, false, false, false, false, false, false, false, false, false, false]) 10 rfl (by kernel_rfl) rfl rfl (np_then (np_then np_post)) (hs_pick (is := [0]) rfl rfl) rfl rfl (y_sidx Tryz.underlying9 rfl rfl (by omega) (by omega)) ?_
      refine h_only (l' := #[true, true, true, true, true, true, true, true, true, true, true, true, false, false, false, false, false, false, false, false, false, false, false, false]) 11 rfl (by kernel_rfl) rfl ?_
      refine g_on (t := 11) rfl rfl ?_
      refine l_callvU rfl ent140 rfl rfl (fun w hm => outer_c w) ?_
      refine l_nil ?_
      refine q_step (fun _ => hs_pick (is := [0]) rfl rfl) ?_
      refine h_takeg (t := 11) (l' := #[true, true, true, true, true, true, true, true, true, true, true, true, true, false, false, false, false, false, false, false, false, false, false, false]) 12 rfl (by kernel_rfl) rfl rfl (np_then (np_then np_post)) (hs_pick (is := [0]) rfl rfl) rfl rfl (y_not rfl rfl) ?_
      refine h_take (l' := #[true, true, true, true, true, true, true, true, true, true, true, true, true, true, false, false, false, false, false, false, false, false, false, false]) 13 rfl (by kernel_rfl) rfl rfl (np_then (np_then np_post)) (hs_pick (is := [0]) rfl rfl) (y_pick_f rfl rfl) ?_
      refine h_take (l' := #[true, true, true, true, true, true, true, true, true, true, true, true, true, true, true, false, false, false, false, false, false, false, false, false]) 14 rfl (by kernel_rfl) rfl rfl (np_then (np_then np_post)) (hs_pick (is := [0]) rfl rfl) (y_move rfl) ?_
      refine h_bool (t := 18) rfl ?_ ?_
      · intro h18
        refine h_off (t := 18) (l' := #[true, true, true, true, true, true, true, true, true, true, true, true, true, true, true, true, false, false, false, false, false, false, false, false]) 15 rfl (by kernel_rfl) rfl rfl (np_then (np_then np_post)) (hs_pick (is := [0]) rfl rfl) rfl rfl rfl ?_
        refine h_off (t := 18) (l' := #[true, true, true, true, true, true, true, true, true, true, true, true, true, true, true, true, true, false, false, false, false, false, false, false]) 16 rfl (by kernel_rfl) rfl rfl (np_then (np_then np_post)) (hs_pick (is := [0]) rfl rfl) rfl rfl rfl ?_
        refine h_off (t := 18) (l' := #[true, true, true, true, true, true, true, true, true, true, true, true, true, true, true, true, true, true, false, false, false, false, false, false]) 17 rfl (by kernel_rfl) rfl rfl (np_then (np_then np_post)) (hs_pick (is := [0]) rfl rfl) rfl rfl rfl ?_
        refine h_off (t := 18) (l' := #[true, true, true, true, true, true, true, true, true, true, true, true, true, true, true, true, true, true, true, false, false, false, false, false]) 18 rfl (by kernel_rfl) rfl rfl (np_then (np_then np_post)) (hs_pick (is := [0]) rfl rfl) rfl rfl rfl ?_
        refine h_off (t := 18) (l' := #[true, true, true, true, true, true, true, true, true, true, true, true, true, true, true, true, true, true, true, true, false, false, false, false]) 19 rfl (by kernel_rfl) rfl rfl (np_then (np_then np_post)) (hs_pick (is := [0]) rfl rfl) rfl rfl rfl ?_
        refine h_off (t := 18) (l' := #[true, true, true, true, true, true, true, true, true, true, true, true, true, true, true, true, true, true, true, true, true, false, false, false]) 20 rfl (by kernel_rfl) rfl rfl (np_then (np_then np_post)) (hs_pick (is := [0]) rfl rfl) rfl rfl rfl ?_
        refine h_only (l' := #[true, true, true, true, true, true, true, true, true, true, true, true, true, true, true, true, true, true, true, true, true, true, false, false]) 21 rfl (by kernel_rfl) rfl ?_
        refine g_off (t := 18) rfl rfl rfl rfl ?_
        refine l_nil ?_
        refine q_step (fun _ => hs_pick (is := [0]) rfl rfl) ?_
        refine h_off (t := 18) (l' := #[true, true, true, true, true, true, true, true, true, true, true, true, true, true, true, true, true, true, true, true, true, true, true, false]) 22 rfl (by kernel_rfl) rfl rfl (np_then (np_then np_post)) (hs_pick (is := [0]) rfl rfl) rfl rfl rfl ?_
        refine h_take (l' := #[true, true, true, true, true, true, true, true, true, true, true, true, true, true, true, true, true, true, true, true, true, true, true, true]) 23 rfl (by kernel_rfl) rfl rfl (np_then (np_then np_post)) (hs_pick (is := [0]) rfl rfl) (y_pick_t rfl rfl) ?_
        refine h_done (by kernel_rfl) ?_
        refine q_then ?_
        refine c_cond_t rfl ?_
        refine c_seq ?_
        refine c_region rfl ?_
        refine gv rfl (y_assign rfl) ?_
        refine l_nil ?_
        refine q_then ?_
        refine c_ret ?_
        refine q_then_ret ?_
        exact q_ret1 Tryz.results122 rfl () trivial (congrArg Value.bool (by simp only [labelF, *, if_true, if_false, Bool.false_eq_true])) hs_nil
      · intro h18
        refine h_takeg (t := 18) (l' := #[true, true, true, true, true, true, true, true, true, true, true, true, true, true, true, true, false, false, false, false, false, false, false, false]) 15 rfl (by kernel_rfl) rfl rfl (np_then (np_then np_post)) (hs_pick (is := [0]) rfl rfl) rfl rfl (y_load (k := 0)  one158 rfl rfl rfl) ?_
        refine h_takeg (t := 18) (l' := #[true, true, true, true, true, true, true, true, true, true, true, true, true, true, true, true, true, false, false, false, false, false, false, false]) 16 rfl (by kernel_rfl) rfl rfl (np_then (np_then np_post)) (hs_pick (is := [0]) rfl rfl) rfl rfl (y_move rfl) ?_
        refine h_takeg (t := 18) (l' := #[true, true, true, true, true, true, true, true, true, true, true, true, true, true, true, true, true, true, false, false, false, false, false, false]) 17 rfl (by kernel_rfl) rfl rfl (np_then (np_then np_post)) (hs_pick (is := [0]) rfl rfl) rfl rfl (y_move rfl) ?_
        refine h_takeg (t := 18) (l' := #[true, true, true, true, true, true, true, true, true, true, true, true, true, true, true, true, true, true, true, false, false, false, false, false]) 18 rfl (by kernel_rfl) rfl rfl (np_then (np_then np_post)) (hs_pick (is := [0]) rfl rfl) rfl rfl (y_slen Tryz.underlying9 rfl rfl) ?_
        refine h_takeg (t := 18) (l' := #[true, true, true, true, true, true, true, true, true, true, true, true, true, true, true, true, true, true, true, true, false, false, false, false]) 19 rfl (by kernel_rfl) rfl rfl (np_then (np_then np_post)) (hs_pick (is := [0]) rfl rfl) rfl rfl (y_sub_ rfl rfl (wrap_in (by omega) (by omega))) ?_
        refine h_takeg (t := 18) (l' := #[true, true, true, true, true, true, true, true, true, true, true, true, true, true, true, true, true, true, true, true, true, false, false, false]) 20 rfl (by kernel_rfl) rfl rfl (np_then (np_then np_post)) (hs_pick (is := [0]) rfl rfl) rfl rfl (y_sidx Tryz.underlying9 rfl rfl (by omega) (by omega)) ?_
        refine h_only (l' := #[true, true, true, true, true, true, true, true, true, true, true, true, true, true, true, true, true, true, true, true, true, true, false, false]) 21 rfl (by kernel_rfl) rfl ?_
        refine g_on (t := 18) rfl rfl ?_
        refine l_callvU rfl ent140 rfl rfl (fun w hm => outer_c w) ?_
        refine l_nil ?_
        refine q_step (fun _ => hs_pick (is := [0]) rfl rfl) ?_
        refine h_takeg (t := 18) (l' := #[true, true, true, true, true, true, true, true, true, true, true, true, true, true, true, true, true, true, true, true, true, true, true, false]) 22 rfl (by kernel_rfl) rfl rfl (np_then (np_then np_post)) (hs_pick (is := [0]) rfl rfl) rfl rfl (y_not rfl rfl) ?_
        refine h_take (l' := #[true, true, true, true, true, true, true, true, true, true, true, true, true, true, true, true, true, true, true, true, true, true, true, true]) 23 rfl (by kernel_rfl) rfl rfl (np_then (np_then np_post)) (hs_pick (is := [0]) rfl rfl) (y_pick_f rfl rfl) ?_
        refine h_done (by kernel_rfl) ?_
        refine q_then ?_
        refine c_bool rfl ?_ ?_
        · intro h27
          refine c_seq ?_
          refine c_region rfl ?_
          refine gv rfl (y_assign rfl) ?_
          refine l_nil ?_
          refine q_then ?_
          refine c_ret ?_
          refine q_then_ret ?_
          exact q_ret1 Tryz.results122 rfl () trivial (congrArg Value.bool (by simp only [labelF, *, if_true, if_false, Bool.false_eq_true])) hs_nil
        · intro h27
          refine c_skip ?_
          refine q_then ?_
          refine c_seq ?_
          refine c_region rfl ?_
          refine gv rfl (y_move rfl) ?_
          refine l_s2b rfl strT9 bytesT124 rfl ?_; intro g29 c29 R29 m29 hm29
          refine gv rfl (y_mkfn rfl) ?_
          refine l_callU rfl ent141 rfl (fun w hm => conFn_byte_c w (sl_of_rowB hm (k := 0) rfl) (Nat.le_trans hl (by decide)) (fun x hx => FnV.mk (fs := []) (cs := [_]) ent142 (fun w1 hb => label2_c w1 ((el_of_blk hm (k := 1) rfl).below hb) (FnV.named ent140 (fun w2 hb2 => outer_c w2))))) ?_
          refine gv rfl (y_not rfl rfl) ?_
          refine gv rfl (y_assign rfl) ?_
          refine l_nil ?_
          refine q_then ?_
          refine c_ret ?_
          exact q_ret1 Tryz.results122 rfl () trivial (congrArg Value.bool (by simp only [labelF, *, if_true, if_false, Bool.false_eq_true])) hs_nil

theorem parts_c {l : List UInt8} {b : UInt8} (w : World) (hl : l.length ≤ 1073741824) : Ct Tryz.prog 95 #[.string (B l), .int .u8 (b.toNat : Int)] w (fun x : Option Addr × Nat => .slice x.1 (partsB b l).length x.2) (fun x => PartsR 9 b l x) (fun _ => True) := parts_of (fun l b w h => cut_c w h) l b w hl

theorem canon_c {l : List UInt8} (w : World) (hl : l.length ≤ 1073741824) : Cv Tryz.prog 100 #[.string (B l)] w (.tuple #[.string (B (canonF l).1), .int .i64 (canonF l).2]) := by
  refine enter (E := [(0, .string (B l))]) Tryz.func100 rfl Tryz.ntmps100 rfl (by simp) ?_
  refine c_seq ?_
  refine c_region rfl ?_
  refine gv rfl (y_assign rfl) ?_
  refine gv rfl (y_assign rfl) ?_
  refine l_nil ?_
  refine q_then ?_
  refine c_seq ?_
  refine c_seq ?_
  refine c_region rfl ?_
  refine gv rfl (y_move rfl) ?_
  refine gv rfl (y_slen Tryz.underlying9 rfl rfl) ?_
  refine gv rfl (y_gtr rfl rfl) ?_
  refine l_nil ?_
  refine q_then ?_
  refine c_dec rfl ?_ ?_
  · intro h8
    refine c_seq ?_
    refine c_region rfl ?_
    refine gv rfl (y_assign rfl) ?_
    refine gv rfl (y_assign rfl) ?_
    refine l_nil ?_
    refine q_then ?_
    refine c_ret ?_
    refine q_then_ret ?_
    exact q_ret2 Tryz.results100 rfl rfl () trivial (by rw [show canonF l = ([], 2) from if_pos (by omega)]; rfl) hs_nil
  · intro h8
    refine c_skip ?_
    refine q_then ?_
    refine c_seq ?_
    refine c_region rfl ?_
    refine gv rfl (y_move rfl) ?_
    refine l_callU rfl ent121 rfl (fun w hm => fold_c w hl) ?_
    refine gv rfl (y_assign rfl) ?_
    refine l_nil ?_
    refine q_then ?_
    refine c_seq ?_
    refine c_seq ?_
    refine c_region rfl ?_
    refine gv rfl (y_move rfl) ?_
    refine l_call rfl ent95 rfl (fun w hm => parts_c (b := 46) w (by simpa using hl)) ?_; rintro x12 h12
    have hpl := partsB_len 46 (l.map lowB); rw [List.length_map] at hpl
    refine gv rfl (y_len elem117 rfl) ?_
    refine gv rfl (y_move rfl) ?_
    refine l_nil ?_
    refine q_then ?_
    refine c_block ?_
    refine loop (Ef := [(0, _), (12, _), (13, _)]) (Hf := [_]) (fun s : Nat => s ≤ (partsB 46 (l.map lowB)).length ∧ ∀ j, j < s → ∀ u, (partsB 46 (l.map lowB))[j]? = some u → (fun p => !labelF p) u = false) (fun s : Nat => [(14, .int .i64 (s : Int))]) (fun s : Nat => []) (fun s : Nat => (partsB 46 (l.map lowB)).length - s) 0 ⟨by omega, none_get⟩ (sub_cons rfl sub_nil) (sub_cons rfl (sub_cons rfl (sub_cons rfl sub_nil))) (hs_pick (is := [0]) rfl rfl) ?_
    rintro s ⟨hs, hI⟩
    refine c_sub (E' := [(14, _), (0, _), (12, _), (13, _)]) (sub_cons rfl (sub_cons rfl (sub_cons rfl (sub_cons rfl sub_nil)))) ?_
    refine c_seq ?_
    refine c_region rfl ?_
    refine gv rfl (y_lss rfl rfl) ?_
    refine l_nil ?_
    refine q_then ?_
    refine c_seq ?_
    refine c_dec rfl ?_ ?_
    · intro h15
      have hlt : s < (partsB 46 (l.map lowB)).length := by omega
      obtain ⟨v, hv⟩ := get_lt hlt
      refine c_skip ?_
      refine q_then ?_
      refine c_seq ?_
      refine c_block ?_
      refine c_seq ?_
      refine c_region rfl ?_
      refine gv rfl (y_iaddr_row (k := 0) elem117 size9 rfl (fun _ => rfl) rfl rfl rfl (by omega) hv) ?_
      refine gv rfl (y_load_row (k := 0) one9 rfl (fun _ => rfl) rfl 0 rfl rfl hv rfl) ?_
      refine gv rfl (y_assign rfl) ?_
      refine l_nil ?_
      refine q_then ?_
      refine c_seq ?_
      refine c_region rfl ?_
      refine gv rfl (y_move rfl) ?_
      refine l_callU rfl ent122 rfl (fun w hm => label_c w (partsB_small hl hv)) ?_
      refine gv rfl (y_not rfl rfl) ?_
      refine l_nil ?_
      refine q_then ?_
      refine c_bool rfl ?_ ?_
      · intro h20
        refine c_seq ?_
        refine c_region rfl ?_
        refine gv rfl (y_assign rfl) ?_
        refine gv rfl (y_assign rfl) ?_
        refine l_nil ?_
        refine q_then ?_
        refine c_ret ?_
        refine q_block_ret (q_then_ret (q_loop_ret (q_block_ret (q_then_ret ?_))))
        exact q_ret2 Tryz.results100 rfl rfl () trivial (by rw [show canonF l = ([], 1) by unfold canonF; rw [if_neg (by omega), if_pos (any_parts (p := fun p => !labelF p) hv h20)]]; rfl) hs_nil
      · intro h20
        refine c_skip ?_
        refine q_block (q_then ?_)
        refine c_region rfl ?_
        refine gv rfl (y_add rfl rfl (wrap_in (by omega) (by omega))) ?_
        refine gv rfl (y_move rfl) ?_
        refine l_nil ?_
        exact again (s + 1) ⟨by omega, step_get hI hv h20⟩ (by omega) (sub_cons rfl sub_nil) (sub_cons rfl (sub_cons rfl (sub_cons rfl sub_nil))) (hs_pick (is := [0]) rfl rfl)
    · intro h15
      refine c_exit ?_
      refine q_then_exit (q_loop_exit (q_block_exit (q_then ?_)))
      refine c_seq ?_
      refine c_region rfl ?_
      refine gv rfl (y_move rfl) ?_
      refine gv rfl (y_assign rfl) ?_
      refine gv rfl (y_assign rfl) ?_
      refine l_nil ?_
      refine q_then ?_
      refine c_ret ?_
      exact q_ret2 Tryz.results100 rfl rfl () trivial (by rw [show canonF l = (l.map lowB, 0) by unfold canonF; rw [if_neg (by omega), none_parts (p := fun p => !labelF p) hI (by omega)]; rfl]) hs_nil

theorem host_c {l : List UInt8} (w : World) (hl : l.length ≤ 1073741824) : Cv Tryz.prog 76 #[.string (B l)] w (.bool (hostF l)) := by
  refine enter (E := [(0, .string (B l))]) Tryz.func76 rfl Tryz.ntmps76 rfl (by simp) ?_
  refine c_seq ?_
  refine c_region rfl ?_
  refine gv rfl (y_assign rfl) ?_
  refine l_nil ?_
  refine q_then ?_
  refine c_seq ?_
  refine c_region rfl ?_
  refine gv rfl (y_move rfl) ?_
  refine l_callU rfl ent100 rfl (fun w hm => canon_c w hl) ?_
  refine gv rfl (y_move rfl) ?_
  refine gv rfl (y_extract rfl rfl) ?_
  refine gv rfl (y_extract rfl rfl) ?_
  refine gv rfl (y_assign rfl) ?_
  refine gv rfl (y_assign rfl) ?_
  refine l_nil ?_
  refine q_then ?_
  refine c_seq ?_
  refine c_region rfl ?_
  refine gv rfl (y_move rfl) ?_
  refine gv rfl (y_eql rfl rfl) ?_
  refine gv rfl (y_move rfl) ?_
  refine g_dec (t := 12) rfl ?_ ?_
  · intro h12
    refine g_on (t := 12) rfl rfl ?_
    refine gv rfl (y_move rfl) ?_
    refine g_on (t := 12) rfl rfl ?_
    refine gv rfl (y_move rfl) ?_
    refine g_on (t := 12) rfl rfl ?_
    refine gv rfl (y_seq rfl rfl) ?_
    refine gv rfl (y_pick_t rfl rfl) ?_
    refine gv rfl (y_assign rfl) ?_
    refine l_nil ?_
    refine q_then ?_
    refine c_ret ?_
    exact q_ret1 Tryz.results76 rfl () trivial (congrArg Value.bool (by simp [hostF, *])) hs_nil
  · intro h12
    refine g_off (t := 12) rfl rfl rfl rfl ?_
    refine g_off (t := 12) rfl rfl rfl rfl ?_
    refine g_off (t := 12) rfl rfl rfl rfl ?_
    refine gv rfl (y_pick_f rfl rfl) ?_
    refine gv rfl (y_assign rfl) ?_
    refine l_nil ?_
    refine q_then ?_
    refine c_ret ?_
    exact q_ret1 Tryz.results76 rfl () trivial (congrArg Value.bool (by simp [hostF, *])) hs_nil

theorem match_c {ad : List UInt8 → Bool} {l m : List UInt8} (w : World) (hAd : AddrIs Tryz.prog 107 w ad) (hl : l.length ≤ 1073741824) (hm1 : m.length ≤ 1073741824) : Cv Tryz.prog 86 #[.string (B l), .string (B m)] w (.bool (matchF ad l m)) := by
  refine enter (E := [(0, .string (B l)), (1, .string (B m))]) Tryz.func86 rfl Tryz.ntmps86 rfl (by simp) ?_
  refine c_seq ?_
  refine c_region rfl ?_
  refine gv rfl (y_assign rfl) ?_
  refine l_nil ?_
  refine q_then ?_
  refine c_seq ?_
  refine c_region rfl ?_
  refine gv rfl (y_move rfl) ?_
  refine gv rfl (y_move rfl) ?_
  refine gv rfl (y_seq rfl rfl) ?_
  refine gv rfl (y_move rfl) ?_
  refine g_dec (t := 8) rfl ?_ ?_
  · intro h8
    refine g_off (t := 8) rfl rfl rfl rfl ?_
    refine g_off (t := 8) rfl rfl rfl rfl ?_
    refine g_off (t := 8) rfl rfl rfl rfl ?_
    refine g_off (t := 8) rfl rfl rfl rfl ?_
    refine g_und (t := 12) rfl rfl rfl ?_
    refine g_und (t := 12) rfl rfl rfl ?_
    refine g_und (t := 12) rfl rfl rfl ?_
    refine g_und (t := 12) rfl rfl rfl ?_
    refine g_off (t := 8) rfl rfl rfl rfl ?_
    refine gv rfl (y_pick_t rfl rfl) ?_
    refine gv rfl (y_assign rfl) ?_
    refine l_nil ?_
    refine q_then ?_
    refine c_ret ?_
    exact q_ret1 Tryz.results86 rfl () trivial (congrArg Value.bool (by simp [matchF, *])) hs_nil
  · intro h8
    refine g_on (t := 8) rfl rfl ?_
    refine gv rfl (y_move rfl) ?_
    refine g_on (t := 8) rfl rfl ?_
    refine l_callU rfl ent107 rfl (fun w hm => hAd w hm.below _ hl) ?_
    refine g_on (t := 8) rfl rfl ?_
    refine gv rfl (y_not rfl rfl) ?_
    refine g_on (t := 8) rfl rfl ?_
    refine gv rfl (y_move rfl) ?_
    refine g_bool (t := 12) rfl ?_ ?_
    · intro h12
      refine g_on (t := 12) rfl rfl ?_
      refine gv rfl (y_move rfl) ?_
      refine g_on (t := 12) rfl rfl ?_
      refine gv rfl (y_move rfl) ?_
      refine g_on (t := 12) rfl rfl ?_
      refine gv rfl (y_sadd rfl rfl (by simp; omega) rfl) ?_
      refine g_on (t := 12) rfl rfl ?_
      refine l_callU rfl ent108 rfl (fun w hm => hasSuffix_c (m := 46 :: m) w (Nat.le_trans hl (by decide))) ?_
      refine g_on (t := 8) rfl rfl ?_
      refine gv rfl (y_pick_t rfl rfl) ?_
      refine gv rfl (y_pick_f rfl rfl) ?_
      refine gv rfl (y_assign rfl) ?_
      refine l_nil ?_
      refine q_then ?_
      refine c_ret ?_
      exact q_ret1 Tryz.results86 rfl () trivial (congrArg Value.bool (by simp [matchF, *])) hs_nil
    · intro h12
      refine g_off (t := 12) rfl rfl rfl rfl ?_
      refine g_off (t := 12) rfl rfl rfl rfl ?_
      refine g_off (t := 12) rfl rfl rfl rfl ?_
      refine g_off (t := 12) rfl rfl rfl rfl ?_
      refine g_on (t := 8) rfl rfl ?_
      refine gv rfl (y_pick_f rfl rfl) ?_
      refine gv rfl (y_pick_f rfl rfl) ?_
      refine gv rfl (y_assign rfl) ?_
      refine l_nil ?_
      refine q_then ?_
      refine c_ret ?_
      exact q_ret1 Tryz.results86 rfl () trivial (congrArg Value.bool (by simp [matchF, *])) hs_nil

theorem byDomain_c {ad : List UInt8 → Bool} {t : List UInt8} {c : Ck} (w : World) (hAd : AddrIs Tryz.prog 107 w ad) (hc : c.ok) (ht : t.length ≤ 1073741824) : Cv Tryz.prog 196 #[.string (B t), .agg c.arr] w (.bool (matchF ad c.domain t)) := by
  refine enter (E := [(0, .string (B t)), (1, .agg c.arr)]) Tryz.func196 rfl Tryz.ntmps196 rfl (by simp) ?_
  refine c_seq ?_
  refine c_region rfl ?_
  refine l_boxA rfl rfl ?_; intro g3
  refine gv rfl (y_assign rfl) ?_
  refine l_nil ?_
  refine q_then ?_
  refine c_seq ?_
  refine c_region rfl ?_
  refine gv rfl (y_faddr off26_2 rfl rfl) ?_
  refine gv rfl (y_load (k := 0)  one9 rfl rfl rfl) ?_
  refine gv rfl (y_move rfl) ?_
  refine l_callU rfl ent86 rfl (fun w hm => match_c w (hAd.above hm.below) hc.2 ht) ?_
  refine gv rfl (y_assign rfl) ?_
  refine l_nil ?_
  refine q_then ?_
  refine c_ret ?_
  exact q_ret1 Tryz.results196 rfl () trivial rfl hs_nil

def namerV (r : Ru) : Value := if r.kind = 1 then .iface 163 (.agg #[.string (B r.text), .func (.func 151) #[] #[]]) else if r.kind = 2 then .iface 163 (.agg #[.string (B r.text), .func (.func 77) #[] #[]])
  else if r.kind = 3 then .iface 163 (.agg #[.string (B r.text), .func (.func 108) #[] #[]]) else if r.kind = 4 then .iface 164 (.string (B r.text)) else .iface 166 (.agg #[])
theorem namer_inv {ad : List UInt8 → Bool} {r : Ru} {c : Ck} (w : World) (hAd : AddrIs Tryz.prog 107 w ad) (hc : c.ok) (hr : r.text.length ≤ 1073741824) : InvV Tryz.prog w (namerV r) "gingersnap/policy.names" [.agg c.arr] (.bool (namesF ad c r)) := by
  unfold namerV namesF
  split
  · exact ⟨_, _, 195, rfl, by kernel_rfl, ent195, fun w' hb => byName_c w' (FnV.named ent151 (fun w2 _ => sameText_c w2))⟩
  · split
    · exact ⟨_, _, 195, rfl, by kernel_rfl, ent195, fun w' hb => byName_c w' (FnV.named ent77 (fun w2 _ => hasPrefix_c w2))⟩
    · split
      · exact ⟨_, _, 195, rfl, by kernel_rfl, ent195, fun w' hb => byName_c w' (FnV.named ent108 (fun w2 _ => hasSuffix_c w2 (Nat.le_trans hc.1 (by decide))))⟩
      · split
        · exact ⟨_, _, 196, rfl, by kernel_rfl, ent196, fun w' hb => byDomain_c w' (hAd.above hb) hc hr⟩
        · exact ⟨_, _, 197, rfl, by kernel_rfl, ent197, fun w' hb => nobody_c w'⟩
theorem namerOf_c {r : Ru} (w : World) : Cv Tryz.prog 133 #[.agg r.cells.toArray] w (namerV r) := by
  refine enter (E := [(0, .agg r.cells.toArray)]) Tryz.func133 rfl Tryz.ntmps133 rfl (by simp) ?_
  refine c_seq ?_
  refine c_region rfl ?_
  refine l_boxA rfl rfl ?_; intro g1
  refine gv rfl (y_assign rfl) ?_
  refine l_nil ?_
  refine q_then ?_
  refine c_seq ?_
  refine c_seq ?_
  refine c_region rfl ?_
  refine gv rfl (y_faddr off116_0 rfl rfl) ?_
  refine gv rfl (y_load (k := 0)  one3 rfl rfl rfl) ?_
  refine l_nil ?_
  refine q_then ?_
  refine c_block ?_
  refine c_seq ?_
  refine c_region rfl ?_
  refine gv rfl (y_eql rfl rfl) ?_
  refine gv rfl (y_assign rfl) ?_
  refine l_nil ?_
  refine q_then ?_
  refine c_dec rfl ?_ ?_
  · intro h5
    refine c_seq ?_
    refine c_region rfl ?_
    refine gv rfl (y_faddr off116_1 rfl rfl) ?_
    refine gv rfl (y_load (k := 0)  one9 rfl rfl rfl) ?_
    refine gv rfl (y_build (cs := #[_, _]) (cl := [_, _])  zero163 bld163 rfl rfl rfl rfl rfl) ?_
    refine gv rfl (y_makeIface conc163 rfl) ?_
    refine gv rfl (y_assign rfl) ?_
    refine l_nil ?_
    refine q_then ?_
    refine c_ret ?_
    refine q_block_ret (q_then_ret ?_)
    exact q_ret1 Tryz.results133 rfl () trivial (by first | (simp only [namerV, *, if_true, if_false]; done) | (simp only [namerV, *, if_true, if_false]; rfl)) hs_nil
  · intro h5
    refine c_seq ?_
    refine c_region rfl ?_
    refine gv rfl (y_eql rfl rfl) ?_
    refine gv rfl (y_assign rfl) ?_
    refine l_nil ?_
    refine q_then ?_
    refine c_dec rfl ?_ ?_
    · intro h11
      refine c_seq ?_
      refine c_region rfl ?_
      refine gv rfl (y_faddr off116_1 rfl rfl) ?_
      refine gv rfl (y_load (k := 0)  one9 rfl rfl rfl) ?_
      refine gv rfl (y_build (cs := #[_, _]) (cl := [_, _])  zero163 bld163 rfl rfl rfl rfl rfl) ?_
      refine gv rfl (y_makeIface conc163 rfl) ?_
      refine gv rfl (y_assign rfl) ?_
      refine l_nil ?_
      refine q_then ?_
      refine c_ret ?_
      refine q_block_ret (q_then_ret ?_)
      exact q_ret1 Tryz.results133 rfl () trivial (by first | (simp only [namerV, *, if_true, if_false]; done) | (simp only [namerV, *, if_true, if_false]; rfl)) hs_nil
    · intro h11
      refine c_seq ?_
      refine c_region rfl ?_
      refine gv rfl (y_eql rfl rfl) ?_
      refine gv rfl (y_assign rfl) ?_
      refine l_nil ?_
      refine q_then ?_
      refine c_dec rfl ?_ ?_
      · intro h17
        refine c_seq ?_
        refine c_region rfl ?_
        refine gv rfl (y_faddr off116_1 rfl rfl) ?_
        refine gv rfl (y_load (k := 0)  one9 rfl rfl rfl) ?_
        refine gv rfl (y_build (cs := #[_, _]) (cl := [_, _])  zero163 bld163 rfl rfl rfl rfl rfl) ?_
        refine gv rfl (y_makeIface conc163 rfl) ?_
        refine gv rfl (y_assign rfl) ?_
        refine l_nil ?_
        refine q_then ?_
        refine c_ret ?_
        refine q_block_ret (q_then_ret ?_)
        exact q_ret1 Tryz.results133 rfl () trivial (by first | (simp only [namerV, *, if_true, if_false]; done) | (simp only [namerV, *, if_true, if_false]; rfl)) hs_nil
      · intro h17
        refine c_seq ?_
        refine c_region rfl ?_
        refine gv rfl (y_eql rfl rfl) ?_
        refine gv rfl (y_assign rfl) ?_
        refine l_nil ?_
        refine q_then ?_
        refine c_dec rfl ?_ ?_
        · intro h23
          refine c_seq ?_
          refine c_region rfl ?_
          refine gv rfl (y_faddr off116_1 rfl rfl) ?_
          refine gv rfl (y_load (k := 0)  one9 rfl rfl rfl) ?_
          refine gv rfl (y_makeIface conc164 rfl) ?_
          refine gv rfl (y_assign rfl) ?_
          refine l_nil ?_
          refine q_then ?_
          refine c_ret ?_
          refine q_block_ret (q_then_ret ?_)
          exact q_ret1 Tryz.results133 rfl () trivial (by first | (simp only [namerV, *, if_true, if_false]; done) | (simp only [namerV, *, if_true, if_false]; rfl)) hs_nil
        · intro h23
          refine c_skip ?_
          refine q_block (q_then ?_)
          refine c_seq ?_
          refine c_region rfl ?_
          refine gv rfl (y_build (cs := #[]) (cl := [])  zero166 bld166 rfl rfl rfl rfl rfl) ?_
          refine gv rfl (y_makeIface conc166 rfl) ?_
          refine gv rfl (y_assign rfl) ?_
          refine l_nil ?_
          refine q_then ?_
          refine c_ret ?_
          exact q_ret1 Tryz.results133 rfl () trivial (by first | (simp only [namerV, *, if_true, if_false]; done) | (simp only [namerV, *, if_true, if_false]; rfl)) hs_nil

theorem kind_c {ad : List UInt8 → Bool} {p : Po} {A : Option Addr} {k : Nat} {c : Ck} (w : World) (hAd : AddrIs Tryz.prog 107 w ad) (hP : Sl Ru.cells 4 w A p.rules) (hp : p.ok) (hc : c.ok) : Cv Tryz.prog 112 #[.agg (p.arr A k), .agg c.arr] w (.tuple #[.int .i64 (kindF ad p c).1, .int .i64 (kindF ad p c).2]) := by
  refine enter (E := [(0, .agg (p.arr A k)), (1, .agg c.arr)]) Tryz.func112 rfl Tryz.ntmps112 rfl (by simp) ?_
  have hpl := hp.1
  refine c_seq ?_
  refine c_region rfl ?_
  refine l_boxA rfl rfl ?_; intro g2
  refine l_boxA rfl rfl ?_; intro g3
  refine gv rfl (y_assign rfl) ?_
  refine gv rfl (y_assign rfl) ?_
  refine l_nil ?_
  refine q_then ?_
  refine c_seq ?_
  refine c_seq ?_
  refine c_region rfl ?_
  refine gv rfl (y_faddr off49_0 rfl rfl) ?_
  refine gv rfl (y_load (k := 1)  one46 rfl rfl rfl) ?_
  refine gv rfl (y_len elem46 rfl) ?_
  refine gv rfl (y_move rfl) ?_
  refine l_nil ?_
  refine q_then ?_
  refine c_block ?_
  refine loop (Ef := [(2, _), (3, _), (9, _), (10, _)]) (Hf := [_, _]) (fun s : Nat => s ≤ p.rules.length ∧ ∀ j, j < s → ∀ u, p.rules[j]? = some u → namesF ad c u = false) (fun s : Nat => [(11, .int .i64 (s : Int))]) (fun s : Nat => []) (fun s : Nat => p.rules.length - s) 0 ⟨by omega, none_get⟩ (sub_cons rfl sub_nil) (sub_cons rfl (sub_cons rfl (sub_cons rfl (sub_cons rfl sub_nil)))) (hs_pick (is := [0, 1]) rfl rfl) ?_
  rintro s ⟨hs, hI⟩
  refine c_sub (E' := [(11, _), (2, _), (3, _), (9, _), (10, _)]) (sub_cons rfl (sub_cons rfl (sub_cons rfl (sub_cons rfl (sub_cons rfl sub_nil))))) ?_
  refine c_seq ?_
  refine c_region rfl ?_
  refine gv rfl (y_lss rfl rfl) ?_
  refine l_nil ?_
  refine q_then ?_
  refine c_seq ?_
  refine c_dec rfl ?_ ?_
  · intro h12
    have hlt : s < p.rules.length := by omega
    obtain ⟨v, hv⟩ := get_lt hlt
    refine c_skip ?_
    refine q_then ?_
    refine c_seq ?_
    refine c_block ?_
    refine c_seq ?_
    refine c_region rfl ?_
    refine gve rfl (y_iaddr elem46 size116 hP rfl rfl rfl (by omega) hv) ?_; rintro _ ⟨p13, rfl, hp13⟩
    refine gv rfl (y_loadA_el agg116 rfl hp13 rfl) ?_
    refine l_allocA rfl zero116 ?_; intro g7
    refine l_storeW (k := 0) (H' := [_, _, _]) size116 rfl rfl rfl rfl rfl rfl rfl ?_
    refine l_nil ?_
    refine q_then ?_
    refine c_seq ?_
    refine c_drawp (l := #[false, false, false, false]) 4 (is := [0, 1, 2]) rfl rfl rfl rfl ?_
    refine h_take (l' := #[true, false, false, false]) 0 rfl (by kernel_rfl) rfl rfl (np_then (np_block (np_then (np_loop (np_block (np_then np_post)))))) (hs_pick (is := [0, 1, 2]) rfl rfl) (y_loadW (k := 0)  agg116 rfl rfl rfl) ?_
    refine h_take (l' := #[true, false, true, false]) 2 rfl (by kernel_rfl) rfl rfl (np_then (np_block (np_then (np_loop (np_block (np_then np_post)))))) (hs_pick (is := [0, 1, 2]) rfl rfl) (y_loadW (k := 1)  agg26 rfl rfl rfl) ?_
    refine h_only (l' := #[true, true, true, false]) 1 rfl (by kernel_rfl) rfl ?_
    refine l_callU rfl ent133 rfl (fun w hm => namerOf_c w) ?_
    refine l_nil ?_
    refine q_step (fun _ => hs_pick (is := [0, 1, 2]) rfl rfl) ?_
    refine h_only (l' := #[true, true, true, true]) 3 rfl (by kernel_rfl) rfl ?_
    refine l_invF rfl rfl rfl (namer_inv _ hAd hc (hp.2 v (List.mem_of_getElem? hv))) ?_
    refine l_nil ?_
    refine q_step (fun _ => hs_pick (is := [0, 1, 2]) rfl rfl) ?_
    refine h_done (by kernel_rfl) ?_
    refine q_then ?_
    refine c_bool rfl ?_ ?_
    · intro h18
      refine c_seq ?_
      refine c_drawp (l := #[false, false, false, false, false, false]) 6 (is := [0, 1, 2]) rfl rfl rfl rfl ?_
      refine h_take (l' := #[true, false, false, false, false, false]) 0 rfl (by kernel_rfl) rfl rfl (np_then (np_block (np_then (np_loop (np_block (np_then np_post)))))) (hs_pick (is := [0, 1, 2]) rfl rfl) (y_faddr off116_2 rfl rfl) ?_
      refine h_take (l' := #[true, true, false, false, false, false]) 1 rfl (by kernel_rfl) rfl rfl (np_then (np_block (np_then (np_loop (np_block (np_then np_post)))))) (hs_pick (is := [0, 1, 2]) rfl rfl) (y_load (k := 0)  one3 rfl rfl rfl) ?_
      refine h_take (l' := #[true, true, true, false, false, false]) 2 rfl (by kernel_rfl) rfl rfl (np_then (np_block (np_then (np_loop (np_block (np_then np_post)))))) (hs_pick (is := [0, 1, 2]) rfl rfl) (y_faddr off116_3 rfl rfl) ?_
      refine h_take (l' := #[true, true, true, true, false, false]) 3 rfl (by kernel_rfl) rfl rfl (np_then (np_block (np_then (np_loop (np_block (np_then np_post)))))) (hs_pick (is := [0, 1, 2]) rfl rfl) (y_load (k := 0)  one3 rfl rfl rfl) ?_
      refine h_take (l' := #[true, true, true, true, true, false]) 4 rfl (by kernel_rfl) rfl rfl (np_then (np_block (np_then (np_loop (np_block (np_then np_post)))))) (hs_pick (is := [0, 1, 2]) rfl rfl) (y_assign rfl) ?_
      refine h_take (l' := #[true, true, true, true, true, true]) 5 rfl (by kernel_rfl) rfl rfl (np_then (np_block (np_then (np_loop (np_block (np_then np_post)))))) (hs_pick (is := [0, 1, 2]) rfl rfl) (y_assign rfl) ?_
      refine h_done (by kernel_rfl) ?_
      refine q_then ?_
      refine c_ret ?_
      refine q_block_ret (q_then_ret (q_loop_ret (q_block_ret (q_then_ret ?_))))
      exact q_ret2 Tryz.results112 rfl rfl () trivial (by rw [show kindF ad p c = (v.purpose, v.vendor) by unfold kindF; rw [find_at hI hv h18]]; rfl) hs_nil
    · intro h18
      refine c_skip ?_
      refine q_block (q_then ?_)
      refine c_region rfl ?_
      refine gv rfl (y_add rfl rfl (wrap_in (by omega) (by omega))) ?_
      refine gv rfl (y_move rfl) ?_
      refine l_nil ?_
      exact again (s + 1) ⟨by omega, step_get hI hv h18⟩ (by omega) (sub_cons rfl sub_nil) (sub_cons rfl (sub_cons rfl (sub_cons rfl (sub_cons rfl sub_nil)))) (hs_pick (is := [1, 2]) rfl rfl)
  · intro h12
    refine c_exit ?_
    refine q_then_exit (q_loop_exit (q_block_exit (q_then ?_)))
    refine c_seq ?_
    refine c_region rfl ?_
    refine gv rfl (y_faddr off49_1 rfl rfl) ?_
    refine gv rfl (y_load (k := 1)  one3 rfl rfl rfl) ?_
    refine gv rfl (y_assign rfl) ?_
    refine gv rfl (y_assign rfl) ?_
    refine l_nil ?_
    refine q_then ?_
    refine c_ret ?_
    exact q_ret2 Tryz.results112 rfl rfl () trivial (by rw [show kindF ad p c = (p.dflt, 0) by unfold kindF; rw [find_none' hI (by omega)]]; rfl) hs_nil

theorem lets_c {ad : List UInt8 → Bool} {p : Po} {A A2 : Option Addr} {k k2 : Nat} {g : Co} {c : Ck} (w : World) (hAd : AddrIs Tryz.prog 107 w ad) (hP : Sl Ru.cells 4 w A p.rules) (hp : p.ok) (hA : Sl i1 1 w A2 g.vs) (hlen : g.vs.length ≤ 9223372036854775806) (hc : c.ok) : Cv Tryz.prog 91 #[.agg (p.arr A k), .agg (g.arr A2 k2), .agg c.arr] w (.bool (letsF ad p g c)) := by
  refine enter (E := [(0, .agg (p.arr A k)), (1, .agg (g.arr A2 k2)), (2, .agg c.arr)]) Tryz.func91 rfl Tryz.ntmps91 rfl (by simp) ?_
  refine c_seq ?_
  refine c_region rfl ?_
  refine l_boxA rfl rfl ?_; intro g3
  refine l_boxA rfl rfl ?_; intro g4
  refine l_boxA rfl rfl ?_; intro g5
  refine gv rfl (y_assign rfl) ?_
  refine l_nil ?_
  refine q_then ?_
  refine c_seq ?_
  refine c_region rfl ?_
  refine gv rfl (y_loadW (k := 2)  agg49 rfl rfl rfl) ?_
  refine gv rfl (y_loadW (k := 0)  agg26 rfl rfl rfl) ?_
  refine l_callU rfl ent112 rfl (fun w hm => kind_c w (hAd.above hm.below) (hP.below hm.below) hp hc) ?_
  refine gv rfl (y_move rfl) ?_
  refine gv rfl (y_extract rfl rfl) ?_
  refine gv rfl (y_extract rfl rfl) ?_
  refine gv rfl (y_assign rfl) ?_
  refine gv rfl (y_assign rfl) ?_
  refine l_nil ?_
  refine q_then ?_
  refine c_seq ?_
  refine c_region rfl ?_
  refine gv rfl (y_loadW (k := 1)  agg53 rfl rfl rfl) ?_
  refine gv rfl (y_move rfl) ?_
  refine gv rfl (y_move rfl) ?_
  refine l_callU rfl ent113 rfl (fun w hm => may_c w (hA.below hm.below) hlen) ?_
  refine gv rfl (y_assign rfl) ?_
  refine l_nil ?_
  refine q_then ?_
  refine c_ret ?_
  exact q_ret1 Tryz.results91 rfl () trivial rfl hs_nil

theorem capRaw_c {ad : List UInt8 → Bool} {p : Po} {A : Option Addr} {k : Nat} {c : Ck} (w : World) (hAd : AddrIs Tryz.prog 107 w ad) (hP : Sl Ru.cells 4 w A p.rules) (hp : p.ok) (hc : c.ok) (hg : p.good) (hM : isM c.created) : Cv Tryz.prog 114 #[.agg (p.arr A k), .agg c.arr] w (.int .i64 (capF ad p c)) := by
  refine enter (E := [(0, .agg (p.arr A k)), (1, .agg c.arr)]) Tryz.func114 rfl Tryz.ntmps114 rfl (by simp) ?_
  have hkg := kind_good (ad := ad) (c := c) hg
  refine c_seq ?_
  refine c_region rfl ?_
  refine l_boxA rfl rfl ?_; intro g2
  refine l_boxA rfl rfl ?_; intro g3
  refine gv rfl (y_assign rfl) ?_
  refine l_nil ?_
  refine q_then ?_
  refine c_seq ?_
  refine c_region rfl ?_
  refine gv rfl (y_loadW (k := 1)  agg49 rfl rfl rfl) ?_
  refine gv rfl (y_loadW (k := 0)  agg26 rfl rfl rfl) ?_
  refine l_callU rfl ent112 rfl (fun w hm => kind_c w (hAd.above hm.below) (hP.below hm.below) hp hc) ?_
  refine gv rfl (y_move rfl) ?_
  refine gv rfl (y_extract rfl rfl) ?_
  refine gv rfl (y_extract rfl rfl) ?_
  refine gv rfl (y_assign rfl) ?_
  refine gv rfl (y_assign rfl) ?_
  refine l_nil ?_
  refine q_then ?_
  refine c_seq ?_
  refine c_drawp (l := #[false, false, false, false, false, false, false, false]) 8 (is := [0, 1]) rfl rfl rfl rfl ?_
  refine h_take (l' := #[true, false, false, false, false, false, false, false]) 0 rfl (by kernel_rfl) rfl rfl (np_then np_post) (hs_pick (is := [0, 1]) rfl rfl) (y_faddr off26_10 rfl rfl) ?_
  refine h_take (l' := #[true, true, false, false, false, false, false, false]) 1 rfl (by kernel_rfl) rfl rfl (np_then np_post) (hs_pick (is := [0, 1]) rfl rfl) (y_load (k := 0)  one3 rfl rfl rfl) ?_
  refine h_take (l' := #[true, true, true, false, false, false, false, false]) 2 rfl (by kernel_rfl) rfl rfl (np_then np_post) (hs_pick (is := [0, 1]) rfl rfl) (y_move rfl) ?_
  refine h_take (l' := #[true, true, true, true, false, false, false, false]) 3 rfl (by kernel_rfl) rfl rfl (np_then np_post) (hs_pick (is := [0, 1]) rfl rfl) (y_faddr off49_2 rfl rfl) ?_
  refine h_take (l' := #[true, true, true, true, true, false, false, false]) 4 rfl (by kernel_rfl) rfl rfl (np_then np_post) (hs_pick (is := [0, 1]) rfl rfl) (y_iaddr_arr arr47 size3 rfl rfl (by omega) (by omega) rfl) ?_
  refine h_take (l' := #[true, true, true, true, true, true, false, false]) 5 rfl (by kernel_rfl) rfl rfl (np_then np_post) (hs_pick (is := [0, 1]) rfl rfl) (y_load (k := 1) one3 rfl rfl (by rw [Nat.mul_one]; exact po_cap p A k (i := (kindF ad p c).1.toNat) (by omega))) ?_
  refine h_only (l' := #[true, true, true, true, true, true, true, false]) 6 rfl (by kernel_rfl) rfl ?_
  refine l_callU rfl ent135 rfl (fun w hm => after_c w hM (by have := hg.1 (kindF ad p c).1.toNat (by omega); omega)) ?_
  refine l_nil ?_
  refine q_step (fun _ => hs_pick (is := [0, 1]) rfl rfl) ?_
  refine h_take (l' := #[true, true, true, true, true, true, true, true]) 7 rfl (by kernel_rfl) rfl rfl (np_then np_post) (hs_pick (is := [0, 1]) rfl rfl) (y_assign rfl) ?_
  refine h_done (by kernel_rfl) ?_
  refine q_then ?_
  refine c_ret ?_
  exact q_ret1 Tryz.results114 rfl () trivial rfl hs_nil

end Go.Gx
