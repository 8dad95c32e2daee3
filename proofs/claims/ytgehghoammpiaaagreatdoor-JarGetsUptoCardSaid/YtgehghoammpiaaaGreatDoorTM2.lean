/- This text proves: functions of the program, walked: what each answers, for every input. No condition beyond those that each theorem names. -/
import Derived.Test.YtgehghoammpiaaaGreatDoorTM1
import Derived.Test.YtgehghoammpiaaaGreatDoorProg
import Derived.Test.YtgehghoammpiaaaGreatDoorGP
import Derived.Test.YtgehghoammpiaaaGreatDoorGy6
import Derived.KernelRfl
import Derived.Test.YtgehghoammpiaaaGreatDoorGy7
import Derived.Test.YtgehghoammpiaaaGreatDoorTStr
import Derived.Test.YtgehghoammpiaaaGreatDoorGy9
import Derived.Test.YtgehghoammpiaaaGreatDoorGz0
import Derived.Test.YtgehghoammpiaaaGreatDoorGz1
import Derived.Test.YtgehghoammpiaaaGreatDoorGz2
import Derived.Test.YtgehghoammpiaaaGreatDoorGz3
import Derived.Test.YtgehghoammpiaaaGreatDoorGz4
import Derived.Test.YtgehghoammpiaaaGreatDoorGz7
import Derived.Test.YtgehghoammpiaaaGreatDoorGz8
namespace Go.Gx
open Go.Proofs Go.Maps
theorem refPath_c {p q : List UInt8} (w : World) (hp : p.length ≤ 1073741824) (hq : q.length ≤ 1073741824) : Cv Tryz.prog 83 #[.string (B p), .string (B q)] w (.bool (pathF p q)) := by
  refine enter (E := [(0, .string (B p)), (1, .string (B q))]) Tryz.func83 rfl Tryz.ntmps83 rfl (by simp) ?_
  refine c_seq ?_
  refine c_region rfl ?_
  refine gv rfl (y_assign rfl) ?_
  refine l_nil ?_
  refine q_then ?_
  refine c_seq ?_
  refine c_seq ?_
  refine c_region rfl ?_
  refine gv rfl (y_move rfl) ?_
  refine gv rfl (y_slen Tryz.underlying9 rfl rfl) ?_
  refine gv rfl (y_move rfl) ?_
  refine gv rfl (y_slen Tryz.underlying9 rfl rfl) ?_
  refine gv rfl (y_gtr rfl rfl) ?_
  refine gv rfl (y_move rfl) ?_
  refine g_dec (t := 10) rfl ?_ ?_
  · intro h10
    refine g_off (t := 10) rfl rfl rfl rfl ?_
    refine g_off (t := 10) rfl rfl rfl rfl ?_
    refine g_off (t := 10) rfl rfl rfl rfl ?_
    refine g_off (t := 10) rfl rfl rfl rfl ?_
    refine g_off (t := 10) rfl rfl rfl rfl ?_
    refine g_off (t := 10) rfl rfl rfl rfl ?_
    refine gv rfl (y_pick_t rfl rfl) ?_
    refine l_nil ?_
    refine q_then ?_
    refine c_cond_t rfl ?_
    refine c_seq ?_
    refine c_region rfl ?_
    refine gv rfl (y_assign rfl) ?_
    refine l_nil ?_
    refine q_then ?_
    refine c_ret ?_
    refine q_then_ret ?_
    exact q_ret1 Tryz.results83 rfl () trivial (congrArg Value.bool (pathF_long h10).symm) hs_nil
  · intro h10
    refine g_on (t := 10) rfl rfl ?_
    refine gv rfl (y_move rfl) ?_
    refine g_on (t := 10) rfl rfl ?_
    refine gv rfl (y_move rfl) ?_
    refine g_on (t := 10) rfl rfl ?_
    refine gv rfl (y_slen Tryz.underlying9 rfl rfl) ?_
    refine g_on (t := 10) rfl rfl ?_
    refine gv rfl (y_sto Tryz.underlying9 rfl rfl (by omega) (by omega) rfl) ?_
    refine g_on (t := 10) rfl rfl ?_
    refine gv rfl (y_move rfl) ?_
    refine g_on (t := 10) rfl rfl ?_
    refine gv rfl (y_sne rfl rfl) ?_
    refine gv rfl (y_pick_f rfl rfl) ?_
    refine l_nil ?_
    refine q_then ?_
    refine c_dec rfl ?_ ?_
    · intro h17
      refine c_seq ?_
      refine c_region rfl ?_
      refine gv rfl (y_assign rfl) ?_
      refine l_nil ?_
      refine q_then ?_
      refine c_ret ?_
      refine q_then_ret ?_
      exact q_ret1 Tryz.results83 rfl () trivial (congrArg Value.bool (pathF_other h17).symm) hs_nil
    · intro h17
      refine c_skip ?_
      refine q_then ?_
      refine c_seq ?_
      refine c_seq ?_
      refine c_region rfl ?_
      refine gv rfl (y_move rfl) ?_
      refine gv rfl (y_slen Tryz.underlying9 rfl rfl) ?_
      refine gv rfl (y_move rfl) ?_
      refine gv rfl (y_slen Tryz.underlying9 rfl rfl) ?_
      refine gv rfl (y_eql rfl rfl) ?_
      refine l_nil ?_
      refine q_then ?_
      refine c_dec rfl ?_ ?_
      · intro h22
        refine c_seq ?_
        refine c_region rfl ?_
        refine gv rfl (y_assign rfl) ?_
        refine l_nil ?_
        refine q_then ?_
        refine c_ret ?_
        refine q_then_ret ?_
        exact q_ret1 Tryz.results83 rfl () trivial (congrArg Value.bool (pathF_same (Decidable.not_not.1 h17) h22).symm) hs_nil
      · intro h22
        refine c_skip ?_
        refine q_then ?_
        refine c_seq ?_
        refine c_region rfl ?_
        refine gv rfl (y_move rfl) ?_
        refine gv rfl (y_slen Tryz.underlying9 rfl rfl) ?_
        refine gv rfl (y_gtr rfl rfl) ?_
        refine gv rfl (y_move rfl) ?_
        refine g_dec (t := 26) rfl ?_ ?_
        · intro h26
          refine g_on (t := 26) rfl rfl ?_
          refine gv rfl (y_move rfl) ?_
          refine g_on (t := 26) rfl rfl ?_
          refine gv rfl (y_move rfl) ?_
          refine g_on (t := 26) rfl rfl ?_
          refine gv rfl (y_slen Tryz.underlying9 rfl rfl) ?_
          refine g_on (t := 26) rfl rfl ?_
          refine gv rfl (y_sub_ rfl rfl (wrap_in (by omega) (by omega))) ?_
          refine g_on (t := 26) rfl rfl ?_
          refine gv rfl (y_sidx Tryz.underlying9 rfl rfl (by omega) (by omega)) ?_
          refine g_on (t := 26) rfl rfl ?_
          refine gv rfl (y_eql rfl rfl) ?_
          refine gv rfl (y_pick_t rfl rfl) ?_
          refine gv rfl (y_move rfl) ?_
          refine g_dec (t := 34) rfl ?_ ?_
          · intro h34
            refine g_off (t := 34) rfl rfl rfl rfl ?_
            refine g_off (t := 34) rfl rfl rfl rfl ?_
            refine g_off (t := 34) rfl rfl rfl rfl ?_
            refine g_off (t := 34) rfl rfl rfl rfl ?_
            refine g_off (t := 34) rfl rfl rfl rfl ?_
            refine gv rfl (y_pick_t rfl rfl) ?_
            refine gv rfl (y_assign rfl) ?_
            refine l_nil ?_
            refine q_then ?_
            refine c_ret ?_
            exact q_ret1 Tryz.results83 rfl () trivial (congrArg Value.bool (by rw [show pathF p q = ((decide ((q.length : Int) > 0) && decide (chr q ((q.length : Int) - 1) = 47)) || decide (chr p (q.length : Int) = 47)) from pathF_more h10 (Decidable.not_not.1 h17) h22]; rw [decide_eq_true h26, decide_eq_true h34]; rfl)) hs_nil
          · intro h34
            refine g_on (t := 34) rfl rfl ?_
            refine gv rfl (y_move rfl) ?_
            refine g_on (t := 34) rfl rfl ?_
            refine gv rfl (y_move rfl) ?_
            refine g_on (t := 34) rfl rfl ?_
            refine gv rfl (y_slen Tryz.underlying9 rfl rfl) ?_
            refine g_on (t := 34) rfl rfl ?_
            refine gv rfl (y_sidx Tryz.underlying9 rfl rfl (by omega) (by omega)) ?_
            refine g_on (t := 34) rfl rfl ?_
            refine gv rfl (y_eql rfl rfl) ?_
            refine gv rfl (y_pick_f rfl rfl) ?_
            refine gv rfl (y_assign rfl) ?_
            refine l_nil ?_
            refine q_then ?_
            refine c_ret ?_
            exact q_ret1 Tryz.results83 rfl () trivial (congrArg Value.bool (by rw [show pathF p q = ((decide ((q.length : Int) > 0) && decide (chr q ((q.length : Int) - 1) = 47)) || decide (chr p (q.length : Int) = 47)) from pathF_more h10 (Decidable.not_not.1 h17) h22]; rw [decide_eq_true h26, decide_eq_false h34]; rfl)) hs_nil
        · intro h26
          refine g_off (t := 26) rfl rfl rfl rfl ?_
          refine g_off (t := 26) rfl rfl rfl rfl ?_
          refine g_off (t := 26) rfl rfl rfl rfl ?_
          refine g_off (t := 26) rfl rfl rfl rfl ?_
          refine g_off (t := 26) rfl rfl rfl rfl ?_
          refine g_off (t := 26) rfl rfl rfl rfl ?_
          refine gv rfl (y_pick_f rfl rfl) ?_
          refine gv rfl (y_move rfl) ?_
          refine g_on (t := 34) rfl rfl ?_
          refine gv rfl (y_move rfl) ?_
          refine g_on (t := 34) rfl rfl ?_
          refine gv rfl (y_move rfl) ?_
          refine g_on (t := 34) rfl rfl ?_
          refine gv rfl (y_slen Tryz.underlying9 rfl rfl) ?_
          refine g_on (t := 34) rfl rfl ?_
          refine gv rfl (y_sidx Tryz.underlying9 rfl rfl (by omega) (by omega)) ?_
          refine g_on (t := 34) rfl rfl ?_
          refine gv rfl (y_eql rfl rfl) ?_
          refine gv rfl (y_pick_f rfl rfl) ?_
          refine gv rfl (y_assign rfl) ?_
          refine l_nil ?_
          refine q_then ?_
          refine c_ret ?_
          exact q_ret1 Tryz.results83 rfl () trivial (congrArg Value.bool (by rw [show pathF p q = ((decide ((q.length : Int) > 0) && decide (chr q ((q.length : Int) - 1) = 47)) || decide (chr p (q.length : Int) = 47)) from pathF_more h10 (Decidable.not_not.1 h17) h22]; rw [decide_eq_false h26]; rfl)) hs_nil


theorem ahead_c {a b : Ck} {i k : Int} (w : World) : Cv Tryz.prog 85 #[.agg a.arr, .agg b.arr, .int .i64 i, .int .i64 k] w (.bool (aheadB a b i k)) := by
  refine enter (E := [(0, .agg a.arr), (1, .agg b.arr), (2, .int .i64 i), (3, .int .i64 k)]) Tryz.func85 rfl Tryz.ntmps85 rfl (by simp) ?_
  refine c_seq ?_
  refine c_region rfl ?_
  refine l_boxA rfl rfl ?_; intro g4
  refine l_boxA rfl rfl ?_; intro g5
  refine gv rfl (y_assign rfl) ?_
  refine l_nil ?_
  refine q_then ?_
  refine c_seq ?_
  refine c_seq ?_
  refine c_region rfl ?_
  refine gv rfl (y_faddr off26_3 rfl rfl) ?_
  refine gv rfl (y_load (k := 1)  one9 rfl rfl rfl) ?_
  refine gv rfl (y_slen Tryz.underlying9 rfl rfl) ?_
  refine gv rfl (y_faddr off26_3 rfl rfl) ?_
  refine gv rfl (y_load (k := 0)  one9 rfl rfl rfl) ?_
  refine gv rfl (y_slen Tryz.underlying9 rfl rfl) ?_
  refine gv rfl (y_neq rfl rfl) ?_
  refine l_nil ?_
  refine q_then ?_
  refine c_dec rfl ?_ ?_
  · intro h15
    refine c_seq ?_
    refine c_region rfl ?_
    refine gv rfl (y_faddr off26_3 rfl rfl) ?_
    refine gv rfl (y_load (k := 1)  one9 rfl rfl rfl) ?_
    refine gv rfl (y_slen Tryz.underlying9 rfl rfl) ?_
    refine gv rfl (y_faddr off26_3 rfl rfl) ?_
    refine gv rfl (y_load (k := 0)  one9 rfl rfl rfl) ?_
    refine gv rfl (y_slen Tryz.underlying9 rfl rfl) ?_
    refine gv rfl (y_gtr rfl rfl) ?_
    refine gv rfl (y_assign rfl) ?_
    refine l_nil ?_
    refine q_then ?_
    refine c_ret ?_
    refine q_then_ret ?_
    exact q_ret1 Tryz.results85 rfl () trivial (congrArg Value.bool (decide_eq_decide.2 (by rw [ahead_iff]; omega))) hs_nil
  · intro h15
    refine c_skip ?_
    refine q_then ?_
    refine c_seq ?_
    refine c_seq ?_
    refine c_region rfl ?_
    refine gv rfl (y_faddr off26_10 rfl rfl) ?_
    refine gv rfl (y_load (k := 1)  one3 rfl rfl rfl) ?_
    refine gv rfl (y_faddr off26_10 rfl rfl) ?_
    refine gv rfl (y_load (k := 0)  one3 rfl rfl rfl) ?_
    refine gv rfl (y_neq rfl rfl) ?_
    refine l_nil ?_
    refine q_then ?_
    refine c_dec rfl ?_ ?_
    · intro h27
      refine c_seq ?_
      refine c_region rfl ?_
      refine gv rfl (y_faddr off26_10 rfl rfl) ?_
      refine gv rfl (y_load (k := 1)  one3 rfl rfl rfl) ?_
      refine gv rfl (y_faddr off26_10 rfl rfl) ?_
      refine gv rfl (y_load (k := 0)  one3 rfl rfl rfl) ?_
      refine gv rfl (y_lss rfl rfl) ?_
      refine gv rfl (y_assign rfl) ?_
      refine l_nil ?_
      refine q_then ?_
      refine c_ret ?_
      refine q_then_ret ?_
      exact q_ret1 Tryz.results85 rfl () trivial (congrArg Value.bool (decide_eq_decide.2 (by rw [ahead_iff]; omega))) hs_nil
    · intro h27
      refine c_skip ?_
      refine q_then ?_
      refine c_seq ?_
      refine c_seq ?_
      refine c_region rfl ?_
      refine gv rfl (y_faddr off26_12 rfl rfl) ?_
      refine gv rfl (y_load (k := 1)  one3 rfl rfl rfl) ?_
      refine gv rfl (y_faddr off26_12 rfl rfl) ?_
      refine gv rfl (y_load (k := 0)  one3 rfl rfl rfl) ?_
      refine gv rfl (y_neq rfl rfl) ?_
      refine l_nil ?_
      refine q_then ?_
      refine c_dec rfl ?_ ?_
      · intro h37
        refine c_seq ?_
        refine c_region rfl ?_
        refine gv rfl (y_faddr off26_12 rfl rfl) ?_
        refine gv rfl (y_load (k := 1)  one3 rfl rfl rfl) ?_
        refine gv rfl (y_faddr off26_12 rfl rfl) ?_
        refine gv rfl (y_load (k := 0)  one3 rfl rfl rfl) ?_
        refine gv rfl (y_lss rfl rfl) ?_
        refine gv rfl (y_assign rfl) ?_
        refine l_nil ?_
        refine q_then ?_
        refine c_ret ?_
        refine q_then_ret ?_
        exact q_ret1 Tryz.results85 rfl () trivial (congrArg Value.bool (decide_eq_decide.2 (by rw [ahead_iff]; omega))) hs_nil
      · intro h37
        refine c_skip ?_
        refine q_then ?_
        refine c_seq ?_
        refine c_region rfl ?_
        refine gv rfl (y_move rfl) ?_
        refine gv rfl (y_move rfl) ?_
        refine gv rfl (y_lss rfl rfl) ?_
        refine gv rfl (y_assign rfl) ?_
        refine l_nil ?_
        refine q_then ?_
        refine c_ret ?_
        exact q_ret1 Tryz.results85 rfl () trivial (congrArg Value.bool (decide_eq_decide.2 (by rw [ahead_iff]; omega))) hs_nil


theorem readyOf_c {f : Fr} {now : Int} (w : World) (hf : f.host.length ≤ 1073741824) (hp : f.path.length ≤ 1073741824) : Cv Tryz.prog 47 #[.agg f.arr, .int .i64 now] w (.int .i64 (readyE f now)) := by
  refine enter (E := [(0, .agg f.arr), (1, .int .i64 now)]) Tryz.func47 rfl Tryz.ntmps47 rfl (by simp) ?_
  refine c_seq ?_
  refine c_region rfl ?_
  refine l_boxA rfl rfl ?_; intro g2
  refine gv rfl (y_assign rfl) ?_
  refine l_nil ?_
  refine q_then ?_
  refine c_seq ?_
  refine c_seq ?_
  refine c_region rfl ?_
  refine gv rfl (y_faddr off35_0 rfl rfl) ?_
  refine gv rfl (y_load (k := 0)  one9 rfl rfl rfl) ?_
  refine l_callU rfl ent80 rfl (fun w hm => isHost_c (l := f.host) w hf) ?_
  refine gv rfl (y_not rfl rfl) ?_
  refine gv rfl (y_move rfl) ?_
  refine g_bool (t := 9) rfl ?_ ?_
  · intro h9
    refine g_off (t := 9) rfl rfl rfl rfl ?_
    refine g_off (t := 9) rfl rfl rfl rfl ?_
    refine g_off (t := 9) rfl rfl rfl rfl ?_
    refine g_off (t := 9) rfl rfl rfl rfl ?_
    refine gv rfl (y_pick_t rfl rfl) ?_
    refine gv rfl (y_move rfl) ?_
    refine g_off (t := 15) rfl rfl rfl rfl ?_
    refine g_off (t := 15) rfl rfl rfl rfl ?_
    refine g_off (t := 15) rfl rfl rfl rfl ?_
    refine g_off (t := 15) rfl rfl rfl rfl ?_
    refine gv rfl (y_pick_t rfl rfl) ?_
    refine gv rfl (y_move rfl) ?_
    refine g_off (t := 21) rfl rfl rfl rfl ?_
    refine g_off (t := 21) rfl rfl rfl rfl ?_
    refine g_off (t := 21) rfl rfl rfl rfl ?_
    refine g_off (t := 21) rfl rfl rfl rfl ?_
    refine gv rfl (y_pick_t rfl rfl) ?_
    refine gv rfl (y_move rfl) ?_
    refine g_off (t := 27) rfl rfl rfl rfl ?_
    refine g_off (t := 27) rfl rfl rfl rfl ?_
    refine g_off (t := 27) rfl rfl rfl rfl ?_
    refine g_off (t := 27) rfl rfl rfl rfl ?_
    refine gv rfl (y_pick_t rfl rfl) ?_
    refine gv rfl (y_move rfl) ?_
    refine g_off (t := 33) rfl rfl rfl rfl ?_
    refine g_off (t := 33) rfl rfl rfl rfl ?_
    refine g_off (t := 33) rfl rfl rfl rfl ?_
    refine g_off (t := 33) rfl rfl rfl rfl ?_
    refine gv rfl (y_pick_t rfl rfl) ?_
    refine l_nil ?_
    refine q_then ?_
    refine c_cond_t rfl ?_
    refine c_seq ?_
    refine c_region rfl ?_
    refine gv rfl (y_assign rfl) ?_
    refine l_nil ?_
    refine q_then ?_
    refine c_ret ?_
    refine q_then_ret ?_
    exact q_ret1 Tryz.results47 rfl () trivial (congrArg (Value.int .i64) (ready_1 (by first | exact .inl (by simpa using h9) | exact .inr (.inl h15) | exact .inr (.inr (.inl h21)) | exact .inr (.inr (.inr (.inl h27))) | exact .inr (.inr (.inr (.inr (.inl (by simpa using h33))))) | exact .inr (.inr (.inr (.inr (.inr h38)))))).symm) hs_nil
  · intro h9
    refine g_on (t := 9) rfl rfl ?_
    refine gv rfl (y_faddr off35_1 rfl rfl) ?_
    refine g_on (t := 9) rfl rfl ?_
    refine gv rfl (y_load (k := 0)  one9 rfl rfl rfl) ?_
    refine g_on (t := 9) rfl rfl ?_
    refine gv rfl (y_slen Tryz.underlying9 rfl rfl) ?_
    refine g_on (t := 9) rfl rfl ?_
    refine gv rfl (y_eql rfl rfl) ?_
    refine gv rfl (y_pick_f rfl rfl) ?_
    refine gv rfl (y_move rfl) ?_
    refine g_dec (t := 15) rfl ?_ ?_
    · intro h15
      refine g_off (t := 15) rfl rfl rfl rfl ?_
      refine g_off (t := 15) rfl rfl rfl rfl ?_
      refine g_off (t := 15) rfl rfl rfl rfl ?_
      refine g_off (t := 15) rfl rfl rfl rfl ?_
      refine gv rfl (y_pick_t rfl rfl) ?_
      refine gv rfl (y_move rfl) ?_
      refine g_off (t := 21) rfl rfl rfl rfl ?_
      refine g_off (t := 21) rfl rfl rfl rfl ?_
      refine g_off (t := 21) rfl rfl rfl rfl ?_
      refine g_off (t := 21) rfl rfl rfl rfl ?_
      refine gv rfl (y_pick_t rfl rfl) ?_
      refine gv rfl (y_move rfl) ?_
      refine g_off (t := 27) rfl rfl rfl rfl ?_
      refine g_off (t := 27) rfl rfl rfl rfl ?_
      refine g_off (t := 27) rfl rfl rfl rfl ?_
      refine g_off (t := 27) rfl rfl rfl rfl ?_
      refine gv rfl (y_pick_t rfl rfl) ?_
      refine gv rfl (y_move rfl) ?_
      refine g_off (t := 33) rfl rfl rfl rfl ?_
      refine g_off (t := 33) rfl rfl rfl rfl ?_
      refine g_off (t := 33) rfl rfl rfl rfl ?_
      refine g_off (t := 33) rfl rfl rfl rfl ?_
      refine gv rfl (y_pick_t rfl rfl) ?_
      refine l_nil ?_
      refine q_then ?_
      refine c_cond_t rfl ?_
      refine c_seq ?_
      refine c_region rfl ?_
      refine gv rfl (y_assign rfl) ?_
      refine l_nil ?_
      refine q_then ?_
      refine c_ret ?_
      refine q_then_ret ?_
      exact q_ret1 Tryz.results47 rfl () trivial (congrArg (Value.int .i64) (ready_1 (by first | exact .inl (by simpa using h9) | exact .inr (.inl h15) | exact .inr (.inr (.inl h21)) | exact .inr (.inr (.inr (.inl h27))) | exact .inr (.inr (.inr (.inr (.inl (by simpa using h33))))) | exact .inr (.inr (.inr (.inr (.inr h38)))))).symm) hs_nil
    · intro h15
      refine g_on (t := 15) rfl rfl ?_
      refine gv rfl (y_faddr off35_1 rfl rfl) ?_
      refine g_on (t := 15) rfl rfl ?_
      refine gv rfl (y_load (k := 0)  one9 rfl rfl rfl) ?_
      refine g_on (t := 15) rfl rfl ?_
      refine gv rfl (y_slen Tryz.underlying9 rfl rfl) ?_
      refine g_on (t := 15) rfl rfl ?_
      refine gv rfl (y_gtr rfl rfl) ?_
      refine gv rfl (y_pick_f rfl rfl) ?_
      refine gv rfl (y_move rfl) ?_
      refine g_dec (t := 21) rfl ?_ ?_
      · intro h21
        refine g_off (t := 21) rfl rfl rfl rfl ?_
        refine g_off (t := 21) rfl rfl rfl rfl ?_
        refine g_off (t := 21) rfl rfl rfl rfl ?_
        refine g_off (t := 21) rfl rfl rfl rfl ?_
        refine gv rfl (y_pick_t rfl rfl) ?_
        refine gv rfl (y_move rfl) ?_
        refine g_off (t := 27) rfl rfl rfl rfl ?_
        refine g_off (t := 27) rfl rfl rfl rfl ?_
        refine g_off (t := 27) rfl rfl rfl rfl ?_
        refine g_off (t := 27) rfl rfl rfl rfl ?_
        refine gv rfl (y_pick_t rfl rfl) ?_
        refine gv rfl (y_move rfl) ?_
        refine g_off (t := 33) rfl rfl rfl rfl ?_
        refine g_off (t := 33) rfl rfl rfl rfl ?_
        refine g_off (t := 33) rfl rfl rfl rfl ?_
        refine g_off (t := 33) rfl rfl rfl rfl ?_
        refine gv rfl (y_pick_t rfl rfl) ?_
        refine l_nil ?_
        refine q_then ?_
        refine c_cond_t rfl ?_
        refine c_seq ?_
        refine c_region rfl ?_
        refine gv rfl (y_assign rfl) ?_
        refine l_nil ?_
        refine q_then ?_
        refine c_ret ?_
        refine q_then_ret ?_
        exact q_ret1 Tryz.results47 rfl () trivial (congrArg (Value.int .i64) (ready_1 (by first | exact .inl (by simpa using h9) | exact .inr (.inl h15) | exact .inr (.inr (.inl h21)) | exact .inr (.inr (.inr (.inl h27))) | exact .inr (.inr (.inr (.inr (.inl (by simpa using h33))))) | exact .inr (.inr (.inr (.inr (.inr h38)))))).symm) hs_nil
      · intro h21
        refine g_on (t := 21) rfl rfl ?_
        refine gv rfl (y_faddr off35_1 rfl rfl) ?_
        refine g_on (t := 21) rfl rfl ?_
        refine gv rfl (y_load (k := 0)  one9 rfl rfl rfl) ?_
        refine g_on (t := 21) rfl rfl ?_
        refine gv rfl (y_sidx Tryz.underlying9 rfl rfl (by omega) (by omega)) ?_
        refine g_on (t := 21) rfl rfl ?_
        refine gv rfl (y_neq rfl rfl) ?_
        refine gv rfl (y_pick_f rfl rfl) ?_
        refine gv rfl (y_move rfl) ?_
        refine g_dec (t := 27) rfl ?_ ?_
        · intro h27
          refine g_off (t := 27) rfl rfl rfl rfl ?_
          refine g_off (t := 27) rfl rfl rfl rfl ?_
          refine g_off (t := 27) rfl rfl rfl rfl ?_
          refine g_off (t := 27) rfl rfl rfl rfl ?_
          refine gv rfl (y_pick_t rfl rfl) ?_
          refine gv rfl (y_move rfl) ?_
          refine g_off (t := 33) rfl rfl rfl rfl ?_
          refine g_off (t := 33) rfl rfl rfl rfl ?_
          refine g_off (t := 33) rfl rfl rfl rfl ?_
          refine g_off (t := 33) rfl rfl rfl rfl ?_
          refine gv rfl (y_pick_t rfl rfl) ?_
          refine l_nil ?_
          refine q_then ?_
          refine c_cond_t rfl ?_
          refine c_seq ?_
          refine c_region rfl ?_
          refine gv rfl (y_assign rfl) ?_
          refine l_nil ?_
          refine q_then ?_
          refine c_ret ?_
          refine q_then_ret ?_
          exact q_ret1 Tryz.results47 rfl () trivial (congrArg (Value.int .i64) (ready_1 (by first | exact .inl (by simpa using h9) | exact .inr (.inl h15) | exact .inr (.inr (.inl h21)) | exact .inr (.inr (.inr (.inl h27))) | exact .inr (.inr (.inr (.inr (.inl (by simpa using h33))))) | exact .inr (.inr (.inr (.inr (.inr h38)))))).symm) hs_nil
        · intro h27
          refine g_on (t := 27) rfl rfl ?_
          refine gv rfl (y_faddr off35_1 rfl rfl) ?_
          refine g_on (t := 27) rfl rfl ?_
          refine gv rfl (y_load (k := 0)  one9 rfl rfl rfl) ?_
          refine g_on (t := 27) rfl rfl ?_
          refine l_callU rfl ent81 rfl (fun w hm => letOf_c (l := f.path) w hp) ?_
          refine g_on (t := 27) rfl rfl ?_
          refine gv rfl (y_not rfl rfl) ?_
          refine gv rfl (y_pick_f rfl rfl) ?_
          refine gv rfl (y_move rfl) ?_
          refine g_bool (t := 33) rfl ?_ ?_
          · intro h33
            refine g_off (t := 33) rfl rfl rfl rfl ?_
            refine g_off (t := 33) rfl rfl rfl rfl ?_
            refine g_off (t := 33) rfl rfl rfl rfl ?_
            refine g_off (t := 33) rfl rfl rfl rfl ?_
            refine gv rfl (y_pick_t rfl rfl) ?_
            refine l_nil ?_
            refine q_then ?_
            refine c_cond_t rfl ?_
            refine c_seq ?_
            refine c_region rfl ?_
            refine gv rfl (y_assign rfl) ?_
            refine l_nil ?_
            refine q_then ?_
            refine c_ret ?_
            refine q_then_ret ?_
            exact q_ret1 Tryz.results47 rfl () trivial (congrArg (Value.int .i64) (ready_1 (by first | exact .inl (by simpa using h9) | exact .inr (.inl h15) | exact .inr (.inr (.inl h21)) | exact .inr (.inr (.inr (.inl h27))) | exact .inr (.inr (.inr (.inr (.inl (by simpa using h33))))) | exact .inr (.inr (.inr (.inr (.inr h38)))))).symm) hs_nil
          · intro h33
            refine g_on (t := 33) rfl rfl ?_
            refine gv rfl (y_faddr off35_1 rfl rfl) ?_
            refine g_on (t := 33) rfl rfl ?_
            refine gv rfl (y_load (k := 0)  one9 rfl rfl rfl) ?_
            refine g_on (t := 33) rfl rfl ?_
            refine l_callU rfl ent82 rfl (fun w hm => placeOf_c (l := f.path) (b := 59) w hp) ?_
            refine g_on (t := 33) rfl rfl ?_
            refine gv rfl (y_geq rfl rfl) ?_
            refine gv rfl (y_pick_f rfl rfl) ?_
            refine l_nil ?_
            refine q_then ?_
            refine c_dec rfl ?_ ?_
            · intro h38
              refine c_seq ?_
              refine c_region rfl ?_
              refine gv rfl (y_assign rfl) ?_
              refine l_nil ?_
              refine q_then ?_
              refine c_ret ?_
              refine q_then_ret ?_
              exact q_ret1 Tryz.results47 rfl () trivial (congrArg (Value.int .i64) (ready_1 (by first | exact .inl (by simpa using h9) | exact .inr (.inl h15) | exact .inr (.inr (.inl h21)) | exact .inr (.inr (.inr (.inl h27))) | exact .inr (.inr (.inr (.inr (.inl (by simpa using h33))))) | exact .inr (.inr (.inr (.inr (.inr h38)))))).symm) hs_nil
            · intro h38
              refine c_skip ?_
              refine q_then ?_
              refine c_seq ?_
              refine c_seq ?_
              refine c_region rfl ?_
              refine gv rfl (y_move rfl) ?_
              refine l_callU rfl ent38 rfl (fun w hm => noMoment_c w) ?_
              refine l_nil ?_
              refine q_then ?_
              refine c_dec rfl ?_ ?_
              · intro h40
                refine c_seq ?_
                refine c_region rfl ?_
                refine gv rfl (y_assign rfl) ?_
                refine l_nil ?_
                refine q_then ?_
                refine c_ret ?_
                refine q_then_ret ?_
                exact q_ret1 Tryz.results47 rfl () trivial (congrArg (Value.int .i64) ((ready_not (by simpa using h9) h15 h21 h27 (by simpa using h33) h38).trans (if_pos h40)).symm) hs_nil
              · intro h40
                refine c_skip ?_
                refine q_then ?_
                refine c_seq ?_
                refine c_region rfl ?_
                refine gv rfl (y_assign rfl) ?_
                refine l_nil ?_
                refine q_then ?_
                refine c_ret ?_
                exact q_ret1 Tryz.results47 rfl () trivial (congrArg (Value.int .i64) ((ready_not (by simpa using h9) h15 h21 h27 (by simpa using h33) h38).trans (if_neg h40)).symm) hs_nil


theorem goesOf_c {c : Ck} {f : Fr} {now : Int} (w : World) (hf : f.host.length ≤ 1073741824) (hp : f.path.length ≤ 1073741824) (hd : c.domain.length ≤ 1073741824) (hq : c.path.length ≤ 1073741824) : Cv Tryz.prog 48 #[.agg c.arr, .agg f.arr, .int .i64 now] w (.bool (goesF addrF f now c)) := by
  refine enter (E := [(0, .agg c.arr), (1, .agg f.arr), (2, .int .i64 now)]) Tryz.func48 rfl Tryz.ntmps48 rfl (by simp) ?_
  refine c_seq ?_
  refine c_region rfl ?_
  refine l_boxA rfl rfl ?_; intro g3
  refine l_boxA rfl rfl ?_; intro g4
  refine gv rfl (y_assign rfl) ?_
  refine l_nil ?_
  refine q_then ?_
  refine c_seq ?_
  refine c_seq ?_
  refine c_region rfl ?_
  refine gv rfl (y_loadW (k := 1)  agg26 rfl rfl rfl) ?_
  refine gv rfl (y_move rfl) ?_
  refine l_callU rfl ent75 rfl (fun w hm => isLive_c (c := c) w) ?_
  refine gv rfl (y_not rfl rfl) ?_
  refine gv rfl (y_move rfl) ?_
  refine g_ndec (t := 11) rfl ?_ ?_
  · intro h11
    refine g_off (t := 11) rfl rfl rfl rfl ?_
    refine g_off (t := 11) rfl rfl rfl rfl ?_
    refine g_off (t := 11) rfl rfl rfl rfl ?_
    refine g_off (t := 11) rfl rfl rfl rfl ?_
    refine g_off (t := 11) rfl rfl rfl rfl ?_
    refine g_off (t := 11) rfl rfl rfl rfl ?_
    refine gv rfl (y_pick_t rfl rfl) ?_
    refine l_nil ?_
    refine q_then ?_
    refine c_cond_t rfl ?_
    refine c_seq ?_
    refine c_region rfl ?_
    refine gv rfl (y_assign rfl) ?_
    refine l_nil ?_
    refine q_then ?_
    refine c_ret ?_
    refine q_then_ret ?_
    exact q_ret1 Tryz.results48 rfl () trivial (congrArg Value.bool (by simp_all [goesF, atF, mayA] <;> (try (intros; omega)))) hs_nil
  · intro h11
    refine g_on (t := 11) rfl rfl ?_
    refine gv rfl (y_faddr off35_1 rfl rfl) ?_
    refine g_on (t := 11) rfl rfl ?_
    refine gv rfl (y_load (k := 0)  one9 rfl rfl rfl) ?_
    refine g_on (t := 11) rfl rfl ?_
    refine gv rfl (y_faddr off26_3 rfl rfl) ?_
    refine g_on (t := 11) rfl rfl ?_
    refine gv rfl (y_load (k := 1)  one9 rfl rfl rfl) ?_
    refine g_on (t := 11) rfl rfl ?_
    refine l_callU rfl ent83 rfl (fun w hm => refPath_c (p := f.path) (q := c.path) w hp hq) ?_
    refine g_on (t := 11) rfl rfl ?_
    refine gv rfl (y_not rfl rfl) ?_
    refine gv rfl (y_pick_f rfl rfl) ?_
    refine l_nil ?_
    refine q_then ?_
    refine c_bool rfl ?_ ?_
    · intro h18
      refine c_seq ?_
      refine c_region rfl ?_
      refine gv rfl (y_assign rfl) ?_
      refine l_nil ?_
      refine q_then ?_
      refine c_ret ?_
      refine q_then_ret ?_
      exact q_ret1 Tryz.results48 rfl () trivial (congrArg Value.bool (by simp_all [goesF, atF, mayA] <;> (try (intros; omega)))) hs_nil
    · intro h18
      refine c_skip ?_
      refine q_then ?_
      refine c_seq ?_
      refine c_seq ?_
      refine c_region rfl ?_
      refine gv rfl (y_faddr off26_4 rfl rfl) ?_
      refine gv rfl (y_load (k := 1)  one4 rfl rfl rfl) ?_
      refine gv rfl (y_move rfl) ?_
      refine g_bool (t := 21) rfl ?_ ?_
      · intro h21
        refine g_on (t := 21) rfl rfl ?_
        refine gv rfl (y_faddr off35_0 rfl rfl) ?_
        refine g_on (t := 21) rfl rfl ?_
        refine gv rfl (y_load (k := 0)  one9 rfl rfl rfl) ?_
        refine g_on (t := 21) rfl rfl ?_
        refine gv rfl (y_faddr off26_2 rfl rfl) ?_
        refine g_on (t := 21) rfl rfl ?_
        refine gv rfl (y_load (k := 1)  one9 rfl rfl rfl) ?_
        refine g_on (t := 21) rfl rfl ?_
        refine gv rfl (y_sne rfl rfl) ?_
        refine gv rfl (y_pick_t rfl rfl) ?_
        refine gv rfl (y_move rfl) ?_
        refine g_dec (t := 28) rfl ?_ ?_
        · intro h28
          refine g_off (t := 28) rfl rfl rfl rfl ?_
          refine g_off (t := 28) rfl rfl rfl rfl ?_
          refine g_off (t := 28) rfl rfl rfl rfl ?_
          refine g_off (t := 28) rfl rfl rfl rfl ?_
          refine g_und (t := 32) rfl rfl rfl ?_
          refine g_und (t := 32) rfl rfl rfl ?_
          refine g_und (t := 32) rfl rfl rfl ?_
          refine g_und (t := 32) rfl rfl rfl ?_
          refine g_und (t := 32) rfl rfl rfl ?_
          refine g_und (t := 32) rfl rfl rfl ?_
          refine g_off (t := 28) rfl rfl rfl rfl ?_
          refine gv rfl (y_pick_t rfl rfl) ?_
          refine l_nil ?_
          refine q_then ?_
          refine c_cond_t rfl ?_
          refine c_seq ?_
          refine c_region rfl ?_
          refine gv rfl (y_assign rfl) ?_
          refine l_nil ?_
          refine q_then ?_
          refine c_ret ?_
          refine q_then_ret ?_
          exact q_ret1 Tryz.results48 rfl () trivial (congrArg Value.bool (by simp_all [goesF, atF, mayA] <;> (try (intros; omega)))) hs_nil
        · intro h28
          refine g_on (t := 28) rfl rfl ?_
          refine gv rfl (y_faddr off26_4 rfl rfl) ?_
          refine g_on (t := 28) rfl rfl ?_
          refine gv rfl (y_load (k := 1)  one4 rfl rfl rfl) ?_
          refine g_on (t := 28) rfl rfl ?_
          refine gv rfl (y_not rfl rfl) ?_
          refine g_on (t := 28) rfl rfl ?_
          refine gv rfl (y_move rfl) ?_
          refine g_bool (t := 32) rfl ?_ ?_
          · intro h32
            refine g_on (t := 32) rfl rfl ?_
            refine gv rfl (y_faddr off35_0 rfl rfl) ?_
            refine g_on (t := 32) rfl rfl ?_
            refine gv rfl (y_load (k := 0)  one9 rfl rfl rfl) ?_
            refine g_on (t := 32) rfl rfl ?_
            refine gv rfl (y_faddr off26_2 rfl rfl) ?_
            refine g_on (t := 32) rfl rfl ?_
            refine gv rfl (y_load (k := 1)  one9 rfl rfl rfl) ?_
            refine g_on (t := 32) rfl rfl ?_
            refine l_callU rfl ent84 rfl (fun w hm => isMatch_c (h := f.host) (d := c.domain) w hf hd) ?_
            refine g_on (t := 32) rfl rfl ?_
            refine gv rfl (y_not rfl rfl) ?_
            refine g_on (t := 28) rfl rfl ?_
            refine gv rfl (y_pick_t rfl rfl) ?_
            refine gv rfl (y_pick_f rfl rfl) ?_
            refine l_nil ?_
            refine q_then ?_
            refine c_bool rfl ?_ ?_
            · intro h40
              refine c_seq ?_
              refine c_region rfl ?_
              refine gv rfl (y_assign rfl) ?_
              refine l_nil ?_
              refine q_then ?_
              refine c_ret ?_
              refine q_then_ret ?_
              exact q_ret1 Tryz.results48 rfl () trivial (congrArg Value.bool (by simp_all [goesF, atF, mayA] <;> (try (intros; omega)))) hs_nil
            · intro h40
              refine c_skip ?_
              refine q_then ?_
              refine c_seq ?_
              refine c_seq ?_
              refine c_region rfl ?_
              refine gv rfl (y_faddr off26_5 rfl rfl) ?_
              refine gv rfl (y_load (k := 1)  one4 rfl rfl rfl) ?_
              refine gv rfl (y_move rfl) ?_
              refine g_bool (t := 43) rfl ?_ ?_
              · intro h43
                refine g_on (t := 43) rfl rfl ?_
                refine gv rfl (y_faddr off35_2 rfl rfl) ?_
                refine g_on (t := 43) rfl rfl ?_
                refine gv rfl (y_load (k := 0)  one4 rfl rfl rfl) ?_
                refine g_on (t := 43) rfl rfl ?_
                refine gv rfl (y_not rfl rfl) ?_
                refine gv rfl (y_pick_t rfl rfl) ?_
                refine l_nil ?_
                refine q_then ?_
                refine c_bool rfl ?_ ?_
                · intro h47
                  refine c_seq ?_
                  refine c_region rfl ?_
                  refine gv rfl (y_assign rfl) ?_
                  refine l_nil ?_
                  refine q_then ?_
                  refine c_ret ?_
                  refine q_then_ret ?_
                  exact q_ret1 Tryz.results48 rfl () trivial (congrArg Value.bool (by simp_all [goesF, atF, mayA] <;> (try (intros; omega)))) hs_nil
                · intro h47
                  refine c_skip ?_
                  refine q_then ?_
                  refine c_seq ?_
                  refine c_seq ?_
                  refine c_region rfl ?_
                  refine gv rfl (y_faddr off26_6 rfl rfl) ?_
                  refine gv rfl (y_load (k := 1)  one4 rfl rfl rfl) ?_
                  refine gv rfl (y_move rfl) ?_
                  refine g_bool (t := 50) rfl ?_ ?_
                  · intro h50
                    refine g_on (t := 50) rfl rfl ?_
                    refine gv rfl (y_faddr off35_3 rfl rfl) ?_
                    refine g_on (t := 50) rfl rfl ?_
                    refine gv rfl (y_load (k := 0)  one4 rfl rfl rfl) ?_
                    refine gv rfl (y_pick_t rfl rfl) ?_
                    refine l_nil ?_
                    refine q_then ?_
                    refine c_bool rfl ?_ ?_
                    · intro h53
                      refine c_seq ?_
                      refine c_region rfl ?_
                      refine gv rfl (y_assign rfl) ?_
                      refine l_nil ?_
                      refine q_then ?_
                      refine c_ret ?_
                      refine q_then_ret ?_
                      exact q_ret1 Tryz.results48 rfl () trivial (congrArg Value.bool (by simp_all [goesF, atF, mayA] <;> (try (intros; omega)))) hs_nil
                    · intro h53
                      refine c_skip ?_
                      refine q_then ?_
                      refine c_seq ?_
                      refine c_region rfl ?_
                      refine gv rfl (y_faddr off35_4 rfl rfl) ?_
                      refine gv rfl (y_load (k := 0)  one4 rfl rfl rfl) ?_
                      refine gv rfl (y_not rfl rfl) ?_
                      refine gv rfl (y_move rfl) ?_
                      refine g_bool (t := 57) rfl ?_ ?_
                      · intro h57
                        refine g_off (t := 57) rfl rfl rfl rfl ?_
                        refine g_off (t := 57) rfl rfl rfl rfl ?_
                        refine g_off (t := 57) rfl rfl rfl rfl ?_
                        refine gv rfl (y_pick_t rfl rfl) ?_
                        refine gv rfl (y_assign rfl) ?_
                        refine l_nil ?_
                        refine q_then ?_
                        refine c_ret ?_
                        exact q_ret1 Tryz.results48 rfl () trivial (congrArg Value.bool (by simp_all [goesF, atF, mayA] <;> (try (intros; omega)))) hs_nil
                      · intro h57
                        refine g_on (t := 57) rfl rfl ?_
                        refine gv rfl (y_faddr off26_8 rfl rfl) ?_
                        refine g_on (t := 57) rfl rfl ?_
                        refine gv rfl (y_load (k := 1)  one3 rfl rfl rfl) ?_
                        refine g_on (t := 57) rfl rfl ?_
                        refine gv rfl (y_eql rfl rfl) ?_
                        refine gv rfl (y_pick_f rfl rfl) ?_
                        refine gv rfl (y_assign rfl) ?_
                        refine l_nil ?_
                        refine q_then ?_
                        refine c_ret ?_
                        exact q_ret1 Tryz.results48 rfl () trivial (congrArg Value.bool (by simp_all [goesF, atF, mayA] <;> (try (intros; omega)))) hs_nil
                  · intro h50
                    refine g_off (t := 50) rfl rfl rfl rfl ?_
                    refine g_off (t := 50) rfl rfl rfl rfl ?_
                    refine gv rfl (y_pick_f rfl rfl) ?_
                    refine l_nil ?_
                    refine q_then ?_
                    refine c_cond_f rfl ?_
                    refine c_skip ?_
                    refine q_then ?_
                    refine c_seq ?_
                    refine c_region rfl ?_
                    refine gv rfl (y_faddr off35_4 rfl rfl) ?_
                    refine gv rfl (y_load (k := 0)  one4 rfl rfl rfl) ?_
                    refine gv rfl (y_not rfl rfl) ?_
                    refine gv rfl (y_move rfl) ?_
                    refine g_bool (t := 57) rfl ?_ ?_
                    · intro h57
                      refine g_off (t := 57) rfl rfl rfl rfl ?_
                      refine g_off (t := 57) rfl rfl rfl rfl ?_
                      refine g_off (t := 57) rfl rfl rfl rfl ?_
                      refine gv rfl (y_pick_t rfl rfl) ?_
                      refine gv rfl (y_assign rfl) ?_
                      refine l_nil ?_
                      refine q_then ?_
                      refine c_ret ?_
                      exact q_ret1 Tryz.results48 rfl () trivial (congrArg Value.bool (by simp_all [goesF, atF, mayA] <;> (try (intros; omega)))) hs_nil
                    · intro h57
                      refine g_on (t := 57) rfl rfl ?_
                      refine gv rfl (y_faddr off26_8 rfl rfl) ?_
                      refine g_on (t := 57) rfl rfl ?_
                      refine gv rfl (y_load (k := 1)  one3 rfl rfl rfl) ?_
                      refine g_on (t := 57) rfl rfl ?_
                      refine gv rfl (y_eql rfl rfl) ?_
                      refine gv rfl (y_pick_f rfl rfl) ?_
                      refine gv rfl (y_assign rfl) ?_
                      refine l_nil ?_
                      refine q_then ?_
                      refine c_ret ?_
                      exact q_ret1 Tryz.results48 rfl () trivial (congrArg Value.bool (by simp_all [goesF, atF, mayA] <;> (try (intros; omega)))) hs_nil
              · intro h43
                refine g_off (t := 43) rfl rfl rfl rfl ?_
                refine g_off (t := 43) rfl rfl rfl rfl ?_
                refine g_off (t := 43) rfl rfl rfl rfl ?_
                refine gv rfl (y_pick_f rfl rfl) ?_
                refine l_nil ?_
                refine q_then ?_
                refine c_cond_f rfl ?_
                refine c_skip ?_
                refine q_then ?_
                refine c_seq ?_
                refine c_seq ?_
                refine c_region rfl ?_
                refine gv rfl (y_faddr off26_6 rfl rfl) ?_
                refine gv rfl (y_load (k := 1)  one4 rfl rfl rfl) ?_
                refine gv rfl (y_move rfl) ?_
                refine g_bool (t := 50) rfl ?_ ?_
                · intro h50
                  refine g_on (t := 50) rfl rfl ?_
                  refine gv rfl (y_faddr off35_3 rfl rfl) ?_
                  refine g_on (t := 50) rfl rfl ?_
                  refine gv rfl (y_load (k := 0)  one4 rfl rfl rfl) ?_
                  refine gv rfl (y_pick_t rfl rfl) ?_
                  refine l_nil ?_
                  refine q_then ?_
                  refine c_bool rfl ?_ ?_
                  · intro h53
                    refine c_seq ?_
                    refine c_region rfl ?_
                    refine gv rfl (y_assign rfl) ?_
                    refine l_nil ?_
                    refine q_then ?_
                    refine c_ret ?_
                    refine q_then_ret ?_
                    exact q_ret1 Tryz.results48 rfl () trivial (congrArg Value.bool (by simp_all [goesF, atF, mayA] <;> (try (intros; omega)))) hs_nil
                  · intro h53
                    refine c_skip ?_
                    refine q_then ?_
                    refine c_seq ?_
                    refine c_region rfl ?_
                    refine gv rfl (y_faddr off35_4 rfl rfl) ?_
                    refine gv rfl (y_load (k := 0)  one4 rfl rfl rfl) ?_
                    refine gv rfl (y_not rfl rfl) ?_
                    refine gv rfl (y_move rfl) ?_
                    refine g_bool (t := 57) rfl ?_ ?_
                    · intro h57
                      refine g_off (t := 57) rfl rfl rfl rfl ?_
                      refine g_off (t := 57) rfl rfl rfl rfl ?_
                      refine g_off (t := 57) rfl rfl rfl rfl ?_
                      refine gv rfl (y_pick_t rfl rfl) ?_
                      refine gv rfl (y_assign rfl) ?_
                      refine l_nil ?_
                      refine q_then ?_
                      refine c_ret ?_
                      exact q_ret1 Tryz.results48 rfl () trivial (congrArg Value.bool (by simp_all [goesF, atF, mayA] <;> (try (intros; omega)))) hs_nil
                    · intro h57
                      refine g_on (t := 57) rfl rfl ?_
                      refine gv rfl (y_faddr off26_8 rfl rfl) ?_
                      refine g_on (t := 57) rfl rfl ?_
                      refine gv rfl (y_load (k := 1)  one3 rfl rfl rfl) ?_
                      refine g_on (t := 57) rfl rfl ?_
                      refine gv rfl (y_eql rfl rfl) ?_
                      refine gv rfl (y_pick_f rfl rfl) ?_
                      refine gv rfl (y_assign rfl) ?_
                      refine l_nil ?_
                      refine q_then ?_
                      refine c_ret ?_
                      exact q_ret1 Tryz.results48 rfl () trivial (congrArg Value.bool (by simp_all [goesF, atF, mayA] <;> (try (intros; omega)))) hs_nil
                · intro h50
                  refine g_off (t := 50) rfl rfl rfl rfl ?_
                  refine g_off (t := 50) rfl rfl rfl rfl ?_
                  refine gv rfl (y_pick_f rfl rfl) ?_
                  refine l_nil ?_
                  refine q_then ?_
                  refine c_cond_f rfl ?_
                  refine c_skip ?_
                  refine q_then ?_
                  refine c_seq ?_
                  refine c_region rfl ?_
                  refine gv rfl (y_faddr off35_4 rfl rfl) ?_
                  refine gv rfl (y_load (k := 0)  one4 rfl rfl rfl) ?_
                  refine gv rfl (y_not rfl rfl) ?_
                  refine gv rfl (y_move rfl) ?_
                  refine g_bool (t := 57) rfl ?_ ?_
                  · intro h57
                    refine g_off (t := 57) rfl rfl rfl rfl ?_
                    refine g_off (t := 57) rfl rfl rfl rfl ?_
                    refine g_off (t := 57) rfl rfl rfl rfl ?_
                    refine gv rfl (y_pick_t rfl rfl) ?_
                    refine gv rfl (y_assign rfl) ?_
                    refine l_nil ?_
                    refine q_then ?_
                    refine c_ret ?_
                    exact q_ret1 Tryz.results48 rfl () trivial (congrArg Value.bool (by simp_all [goesF, atF, mayA] <;> (try (intros; omega)))) hs_nil
                  · intro h57
                    refine g_on (t := 57) rfl rfl ?_
                    refine gv rfl (y_faddr off26_8 rfl rfl) ?_
                    refine g_on (t := 57) rfl rfl ?_
                    refine gv rfl (y_load (k := 1)  one3 rfl rfl rfl) ?_
                    refine g_on (t := 57) rfl rfl ?_
                    refine gv rfl (y_eql rfl rfl) ?_
                    refine gv rfl (y_pick_f rfl rfl) ?_
                    refine gv rfl (y_assign rfl) ?_
                    refine l_nil ?_
                    refine q_then ?_
                    refine c_ret ?_
                    exact q_ret1 Tryz.results48 rfl () trivial (congrArg Value.bool (by simp_all [goesF, atF, mayA] <;> (try (intros; omega)))) hs_nil
          · intro h32
            refine g_off (t := 32) rfl rfl rfl rfl ?_
            refine g_off (t := 32) rfl rfl rfl rfl ?_
            refine g_off (t := 32) rfl rfl rfl rfl ?_
            refine g_off (t := 32) rfl rfl rfl rfl ?_
            refine g_off (t := 32) rfl rfl rfl rfl ?_
            refine g_off (t := 32) rfl rfl rfl rfl ?_
            refine g_on (t := 28) rfl rfl ?_
            refine gv rfl (y_pick_f rfl rfl) ?_
            refine gv rfl (y_pick_f rfl rfl) ?_
            refine l_nil ?_
            refine q_then ?_
            refine c_cond_f rfl ?_
            refine c_skip ?_
            refine q_then ?_
            refine c_seq ?_
            refine c_seq ?_
            refine c_region rfl ?_
            refine gv rfl (y_faddr off26_5 rfl rfl) ?_
            refine gv rfl (y_load (k := 1)  one4 rfl rfl rfl) ?_
            refine gv rfl (y_move rfl) ?_
            refine g_bool (t := 43) rfl ?_ ?_
            · intro h43
              refine g_on (t := 43) rfl rfl ?_
              refine gv rfl (y_faddr off35_2 rfl rfl) ?_
              refine g_on (t := 43) rfl rfl ?_
              refine gv rfl (y_load (k := 0)  one4 rfl rfl rfl) ?_
              refine g_on (t := 43) rfl rfl ?_
              refine gv rfl (y_not rfl rfl) ?_
              refine gv rfl (y_pick_t rfl rfl) ?_
              refine l_nil ?_
              refine q_then ?_
              refine c_bool rfl ?_ ?_
              · intro h47
                refine c_seq ?_
                refine c_region rfl ?_
                refine gv rfl (y_assign rfl) ?_
                refine l_nil ?_
                refine q_then ?_
                refine c_ret ?_
                refine q_then_ret ?_
                exact q_ret1 Tryz.results48 rfl () trivial (congrArg Value.bool (by simp_all [goesF, atF, mayA] <;> (try (intros; omega)))) hs_nil
              · intro h47
                refine c_skip ?_
                refine q_then ?_
                refine c_seq ?_
                refine c_seq ?_
                refine c_region rfl ?_
                refine gv rfl (y_faddr off26_6 rfl rfl) ?_
                refine gv rfl (y_load (k := 1)  one4 rfl rfl rfl) ?_
                refine gv rfl (y_move rfl) ?_
                refine g_bool (t := 50) rfl ?_ ?_
                · intro h50
                  refine g_on (t := 50) rfl rfl ?_
                  refine gv rfl (y_faddr off35_3 rfl rfl) ?_
                  refine g_on (t := 50) rfl rfl ?_
                  refine gv rfl (y_load (k := 0)  one4 rfl rfl rfl) ?_
                  refine gv rfl (y_pick_t rfl rfl) ?_
                  refine l_nil ?_
                  refine q_then ?_
                  refine c_bool rfl ?_ ?_
                  · intro h53
                    refine c_seq ?_
                    refine c_region rfl ?_
                    refine gv rfl (y_assign rfl) ?_
                    refine l_nil ?_
                    refine q_then ?_
                    refine c_ret ?_
                    refine q_then_ret ?_
                    exact q_ret1 Tryz.results48 rfl () trivial (congrArg Value.bool (by simp_all [goesF, atF, mayA] <;> (try (intros; omega)))) hs_nil
                  · intro h53
                    refine c_skip ?_
                    refine q_then ?_
                    refine c_seq ?_
                    refine c_region rfl ?_
                    refine gv rfl (y_faddr off35_4 rfl rfl) ?_
                    refine gv rfl (y_load (k := 0)  one4 rfl rfl rfl) ?_
                    refine gv rfl (y_not rfl rfl) ?_
                    refine gv rfl (y_move rfl) ?_
                    refine g_bool (t := 57) rfl ?_ ?_
                    · intro h57
                      refine g_off (t := 57) rfl rfl rfl rfl ?_
                      refine g_off (t := 57) rfl rfl rfl rfl ?_
                      refine g_off (t := 57) rfl rfl rfl rfl ?_
                      refine gv rfl (y_pick_t rfl rfl) ?_
                      refine gv rfl (y_assign rfl) ?_
                      refine l_nil ?_
                      refine q_then ?_
                      refine c_ret ?_
                      exact q_ret1 Tryz.results48 rfl () trivial (congrArg Value.bool (by simp_all [goesF, atF, mayA] <;> (try (intros; omega)))) hs_nil
                    · intro h57
                      refine g_on (t := 57) rfl rfl ?_
                      refine gv rfl (y_faddr off26_8 rfl rfl) ?_
                      refine g_on (t := 57) rfl rfl ?_
                      refine gv rfl (y_load (k := 1)  one3 rfl rfl rfl) ?_
                      refine g_on (t := 57) rfl rfl ?_
                      refine gv rfl (y_eql rfl rfl) ?_
                      refine gv rfl (y_pick_f rfl rfl) ?_
                      refine gv rfl (y_assign rfl) ?_
                      refine l_nil ?_
                      refine q_then ?_
                      refine c_ret ?_
                      exact q_ret1 Tryz.results48 rfl () trivial (congrArg Value.bool (by simp_all [goesF, atF, mayA] <;> (try (intros; omega)))) hs_nil
                · intro h50
                  refine g_off (t := 50) rfl rfl rfl rfl ?_
                  refine g_off (t := 50) rfl rfl rfl rfl ?_
                  refine gv rfl (y_pick_f rfl rfl) ?_
                  refine l_nil ?_
                  refine q_then ?_
                  refine c_cond_f rfl ?_
                  refine c_skip ?_
                  refine q_then ?_
                  refine c_seq ?_
                  refine c_region rfl ?_
                  refine gv rfl (y_faddr off35_4 rfl rfl) ?_
                  refine gv rfl (y_load (k := 0)  one4 rfl rfl rfl) ?_
                  refine gv rfl (y_not rfl rfl) ?_
                  refine gv rfl (y_move rfl) ?_
                  refine g_bool (t := 57) rfl ?_ ?_
                  · intro h57
                    refine g_off (t := 57) rfl rfl rfl rfl ?_
                    refine g_off (t := 57) rfl rfl rfl rfl ?_
                    refine g_off (t := 57) rfl rfl rfl rfl ?_
                    refine gv rfl (y_pick_t rfl rfl) ?_
                    refine gv rfl (y_assign rfl) ?_
                    refine l_nil ?_
                    refine q_then ?_
                    refine c_ret ?_
                    exact q_ret1 Tryz.results48 rfl () trivial (congrArg Value.bool (by simp_all [goesF, atF, mayA] <;> (try (intros; omega)))) hs_nil
                  · intro h57
                    refine g_on (t := 57) rfl rfl ?_
                    refine gv rfl (y_faddr off26_8 rfl rfl) ?_
                    refine g_on (t := 57) rfl rfl ?_
                    refine gv rfl (y_load (k := 1)  one3 rfl rfl rfl) ?_
                    refine g_on (t := 57) rfl rfl ?_
                    refine gv rfl (y_eql rfl rfl) ?_
                    refine gv rfl (y_pick_f rfl rfl) ?_
                    refine gv rfl (y_assign rfl) ?_
                    refine l_nil ?_
                    refine q_then ?_
                    refine c_ret ?_
                    exact q_ret1 Tryz.results48 rfl () trivial (congrArg Value.bool (by simp_all [goesF, atF, mayA] <;> (try (intros; omega)))) hs_nil
            · intro h43
              refine g_off (t := 43) rfl rfl rfl rfl ?_
              refine g_off (t := 43) rfl rfl rfl rfl ?_
              refine g_off (t := 43) rfl rfl rfl rfl ?_
              refine gv rfl (y_pick_f rfl rfl) ?_
              refine l_nil ?_
              refine q_then ?_
              refine c_cond_f rfl ?_
              refine c_skip ?_
              refine q_then ?_
              refine c_seq ?_
              refine c_seq ?_
              refine c_region rfl ?_
              refine gv rfl (y_faddr off26_6 rfl rfl) ?_
              refine gv rfl (y_load (k := 1)  one4 rfl rfl rfl) ?_
              refine gv rfl (y_move rfl) ?_
              refine g_bool (t := 50) rfl ?_ ?_
              · intro h50
                refine g_on (t := 50) rfl rfl ?_
                refine gv rfl (y_faddr off35_3 rfl rfl) ?_
                refine g_on (t := 50) rfl rfl ?_
                refine gv rfl (y_load (k := 0)  one4 rfl rfl rfl) ?_
                refine gv rfl (y_pick_t rfl rfl) ?_
                refine l_nil ?_
                refine q_then ?_
                refine c_bool rfl ?_ ?_
                · intro h53
                  refine c_seq ?_
                  refine c_region rfl ?_
                  refine gv rfl (y_assign rfl) ?_
                  refine l_nil ?_
                  refine q_then ?_
                  refine c_ret ?_
                  refine q_then_ret ?_
                  exact q_ret1 Tryz.results48 rfl () trivial (congrArg Value.bool (by simp_all [goesF, atF, mayA] <;> (try (intros; omega)))) hs_nil
                · intro h53
                  refine c_skip ?_
                  refine q_then ?_
                  refine c_seq ?_
                  refine c_region rfl ?_
                  refine gv rfl (y_faddr off35_4 rfl rfl) ?_
                  refine gv rfl (y_load (k := 0)  one4 rfl rfl rfl) ?_
                  refine gv rfl (y_not rfl rfl) ?_
                  refine gv rfl (y_move rfl) ?_
                  refine g_bool (t := 57) rfl ?_ ?_
                  · intro h57
                    refine g_off (t := 57) rfl rfl rfl rfl ?_
                    refine g_off (t := 57) rfl rfl rfl rfl ?_
                    refine g_off (t := 57) rfl rfl rfl rfl ?_
                    refine gv rfl (y_pick_t rfl rfl) ?_
                    refine gv rfl (y_assign rfl) ?_
                    refine l_nil ?_
                    refine q_then ?_
                    refine c_ret ?_
                    exact q_ret1 Tryz.results48 rfl () trivial (congrArg Value.bool (by simp_all [goesF, atF, mayA] <;> (try (intros; omega)))) hs_nil
                  · intro h57
                    refine g_on (t := 57) rfl rfl ?_
                    refine gv rfl (y_faddr off26_8 rfl rfl) ?_
                    refine g_on (t := 57) rfl rfl ?_
                    refine gv rfl (y_load (k := 1)  one3 rfl rfl rfl) ?_
                    refine g_on (t := 57) rfl rfl ?_
                    refine gv rfl (y_eql rfl rfl) ?_
                    refine gv rfl (y_pick_f rfl rfl) ?_
                    refine gv rfl (y_assign rfl) ?_
                    refine l_nil ?_
                    refine q_then ?_
                    refine c_ret ?_
                    exact q_ret1 Tryz.results48 rfl () trivial (congrArg Value.bool (by simp_all [goesF, atF, mayA] <;> (try (intros; omega)))) hs_nil
              · intro h50
                refine g_off (t := 50) rfl rfl rfl rfl ?_
                refine g_off (t := 50) rfl rfl rfl rfl ?_
                refine gv rfl (y_pick_f rfl rfl) ?_
                refine l_nil ?_
                refine q_then ?_
                refine c_cond_f rfl ?_
                refine c_skip ?_
                refine q_then ?_
                refine c_seq ?_
                refine c_region rfl ?_
                refine gv rfl (y_faddr off35_4 rfl rfl) ?_
                refine gv rfl (y_load (k := 0)  one4 rfl rfl rfl) ?_
                refine gv rfl (y_not rfl rfl) ?_
                refine gv rfl (y_move rfl) ?_
                refine g_bool (t := 57) rfl ?_ ?_
                · intro h57
                  refine g_off (t := 57) rfl rfl rfl rfl ?_
                  refine g_off (t := 57) rfl rfl rfl rfl ?_
                  refine g_off (t := 57) rfl rfl rfl rfl ?_
                  refine gv rfl (y_pick_t rfl rfl) ?_
                  refine gv rfl (y_assign rfl) ?_
                  refine l_nil ?_
                  refine q_then ?_
                  refine c_ret ?_
                  exact q_ret1 Tryz.results48 rfl () trivial (congrArg Value.bool (by simp_all [goesF, atF, mayA] <;> (try (intros; omega)))) hs_nil
                · intro h57
                  refine g_on (t := 57) rfl rfl ?_
                  refine gv rfl (y_faddr off26_8 rfl rfl) ?_
                  refine g_on (t := 57) rfl rfl ?_
                  refine gv rfl (y_load (k := 1)  one3 rfl rfl rfl) ?_
                  refine g_on (t := 57) rfl rfl ?_
                  refine gv rfl (y_eql rfl rfl) ?_
                  refine gv rfl (y_pick_f rfl rfl) ?_
                  refine gv rfl (y_assign rfl) ?_
                  refine l_nil ?_
                  refine q_then ?_
                  refine c_ret ?_
                  exact q_ret1 Tryz.results48 rfl () trivial (congrArg Value.bool (by simp_all [goesF, atF, mayA] <;> (try (intros; omega)))) hs_nil
      · intro h21
        refine g_off (t := 21) rfl rfl rfl rfl ?_
        refine g_off (t := 21) rfl rfl rfl rfl ?_
        refine g_off (t := 21) rfl rfl rfl rfl ?_
        refine g_off (t := 21) rfl rfl rfl rfl ?_
        refine g_off (t := 21) rfl rfl rfl rfl ?_
        refine gv rfl (y_pick_f rfl rfl) ?_
        refine gv rfl (y_move rfl) ?_
        refine g_on (t := 28) rfl rfl ?_
        refine gv rfl (y_faddr off26_4 rfl rfl) ?_
        refine g_on (t := 28) rfl rfl ?_
        refine gv rfl (y_load (k := 1)  one4 rfl rfl rfl) ?_
        refine g_on (t := 28) rfl rfl ?_
        refine gv rfl (y_not rfl rfl) ?_
        refine g_on (t := 28) rfl rfl ?_
        refine gv rfl (y_move rfl) ?_
        refine g_bool (t := 32) rfl ?_ ?_
        · intro h32
          refine g_on (t := 32) rfl rfl ?_
          refine gv rfl (y_faddr off35_0 rfl rfl) ?_
          refine g_on (t := 32) rfl rfl ?_
          refine gv rfl (y_load (k := 0)  one9 rfl rfl rfl) ?_
          refine g_on (t := 32) rfl rfl ?_
          refine gv rfl (y_faddr off26_2 rfl rfl) ?_
          refine g_on (t := 32) rfl rfl ?_
          refine gv rfl (y_load (k := 1)  one9 rfl rfl rfl) ?_
          refine g_on (t := 32) rfl rfl ?_
          refine l_callU rfl ent84 rfl (fun w hm => isMatch_c (h := f.host) (d := c.domain) w hf hd) ?_
          refine g_on (t := 32) rfl rfl ?_
          refine gv rfl (y_not rfl rfl) ?_
          refine g_on (t := 28) rfl rfl ?_
          refine gv rfl (y_pick_t rfl rfl) ?_
          refine gv rfl (y_pick_f rfl rfl) ?_
          refine l_nil ?_
          refine q_then ?_
          refine c_bool rfl ?_ ?_
          · intro h40
            refine c_seq ?_
            refine c_region rfl ?_
            refine gv rfl (y_assign rfl) ?_
            refine l_nil ?_
            refine q_then ?_
            refine c_ret ?_
            refine q_then_ret ?_
            exact q_ret1 Tryz.results48 rfl () trivial (congrArg Value.bool (by simp_all [goesF, atF, mayA] <;> (try (intros; omega)))) hs_nil
          · intro h40
            refine c_skip ?_
            refine q_then ?_
            refine c_seq ?_
            refine c_seq ?_
            refine c_region rfl ?_
            refine gv rfl (y_faddr off26_5 rfl rfl) ?_
            refine gv rfl (y_load (k := 1)  one4 rfl rfl rfl) ?_
            refine gv rfl (y_move rfl) ?_
            refine g_bool (t := 43) rfl ?_ ?_
            · intro h43
              refine g_on (t := 43) rfl rfl ?_
              refine gv rfl (y_faddr off35_2 rfl rfl) ?_
              refine g_on (t := 43) rfl rfl ?_
              refine gv rfl (y_load (k := 0)  one4 rfl rfl rfl) ?_
              refine g_on (t := 43) rfl rfl ?_
              refine gv rfl (y_not rfl rfl) ?_
              refine gv rfl (y_pick_t rfl rfl) ?_
              refine l_nil ?_
              refine q_then ?_
              refine c_bool rfl ?_ ?_
              · intro h47
                refine c_seq ?_
                refine c_region rfl ?_
                refine gv rfl (y_assign rfl) ?_
                refine l_nil ?_
                refine q_then ?_
                refine c_ret ?_
                refine q_then_ret ?_
                exact q_ret1 Tryz.results48 rfl () trivial (congrArg Value.bool (by simp_all [goesF, atF, mayA] <;> (try (intros; omega)))) hs_nil
              · intro h47
                refine c_skip ?_
                refine q_then ?_
                refine c_seq ?_
                refine c_seq ?_
                refine c_region rfl ?_
                refine gv rfl (y_faddr off26_6 rfl rfl) ?_
                refine gv rfl (y_load (k := 1)  one4 rfl rfl rfl) ?_
                refine gv rfl (y_move rfl) ?_
                refine g_bool (t := 50) rfl ?_ ?_
                · intro h50
                  refine g_on (t := 50) rfl rfl ?_
                  refine gv rfl (y_faddr off35_3 rfl rfl) ?_
                  refine g_on (t := 50) rfl rfl ?_
                  refine gv rfl (y_load (k := 0)  one4 rfl rfl rfl) ?_
                  refine gv rfl (y_pick_t rfl rfl) ?_
                  refine l_nil ?_
                  refine q_then ?_
                  refine c_bool rfl ?_ ?_
                  · intro h53
                    refine c_seq ?_
                    refine c_region rfl ?_
                    refine gv rfl (y_assign rfl) ?_
                    refine l_nil ?_
                    refine q_then ?_
                    refine c_ret ?_
                    refine q_then_ret ?_
                    exact q_ret1 Tryz.results48 rfl () trivial (congrArg Value.bool (by simp_all [goesF, atF, mayA] <;> (try (intros; omega)))) hs_nil
                  · intro h53
                    refine c_skip ?_
                    refine q_then ?_
                    refine c_seq ?_
                    refine c_region rfl ?_
                    refine gv rfl (y_faddr off35_4 rfl rfl) ?_
                    refine gv rfl (y_load (k := 0)  one4 rfl rfl rfl) ?_
                    refine gv rfl (y_not rfl rfl) ?_
                    refine gv rfl (y_move rfl) ?_
                    refine g_bool (t := 57) rfl ?_ ?_
                    · intro h57
                      refine g_off (t := 57) rfl rfl rfl rfl ?_
                      refine g_off (t := 57) rfl rfl rfl rfl ?_
                      refine g_off (t := 57) rfl rfl rfl rfl ?_
                      refine gv rfl (y_pick_t rfl rfl) ?_
                      refine gv rfl (y_assign rfl) ?_
                      refine l_nil ?_
                      refine q_then ?_
                      refine c_ret ?_
                      exact q_ret1 Tryz.results48 rfl () trivial (congrArg Value.bool (by simp_all [goesF, atF, mayA] <;> (try (intros; omega)))) hs_nil
                    · intro h57
                      refine g_on (t := 57) rfl rfl ?_
                      refine gv rfl (y_faddr off26_8 rfl rfl) ?_
                      refine g_on (t := 57) rfl rfl ?_
                      refine gv rfl (y_load (k := 1)  one3 rfl rfl rfl) ?_
                      refine g_on (t := 57) rfl rfl ?_
                      refine gv rfl (y_eql rfl rfl) ?_
                      refine gv rfl (y_pick_f rfl rfl) ?_
                      refine gv rfl (y_assign rfl) ?_
                      refine l_nil ?_
                      refine q_then ?_
                      refine c_ret ?_
                      exact q_ret1 Tryz.results48 rfl () trivial (congrArg Value.bool (by simp_all [goesF, atF, mayA] <;> (try (intros; omega)))) hs_nil
                · intro h50
                  refine g_off (t := 50) rfl rfl rfl rfl ?_
                  refine g_off (t := 50) rfl rfl rfl rfl ?_
                  refine gv rfl (y_pick_f rfl rfl) ?_
                  refine l_nil ?_
                  refine q_then ?_
                  refine c_cond_f rfl ?_
                  refine c_skip ?_
                  refine q_then ?_
                  refine c_seq ?_
                  refine c_region rfl ?_
                  refine gv rfl (y_faddr off35_4 rfl rfl) ?_
                  refine gv rfl (y_load (k := 0)  one4 rfl rfl rfl) ?_
                  refine gv rfl (y_not rfl rfl) ?_
                  refine gv rfl (y_move rfl) ?_
                  refine g_bool (t := 57) rfl ?_ ?_
                  · intro h57
                    refine g_off (t := 57) rfl rfl rfl rfl ?_
                    refine g_off (t := 57) rfl rfl rfl rfl ?_
                    refine g_off (t := 57) rfl rfl rfl rfl ?_
                    refine gv rfl (y_pick_t rfl rfl) ?_
                    refine gv rfl (y_assign rfl) ?_
                    refine l_nil ?_
                    refine q_then ?_
                    refine c_ret ?_
                    exact q_ret1 Tryz.results48 rfl () trivial (congrArg Value.bool (by simp_all [goesF, atF, mayA] <;> (try (intros; omega)))) hs_nil
                  · intro h57
                    refine g_on (t := 57) rfl rfl ?_
                    refine gv rfl (y_faddr off26_8 rfl rfl) ?_
                    refine g_on (t := 57) rfl rfl ?_
                    refine gv rfl (y_load (k := 1)  one3 rfl rfl rfl) ?_
                    refine g_on (t := 57) rfl rfl ?_
                    refine gv rfl (y_eql rfl rfl) ?_
                    refine gv rfl (y_pick_f rfl rfl) ?_
                    refine gv rfl (y_assign rfl) ?_
                    refine l_nil ?_
                    refine q_then ?_
                    refine c_ret ?_
                    exact q_ret1 Tryz.results48 rfl () trivial (congrArg Value.bool (by simp_all [goesF, atF, mayA] <;> (try (intros; omega)))) hs_nil
            · intro h43
              refine g_off (t := 43) rfl rfl rfl rfl ?_
              refine g_off (t := 43) rfl rfl rfl rfl ?_
              refine g_off (t := 43) rfl rfl rfl rfl ?_
              refine gv rfl (y_pick_f rfl rfl) ?_
              refine l_nil ?_
              refine q_then ?_
              refine c_cond_f rfl ?_
              refine c_skip ?_
              refine q_then ?_
              refine c_seq ?_
              refine c_seq ?_
              refine c_region rfl ?_
              refine gv rfl (y_faddr off26_6 rfl rfl) ?_
              refine gv rfl (y_load (k := 1)  one4 rfl rfl rfl) ?_
              refine gv rfl (y_move rfl) ?_
              refine g_bool (t := 50) rfl ?_ ?_
              · intro h50
                refine g_on (t := 50) rfl rfl ?_
                refine gv rfl (y_faddr off35_3 rfl rfl) ?_
                refine g_on (t := 50) rfl rfl ?_
                refine gv rfl (y_load (k := 0)  one4 rfl rfl rfl) ?_
                refine gv rfl (y_pick_t rfl rfl) ?_
                refine l_nil ?_
                refine q_then ?_
                refine c_bool rfl ?_ ?_
                · intro h53
                  refine c_seq ?_
                  refine c_region rfl ?_
                  refine gv rfl (y_assign rfl) ?_
                  refine l_nil ?_
                  refine q_then ?_
                  refine c_ret ?_
                  refine q_then_ret ?_
                  exact q_ret1 Tryz.results48 rfl () trivial (congrArg Value.bool (by simp_all [goesF, atF, mayA] <;> (try (intros; omega)))) hs_nil
                · intro h53
                  refine c_skip ?_
                  refine q_then ?_
                  refine c_seq ?_
                  refine c_region rfl ?_
                  refine gv rfl (y_faddr off35_4 rfl rfl) ?_
                  refine gv rfl (y_load (k := 0)  one4 rfl rfl rfl) ?_
                  refine gv rfl (y_not rfl rfl) ?_
                  refine gv rfl (y_move rfl) ?_
                  refine g_bool (t := 57) rfl ?_ ?_
                  · intro h57
                    refine g_off (t := 57) rfl rfl rfl rfl ?_
                    refine g_off (t := 57) rfl rfl rfl rfl ?_
                    refine g_off (t := 57) rfl rfl rfl rfl ?_
                    refine gv rfl (y_pick_t rfl rfl) ?_
                    refine gv rfl (y_assign rfl) ?_
                    refine l_nil ?_
                    refine q_then ?_
                    refine c_ret ?_
                    exact q_ret1 Tryz.results48 rfl () trivial (congrArg Value.bool (by simp_all [goesF, atF, mayA] <;> (try (intros; omega)))) hs_nil
                  · intro h57
                    refine g_on (t := 57) rfl rfl ?_
                    refine gv rfl (y_faddr off26_8 rfl rfl) ?_
                    refine g_on (t := 57) rfl rfl ?_
                    refine gv rfl (y_load (k := 1)  one3 rfl rfl rfl) ?_
                    refine g_on (t := 57) rfl rfl ?_
                    refine gv rfl (y_eql rfl rfl) ?_
                    refine gv rfl (y_pick_f rfl rfl) ?_
                    refine gv rfl (y_assign rfl) ?_
                    refine l_nil ?_
                    refine q_then ?_
                    refine c_ret ?_
                    exact q_ret1 Tryz.results48 rfl () trivial (congrArg Value.bool (by simp_all [goesF, atF, mayA] <;> (try (intros; omega)))) hs_nil
              · intro h50
                refine g_off (t := 50) rfl rfl rfl rfl ?_
                refine g_off (t := 50) rfl rfl rfl rfl ?_
                refine gv rfl (y_pick_f rfl rfl) ?_
                refine l_nil ?_
                refine q_then ?_
                refine c_cond_f rfl ?_
                refine c_skip ?_
                refine q_then ?_
                refine c_seq ?_
                refine c_region rfl ?_
                refine gv rfl (y_faddr off35_4 rfl rfl) ?_
                refine gv rfl (y_load (k := 0)  one4 rfl rfl rfl) ?_
                refine gv rfl (y_not rfl rfl) ?_
                refine gv rfl (y_move rfl) ?_
                refine g_bool (t := 57) rfl ?_ ?_
                · intro h57
                  refine g_off (t := 57) rfl rfl rfl rfl ?_
                  refine g_off (t := 57) rfl rfl rfl rfl ?_
                  refine g_off (t := 57) rfl rfl rfl rfl ?_
                  refine gv rfl (y_pick_t rfl rfl) ?_
                  refine gv rfl (y_assign rfl) ?_
                  refine l_nil ?_
                  refine q_then ?_
                  refine c_ret ?_
                  exact q_ret1 Tryz.results48 rfl () trivial (congrArg Value.bool (by simp_all [goesF, atF, mayA] <;> (try (intros; omega)))) hs_nil
                · intro h57
                  refine g_on (t := 57) rfl rfl ?_
                  refine gv rfl (y_faddr off26_8 rfl rfl) ?_
                  refine g_on (t := 57) rfl rfl ?_
                  refine gv rfl (y_load (k := 1)  one3 rfl rfl rfl) ?_
                  refine g_on (t := 57) rfl rfl ?_
                  refine gv rfl (y_eql rfl rfl) ?_
                  refine gv rfl (y_pick_f rfl rfl) ?_
                  refine gv rfl (y_assign rfl) ?_
                  refine l_nil ?_
                  refine q_then ?_
                  refine c_ret ?_
                  exact q_ret1 Tryz.results48 rfl () trivial (congrArg Value.bool (by simp_all [goesF, atF, mayA] <;> (try (intros; omega)))) hs_nil
        · intro h32
          refine g_off (t := 32) rfl rfl rfl rfl ?_
          refine g_off (t := 32) rfl rfl rfl rfl ?_
          refine g_off (t := 32) rfl rfl rfl rfl ?_
          refine g_off (t := 32) rfl rfl rfl rfl ?_
          refine g_off (t := 32) rfl rfl rfl rfl ?_
          refine g_off (t := 32) rfl rfl rfl rfl ?_
          refine g_on (t := 28) rfl rfl ?_
          refine gv rfl (y_pick_f rfl rfl) ?_
          refine gv rfl (y_pick_f rfl rfl) ?_
          refine l_nil ?_
          refine q_then ?_
          refine c_cond_f rfl ?_
          refine c_skip ?_
          refine q_then ?_
          refine c_seq ?_
          refine c_seq ?_
          refine c_region rfl ?_
          refine gv rfl (y_faddr off26_5 rfl rfl) ?_
          refine gv rfl (y_load (k := 1)  one4 rfl rfl rfl) ?_
          refine gv rfl (y_move rfl) ?_
          refine g_bool (t := 43) rfl ?_ ?_
          · intro h43
            refine g_on (t := 43) rfl rfl ?_
            refine gv rfl (y_faddr off35_2 rfl rfl) ?_
            refine g_on (t := 43) rfl rfl ?_
            refine gv rfl (y_load (k := 0)  one4 rfl rfl rfl) ?_
            refine g_on (t := 43) rfl rfl ?_
            refine gv rfl (y_not rfl rfl) ?_
            refine gv rfl (y_pick_t rfl rfl) ?_
            refine l_nil ?_
            refine q_then ?_
            refine c_bool rfl ?_ ?_
            · intro h47
              refine c_seq ?_
              refine c_region rfl ?_
              refine gv rfl (y_assign rfl) ?_
              refine l_nil ?_
              refine q_then ?_
              refine c_ret ?_
              refine q_then_ret ?_
              exact q_ret1 Tryz.results48 rfl () trivial (congrArg Value.bool (by simp_all [goesF, atF, mayA] <;> (try (intros; omega)))) hs_nil
            · intro h47
              refine c_skip ?_
              refine q_then ?_
              refine c_seq ?_
              refine c_seq ?_
              refine c_region rfl ?_
              refine gv rfl (y_faddr off26_6 rfl rfl) ?_
              refine gv rfl (y_load (k := 1)  one4 rfl rfl rfl) ?_
              refine gv rfl (y_move rfl) ?_
              refine g_bool (t := 50) rfl ?_ ?_
              · intro h50
                refine g_on (t := 50) rfl rfl ?_
                refine gv rfl (y_faddr off35_3 rfl rfl) ?_
                refine g_on (t := 50) rfl rfl ?_
                refine gv rfl (y_load (k := 0)  one4 rfl rfl rfl) ?_
                refine gv rfl (y_pick_t rfl rfl) ?_
                refine l_nil ?_
                refine q_then ?_
                refine c_bool rfl ?_ ?_
                · intro h53
                  refine c_seq ?_
                  refine c_region rfl ?_
                  refine gv rfl (y_assign rfl) ?_
                  refine l_nil ?_
                  refine q_then ?_
                  refine c_ret ?_
                  refine q_then_ret ?_
                  exact q_ret1 Tryz.results48 rfl () trivial (congrArg Value.bool (by simp_all [goesF, atF, mayA] <;> (try (intros; omega)))) hs_nil
                · intro h53
                  refine c_skip ?_
                  refine q_then ?_
                  refine c_seq ?_
                  refine c_region rfl ?_
                  refine gv rfl (y_faddr off35_4 rfl rfl) ?_
                  refine gv rfl (y_load (k := 0)  one4 rfl rfl rfl) ?_
                  refine gv rfl (y_not rfl rfl) ?_
                  refine gv rfl (y_move rfl) ?_
                  refine g_bool (t := 57) rfl ?_ ?_
                  · intro h57
                    refine g_off (t := 57) rfl rfl rfl rfl ?_
                    refine g_off (t := 57) rfl rfl rfl rfl ?_
                    refine g_off (t := 57) rfl rfl rfl rfl ?_
                    refine gv rfl (y_pick_t rfl rfl) ?_
                    refine gv rfl (y_assign rfl) ?_
                    refine l_nil ?_
                    refine q_then ?_
                    refine c_ret ?_
                    exact q_ret1 Tryz.results48 rfl () trivial (congrArg Value.bool (by simp_all [goesF, atF, mayA] <;> (try (intros; omega)))) hs_nil
                  · intro h57
                    refine g_on (t := 57) rfl rfl ?_
                    refine gv rfl (y_faddr off26_8 rfl rfl) ?_
                    refine g_on (t := 57) rfl rfl ?_
                    refine gv rfl (y_load (k := 1)  one3 rfl rfl rfl) ?_
                    refine g_on (t := 57) rfl rfl ?_
                    refine gv rfl (y_eql rfl rfl) ?_
                    refine gv rfl (y_pick_f rfl rfl) ?_
                    refine gv rfl (y_assign rfl) ?_
                    refine l_nil ?_
                    refine q_then ?_
                    refine c_ret ?_
                    exact q_ret1 Tryz.results48 rfl () trivial (congrArg Value.bool (by simp_all [goesF, atF, mayA] <;> (try (intros; omega)))) hs_nil
              · intro h50
                refine g_off (t := 50) rfl rfl rfl rfl ?_
                refine g_off (t := 50) rfl rfl rfl rfl ?_
                refine gv rfl (y_pick_f rfl rfl) ?_
                refine l_nil ?_
                refine q_then ?_
                refine c_cond_f rfl ?_
                refine c_skip ?_
                refine q_then ?_
                refine c_seq ?_
                refine c_region rfl ?_
                refine gv rfl (y_faddr off35_4 rfl rfl) ?_
                refine gv rfl (y_load (k := 0)  one4 rfl rfl rfl) ?_
                refine gv rfl (y_not rfl rfl) ?_
                refine gv rfl (y_move rfl) ?_
                refine g_bool (t := 57) rfl ?_ ?_
                · intro h57
                  refine g_off (t := 57) rfl rfl rfl rfl ?_
                  refine g_off (t := 57) rfl rfl rfl rfl ?_
                  refine g_off (t := 57) rfl rfl rfl rfl ?_
                  refine gv rfl (y_pick_t rfl rfl) ?_
                  refine gv rfl (y_assign rfl) ?_
                  refine l_nil ?_
                  refine q_then ?_
                  refine c_ret ?_
                  exact q_ret1 Tryz.results48 rfl () trivial (congrArg Value.bool (by simp_all [goesF, atF, mayA] <;> (try (intros; omega)))) hs_nil
                · intro h57
                  refine g_on (t := 57) rfl rfl ?_
                  refine gv rfl (y_faddr off26_8 rfl rfl) ?_
                  refine g_on (t := 57) rfl rfl ?_
                  refine gv rfl (y_load (k := 1)  one3 rfl rfl rfl) ?_
                  refine g_on (t := 57) rfl rfl ?_
                  refine gv rfl (y_eql rfl rfl) ?_
                  refine gv rfl (y_pick_f rfl rfl) ?_
                  refine gv rfl (y_assign rfl) ?_
                  refine l_nil ?_
                  refine q_then ?_
                  refine c_ret ?_
                  exact q_ret1 Tryz.results48 rfl () trivial (congrArg Value.bool (by simp_all [goesF, atF, mayA] <;> (try (intros; omega)))) hs_nil
          · intro h43
            refine g_off (t := 43) rfl rfl rfl rfl ?_
            refine g_off (t := 43) rfl rfl rfl rfl ?_
            refine g_off (t := 43) rfl rfl rfl rfl ?_
            refine gv rfl (y_pick_f rfl rfl) ?_
            refine l_nil ?_
            refine q_then ?_
            refine c_cond_f rfl ?_
            refine c_skip ?_
            refine q_then ?_
            refine c_seq ?_
            refine c_seq ?_
            refine c_region rfl ?_
            refine gv rfl (y_faddr off26_6 rfl rfl) ?_
            refine gv rfl (y_load (k := 1)  one4 rfl rfl rfl) ?_
            refine gv rfl (y_move rfl) ?_
            refine g_bool (t := 50) rfl ?_ ?_
            · intro h50
              refine g_on (t := 50) rfl rfl ?_
              refine gv rfl (y_faddr off35_3 rfl rfl) ?_
              refine g_on (t := 50) rfl rfl ?_
              refine gv rfl (y_load (k := 0)  one4 rfl rfl rfl) ?_
              refine gv rfl (y_pick_t rfl rfl) ?_
              refine l_nil ?_
              refine q_then ?_
              refine c_bool rfl ?_ ?_
              · intro h53
                refine c_seq ?_
                refine c_region rfl ?_
                refine gv rfl (y_assign rfl) ?_
                refine l_nil ?_
                refine q_then ?_
                refine c_ret ?_
                refine q_then_ret ?_
                exact q_ret1 Tryz.results48 rfl () trivial (congrArg Value.bool (by simp_all [goesF, atF, mayA] <;> (try (intros; omega)))) hs_nil
              · intro h53
                refine c_skip ?_
                refine q_then ?_
                refine c_seq ?_
                refine c_region rfl ?_
                refine gv rfl (y_faddr off35_4 rfl rfl) ?_
                refine gv rfl (y_load (k := 0)  one4 rfl rfl rfl) ?_
                refine gv rfl (y_not rfl rfl) ?_
                refine gv rfl (y_move rfl) ?_
                refine g_bool (t := 57) rfl ?_ ?_
                · intro h57
                  refine g_off (t := 57) rfl rfl rfl rfl ?_
                  refine g_off (t := 57) rfl rfl rfl rfl ?_
                  refine g_off (t := 57) rfl rfl rfl rfl ?_
                  refine gv rfl (y_pick_t rfl rfl) ?_
                  refine gv rfl (y_assign rfl) ?_
                  refine l_nil ?_
                  refine q_then ?_
                  refine c_ret ?_
                  exact q_ret1 Tryz.results48 rfl () trivial (congrArg Value.bool (by simp_all [goesF, atF, mayA] <;> (try (intros; omega)))) hs_nil
                · intro h57
                  refine g_on (t := 57) rfl rfl ?_
                  refine gv rfl (y_faddr off26_8 rfl rfl) ?_
                  refine g_on (t := 57) rfl rfl ?_
                  refine gv rfl (y_load (k := 1)  one3 rfl rfl rfl) ?_
                  refine g_on (t := 57) rfl rfl ?_
                  refine gv rfl (y_eql rfl rfl) ?_
                  refine gv rfl (y_pick_f rfl rfl) ?_
                  refine gv rfl (y_assign rfl) ?_
                  refine l_nil ?_
                  refine q_then ?_
                  refine c_ret ?_
                  exact q_ret1 Tryz.results48 rfl () trivial (congrArg Value.bool (by simp_all [goesF, atF, mayA] <;> (try (intros; omega)))) hs_nil
            · intro h50
              refine g_off (t := 50) rfl rfl rfl rfl ?_
              refine g_off (t := 50) rfl rfl rfl rfl ?_
              refine gv rfl (y_pick_f rfl rfl) ?_
              refine l_nil ?_
              refine q_then ?_
              refine c_cond_f rfl ?_
              refine c_skip ?_
              refine q_then ?_
              refine c_seq ?_
              refine c_region rfl ?_
              refine gv rfl (y_faddr off35_4 rfl rfl) ?_
              refine gv rfl (y_load (k := 0)  one4 rfl rfl rfl) ?_
              refine gv rfl (y_not rfl rfl) ?_
              refine gv rfl (y_move rfl) ?_
              refine g_bool (t := 57) rfl ?_ ?_
              · intro h57
                refine g_off (t := 57) rfl rfl rfl rfl ?_
                refine g_off (t := 57) rfl rfl rfl rfl ?_
                refine g_off (t := 57) rfl rfl rfl rfl ?_
                refine gv rfl (y_pick_t rfl rfl) ?_
                refine gv rfl (y_assign rfl) ?_
                refine l_nil ?_
                refine q_then ?_
                refine c_ret ?_
                exact q_ret1 Tryz.results48 rfl () trivial (congrArg Value.bool (by simp_all [goesF, atF, mayA] <;> (try (intros; omega)))) hs_nil
              · intro h57
                refine g_on (t := 57) rfl rfl ?_
                refine gv rfl (y_faddr off26_8 rfl rfl) ?_
                refine g_on (t := 57) rfl rfl ?_
                refine gv rfl (y_load (k := 1)  one3 rfl rfl rfl) ?_
                refine g_on (t := 57) rfl rfl ?_
                refine gv rfl (y_eql rfl rfl) ?_
                refine gv rfl (y_pick_f rfl rfl) ?_
                refine gv rfl (y_assign rfl) ?_
                refine l_nil ?_
                refine q_then ?_
                refine c_ret ?_
                exact q_ret1 Tryz.results48 rfl () trivial (congrArg Value.bool (by simp_all [goesF, atF, mayA] <;> (try (intros; omega)))) hs_nil

theorem ent85 : enters Tryz.prog 85 = true := by kernel_rfl

theorem ent47 : enters Tryz.prog 47 = true := by kernel_rfl

theorem ent48 : enters Tryz.prog 48 = true := by kernel_rfl

theorem ent49 : enters Tryz.prog 49 = true := by kernel_rfl

theorem ent17 : enters Tryz.prog 17 = true := by kernel_rfl


theorem sortOf_c {l : List Ck} {A : Option Addr} {k : Nat} (w : World) (hA : Sl Ck.cells 13 w A l) (hlen : l.length ≤ 1073741824) (hk0 : A = none → k = 0) : Ct Tryz.prog 49 #[.slice A l.length k] w (fun x : Option Addr × Nat => .slice x.1 (sortC l).length x.2) (fun x => [.row (.slice x.1 (sortC l).length x.2) 26 13 (sortC l).length ((sortC l).flatMap Ck.cells)]) (fun _ => True) := by
  refine enter (E := [(0, .slice A l.length k)]) Tryz.func49 rfl Tryz.ntmps49 rfl (by simp) ?_
  refine c_seq ?_
  refine c_region rfl ?_
  refine gv rfl (y_assign rfl) ?_
  refine l_nil ?_
  refine q_then ?_
  refine c_seq ?_
  refine c_region rfl ?_
  refine l_bslice0 13 rfl elem22 size26 ?_; intro g7
  refine gv rfl (y_move rfl) ?_
  refine l_append_any (k := 0) (zs := l.flatMap Ck.cells) rfl elem22 ap26 hA hk0 (fun _ => rfl) rfl rfl rfl (fun _ => rfl) (by omega) (by omega) (by simp) ?_; intro A9 c9
  refine gv rfl (y_assign rfl) ?_
  refine l_nil ?_
  refine q_then ?_
  refine c_seq ?_
  refine c_seq ?_
  refine c_region rfl ?_
  refine gv rfl (y_assign rfl) ?_
  refine l_nil ?_
  refine q_then ?_
  refine c_block ?_
  refine loop (Ef := [(0, _), (3, _)]) (Hf := []) (fun s : Nat => s ≤ l.length) (fun s : Nat => [(4, .int .i64 (s : Int))]) (fun s : Nat => [.row (.slice A9 (0 + l.length) c9) 26 13 (0 + l.length) ((outS l s).flatMap Ck.cells)]) (fun s : Nat => l.length - s) 0 (Nat.zero_le _) (sub_cons rfl sub_nil) (sub_cons rfl (sub_cons rfl sub_nil)) (hs_pick (is := [0]) rfl rfl) ?_
  rintro s hs
  refine c_sub (E' := [(4, _), (0, _), (3, _)]) (sub_cons rfl (sub_cons rfl (sub_cons rfl sub_nil))) ?_
  refine c_seq ?_
  refine c_seq ?_
  refine c_region rfl ?_
  refine gv rfl (y_move rfl) ?_
  refine gv rfl (y_move rfl) ?_
  refine gv rfl (y_len elem22 rfl) ?_
  refine gv rfl (y_lss rfl rfl) ?_
  refine l_nil ?_
  refine q_then ?_
  refine c_dec rfl ?_ ?_
  · intro h13
    have hlt : s < l.length := by omega
    obtain ⟨v, hv⟩ := get_lt hlt
    refine c_skip ?_
    refine q_then ?_
    refine c_seq ?_
    refine c_block ?_
    refine c_seq ?_
    refine c_region rfl ?_
    refine gv rfl (y_assign rfl) ?_
    refine l_nil ?_
    refine q_then ?_
    refine c_seq ?_
    refine c_seq ?_
    refine c_region rfl ?_
    refine gv rfl (y_assign rfl) ?_
    refine l_nil ?_
    refine q_then ?_
    refine c_block ?_
    refine loop (Ef := [(0, _), (3, _), (4, _)]) (Hf := [_]) (fun x : Nat × Nat => x.1 ≤ l.length ∧ x.2 = rankL cmpS .none_ l x.1 s) (fun x : Nat × Nat => [(6, .int .i64 (x.1 : Int)), (5, .int .i64 (x.2 : Int))]) (fun x : Nat × Nat => []) (fun x : Nat × Nat => l.length - x.1) (0, 0) ⟨Nat.zero_le _, rfl⟩ (sub_cons rfl (sub_cons rfl sub_nil)) (sub_cons rfl (sub_cons rfl (sub_cons rfl sub_nil))) (hs_pick (is := [0]) rfl rfl) ?_
    rintro ⟨r, m⟩ ⟨hr, hm0⟩
    dsimp only at hr hm0 ⊢
    refine c_sub (E' := [(6, _), (5, _), (0, _), (3, _), (4, _)]) (sub_cons rfl (sub_cons rfl (sub_cons rfl (sub_cons rfl (sub_cons rfl sub_nil))))) ?_
    refine c_seq ?_
    refine c_seq ?_
    refine c_region rfl ?_
    refine gv rfl (y_move rfl) ?_
    refine gv rfl (y_move rfl) ?_
    refine gv rfl (y_len elem22 rfl) ?_
    refine gv rfl (y_lss rfl rfl) ?_
    refine l_nil ?_
    refine q_then ?_
    refine c_dec rfl ?_ ?_
    · intro h19
      have hrl : r < l.length := by omega
      obtain ⟨u, hu⟩ := get_lt hrl
      have hrk2 := rank_le l r s
      refine c_skip ?_
      refine q_then ?_
      refine c_seq ?_
      refine c_block ?_
      refine c_seq ?_
      refine c_drawp (l := #[false, false, false, false, false, false, false, false, false, false, false, false, false, false, false, false]) 16 (is := [0]) rfl rfl rfl rfl ?_
      refine h_take (l' := #[true, false, false, false, false, false, false, false, false, false, false, false, false, false, false, false]) 0 rfl (by kernel_rfl) rfl rfl (np_then (np_block (np_then (np_loop (np_block (np_then (np_block (np_then (np_loop (np_block (np_then np_post))))))))))) (hs_pick (is := [0]) rfl rfl) (y_move rfl) ?_
      refine h_take (l' := #[true, true, false, false, false, false, false, false, false, false, false, false, false, false, false, false]) 1 rfl (by kernel_rfl) rfl rfl (np_then (np_block (np_then (np_loop (np_block (np_then (np_block (np_then (np_loop (np_block (np_then np_post))))))))))) (hs_pick (is := [0]) rfl rfl) (y_move rfl) ?_
      refine h_take (l' := #[true, true, true, false, false, false, false, false, false, false, false, false, false, false, false, false]) 2 rfl (by kernel_rfl) rfl rfl (np_then (np_block (np_then (np_loop (np_block (np_then (np_block (np_then (np_loop (np_block (np_then np_post))))))))))) (hs_pick (is := [0]) rfl rfl) (y_neq rfl rfl) ?_
      refine h_take (l' := #[true, true, true, true, false, false, false, false, false, false, false, false, false, false, false, false]) 3 rfl (by kernel_rfl) rfl rfl (np_then (np_block (np_then (np_loop (np_block (np_then (np_block (np_then (np_loop (np_block (np_then np_post))))))))))) (hs_pick (is := [0]) rfl rfl) (y_move rfl) ?_
      refine h_dec (t := 25) rfl ?_ ?_
      · intro h25
        refine h_takeg (t := 25) (l' := #[true, true, true, true, true, false, false, false, false, false, false, false, false, false, false, false]) 4 rfl (by kernel_rfl) rfl rfl (np_then (np_block (np_then (np_loop (np_block (np_then (np_block (np_then (np_loop (np_block (np_then np_post))))))))))) (hs_pick (is := [0]) rfl rfl) rfl rfl (y_move rfl) ?_
        refine h_takeg (t := 25) (l' := #[true, true, true, true, true, true, false, false, false, false, false, false, false, false, false, false]) 5 rfl (by kernel_rfl) rfl rfl (np_then (np_block (np_then (np_loop (np_block (np_then (np_block (np_then (np_loop (np_block (np_then np_post))))))))))) (hs_pick (is := [0]) rfl rfl) rfl rfl (y_move rfl) ?_
        refine h_takege (t := 25) (l' := #[true, true, true, true, true, true, true, false, false, false, false, false, false, false, false, false]) 6 rfl (by kernel_rfl) rfl rfl (np_then (np_block (np_then (np_loop (np_block (np_then (np_block (np_then (np_loop (np_block (np_then np_post))))))))))) (hs_pick (is := [0]) rfl rfl) rfl rfl (y_iaddr elem22 size26 hA rfl rfl rfl (by omega) hu) ?_; rintro _ ⟨p28, rfl, hp28⟩
        refine h_takeg (t := 25) (l' := #[true, true, true, true, true, true, true, true, false, false, false, false, false, false, false, false]) 7 rfl (by kernel_rfl) rfl rfl (np_then (np_block (np_then (np_loop (np_block (np_then (np_block (np_then (np_loop (np_block (np_then np_post))))))))))) (hs_pick (is := [0]) rfl rfl) rfl rfl (y_loadA_el agg26 rfl hp28 rfl) ?_
        refine h_takeg (t := 25) (l' := #[true, true, true, true, true, true, true, true, true, false, false, false, false, false, false, false]) 8 rfl (by kernel_rfl) rfl rfl (np_then (np_block (np_then (np_loop (np_block (np_then (np_block (np_then (np_loop (np_block (np_then np_post))))))))))) (hs_pick (is := [0]) rfl rfl) rfl rfl (y_move rfl) ?_
        refine h_takeg (t := 25) (l' := #[true, true, true, true, true, true, true, true, true, true, false, false, false, false, false, false]) 9 rfl (by kernel_rfl) rfl rfl (np_then (np_block (np_then (np_loop (np_block (np_then (np_block (np_then (np_loop (np_block (np_then np_post))))))))))) (hs_pick (is := [0]) rfl rfl) rfl rfl (y_move rfl) ?_
        refine h_takege (t := 25) (l' := #[true, true, true, true, true, true, true, true, true, true, true, false, false, false, false, false]) 10 rfl (by kernel_rfl) rfl rfl (np_then (np_block (np_then (np_loop (np_block (np_then (np_block (np_then (np_loop (np_block (np_then np_post))))))))))) (hs_pick (is := [0]) rfl rfl) rfl rfl (y_iaddr elem22 size26 hA rfl rfl rfl (by omega) hv) ?_; rintro _ ⟨p32, rfl, hp32⟩
        refine h_takeg (t := 25) (l' := #[true, true, true, true, true, true, true, true, true, true, true, true, false, false, false, false]) 11 rfl (by kernel_rfl) rfl rfl (np_then (np_block (np_then (np_loop (np_block (np_then (np_block (np_then (np_loop (np_block (np_then np_post))))))))))) (hs_pick (is := [0]) rfl rfl) rfl rfl (y_loadA_el agg26 rfl hp32 rfl) ?_
        refine h_takeg (t := 25) (l' := #[true, true, true, true, true, true, true, true, true, true, true, true, true, false, false, false]) 12 rfl (by kernel_rfl) rfl rfl (np_then (np_block (np_then (np_loop (np_block (np_then (np_block (np_then (np_loop (np_block (np_then np_post))))))))))) (hs_pick (is := [0]) rfl rfl) rfl rfl (y_move rfl) ?_
        refine h_takeg (t := 25) (l' := #[true, true, true, true, true, true, true, true, true, true, true, true, true, true, false, false]) 13 rfl (by kernel_rfl) rfl rfl (np_then (np_block (np_then (np_loop (np_block (np_then (np_block (np_then (np_loop (np_block (np_then np_post))))))))))) (hs_pick (is := [0]) rfl rfl) rfl rfl (y_move rfl) ?_
        refine h_only (l' := #[true, true, true, true, true, true, true, true, true, true, true, true, true, true, true, false]) 14 rfl (by kernel_rfl) rfl ?_
        refine g_on (t := 25) rfl rfl ?_
        refine l_callU rfl ent85 rfl (fun w hm => ahead_c (a := u) (b := v) w) ?_
        refine l_nil ?_
        refine q_step (fun _ => hs_pick (is := [0]) rfl rfl) ?_
        refine h_take (l' := #[true, true, true, true, true, true, true, true, true, true, true, true, true, true, true, true]) 15 rfl (by kernel_rfl) rfl rfl (np_then (np_block (np_then (np_loop (np_block (np_then (np_block (np_then (np_loop (np_block (np_then np_post))))))))))) (hs_pick (is := [0]) rfl rfl) (y_pick_t rfl rfl) ?_
        refine h_done (by kernel_rfl) ?_
        refine q_then ?_
        refine c_bool rfl ?_ ?_
        · intro h37
          refine c_region rfl ?_
          refine gv rfl (y_move rfl) ?_
          refine gv rfl (y_add rfl rfl (wrap_in (by omega) (by omega))) ?_
          refine gv rfl (y_assign rfl) ?_
          refine l_nil ?_
          refine q_block (q_then ?_)
          refine c_region rfl ?_
          refine gv rfl (y_move rfl) ?_
          refine gv rfl (y_add rfl rfl (wrap_in (by omega) (by omega))) ?_
          refine gv rfl (y_assign rfl) ?_
          refine l_nil ?_
          exact again (r + 1, m + 1) ⟨Nat.succ_le_of_lt hrl, by dsimp only; rw [rank_succ hu hv, if_pos ⟨by omega, h37⟩, ← hm0]⟩ (by omega) (sub_cons rfl (sub_cons rfl sub_nil)) (sub_cons rfl (sub_cons rfl (sub_cons rfl sub_nil))) (hs_pick (is := [0]) rfl rfl)
        · intro h37
          refine c_skip ?_
          refine q_block (q_then ?_)
          refine c_region rfl ?_
          refine gv rfl (y_move rfl) ?_
          refine gv rfl (y_add rfl rfl (wrap_in (by omega) (by omega))) ?_
          refine gv rfl (y_assign rfl) ?_
          refine l_nil ?_
          exact again (r + 1, m) ⟨Nat.succ_le_of_lt hrl, by dsimp only; rw [rank_succ hu hv, if_neg (by rintro ⟨k1, k2⟩; first | omega | (rw [h37] at k2; cases k2)), ← hm0]; rfl⟩ (by omega) (sub_cons rfl (sub_cons rfl sub_nil)) (sub_cons rfl (sub_cons rfl (sub_cons rfl sub_nil))) (hs_pick (is := [0]) rfl rfl)
      · intro h25
        refine h_off (t := 25) (l' := #[true, true, true, true, true, false, false, false, false, false, false, false, false, false, false, false]) 4 rfl (by kernel_rfl) rfl rfl (np_then (np_block (np_then (np_loop (np_block (np_then (np_block (np_then (np_loop (np_block (np_then np_post))))))))))) (hs_pick (is := [0]) rfl rfl) rfl rfl rfl ?_
        refine h_off (t := 25) (l' := #[true, true, true, true, true, true, false, false, false, false, false, false, false, false, false, false]) 5 rfl (by kernel_rfl) rfl rfl (np_then (np_block (np_then (np_loop (np_block (np_then (np_block (np_then (np_loop (np_block (np_then np_post))))))))))) (hs_pick (is := [0]) rfl rfl) rfl rfl rfl ?_
        refine h_off (t := 25) (l' := #[true, true, true, true, true, true, true, false, false, false, false, false, false, false, false, false]) 6 rfl (by kernel_rfl) rfl rfl (np_then (np_block (np_then (np_loop (np_block (np_then (np_block (np_then (np_loop (np_block (np_then np_post))))))))))) (hs_pick (is := [0]) rfl rfl) rfl rfl rfl ?_
        refine h_off (t := 25) (l' := #[true, true, true, true, true, true, true, true, false, false, false, false, false, false, false, false]) 7 rfl (by kernel_rfl) rfl rfl (np_then (np_block (np_then (np_loop (np_block (np_then (np_block (np_then (np_loop (np_block (np_then np_post))))))))))) (hs_pick (is := [0]) rfl rfl) rfl rfl rfl ?_
        refine h_off (t := 25) (l' := #[true, true, true, true, true, true, true, true, true, false, false, false, false, false, false, false]) 8 rfl (by kernel_rfl) rfl rfl (np_then (np_block (np_then (np_loop (np_block (np_then (np_block (np_then (np_loop (np_block (np_then np_post))))))))))) (hs_pick (is := [0]) rfl rfl) rfl rfl rfl ?_
        refine h_off (t := 25) (l' := #[true, true, true, true, true, true, true, true, true, true, false, false, false, false, false, false]) 9 rfl (by kernel_rfl) rfl rfl (np_then (np_block (np_then (np_loop (np_block (np_then (np_block (np_then (np_loop (np_block (np_then np_post))))))))))) (hs_pick (is := [0]) rfl rfl) rfl rfl rfl ?_
        refine h_off (t := 25) (l' := #[true, true, true, true, true, true, true, true, true, true, true, false, false, false, false, false]) 10 rfl (by kernel_rfl) rfl rfl (np_then (np_block (np_then (np_loop (np_block (np_then (np_block (np_then (np_loop (np_block (np_then np_post))))))))))) (hs_pick (is := [0]) rfl rfl) rfl rfl rfl ?_
        refine h_off (t := 25) (l' := #[true, true, true, true, true, true, true, true, true, true, true, true, false, false, false, false]) 11 rfl (by kernel_rfl) rfl rfl (np_then (np_block (np_then (np_loop (np_block (np_then (np_block (np_then (np_loop (np_block (np_then np_post))))))))))) (hs_pick (is := [0]) rfl rfl) rfl rfl rfl ?_
        refine h_off (t := 25) (l' := #[true, true, true, true, true, true, true, true, true, true, true, true, true, false, false, false]) 12 rfl (by kernel_rfl) rfl rfl (np_then (np_block (np_then (np_loop (np_block (np_then (np_block (np_then (np_loop (np_block (np_then np_post))))))))))) (hs_pick (is := [0]) rfl rfl) rfl rfl rfl ?_
        refine h_off (t := 25) (l' := #[true, true, true, true, true, true, true, true, true, true, true, true, true, true, false, false]) 13 rfl (by kernel_rfl) rfl rfl (np_then (np_block (np_then (np_loop (np_block (np_then (np_block (np_then (np_loop (np_block (np_then np_post))))))))))) (hs_pick (is := [0]) rfl rfl) rfl rfl rfl ?_
        refine h_only (l' := #[true, true, true, true, true, true, true, true, true, true, true, true, true, true, true, false]) 14 rfl (by kernel_rfl) rfl ?_
        refine g_off (t := 25) rfl rfl rfl rfl ?_
        refine l_nil ?_
        refine q_step (fun _ => hs_pick (is := [0]) rfl rfl) ?_
        refine h_take (l' := #[true, true, true, true, true, true, true, true, true, true, true, true, true, true, true, true]) 15 rfl (by kernel_rfl) rfl rfl (np_then (np_block (np_then (np_loop (np_block (np_then (np_block (np_then (np_loop (np_block (np_then np_post))))))))))) (hs_pick (is := [0]) rfl rfl) (y_pick_f rfl rfl) ?_
        refine h_done (by kernel_rfl) ?_
        refine q_then ?_
        refine c_cond_f rfl ?_
        refine c_skip ?_
        refine q_block (q_then ?_)
        refine c_region rfl ?_
        refine gv rfl (y_move rfl) ?_
        refine gv rfl (y_add rfl rfl (wrap_in (by omega) (by omega))) ?_
        refine gv rfl (y_assign rfl) ?_
        refine l_nil ?_
        exact again (r + 1, m) ⟨Nat.succ_le_of_lt hrl, by dsimp only; rw [rank_succ hu hv, if_neg (by rintro ⟨k1, k2⟩; first | omega | (rw [h37] at k2; cases k2)), ← hm0]; rfl⟩ (by omega) (sub_cons rfl (sub_cons rfl sub_nil)) (sub_cons rfl (sub_cons rfl (sub_cons rfl sub_nil))) (hs_pick (is := [0]) rfl rfl)
    · intro h19
      refine c_exit ?_
      refine q_then_exit (q_loop_exit (q_block_exit (q_then ?_)))
      have hm1 : m = rankL cmpS .none_ l l.length s := by rw [hm0]; rw [show r = l.length by omega]
      have hol := outS_len l s
      have hrk := rank_lt (l := l) hlt
      have hfl := flat_len Ck.len13 (outS l s)
      refine c_rowopen (k := 0) rfl (flat_ne Ck.len13 (by decide) (i := s) (by omega)) ?_
      intro g0 R0 hAe hx1 hx2 hnc hcm
      subst hAe
      refine c_region rfl ?_
      refine gv rfl (y_move rfl) ?_
      refine gv rfl (y_move rfl) ?_
      refine gv rfl (y_move rfl) ?_
      refine gv rfl (y_move rfl) ?_
      refine gve rfl (y_iaddr elem22 size26 hA rfl rfl rfl (by omega) hv) ?_; rintro _ ⟨p44, rfl, hp44⟩
      refine gv rfl (y_loadA_el agg26 rfl hp44 rfl) ?_
      refine gv rfl (y_iaddr_own (r := (m * 13)) elem22 size26 rfl rfl (by omega) (by omega) (by simp)) ?_
      refine l_storeA (k := 0) (cs' := (rowF Ck.cells ((outS l s).set m v) R0)) (H' := [_]) size26 rfl rfl rfl rfl rfl (by rw [List.size_toArray, List.length_append, hfl]; omega) (by exact rowF_set (v := v) Ck.len13 (by omega)) rfl ?_
      refine l_nil ?_
      refine q_block (q_then ?_)
      refine c_rowclose (k := 0) (n := 0 + l.length) (c := c9) (sz := 13) (xs := ((outS l s).set m v).flatMap Ck.cells) rfl (by rw [rowF_len Ck.len13, List.length_set]; omega) hnc hcm (rowF_all Ck.len13 (by rw [List.length_set]; omega)) ?_
      refine c_region rfl ?_
      refine gv rfl (y_move rfl) ?_
      refine gv rfl (y_add rfl rfl (wrap_in (by omega) (by omega))) ?_
      refine gv rfl (y_assign rfl) ?_
      refine l_nil ?_
      rw [show (outS l s).set m v = outS l (s + 1) by rw [outS, ← hm1, getD_of_get hv]]
      exact again (s + 1) (by omega) (by omega) (sub_cons rfl sub_nil) (sub_cons rfl (sub_cons rfl sub_nil)) (hs_pick (is := [0]) rfl rfl)
  · intro h13
    refine c_exit ?_
    refine q_then_exit (q_loop_exit (q_block_exit (q_then ?_)))
    refine c_seq ?_
    refine c_region rfl ?_
    refine gv rfl (y_move rfl) ?_
    refine gv rfl (y_assign rfl) ?_
    refine l_nil ?_
    refine q_then ?_
    refine c_ret ?_
    have eS : s = l.length := by omega
    have eL : 0 + l.length = (sortC l).length := by unfold sortC; rw [sortL_len]; omega
    exact q_ret1 Tryz.results49 rfl (A9, c9) trivial (by rw [eL]) (by rw [← eL, ← outS_end l, eS]; exact hs_pick (is := [0]) rfl rfl)


theorem getOf_c {j : Ja} {f : Fr} {now : Int} {A0 : Option Addr} {k0 : Nat} (w : World) (hJ : Sl Ck.cells 13 w A0 j.cks) (hj : j.ok) (hf : f.host.length ≤ 1073741824) (hp : f.path.length ≤ 1073741824) : Ct Tryz.prog 17 #[.agg (j.arr A0 k0), .agg f.arr, .int .i64 now] w (fun x : (Option Addr × Nat) × (Option Addr × Nat) => .tuple #[.agg #[.slice x.1.1 (getJ addrF j f now).cks.length x.1.2, .int .i64 (getJ addrF j f now).next], .slice x.2.1 (getL addrF j f now).length x.2.2, .int .i64 (getE j f now)]) (fun x => [.row (.slice x.1.1 (getJ addrF j f now).cks.length x.1.2) 26 13 (getJ addrF j f now).cks.length ((getJ addrF j f now).cks.flatMap Ck.cells), .row (.slice x.2.1 (getL addrF j f now).length x.2.2) 26 13 (getL addrF j f now).length ((getL addrF j f now).flatMap Ck.cells)]) (fun _ => True) := by
  refine enter (E := [(0, .agg (j.arr A0 k0)), (1, .agg f.arr), (2, .int .i64 now)]) Tryz.func17 rfl Tryz.ntmps17 rfl (by simp) ?_
  refine c_nilrow 26 13 ?_
  refine c_nilrow 26 13 ?_
  have hjl := hj.1
  refine c_seq ?_
  refine c_region rfl ?_
  refine l_boxA rfl rfl ?_; intro g3
  refine l_boxA rfl rfl ?_; intro g4
  refine l_allocA rfl zero24 ?_; intro g6
  refine gv rfl (y_assign rfl) ?_
  refine gv rfl (y_assign rfl) ?_
  refine l_nil ?_
  refine q_then ?_
  refine c_seq ?_
  refine c_region rfl ?_
  refine gv rfl (y_loadW (k := 2)  agg24 rfl rfl rfl) ?_
  refine l_callU rfl ent14 rfl (fun w hm => refCheck_c w (hJ.below hm.below) hj.1) ?_
  refine gv rfl (y_assign rfl) ?_
  refine l_nil ?_
  refine q_then ?_
  refine c_seq ?_
  refine c_seq ?_
  refine c_region rfl ?_
  refine gv rfl (y_move rfl) ?_
  refine gv rfl (y_eql rfl rfl) ?_
  refine l_nil ?_
  refine q_then ?_
  refine c_dec rfl ?_ ?_
  · intro h17
    refine c_region rfl ?_
    refine gv rfl (y_loadW (k := 1)  agg35 rfl rfl rfl) ?_
    refine gv rfl (y_move rfl) ?_
    refine l_callU rfl ent47 rfl (fun w hm => readyOf_c (f := f) w hf hp) ?_
    refine gv rfl (y_assign rfl) ?_
    refine l_nil ?_
    refine q_then ?_
    refine c_seq ?_
    refine c_seq ?_
    refine c_region rfl ?_
    refine gv rfl (y_move rfl) ?_
    refine gv rfl (y_neq rfl rfl) ?_
    refine l_nil ?_
    refine q_then ?_
    refine c_dec rfl ?_ ?_
    · intro h22
      refine c_seq ?_
      refine c_region rfl ?_
      refine gv rfl (y_build (cs := #[_, _]) (cl := [_, _])  zero24 bld24 rfl rfl rfl rfl rfl) ?_
      refine gv rfl (y_move rfl) ?_
      refine l_storeW (k := 0) (H' := [_, _, _, _, _]) size24 rfl rfl rfl rfl rfl rfl rfl ?_
      refine gv rfl (y_assign rfl) ?_
      refine gv rfl (y_assign rfl) ?_
      refine l_nil ?_
      refine q_then ?_
      refine c_ret ?_
      refine q_then_ret ?_
      have eE : getE j f now = readyE f now := by unfold getE; rw [if_neg (fun h => h h17)]
      have eJ : getJ addrF j f now = ⟨[], 0⟩ := if_pos (by rw [eE]; exact h22)
      have eL : getL addrF j f now = [] := if_pos (by rw [eE]; exact h22)
      exact q_retA2 (k := 0) Tryz.results17 agg24 rfl rfl rfl rfl rfl ((none, 0), (none, 0)) trivial (by rw [eE, eJ, eL] <;> rfl) (by rw [eJ, eL]; exact hs_pick (is := [4, 3]) rfl rfl)
    · intro h22
      have hz : jarErr j = 0 := h17
      refine c_skip ?_
      refine q_then ?_
      refine c_seq ?_
      refine c_region rfl ?_
      refine gv rfl (y_faddr off24_1 rfl rfl) ?_
      refine gv rfl (y_load (k := 2)  one3 rfl rfl rfl) ?_
      refine gv rfl (y_build (cs := #[_, _]) (cl := [_, _])  zero24 bld24 rfl rfl rfl rfl rfl) ?_
      refine l_allocA rfl zero24 ?_; intro g10
      refine l_storeW (k := 0) (H' := [_, _, _, _, _, _]) size24 rfl rfl rfl rfl rfl rfl rfl ?_
      refine l_nil ?_
      refine q_then ?_
      refine c_seq ?_
      refine c_region rfl ?_
      refine gv rfl (y_assign rfl) ?_
      refine l_nil ?_
      refine q_then ?_
      refine c_seq ?_
      refine c_seq ?_
      refine c_region rfl ?_
      refine gv rfl (y_assign rfl) ?_
      refine l_nil ?_
      refine q_then ?_
      refine c_block ?_
      refine loop (Ef := [(2, _), (3, _), (4, _), (6, _), (10, _)]) (Hf := [_, _, _]) (fun x : Nat × (Option Addr × Nat) × (Option Addr × Nat) => x.1 ≤ j.cks.length) (fun x : Nat × (Option Addr × Nat) × (Option Addr × Nat) => [(12, .int .i64 (x.1 : Int)), (11, .slice x.2.1.1 (toldL addrF f now (j.cks.take x.1)).length x.2.1.2)]) (fun x : Nat × (Option Addr × Nat) × (Option Addr × Nat) => [.blk g10 (.cells #[.slice x.2.2.1 (usedL addrF f now (j.cks.take x.1)).length x.2.2.2, .int .i64 j.next] 24 (0, 0)), .row (.slice x.2.2.1 (usedL addrF f now (j.cks.take x.1)).length x.2.2.2) 26 13 (usedL addrF f now (j.cks.take x.1)).length ((usedL addrF f now (j.cks.take x.1)).flatMap Ck.cells), .row (.slice x.2.1.1 (toldL addrF f now (j.cks.take x.1)).length x.2.1.2) 26 13 (toldL addrF f now (j.cks.take x.1)).length ((toldL addrF f now (j.cks.take x.1)).flatMap Ck.cells)]) (fun x : Nat × (Option Addr × Nat) × (Option Addr × Nat) => j.cks.length - x.1) (0, (none, 0), (none, 0)) (Nat.zero_le _) (sub_cons rfl (sub_cons rfl sub_nil)) (sub_cons rfl (sub_cons rfl (sub_cons rfl (sub_cons rfl (sub_cons rfl sub_nil))))) (hs_pick (is := [0, 5, 4, 1, 2, 3]) rfl rfl) ?_
      rintro ⟨s, ⟨A11, k11⟩, ⟨A10, k10⟩⟩ hs
      dsimp only at hs ⊢
      refine c_sub (E' := [(12, _), (11, _), (2, _), (3, _), (4, _), (6, _), (10, _)]) (sub_cons rfl (sub_cons rfl (sub_cons rfl (sub_cons rfl (sub_cons rfl (sub_cons rfl (sub_cons rfl sub_nil))))))) ?_
      refine c_seq ?_
      refine c_seq ?_
      refine c_region rfl ?_
      refine gv rfl (y_move rfl) ?_
      refine gv rfl (y_faddr off24_0 rfl rfl) ?_
      refine gv rfl (y_load (k := 5)  one22 rfl rfl rfl) ?_
      refine gv rfl (y_len elem22 rfl) ?_
      refine gv rfl (y_lss rfl rfl) ?_
      refine l_nil ?_
      refine q_then ?_
      refine c_dec rfl ?_ ?_
      · intro h32
        have hlt : s < j.cks.length := by omega
        obtain ⟨v, hv⟩ := get_lt hlt
        have hvk := hj.2.1 v (List.mem_of_getElem? hv)
        have hvx := (hj.2.2 v (List.mem_of_getElem? hv)).1
        have htl := toldL_len (ad := addrF) (f := f) (now := now) (j.cks.take s)
        have htu := usedL_len (ad := addrF) (f := f) (now := now) (j.cks.take s)
        have htk := List.length_take_le s j.cks
        refine c_skip ?_
        refine q_then ?_
        refine c_seq ?_
        refine c_block ?_
        refine c_seq ?_
        refine c_region rfl ?_
        refine gv rfl (y_faddr off24_0 rfl rfl) ?_
        refine gv rfl (y_load (k := 5)  one22 rfl rfl rfl) ?_
        refine gv rfl (y_move rfl) ?_
        refine gve rfl (y_iaddr elem22 size26 hJ rfl rfl rfl (by omega) hv) ?_; rintro _ ⟨p38, rfl, hp38⟩
        refine gv rfl (y_loadA_el agg26 rfl hp38 rfl) ?_
        refine l_allocA rfl zero26 ?_; intro g13
        refine l_storeW (k := 0) (H' := [_, _, _, _, _, _, _]) size26 rfl rfl rfl rfl rfl rfl rfl ?_
        refine l_nil ?_
        refine q_then ?_
        refine c_seq ?_
        refine c_seq ?_
        refine c_region rfl ?_
        refine gv rfl (y_loadW (k := 0)  agg26 rfl rfl rfl) ?_
        refine gv rfl (y_loadW (k := 5)  agg35 rfl rfl rfl) ?_
        refine gv rfl (y_move rfl) ?_
        refine l_callU rfl ent48 rfl (fun w hm => goesOf_c (c := v) (f := f) w hf hp hvk.2 hvx) ?_
        refine l_nil ?_
        refine q_then ?_
        refine c_bool rfl ?_ ?_
        · intro h43
          refine c_seq ?_
          refine c_region rfl ?_
          refine gv rfl (y_move rfl) ?_
          refine gv rfl (y_faddr off26_11 rfl rfl) ?_
          refine l_store (k := 0) (cs' := ({ v with used := now } : Ck).arr) (H' := [_, _, _, _, _, _, _]) size3 rfl rfl rfl rfl rfl rfl rfl ?_
          refine l_nil ?_
          refine q_then ?_
          refine c_region rfl ?_
          refine gv rfl (y_move rfl) ?_
          refine gv rfl (y_loadW (k := 0)  agg26 rfl rfl rfl) ?_
          refine l_bslice (cl := [_, _, _, _, _, _, _, _, _, _, _, _, _]) rfl elem22 ap26 zero26 rfl rfl rfl rfl rfl rfl rfl ?_; intro g48
          refine l_append (k := 4) (j := 0) (zs := ((toldL addrF f now (j.cks.take s)) ++ [{ v with used := now }]).flatMap Ck.cells) rfl elem22 ap26 rfl rfl rfl rfl rfl rfl (by omega) (by omega) (by exact app_one (c := { v with used := now })) ?_; intro A49 c49
          refine gv rfl (y_assign rfl) ?_
          refine l_nil ?_
          refine q_then ?_
          refine c_region rfl ?_
          refine gv rfl (y_faddr off24_0 rfl rfl) ?_
          refine gv rfl (y_load (k := 2)  one22 rfl rfl rfl) ?_
          refine gv rfl (y_loadW (k := 1)  agg26 rfl rfl rfl) ?_
          refine l_bslice (cl := [_, _, _, _, _, _, _, _, _, _, _, _, _]) rfl elem22 ap26 zero26 rfl rfl rfl rfl rfl rfl rfl ?_; intro g53
          refine l_append (k := 4) (j := 0) (zs := ((usedL addrF f now (j.cks.take s)) ++ [{ v with used := now }]).flatMap Ck.cells) rfl elem22 ap26 rfl rfl rfl rfl rfl rfl (by omega) (by omega) (by exact app_one (c := { v with used := now })) ?_; intro A54 c54
          refine gv rfl (y_faddr off24_0 rfl rfl) ?_
          refine l_store (k := 3) (cs' := #[_, _]) (H' := [_, _, _, _, _, _, _, _, _]) size22 rfl rfl rfl rfl rfl rfl rfl ?_
          refine l_nil ?_
          refine q_block (q_then ?_)
          refine c_region rfl ?_
          refine gv rfl (y_move rfl) ?_
          refine gv rfl (y_add rfl rfl (wrap_in (by omega) (by omega))) ?_
          refine gv rfl (y_assign rfl) ?_
          refine l_nil ?_
          rw [← len_snoc (toldL addrF f now (j.cks.take s)) { v with used := now }, ← toldL_yes hv h43, ← len_snoc (usedL addrF f now (j.cks.take s)) { v with used := now }, ← usedL_yes hv h43]
          exact again (s + 1, (A49, c49), (A54, c54)) (Nat.succ_le_of_lt hlt) (by omega) (sub_cons rfl (sub_cons rfl sub_nil)) (sub_cons rfl (sub_cons rfl (sub_cons rfl (sub_cons rfl (sub_cons rfl sub_nil))))) (hs_pick (is := [3, 4, 5, 6, 7, 8]) rfl rfl)
        · intro h43
          refine c_skip ?_
          refine q_then ?_
          refine c_region rfl ?_
          refine gv rfl (y_faddr off24_0 rfl rfl) ?_
          refine gv rfl (y_load (k := 1)  one22 rfl rfl rfl) ?_
          refine gv rfl (y_loadW (k := 0)  agg26 rfl rfl rfl) ?_
          refine l_bslice (cl := [_, _, _, _, _, _, _, _, _, _, _, _, _]) rfl elem22 ap26 zero26 rfl rfl rfl rfl rfl rfl rfl ?_; intro g53
          refine l_append (k := 3) (j := 0) (zs := ((usedL addrF f now (j.cks.take s)) ++ [v]).flatMap Ck.cells) rfl elem22 ap26 rfl rfl rfl rfl rfl rfl (by omega) (by omega) (by exact app_one (c := v)) ?_; intro A54 c54
          refine gv rfl (y_faddr off24_0 rfl rfl) ?_
          refine l_store (k := 2) (cs' := #[_, _]) (H' := [_, _, _, _, _, _, _, _]) size22 rfl rfl rfl rfl rfl rfl rfl ?_
          refine l_nil ?_
          refine q_block (q_then ?_)
          refine c_region rfl ?_
          refine gv rfl (y_move rfl) ?_
          refine gv rfl (y_add rfl rfl (wrap_in (by omega) (by omega))) ?_
          refine gv rfl (y_assign rfl) ?_
          refine l_nil ?_
          rw [← toldL_no hv h43, ← len_snoc (usedL addrF f now (j.cks.take s)) v, ← usedL_no hv h43]
          exact again (s + 1, (A11, k11), (A54, c54)) (Nat.succ_le_of_lt hlt) (by omega) (sub_cons rfl (sub_cons rfl sub_nil)) (sub_cons rfl (sub_cons rfl (sub_cons rfl (sub_cons rfl (sub_cons rfl sub_nil))))) (hs_pick (is := [2, 3, 4, 5, 6, 7]) rfl rfl)
      · intro h32
        have eT : j.cks.take s = j.cks := List.take_of_length_le (by omega)
        rw [eT]
        have htl := toldL_len (ad := addrF) (f := f) (now := now) j.cks
        refine c_exit ?_
        refine q_then_exit (q_loop_exit (q_block_exit (q_then ?_)))
        refine c_seq ?_
        refine c_drawp (l := #[false, false, false, false, false, false]) 6 (is := [0, 1, 2, 4, 5]) rfl rfl rfl rfl ?_
        refine h_take (l' := #[true, false, false, false, false, false]) 0 rfl (by kernel_rfl) rfl rfl (np_then np_post) (hs_pick (is := [0, 1, 2, 4, 5]) rfl rfl) (y_loadW (k := 0)  agg24 rfl rfl rfl) ?_
        refine h_take (l' := #[true, true, false, false, false, false]) 1 rfl (by kernel_rfl) rfl rfl (np_then np_post) (hs_pick (is := [0, 1, 2, 4, 5]) rfl rfl) (y_move rfl) ?_
        refine h_only (l' := #[true, true, true, false, false, false]) 2 rfl (by kernel_rfl) rfl ?_
        refine l_call rfl ent49 rfl (fun w hm => sortOf_c (l := toldL addrF f now j.cks) w (sl_of_row hm (k := 2) rfl (fun _ => rfl) rfl) (by omega) (fun h => row_nilcap hm (k := 2) rfl h)) ?_; rintro x58 h58
        refine l_nil ?_
        refine q_step (fun _ => hs_pick (is := [1, 2, 3, 5, 6]) rfl rfl) ?_
        refine h_only (l' := #[true, true, true, true, false, false]) 3 rfl (by kernel_rfl) rfl ?_
        refine l_storeW (k := 4) (H' := [_, _, _, _, _, _, _]) size24 rfl rfl rfl rfl rfl rfl rfl ?_
        refine l_nil ?_
        refine q_step (fun _ => hs_pick (is := [1, 2, 3, 5, 6]) rfl rfl) ?_
        refine h_take (l' := #[true, true, true, true, true, false]) 4 rfl (by kernel_rfl) rfl rfl (np_then np_post) (hs_pick (is := [1, 2, 3, 5, 6]) rfl rfl) (y_assign rfl) ?_
        refine h_take (l' := #[true, true, true, true, true, true]) 5 rfl (by kernel_rfl) rfl rfl (np_then np_post) (hs_pick (is := [1, 2, 3, 5, 6]) rfl rfl) (y_assign rfl) ?_
        refine h_done (by kernel_rfl) ?_
        refine q_then ?_
        refine c_ret ?_
        have eE : getE j f now = 0 := by unfold getE; rw [if_neg (fun h => h h17)]; omega
        have eJ : getJ addrF j f now = ⟨usedL addrF f now j.cks, j.next⟩ := if_neg (by rw [eE]; simp)
        have eL : getL addrF j f now = sortC (toldL addrF f now j.cks) := if_neg (by rw [eE]; simp)
        exact q_retA2 (k := 4) Tryz.results17 agg24 rfl rfl rfl rfl rfl ((A10, k10), x58) trivial (by rw [eE, eJ, eL] <;> rfl) (by rw [eJ, eL]; exact hs_pick (is := [2, 0]) rfl rfl)
  · intro h17
    refine c_skip ?_
    refine q_then ?_
    refine c_seq ?_
    refine c_seq ?_
    refine c_region rfl ?_
    refine gv rfl (y_move rfl) ?_
    refine gv rfl (y_neq rfl rfl) ?_
    refine l_nil ?_
    refine q_then ?_
    refine c_dec rfl ?_ ?_
    · intro h22
      refine c_seq ?_
      refine c_region rfl ?_
      refine gv rfl (y_build (cs := #[_, _]) (cl := [_, _])  zero24 bld24 rfl rfl rfl rfl rfl) ?_
      refine gv rfl (y_move rfl) ?_
      refine l_storeW (k := 0) (H' := [_, _, _, _, _]) size24 rfl rfl rfl rfl rfl rfl rfl ?_
      refine gv rfl (y_assign rfl) ?_
      refine gv rfl (y_assign rfl) ?_
      refine l_nil ?_
      refine q_then ?_
      refine c_ret ?_
      refine q_then_ret ?_
      have eE : getE j f now = jarErr j := if_pos h22
      have eJ : getJ addrF j f now = ⟨[], 0⟩ := if_pos (by rw [eE]; exact h22)
      have eL : getL addrF j f now = [] := if_pos (by rw [eE]; exact h22)
      exact q_retA2 (k := 0) Tryz.results17 agg24 rfl rfl rfl rfl rfl ((none, 0), (none, 0)) trivial (by rw [eE, eJ, eL] <;> rfl) (by rw [eJ, eL]; exact hs_pick (is := [4, 3]) rfl rfl)
    · intro h22
      exact (h22 h17).elim


theorem jarGets_c {j : Ja} {f : Fr} {now : Int} {A0 : Option Addr} {k0 : Nat} (w : World) (hAd : AddrIs Tryz.prog 107 w addrF) (had : addrF wsh = false) (hJ : Sl Ck.cells 13 w A0 j.cks) (hj : j.ok) (hk0 : A0 = none → k0 = 0) (hf : f.host.length ≤ 1073741824) (hp : f.path.length ≤ 1073741824) : Cv Tryz.prog 4 #[.agg (j.arr A0 k0), .agg f.arr, .int .i64 now] w (.bool true) := by
  refine enter (E := [(0, .agg (j.arr A0 k0)), (1, .agg f.arr), (2, .int .i64 now)]) Tryz.func4 rfl Tryz.ntmps4 rfl (by simp) ?_
  have hok := getJ_ok (ad := addrF) (f := f) (now := now) hj
  have hjl := hj.1
  have hgl : (getL addrF j f now).length ≤ 9223372036854775806 := by
    by_cases hz : getE j f now = 0
    · rw [(getE_ok (ad := addrF) hz).2.2.2]; have h1 := toldL_len (ad := addrF) (f := f) (now := now) j.cks; unfold sortC; rw [sortL_len]; omega
    · rw [(get_bad (ad := addrF) hz).2]; simp
  refine c_seq ?_
  refine c_region rfl ?_
  refine l_boxA rfl rfl ?_; intro g3
  refine l_boxA rfl rfl ?_; intro g4
  refine gv rfl (y_assign rfl) ?_
  refine l_nil ?_
  refine q_then ?_
  refine c_seq ?_
  refine c_region rfl ?_
  refine gv rfl (y_loadW (k := 1)  agg24 rfl rfl rfl) ?_
  refine gv rfl (y_loadW (k := 0)  agg35 rfl rfl rfl) ?_
  refine gv rfl (y_move rfl) ?_
  refine l_call rfl ent16 rfl (fun w hm => get_c (j := j) (f := f) w (hAd.above hm.below) (hJ.below hm.below) hj hk0 hf) ?_; rintro x17 h17
  refine gv rfl (y_move rfl) ?_
  refine gv rfl (y_extract rfl rfl) ?_
  refine gv rfl (y_extract rfl rfl) ?_
  refine gv rfl (y_extract rfl rfl) ?_
  refine l_allocA rfl zero24 ?_; intro g7
  refine l_storeW (k := 0) (H' := [_, _, _, _, _]) size24 rfl rfl rfl rfl rfl rfl rfl ?_
  refine gv rfl (y_assign rfl) ?_
  refine gv rfl (y_assign rfl) ?_
  refine l_nil ?_
  refine q_then ?_
  refine c_seq ?_
  refine c_region rfl ?_
  refine gv rfl (y_loadW (k := 4)  agg24 rfl rfl rfl) ?_
  refine gv rfl (y_loadW (k := 3)  agg35 rfl rfl rfl) ?_
  refine gv rfl (y_move rfl) ?_
  refine l_call rfl ent17 rfl (fun w hm => getOf_c (j := j) (f := f) w (hJ.below hm.below) hj hf hp) ?_; rintro x25 h25
  refine gv rfl (y_move rfl) ?_
  refine gv rfl (y_extract rfl rfl) ?_
  refine gv rfl (y_extract rfl rfl) ?_
  refine gv rfl (y_extract rfl rfl) ?_
  refine l_allocA rfl zero24 ?_; intro g10
  refine l_storeW (k := 0) (H' := [_, _, _, _, _, _, _, _]) size24 rfl rfl rfl rfl rfl rfl rfl ?_
  refine gv rfl (y_assign rfl) ?_
  refine gv rfl (y_assign rfl) ?_
  refine l_nil ?_
  refine q_then ?_
  refine c_seq ?_
  refine c_region rfl ?_
  refine l_callU rfl ent12 rfl (fun w hm => jarBegun_c w (hAd.above hm.below) had) ?_
  refine gv rfl (y_move rfl) ?_
  refine g_on (t := 30) rfl rfl ?_
  refine gv rfl (y_loadW (k := 3)  agg24 rfl rfl rfl) ?_
  refine g_on (t := 30) rfl rfl ?_
  refine gv rfl (y_loadW (k := 0)  agg24 rfl rfl rfl) ?_
  refine g_on (t := 30) rfl rfl ?_
  refine l_callU rfl ent15 rfl (fun w hm => sameJa_c (j := (getJ addrF j f now)) (h := (getJ addrF j f now)) w (sl_of_row hm (k := 4) rfl (fun _ => rfl) rfl) (sl_of_row hm (k := 1) rfl (fun _ => rfl) rfl) hok.1) ?_
  refine gv rfl (y_pick_t rfl rfl) ?_
  refine gv rfl (y_move rfl) ?_
  refine g_bool (t := 35) rfl ?_ ?_
  · intro h35
    refine g_on (t := 35) rfl rfl ?_
    refine gv rfl (y_move rfl) ?_
    refine g_on (t := 35) rfl rfl ?_
    refine gv rfl (y_move rfl) ?_
    refine g_on (t := 35) rfl rfl ?_
    refine l_callU rfl ent18 rfl (fun w hm => sameCks_c (l := (getL addrF j f now)) (m := (getL addrF j f now)) w (sl_of_row hm (k := 5) rfl (fun _ => rfl) rfl) (sl_of_row hm (k := 2) rfl (fun _ => rfl) rfl) hgl) ?_
    refine gv rfl (y_pick_t rfl rfl) ?_
    refine gv rfl (y_move rfl) ?_
    refine g_dec (t := 40) rfl ?_ ?_
    · intro h40
      refine g_on (t := 40) rfl rfl ?_
      refine gv rfl (y_move rfl) ?_
      refine g_on (t := 40) rfl rfl ?_
      refine gv rfl (y_move rfl) ?_
      refine g_on (t := 40) rfl rfl ?_
      refine gv rfl (y_eql rfl rfl) ?_
      refine gv rfl (y_pick_t rfl rfl) ?_
      refine gv rfl (y_assign rfl) ?_
      refine l_nil ?_
      refine q_then ?_
      refine c_ret ?_
      exact q_ret1 Tryz.results4 rfl () trivial (congrArg Value.bool (decide_eq_true rfl)) hs_nil
    · intro h40
      exact absurd rfl h40
  · intro h35
    simp at h35

end Go.Gx
