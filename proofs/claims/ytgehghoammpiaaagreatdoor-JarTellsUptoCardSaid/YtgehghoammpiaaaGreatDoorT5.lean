/- This text proves: functions of the program, walked: what each answers, for every input. No condition beyond those that each theorem names. -/
import Derived.Test.YtgehghoammpiaaaGreatDoorProg
import Derived.Test.YtgehghoammpiaaaGreatDoorT4
import Derived.Test.YtgehghoammpiaaaGreatDoorGy6
import Derived.KernelRfl
namespace Go.Gx
open Go.Proofs Go.Maps
theorem boolT4 : boolT Tryz.prog 4 = true := by kernel_rfl
theorem ent123 : enters Tryz.prog 123 = true := by kernel_rfl
theorem ent102 : enters Tryz.prog 102 = true := by kernel_rfl
theorem ent103 : enters Tryz.prog 103 = true := by kernel_rfl
theorem ent124 : enters Tryz.prog 124 = true := by kernel_rfl
theorem ent104 : enters Tryz.prog 104 = true := by kernel_rfl
theorem ent118 : enters Tryz.prog 118 = true := by kernel_rfl
theorem ent96 : enters Tryz.prog 96 = true := by kernel_rfl
theorem off82_1 : fieldOff Tryz.prog 82 1 = some 5 := by kernel_rfl
theorem off26_4 : fieldOff Tryz.prog 26 4 = some 4 := by kernel_rfl
theorem off82_0 : fieldOff Tryz.prog 82 0 = some 0 := by kernel_rfl
theorem off35_0 : fieldOff Tryz.prog 35 0 = some 0 := by kernel_rfl
theorem off35_1 : fieldOff Tryz.prog 35 1 = some 1 := by kernel_rfl
theorem ent87 : enters Tryz.prog 87 = true := by kernel_rfl
theorem off26_5 : fieldOff Tryz.prog 26 5 = some 5 := by kernel_rfl
theorem off35_2 : fieldOff Tryz.prog 35 2 = some 2 := by kernel_rfl
theorem off26_6 : fieldOff Tryz.prog 26 6 = some 6 := by kernel_rfl
theorem off35_3 : fieldOff Tryz.prog 35 3 = some 3 := by kernel_rfl
theorem off35_4 : fieldOff Tryz.prog 35 4 = some 4 := by kernel_rfl
theorem off26_8 : fieldOff Tryz.prog 26 8 = some 8 := by kernel_rfl

theorem let1_c {c : Int} (w : World) : Cv Tryz.prog 103 #[.int .i32 c] w (.bool (badR c)) := by
  refine enter (E := [(0, .int .i32 c)]) Tryz.func103 rfl Tryz.ntmps103 rfl (by simp) ?_
  refine c_seq ?_
  refine c_region rfl ?_
  refine gv rfl (y_assign rfl) ?_
  refine l_nil ?_
  refine q_then ?_
  refine c_seq ?_
  refine c_region rfl ?_
  refine gv rfl (y_move rfl) ?_
  refine gv rfl (y_lss rfl rfl) ?_
  refine gv rfl (y_move rfl) ?_
  refine g_dec (t := 5) rfl ?_ ?_
  · intro h5
    refine g_on (t := 5) rfl rfl ?_
    refine gv rfl (y_move rfl) ?_
    refine g_on (t := 5) rfl rfl ?_
    refine gv rfl (y_neq rfl rfl) ?_
    refine gv rfl (y_pick_t rfl rfl) ?_
    refine gv rfl (y_move rfl) ?_
    refine g_dec (t := 9) rfl ?_ ?_
    · intro h9
      refine g_off (t := 9) rfl rfl rfl rfl ?_
      refine g_off (t := 9) rfl rfl rfl rfl ?_
      refine gv rfl (y_pick_t rfl rfl) ?_
      refine gv rfl (y_assign rfl) ?_
      refine l_nil ?_
      refine q_then ?_
      refine c_ret ?_
      exact q_ret1 Tryz.results103 rfl () trivial (congrArg Value.bool (by simp only [badR]; rw [eq_comm]; (try simp only [decide_eq_true_eq, decide_eq_false_iff_not]); first | omega | (simp; omega) | (apply decide_eq_decide.2; omega))) hs_nil
    · intro h9
      refine g_on (t := 9) rfl rfl ?_
      refine gv rfl (y_move rfl) ?_
      refine g_on (t := 9) rfl rfl ?_
      refine gv rfl (y_eql rfl rfl) ?_
      refine gv rfl (y_pick_f rfl rfl) ?_
      refine gv rfl (y_assign rfl) ?_
      refine l_nil ?_
      refine q_then ?_
      refine c_ret ?_
      exact q_ret1 Tryz.results103 rfl () trivial (congrArg Value.bool (by simp only [badR]; rw [eq_comm]; (try simp only [decide_eq_true_eq, decide_eq_false_iff_not]); first | omega | (simp; omega) | (apply decide_eq_decide.2; omega))) hs_nil
  · intro h5
    refine g_off (t := 5) rfl rfl rfl rfl ?_
    refine g_off (t := 5) rfl rfl rfl rfl ?_
    refine gv rfl (y_pick_f rfl rfl) ?_
    refine gv rfl (y_move rfl) ?_
    refine g_on (t := 9) rfl rfl ?_
    refine gv rfl (y_move rfl) ?_
    refine g_on (t := 9) rfl rfl ?_
    refine gv rfl (y_eql rfl rfl) ?_
    refine gv rfl (y_pick_f rfl rfl) ?_
    refine gv rfl (y_assign rfl) ?_
    refine l_nil ?_
    refine q_then ?_
    refine c_ret ?_
    exact q_ret1 Tryz.results103 rfl () trivial (congrArg Value.bool (by simp only [badR]; rw [eq_comm]; (try simp only [decide_eq_true_eq, decide_eq_false_iff_not]); first | omega | (simp; omega) | (apply decide_eq_decide.2; omega))) hs_nil

theorem sIndexFn_c {l : List UInt8} {fv : Value} (w : World) (F : ∀ c : Int, FnV Tryz.prog w fv [.int .i32 c] (.bool (badR c))) : Cv Tryz.prog 123 #[.string (B l), fv, .bool true] w (.int .i64 (fidx badB l)) := by
  refine enter (E := [(0, .string (B l)), (1, fv), (2, .bool true)]) Tryz.func123 rfl Tryz.ntmps123 rfl (by simp) ?_
  refine c_seq ?_
  refine c_region rfl ?_
  refine gv rfl (y_assign rfl) ?_
  refine l_nil ?_
  refine q_then ?_
  refine c_seq ?_
  refine c_seq ?_
  refine c_region rfl ?_
  refine gv rfl (y_move rfl) ?_
  refine l_range rfl strT9 rfl ?_; intro g10
  refine l_nil ?_
  refine q_then ?_
  refine c_block ?_
  refine loop (Ef := [(1, _), (2, _), (10, _)]) (Hf := []) (fun s : Nat => ∀ j, j < s → ∀ u, l[j]? = some u → badB u = false) (fun s : Nat => []) (fun s : Nat => [.blk g10 (.stringIter (B l) s)]) (fun s : Nat => l.length - s) 0 none_get sub_nil (sub_cons rfl (sub_cons rfl (sub_cons rfl sub_nil))) (hs_pick (is := [0]) rfl rfl) ?_
  rintro s hI
  refine c_sub (E' := [(1, _), (2, _), (10, _)]) (sub_cons rfl (sub_cons rfl (sub_cons rfl sub_nil))) ?_
  refine c_seq ?_
  refine c_region rfl ?_
  refine l_next (k := 0) (H' := [_]) rfl rfl rfl rfl ?_ ?_
  · intro n11
    obtain ⟨v, hv⟩ := get_lt n11
    have hbb := dec_bad hv
    refine gv rfl (y_extract rfl rfl) ?_
    refine l_nil ?_
    refine q_then ?_
    refine c_seq ?_
    refine c_cond_t rfl ?_
    refine c_skip ?_
    refine q_then ?_
    refine c_block ?_
    refine c_seq ?_
    refine c_region rfl ?_
    refine gv rfl (y_extract rfl rfl) ?_
    refine gv rfl (y_extract rfl rfl) ?_
    refine gv rfl (y_assign rfl) ?_
    refine gv rfl (y_assign rfl) ?_
    refine l_nil ?_
    refine q_then ?_
    refine c_seq ?_
    refine c_region rfl ?_
    refine gv rfl (y_move rfl) ?_
    refine gv rfl (y_move rfl) ?_
    refine l_callF rfl rfl rfl (F _) ?_
    refine gv rfl (y_move rfl) ?_
    refine gv rfl (y_beq boolT4 rfl rfl rfl) ?_
    refine l_nil ?_
    refine q_then ?_
    refine c_bool rfl ?_ ?_
    · intro h19
      have hbv : badB v = true := by rw [hbb] at h19; simpa using h19
      refine c_seq ?_
      refine c_region rfl ?_
      refine gv rfl (y_move rfl) ?_
      refine gv rfl (y_assign rfl) ?_
      refine l_nil ?_
      refine q_then ?_
      refine c_ret ?_
      refine q_block_ret (q_loop_ret (q_block_ret (q_then_ret ?_)))
      exact q_ret1 Tryz.results123 rfl () trivial (congrArg (Value.int .i64) (fidx_at hI hv hbv).symm) hs_nil
    · intro h19
      have hbv : badB v = false := by rw [hbb] at h19; simpa using h19
      have hst := (dec_step hI hv hbv).1
      refine c_skip ?_
      refine q_block ?_
      exact again (s + (Utf8.decode (B l) s).2) (dec_step hI hv hbv).2 (by omega) sub_nil (sub_cons rfl (sub_cons rfl (sub_cons rfl sub_nil))) (hs_pick (is := [0]) rfl rfl)
  · intro n11
    refine gv rfl (y_extract rfl rfl) ?_
    refine l_nil ?_
    refine q_then ?_
    refine c_seq ?_
    refine c_cond_f rfl ?_
    refine c_exit ?_
    refine q_then_exit (q_loop_exit (q_block_exit (q_then ?_)))
    refine c_seq ?_
    refine c_region rfl ?_
    refine gv rfl (y_assign rfl) ?_
    refine l_nil ?_
    refine q_then ?_
    refine c_ret ?_
    exact q_ret1 Tryz.results123 rfl () trivial (congrArg (Value.int .i64) (fidx_none hI (by omega)).symm) hs_nil

theorem indexFn_c {l : List UInt8} {fv : Value} (w : World) (F : ∀ c : Int, FnV Tryz.prog w fv [.int .i32 c] (.bool (badR c))) : Cv Tryz.prog 102 #[.string (B l), fv] w (.int .i64 (fidx badB l)) := by
  refine enter (E := [(0, .string (B l)), (1, fv)]) Tryz.func102 rfl Tryz.ntmps102 rfl (by simp) ?_
  refine c_seq ?_
  refine c_region rfl ?_
  refine gv rfl (y_assign rfl) ?_
  refine l_nil ?_
  refine q_then ?_
  refine c_seq ?_
  refine c_region rfl ?_
  refine gv rfl (y_move rfl) ?_
  refine gv rfl (y_move rfl) ?_
  refine l_callU rfl ent123 rfl (fun w hm => sIndexFn_c w (fun c => (F c).above hm.below)) ?_
  refine gv rfl (y_assign rfl) ?_
  refine l_nil ?_
  refine q_then ?_
  refine c_ret ?_
  exact q_ret1 Tryz.results102 rfl () trivial rfl hs_nil

theorem let_c {l : List UInt8} (w : World) : Cv Tryz.prog 78 #[.string (B l)] w (.bool (letF l)) := by
  refine enter (E := [(0, .string (B l))]) Tryz.func78 rfl Tryz.ntmps78 rfl (by simp) ?_
  refine c_seq ?_
  refine c_region rfl ?_
  refine gv rfl (y_assign rfl) ?_
  refine l_nil ?_
  refine q_then ?_
  refine c_seq ?_
  refine c_region rfl ?_
  refine gv rfl (y_move rfl) ?_
  refine l_callU rfl ent102 rfl (fun w hm => indexFn_c w (fun c => FnV.named ent103 (fun w2 _ => let1_c w2))) ?_
  refine gv rfl (y_lss rfl rfl) ?_
  refine gv rfl (y_assign rfl) ?_
  refine l_nil ?_
  refine q_then ?_
  refine c_ret ?_
  exact q_ret1 Tryz.results78 rfl () trivial rfl hs_nil

theorem slIndex1_c {l : List UInt8} {b : UInt8} (w : World) : Cv Tryz.prog 124 #[.string (B l), .string (B [b])] w (.int .i64 (ibF l b)) := by
  refine enter (E := [(0, .string (B l)), (1, .string (B [b]))]) Tryz.func124 rfl Tryz.ntmps124 rfl (by simp) ?_
  refine c_seq ?_
  refine c_region rfl ?_
  refine gv rfl (y_assign rfl) ?_
  refine l_nil ?_
  refine q_then ?_
  refine c_seq ?_
  refine c_region rfl ?_
  refine gv rfl (y_move rfl) ?_
  refine gv rfl (y_slen Tryz.underlying9 rfl rfl) ?_
  refine gv rfl (y_assign rfl) ?_
  refine l_nil ?_
  refine q_then ?_
  refine c_seq ?_
  refine c_block ?_
  refine c_seq ?_
  refine c_region rfl ?_
  refine gv rfl (y_move rfl) ?_
  refine gv rfl (y_eql rfl rfl) ?_
  refine gv rfl (y_move rfl) ?_
  refine g_dec (t := 19) rfl ?_ ?_
  · intro h19
    refine g_off (t := 19) rfl rfl rfl rfl ?_
    refine g_off (t := 19) rfl rfl rfl rfl ?_
    refine g_off (t := 19) rfl rfl rfl rfl ?_
    refine gv rfl (y_pick_t rfl rfl) ?_
    refine gv rfl (y_assign rfl) ?_
    refine l_nil ?_
    refine q_then ?_
    refine c_cond_t rfl ?_
    refine c_seq ?_
    refine c_region rfl ?_
    refine gv rfl (y_assign rfl) ?_
    refine l_nil ?_
    refine q_then ?_
    refine c_ret ?_
    refine q_block_ret (q_then_ret ?_)
    exact q_ret1 Tryz.results124 rfl () trivial (absurd h19 (by simp)) hs_nil
  · intro h19
    refine g_on (t := 19) rfl rfl ?_
    refine gv rfl (y_move rfl) ?_
    refine g_on (t := 19) rfl rfl ?_
    refine gv rfl (y_move rfl) ?_
    refine g_on (t := 19) rfl rfl ?_
    refine gv rfl (y_seq rfl rfl) ?_
    refine gv rfl (y_pick_f rfl rfl) ?_
    refine gv rfl (y_assign rfl) ?_
    refine l_nil ?_
    refine q_then ?_
    refine c_dec rfl ?_ ?_
    · intro h16
      refine c_seq ?_
      refine c_region rfl ?_
      refine gv rfl (y_assign rfl) ?_
      refine l_nil ?_
      refine q_then ?_
      refine c_ret ?_
      refine q_block_ret (q_then_ret ?_)
      exact q_ret1 Tryz.results124 rfl () trivial (congrArg (Value.int .i64) (by rw [← h16, ibF_cons, if_pos rfl])) hs_nil
    · intro h16
      refine c_seq ?_
      refine c_region rfl ?_
      refine gv rfl (y_move rfl) ?_
      refine gv rfl (y_eql rfl rfl) ?_
      refine gv rfl (y_assign rfl) ?_
      refine l_nil ?_
      refine q_then ?_
      refine c_dec rfl ?_ ?_
      · intro h24
        refine c_seq ?_
        refine c_region rfl ?_
        refine gv rfl (y_move rfl) ?_
        refine gv rfl (y_move rfl) ?_
        refine gv rfl (y_sidx Tryz.underlying9 rfl rfl (by omega) (by omega)) ?_
        refine l_callU rfl ent138 rfl (fun w hm => slIndexByte_c w) ?_
        refine gv rfl (y_assign rfl) ?_
        refine l_nil ?_
        refine q_then ?_
        refine c_ret ?_
        refine q_block_ret (q_then_ret ?_)
        exact q_ret1 Tryz.results124 rfl () trivial rfl hs_nil
      · intro h24
        exact absurd rfl h24

theorem index1_c {l : List UInt8} {b : UInt8} (w : World) : Cv Tryz.prog 104 #[.string (B l), .string (B [b])] w (.int .i64 (ibF l b)) := by
  refine enter (E := [(0, .string (B l)), (1, .string (B [b]))]) Tryz.func104 rfl Tryz.ntmps104 rfl (by simp) ?_
  refine c_seq ?_
  refine c_region rfl ?_
  refine gv rfl (y_assign rfl) ?_
  refine l_nil ?_
  refine q_then ?_
  refine c_seq ?_
  refine c_region rfl ?_
  refine gv rfl (y_move rfl) ?_
  refine gv rfl (y_move rfl) ?_
  refine l_callU rfl ent124 rfl (fun w hm => slIndex1_c w) ?_
  refine gv rfl (y_assign rfl) ?_
  refine l_nil ?_
  refine q_then ?_
  refine c_ret ?_
  exact q_ret1 Tryz.results104 rfl () trivial rfl hs_nil

theorem contains1_c {l : List UInt8} {b : UInt8} (w : World) : Cv Tryz.prog 79 #[.string (B l), .string (B [b])] w (.bool (decide (ibF l b ≥ 0))) := by
  refine enter (E := [(0, .string (B l)), (1, .string (B [b]))]) Tryz.func79 rfl Tryz.ntmps79 rfl (by simp) ?_
  refine c_seq ?_
  refine c_region rfl ?_
  refine gv rfl (y_assign rfl) ?_
  refine l_nil ?_
  refine q_then ?_
  refine c_seq ?_
  refine c_region rfl ?_
  refine gv rfl (y_move rfl) ?_
  refine gv rfl (y_move rfl) ?_
  refine l_callU rfl ent104 rfl (fun w hm => index1_c w) ?_
  refine gv rfl (y_geq rfl rfl) ?_
  refine gv rfl (y_assign rfl) ?_
  refine l_nil ?_
  refine q_then ?_
  refine c_ret ?_
  exact q_ret1 Tryz.results79 rfl () trivial rfl hs_nil

theorem slCutPrefix_c {l m : List UInt8} (w : World) : Cv Tryz.prog 118 #[.string (B l), .string (B m)] w (.tuple #[.string (B (if m <+: l then l.drop m.length else l)), .bool (decide (m <+: l))]) := by
  refine enter (E := [(0, .string (B l)), (1, .string (B m))]) Tryz.func118 rfl Tryz.ntmps118 rfl (by simp) ?_
  refine c_seq ?_
  refine c_region rfl ?_
  refine gv rfl (y_assign rfl) ?_
  refine gv rfl (y_assign rfl) ?_
  refine l_nil ?_
  refine q_then ?_
  refine c_seq ?_
  refine c_seq ?_
  refine c_region rfl ?_
  refine gv rfl (y_move rfl) ?_
  refine gv rfl (y_move rfl) ?_
  refine l_callU rfl ent101 rfl (fun w hm => lHasPrefix_c w) ?_
  refine gv rfl (y_not rfl rfl) ?_
  refine l_nil ?_
  refine q_then ?_
  refine c_ndec rfl ?_ ?_
  · intro h9
    refine c_seq ?_
    refine c_region rfl ?_
    refine gv rfl (y_move rfl) ?_
    refine gv rfl (y_assign rfl) ?_
    refine gv rfl (y_assign rfl) ?_
    refine l_nil ?_
    refine q_then ?_
    refine c_ret ?_
    refine q_then_ret ?_
    exact q_ret2 Tryz.results118 rfl rfl () trivial (by rw [if_neg h9, decide_eq_false h9]) hs_nil
  · intro h9
    refine c_skip ?_
    refine q_then ?_
    refine c_seq ?_
    refine c_region rfl ?_
    refine gv rfl (y_move rfl) ?_
    refine gv rfl (y_move rfl) ?_
    refine gv rfl (y_slen Tryz.underlying9 rfl rfl) ?_
    refine gv rfl (y_sfrom Tryz.underlying9 rfl rfl (by omega) (by have := h9.length_le; omega) rfl) ?_
    refine gv rfl (y_assign rfl) ?_
    refine gv rfl (y_assign rfl) ?_
    refine l_nil ?_
    refine q_then ?_
    refine c_ret ?_
    exact q_ret2 Tryz.results118 rfl rfl () trivial (by rw [if_pos h9, decide_eq_true h9]; rfl) hs_nil

theorem cutPrefix_c {l m : List UInt8} (w : World) : Cv Tryz.prog 96 #[.string (B l), .string (B m)] w (.tuple #[.string (B (if m <+: l then l.drop m.length else l)), .bool (decide (m <+: l))]) := by
  refine enter (E := [(0, .string (B l)), (1, .string (B m))]) Tryz.func96 rfl Tryz.ntmps96 rfl (by simp) ?_
  refine c_seq ?_
  refine c_region rfl ?_
  refine gv rfl (y_assign rfl) ?_
  refine gv rfl (y_assign rfl) ?_
  refine l_nil ?_
  refine q_then ?_
  refine c_seq ?_
  refine c_region rfl ?_
  refine gv rfl (y_move rfl) ?_
  refine gv rfl (y_move rfl) ?_
  refine l_callU rfl ent118 rfl (fun w hm => slCutPrefix_c w) ?_
  refine gv rfl (y_extract rfl rfl) ?_
  refine gv rfl (y_extract rfl rfl) ?_
  refine gv rfl (y_assign rfl) ?_
  refine gv rfl (y_assign rfl) ?_
  refine l_nil ?_
  refine q_then ?_
  refine c_ret ?_
  exact q_ret2 Tryz.results96 rfl rfl () trivial rfl hs_nil

theorem chr47 (x : UInt8) : decide ((x.toNat : Int) = 47) = decide (x = 47) := by
  apply decide_eq_decide.2
  constructor
  · intro h
    have h1 : x.toNat = (47 : UInt8).toNat := by have h2 : (47 : UInt8).toNat = 47 := rfl; omega
    exact UInt8.toNat_inj.1 h1
  · rintro rfl; rfl
theorem pathMatch_c {l m : List UInt8} (w : World) (hm1 : m.length ≤ 1073741824) : Cv Tryz.prog 87 #[.string (B l), .string (B m)] w (.bool (pathF l m)) := by
  refine enter (E := [(0, .string (B l)), (1, .string (B m))]) Tryz.func87 rfl Tryz.ntmps87 rfl (by simp) ?_
  refine c_seq ?_
  refine c_region rfl ?_
  refine gv rfl (y_assign rfl) ?_
  refine l_nil ?_
  refine q_then ?_
  refine c_seq ?_
  refine c_region rfl ?_
  refine gv rfl (y_move rfl) ?_
  refine gv rfl (y_move rfl) ?_
  refine l_callU rfl ent96 rfl (fun w hm => cutPrefix_c w) ?_
  refine gv rfl (y_move rfl) ?_
  refine gv rfl (y_extract rfl rfl) ?_
  refine gv rfl (y_extract rfl rfl) ?_
  refine gv rfl (y_assign rfl) ?_
  refine gv rfl (y_assign rfl) ?_
  refine l_nil ?_
  refine q_then ?_
  refine c_seq ?_
  refine c_block ?_
  refine c_seq ?_
  refine c_region rfl ?_
  refine gv rfl (y_move rfl) ?_
  refine gv rfl (y_not rfl rfl) ?_
  refine gv rfl (y_assign rfl) ?_
  refine l_nil ?_
  refine q_then ?_
  refine c_ndec rfl ?_ ?_
  · intro h13
    refine c_seq ?_
    refine c_region rfl ?_
    refine gv rfl (y_assign rfl) ?_
    refine l_nil ?_
    refine q_then ?_
    refine c_ret ?_
    refine q_block_ret (q_then_ret ?_)
    exact q_ret1 Tryz.results87 rfl () trivial (congrArg Value.bool (if_neg h13).symm) hs_nil
  · intro h13
    rw [if_pos h13]
    refine c_seq ?_
    refine c_region rfl ?_
    refine gv rfl (y_move rfl) ?_
    refine gv rfl (y_seq rfl rfl) ?_
    refine gv rfl (y_assign rfl) ?_
    refine l_nil ?_
    refine q_then ?_
    refine c_dec rfl ?_ ?_
    · intro h16
      refine c_seq ?_
      refine c_region rfl ?_
      refine gv rfl (y_assign rfl) ?_
      refine l_nil ?_
      refine q_then ?_
      refine c_ret ?_
      refine q_block_ret (q_then_ret ?_)
      exact q_ret1 Tryz.results87 rfl () trivial (congrArg Value.bool (by unfold pathF; rw [if_pos h13, if_pos h16])) hs_nil
    · intro h16
      refine c_skip ?_
      refine q_block (q_then ?_)
      refine c_seq ?_
      refine c_region rfl ?_
      refine gv rfl (y_move rfl) ?_
      refine l_callU rfl ent108 rfl (fun w hm => hasSuffix_c (l := m) (m := [47]) w (Nat.le_trans hm1 (by decide))) ?_
      refine gv rfl (y_move rfl) ?_
      refine g_dec (t := 21) rfl ?_ ?_
      · intro h21
        refine g_off (t := 21) rfl rfl rfl rfl ?_
        refine g_off (t := 21) rfl rfl rfl rfl ?_
        refine g_off (t := 21) rfl rfl rfl rfl ?_
        refine gv rfl (y_pick_t rfl rfl) ?_
        refine gv rfl (y_assign rfl) ?_
        refine l_nil ?_
        refine q_then ?_
        refine c_ret ?_
        exact q_ret1 Tryz.results87 rfl () trivial (congrArg Value.bool (by unfold pathF; rw [if_pos h13, if_neg h16, decide_eq_true h21, Bool.true_or])) hs_nil
      · intro h21
        refine g_on (t := 21) rfl rfl ?_
        refine gv rfl (y_move rfl) ?_
        refine g_on (t := 21) rfl rfl ?_
        refine gv rfl (y_sidx Tryz.underlying9 rfl rfl (by omega) (by have hx := List.length_pos_iff.2 h16; omega)) ?_
        refine g_on (t := 21) rfl rfl ?_
        refine gv rfl (y_eql rfl rfl) ?_
        refine gv rfl (y_pick_f rfl rfl) ?_
        refine gv rfl (y_assign rfl) ?_
        refine l_nil ?_
        refine q_then ?_
        refine c_ret ?_
        exact q_ret1 Tryz.results87 rfl () trivial (congrArg Value.bool (by unfold pathF; rw [if_pos h13, if_neg h16, decide_eq_false h21, Bool.false_or]; exact chr47 _)) hs_nil

theorem askLive_c {f : Fr} {now : Int} {c : Ck} (w : World) : Cv Tryz.prog 50 #[.agg (askA f now), .agg c.arr] w (.bool (decide (c.expiry > now))) := by
  refine enter (E := [(0, .agg (askA f now)), (1, .agg c.arr)]) Tryz.func50 rfl Tryz.ntmps50 rfl (by simp) ?_
  refine c_seq ?_
  refine c_region rfl ?_
  refine l_boxA rfl rfl ?_; intro g2
  refine l_boxA rfl rfl ?_; intro g3
  refine gv rfl (y_assign rfl) ?_
  refine l_nil ?_
  refine q_then ?_
  refine c_seq ?_
  refine c_region rfl ?_
  refine gv rfl (y_loadW (k := 0)  agg26 rfl rfl rfl) ?_
  refine gv rfl (y_faddr off82_1 rfl rfl) ?_
  refine gv rfl (y_load (k := 1)  one3 rfl rfl rfl) ?_
  refine l_callU rfl ent19 rfl (fun w hm => live_c w) ?_
  refine gv rfl (y_assign rfl) ?_
  refine l_nil ?_
  refine q_then ?_
  refine c_ret ?_
  exact q_ret1 Tryz.results50 rfl () trivial rfl hs_nil

theorem askAt_c {ad : List UInt8 → Bool} {f : Fr} {now : Int} {c : Ck} (w : World) (hAd : AddrIs Tryz.prog 107 w ad) (hf : f.host.length ≤ 1073741824) (hc : c.domain.length ≤ 1073741824) : Cv Tryz.prog 51 #[.agg (askA f now), .agg c.arr] w (.bool (atF ad f c)) := by
  refine enter (E := [(0, .agg (askA f now)), (1, .agg c.arr)]) Tryz.func51 rfl Tryz.ntmps51 rfl (by simp) ?_
  refine c_seq ?_
  refine c_region rfl ?_
  refine l_boxA rfl rfl ?_; intro g2
  refine l_boxA rfl rfl ?_; intro g3
  refine gv rfl (y_assign rfl) ?_
  refine l_nil ?_
  refine q_then ?_
  refine c_seq ?_
  refine c_seq ?_
  refine c_region rfl ?_
  refine gv rfl (y_faddr off26_4 rfl rfl) ?_
  refine gv rfl (y_load (k := 0)  one4 rfl rfl rfl) ?_
  refine l_nil ?_
  refine q_then ?_
  refine c_bool rfl ?_ ?_
  · intro h6
    refine c_seq ?_
    refine c_region rfl ?_
    refine gv rfl (y_faddr off82_0 rfl rfl) ?_
    refine gv rfl (y_faddr off35_0 rfl rfl) ?_
    refine gv rfl (y_load (k := 1)  one9 rfl rfl rfl) ?_
    refine gv rfl (y_faddr off26_2 rfl rfl) ?_
    refine gv rfl (y_load (k := 0)  one9 rfl rfl rfl) ?_
    refine gv rfl (y_seq rfl rfl) ?_
    refine gv rfl (y_assign rfl) ?_
    refine l_nil ?_
    refine q_then ?_
    refine c_ret ?_
    refine q_then_ret ?_
    exact q_ret1 Tryz.results51 rfl () trivial (congrArg Value.bool (by unfold atF; rw [if_pos h6])) hs_nil
  · intro h6
    refine c_skip ?_
    refine q_then ?_
    refine c_seq ?_
    refine c_region rfl ?_
    refine gv rfl (y_faddr off82_0 rfl rfl) ?_
    refine gv rfl (y_faddr off35_0 rfl rfl) ?_
    refine gv rfl (y_load (k := 1)  one9 rfl rfl rfl) ?_
    refine gv rfl (y_faddr off26_2 rfl rfl) ?_
    refine gv rfl (y_load (k := 0)  one9 rfl rfl rfl) ?_
    refine l_callU rfl ent86 rfl (fun w hm => match_c w (hAd.above hm.below) hf hc) ?_
    refine gv rfl (y_assign rfl) ?_
    refine l_nil ?_
    refine q_then ?_
    refine c_ret ?_
    exact q_ret1 Tryz.results51 rfl () trivial (congrArg Value.bool (by unfold atF; rw [if_neg (by rw [h6]; simp)])) hs_nil

theorem askAlong_c {f : Fr} {now : Int} {c : Ck} (w : World) (hp : c.path.length ≤ 1073741824) : Cv Tryz.prog 52 #[.agg (askA f now), .agg c.arr] w (.bool (pathF f.path c.path)) := by
  refine enter (E := [(0, .agg (askA f now)), (1, .agg c.arr)]) Tryz.func52 rfl Tryz.ntmps52 rfl (by simp) ?_
  refine c_seq ?_
  refine c_region rfl ?_
  refine l_boxA rfl rfl ?_; intro g2
  refine l_boxA rfl rfl ?_; intro g3
  refine gv rfl (y_assign rfl) ?_
  refine l_nil ?_
  refine q_then ?_
  refine c_seq ?_
  refine c_region rfl ?_
  refine gv rfl (y_faddr off82_0 rfl rfl) ?_
  refine gv rfl (y_faddr off35_1 rfl rfl) ?_
  refine gv rfl (y_load (k := 1)  one9 rfl rfl rfl) ?_
  refine gv rfl (y_faddr off26_3 rfl rfl) ?_
  refine gv rfl (y_load (k := 0)  one9 rfl rfl rfl) ?_
  refine l_callU rfl ent87 rfl (fun w hm => pathMatch_c w hp) ?_
  refine gv rfl (y_assign rfl) ?_
  refine l_nil ?_
  refine q_then ?_
  refine c_ret ?_
  exact q_ret1 Tryz.results52 rfl () trivial rfl hs_nil

theorem askMay_c {f : Fr} {now : Int} {c : Ck} (w : World) : Cv Tryz.prog 53 #[.agg (askA f now), .agg c.arr] w (.bool (mayA f c)) := by
  refine enter (E := [(0, .agg (askA f now)), (1, .agg c.arr)]) Tryz.func53 rfl Tryz.ntmps53 rfl (by simp) ?_
  refine c_seq ?_
  refine c_region rfl ?_
  refine l_boxA rfl rfl ?_; intro g2
  refine l_boxA rfl rfl ?_; intro g3
  refine gv rfl (y_assign rfl) ?_
  refine l_nil ?_
  refine q_then ?_
  refine c_seq ?_
  refine c_block ?_
  refine c_seq ?_
  refine c_seq ?_
  refine c_region rfl ?_
  refine gv rfl (y_faddr off26_5 rfl rfl) ?_
  refine gv rfl (y_load (k := 0)  one4 rfl rfl rfl) ?_
  refine gv rfl (y_move rfl) ?_
  refine g_bool (t := 8) rfl ?_ ?_
  · intro h8
    refine g_on (t := 8) rfl rfl ?_
    refine gv rfl (y_faddr off82_0 rfl rfl) ?_
    refine g_on (t := 8) rfl rfl ?_
    refine gv rfl (y_faddr off35_2 rfl rfl) ?_
    refine g_on (t := 8) rfl rfl ?_
    refine gv rfl (y_load (k := 1)  one4 rfl rfl rfl) ?_
    refine g_on (t := 8) rfl rfl ?_
    refine gv rfl (y_not rfl rfl) ?_
    refine gv rfl (y_pick_t rfl rfl) ?_
    refine gv rfl (y_assign rfl) ?_
    refine l_nil ?_
    refine q_then ?_
    refine c_bool rfl ?_ ?_
    · intro h5
      refine c_skip ?_
      refine q_then ?_
      refine c_cond_t rfl ?_
      refine c_seq ?_
      refine c_region rfl ?_
      refine gv rfl (y_assign rfl) ?_
      refine l_nil ?_
      refine q_then ?_
      refine c_ret ?_
      refine q_block_ret (q_then_ret ?_)
      exact q_ret1 Tryz.results53 rfl () trivial (congrArg Value.bool (by simp [mayA, *])) hs_nil
    · intro h5
      refine c_seq ?_
      refine c_region rfl ?_
      refine gv rfl (y_faddr off26_6 rfl rfl) ?_
      refine gv rfl (y_load (k := 0)  one4 rfl rfl rfl) ?_
      refine gv rfl (y_move rfl) ?_
      refine g_bool (t := 16) rfl ?_ ?_
      · intro h16
        refine g_on (t := 16) rfl rfl ?_
        refine gv rfl (y_faddr off82_0 rfl rfl) ?_
        refine g_on (t := 16) rfl rfl ?_
        refine gv rfl (y_faddr off35_3 rfl rfl) ?_
        refine g_on (t := 16) rfl rfl ?_
        refine gv rfl (y_load (k := 1)  one4 rfl rfl rfl) ?_
        refine gv rfl (y_pick_t rfl rfl) ?_
        refine gv rfl (y_assign rfl) ?_
        refine l_nil ?_
        refine q_then ?_
        refine c_bool rfl ?_ ?_
        · intro h5
          refine c_skip ?_
          refine q_then ?_
          refine c_cond_t rfl ?_
          refine c_seq ?_
          refine c_region rfl ?_
          refine gv rfl (y_assign rfl) ?_
          refine l_nil ?_
          refine q_then ?_
          refine c_ret ?_
          refine q_block_ret (q_then_ret ?_)
          exact q_ret1 Tryz.results53 rfl () trivial (congrArg Value.bool (by simp [mayA, *])) hs_nil
        · intro h5
          refine c_region rfl ?_
          refine gv rfl (y_faddr off82_0 rfl rfl) ?_
          refine gv rfl (y_faddr off35_4 rfl rfl) ?_
          refine gv rfl (y_load (k := 1)  one4 rfl rfl rfl) ?_
          refine gv rfl (y_move rfl) ?_
          refine g_bool (t := 24) rfl ?_ ?_
          · intro h24
            refine g_on (t := 24) rfl rfl ?_
            refine gv rfl (y_faddr off26_8 rfl rfl) ?_
            refine g_on (t := 24) rfl rfl ?_
            refine gv rfl (y_load (k := 0)  one3 rfl rfl rfl) ?_
            refine g_on (t := 24) rfl rfl ?_
            refine gv rfl (y_neq rfl rfl) ?_
            refine gv rfl (y_pick_t rfl rfl) ?_
            refine gv rfl (y_assign rfl) ?_
            refine l_nil ?_
            refine q_then ?_
            refine c_dec rfl ?_ ?_
            · intro h5
              refine c_seq ?_
              refine c_region rfl ?_
              refine gv rfl (y_assign rfl) ?_
              refine l_nil ?_
              refine q_then ?_
              refine c_ret ?_
              refine q_block_ret (q_then_ret ?_)
              exact q_ret1 Tryz.results53 rfl () trivial (congrArg Value.bool (by simp [mayA, *])) hs_nil
            · intro h5
              refine c_skip ?_
              refine q_block (q_then ?_)
              refine c_seq ?_
              refine c_region rfl ?_
              refine gv rfl (y_assign rfl) ?_
              refine l_nil ?_
              refine q_then ?_
              refine c_ret ?_
              exact q_ret1 Tryz.results53 rfl () trivial (congrArg Value.bool (by simp [mayA, *])) hs_nil
          · intro h24
            refine g_off (t := 24) rfl rfl rfl rfl ?_
            refine g_off (t := 24) rfl rfl rfl rfl ?_
            refine g_off (t := 24) rfl rfl rfl rfl ?_
            refine gv rfl (y_pick_f rfl rfl) ?_
            refine gv rfl (y_assign rfl) ?_
            refine l_nil ?_
            refine q_then ?_
            refine c_cond_f rfl ?_
            refine c_skip ?_
            refine q_block (q_then ?_)
            refine c_seq ?_
            refine c_region rfl ?_
            refine gv rfl (y_assign rfl) ?_
            refine l_nil ?_
            refine q_then ?_
            refine c_ret ?_
            exact q_ret1 Tryz.results53 rfl () trivial (congrArg Value.bool (by simp [mayA, *])) hs_nil
      · intro h16
        refine g_off (t := 16) rfl rfl rfl rfl ?_
        refine g_off (t := 16) rfl rfl rfl rfl ?_
        refine g_off (t := 16) rfl rfl rfl rfl ?_
        refine gv rfl (y_pick_f rfl rfl) ?_
        refine gv rfl (y_assign rfl) ?_
        refine l_nil ?_
        refine q_then ?_
        refine c_cond_f rfl ?_
        refine c_region rfl ?_
        refine gv rfl (y_faddr off82_0 rfl rfl) ?_
        refine gv rfl (y_faddr off35_4 rfl rfl) ?_
        refine gv rfl (y_load (k := 1)  one4 rfl rfl rfl) ?_
        refine gv rfl (y_move rfl) ?_
        refine g_bool (t := 24) rfl ?_ ?_
        · intro h24
          refine g_on (t := 24) rfl rfl ?_
          refine gv rfl (y_faddr off26_8 rfl rfl) ?_
          refine g_on (t := 24) rfl rfl ?_
          refine gv rfl (y_load (k := 0)  one3 rfl rfl rfl) ?_
          refine g_on (t := 24) rfl rfl ?_
          refine gv rfl (y_neq rfl rfl) ?_
          refine gv rfl (y_pick_t rfl rfl) ?_
          refine gv rfl (y_assign rfl) ?_
          refine l_nil ?_
          refine q_then ?_
          refine c_dec rfl ?_ ?_
          · intro h5
            refine c_seq ?_
            refine c_region rfl ?_
            refine gv rfl (y_assign rfl) ?_
            refine l_nil ?_
            refine q_then ?_
            refine c_ret ?_
            refine q_block_ret (q_then_ret ?_)
            exact q_ret1 Tryz.results53 rfl () trivial (congrArg Value.bool (by simp [mayA, *])) hs_nil
          · intro h5
            refine c_skip ?_
            refine q_block (q_then ?_)
            refine c_seq ?_
            refine c_region rfl ?_
            refine gv rfl (y_assign rfl) ?_
            refine l_nil ?_
            refine q_then ?_
            refine c_ret ?_
            exact q_ret1 Tryz.results53 rfl () trivial (congrArg Value.bool (by simp [mayA, *])) hs_nil
        · intro h24
          refine g_off (t := 24) rfl rfl rfl rfl ?_
          refine g_off (t := 24) rfl rfl rfl rfl ?_
          refine g_off (t := 24) rfl rfl rfl rfl ?_
          refine gv rfl (y_pick_f rfl rfl) ?_
          refine gv rfl (y_assign rfl) ?_
          refine l_nil ?_
          refine q_then ?_
          refine c_cond_f rfl ?_
          refine c_skip ?_
          refine q_block (q_then ?_)
          refine c_seq ?_
          refine c_region rfl ?_
          refine gv rfl (y_assign rfl) ?_
          refine l_nil ?_
          refine q_then ?_
          refine c_ret ?_
          exact q_ret1 Tryz.results53 rfl () trivial (congrArg Value.bool (by simp [mayA, *])) hs_nil
  · intro h8
    refine g_off (t := 8) rfl rfl rfl rfl ?_
    refine g_off (t := 8) rfl rfl rfl rfl ?_
    refine g_off (t := 8) rfl rfl rfl rfl ?_
    refine g_off (t := 8) rfl rfl rfl rfl ?_
    refine gv rfl (y_pick_f rfl rfl) ?_
    refine gv rfl (y_assign rfl) ?_
    refine l_nil ?_
    refine q_then ?_
    refine c_cond_f rfl ?_
    refine c_seq ?_
    refine c_region rfl ?_
    refine gv rfl (y_faddr off26_6 rfl rfl) ?_
    refine gv rfl (y_load (k := 0)  one4 rfl rfl rfl) ?_
    refine gv rfl (y_move rfl) ?_
    refine g_bool (t := 16) rfl ?_ ?_
    · intro h16
      refine g_on (t := 16) rfl rfl ?_
      refine gv rfl (y_faddr off82_0 rfl rfl) ?_
      refine g_on (t := 16) rfl rfl ?_
      refine gv rfl (y_faddr off35_3 rfl rfl) ?_
      refine g_on (t := 16) rfl rfl ?_
      refine gv rfl (y_load (k := 1)  one4 rfl rfl rfl) ?_
      refine gv rfl (y_pick_t rfl rfl) ?_
      refine gv rfl (y_assign rfl) ?_
      refine l_nil ?_
      refine q_then ?_
      refine c_bool rfl ?_ ?_
      · intro h5
        refine c_skip ?_
        refine q_then ?_
        refine c_cond_t rfl ?_
        refine c_seq ?_
        refine c_region rfl ?_
        refine gv rfl (y_assign rfl) ?_
        refine l_nil ?_
        refine q_then ?_
        refine c_ret ?_
        refine q_block_ret (q_then_ret ?_)
        exact q_ret1 Tryz.results53 rfl () trivial (congrArg Value.bool (by simp [mayA, *])) hs_nil
      · intro h5
        refine c_region rfl ?_
        refine gv rfl (y_faddr off82_0 rfl rfl) ?_
        refine gv rfl (y_faddr off35_4 rfl rfl) ?_
        refine gv rfl (y_load (k := 1)  one4 rfl rfl rfl) ?_
        refine gv rfl (y_move rfl) ?_
        refine g_bool (t := 24) rfl ?_ ?_
        · intro h24
          refine g_on (t := 24) rfl rfl ?_
          refine gv rfl (y_faddr off26_8 rfl rfl) ?_
          refine g_on (t := 24) rfl rfl ?_
          refine gv rfl (y_load (k := 0)  one3 rfl rfl rfl) ?_
          refine g_on (t := 24) rfl rfl ?_
          refine gv rfl (y_neq rfl rfl) ?_
          refine gv rfl (y_pick_t rfl rfl) ?_
          refine gv rfl (y_assign rfl) ?_
          refine l_nil ?_
          refine q_then ?_
          refine c_dec rfl ?_ ?_
          · intro h5
            refine c_seq ?_
            refine c_region rfl ?_
            refine gv rfl (y_assign rfl) ?_
            refine l_nil ?_
            refine q_then ?_
            refine c_ret ?_
            refine q_block_ret (q_then_ret ?_)
            exact q_ret1 Tryz.results53 rfl () trivial (congrArg Value.bool (by simp [mayA, *])) hs_nil
          · intro h5
            refine c_skip ?_
            refine q_block (q_then ?_)
            refine c_seq ?_
            refine c_region rfl ?_
            refine gv rfl (y_assign rfl) ?_
            refine l_nil ?_
            refine q_then ?_
            refine c_ret ?_
            exact q_ret1 Tryz.results53 rfl () trivial (congrArg Value.bool (by simp [mayA, *])) hs_nil
        · intro h24
          refine g_off (t := 24) rfl rfl rfl rfl ?_
          refine g_off (t := 24) rfl rfl rfl rfl ?_
          refine g_off (t := 24) rfl rfl rfl rfl ?_
          refine gv rfl (y_pick_f rfl rfl) ?_
          refine gv rfl (y_assign rfl) ?_
          refine l_nil ?_
          refine q_then ?_
          refine c_cond_f rfl ?_
          refine c_skip ?_
          refine q_block (q_then ?_)
          refine c_seq ?_
          refine c_region rfl ?_
          refine gv rfl (y_assign rfl) ?_
          refine l_nil ?_
          refine q_then ?_
          refine c_ret ?_
          exact q_ret1 Tryz.results53 rfl () trivial (congrArg Value.bool (by simp [mayA, *])) hs_nil
    · intro h16
      refine g_off (t := 16) rfl rfl rfl rfl ?_
      refine g_off (t := 16) rfl rfl rfl rfl ?_
      refine g_off (t := 16) rfl rfl rfl rfl ?_
      refine gv rfl (y_pick_f rfl rfl) ?_
      refine gv rfl (y_assign rfl) ?_
      refine l_nil ?_
      refine q_then ?_
      refine c_cond_f rfl ?_
      refine c_region rfl ?_
      refine gv rfl (y_faddr off82_0 rfl rfl) ?_
      refine gv rfl (y_faddr off35_4 rfl rfl) ?_
      refine gv rfl (y_load (k := 1)  one4 rfl rfl rfl) ?_
      refine gv rfl (y_move rfl) ?_
      refine g_bool (t := 24) rfl ?_ ?_
      · intro h24
        refine g_on (t := 24) rfl rfl ?_
        refine gv rfl (y_faddr off26_8 rfl rfl) ?_
        refine g_on (t := 24) rfl rfl ?_
        refine gv rfl (y_load (k := 0)  one3 rfl rfl rfl) ?_
        refine g_on (t := 24) rfl rfl ?_
        refine gv rfl (y_neq rfl rfl) ?_
        refine gv rfl (y_pick_t rfl rfl) ?_
        refine gv rfl (y_assign rfl) ?_
        refine l_nil ?_
        refine q_then ?_
        refine c_dec rfl ?_ ?_
        · intro h5
          refine c_seq ?_
          refine c_region rfl ?_
          refine gv rfl (y_assign rfl) ?_
          refine l_nil ?_
          refine q_then ?_
          refine c_ret ?_
          refine q_block_ret (q_then_ret ?_)
          exact q_ret1 Tryz.results53 rfl () trivial (congrArg Value.bool (by simp [mayA, *])) hs_nil
        · intro h5
          refine c_skip ?_
          refine q_block (q_then ?_)
          refine c_seq ?_
          refine c_region rfl ?_
          refine gv rfl (y_assign rfl) ?_
          refine l_nil ?_
          refine q_then ?_
          refine c_ret ?_
          exact q_ret1 Tryz.results53 rfl () trivial (congrArg Value.bool (by simp [mayA, *])) hs_nil
      · intro h24
        refine g_off (t := 24) rfl rfl rfl rfl ?_
        refine g_off (t := 24) rfl rfl rfl rfl ?_
        refine g_off (t := 24) rfl rfl rfl rfl ?_
        refine gv rfl (y_pick_f rfl rfl) ?_
        refine gv rfl (y_assign rfl) ?_
        refine l_nil ?_
        refine q_then ?_
        refine c_cond_f rfl ?_
        refine c_skip ?_
        refine q_block (q_then ?_)
        refine c_seq ?_
        refine c_region rfl ?_
        refine gv rfl (y_assign rfl) ?_
        refine l_nil ?_
        refine q_then ?_
        refine c_ret ?_
        exact q_ret1 Tryz.results53 rfl () trivial (congrArg Value.bool (by simp [mayA, *])) hs_nil

end Go.Gx
