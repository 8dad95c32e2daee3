/- This text proves: functions of the program, walked: what each answers, for every input. No condition beyond those that each theorem names. -/
import Derived.Test.YtgehghoammpiaaaGreatDoorProg
import Derived.Test.YtgehghoammpiaaaGreatDoorT3
import Derived.Test.YtgehghoammpiaaaGreatDoorGy6
import Derived.KernelRfl
namespace Go.Gx
open Go.Proofs Go.Maps
theorem ent72 : enters Tryz.prog 72 = true := by kernel_rfl
theorem ent74 : enters Tryz.prog 74 = true := by kernel_rfl
theorem ent73 : enters Tryz.prog 73 = true := by kernel_rfl
theorem ent32 : enters Tryz.prog 32 = true := by kernel_rfl
theorem ent33 : enters Tryz.prog 33 = true := by kernel_rfl
theorem ent34 : enters Tryz.prog 34 = true := by kernel_rfl
theorem ent35 : enters Tryz.prog 35 = true := by kernel_rfl
theorem ent36 : enters Tryz.prog 36 = true := by kernel_rfl
theorem ent37 : enters Tryz.prog 37 = true := by kernel_rfl

theorem evict_m {l : List Ck} {next now most : Int} {go k : Nat} {A : Option Addr} {fv : Value} {q : Ck → Bool} {F : List Res} (w : World) (hlen : l.length ≤ 1073741824) (h0 : 0 ≤ most) (Fq : ∀ x : Ck, FnH Tryz.prog w F fv [.agg x.arr] (.bool (q x))) : Cm Tryz.prog 35 #[.pointer (some ⟨go, 0, none⟩), .int .i64 most, fv] w (.blk go (.cells #[.slice A l.length k, .int .i64 next, .int .i64 now] 66 (0, 0)) :: .row (.slice A l.length k) 26 13 l.length (l.flatMap Ck.cells) :: F) (fun x : Option Addr × Nat => .tuple #[]) (fun x => .blk go (.cells #[.slice x.1 (evictL most q l).length x.2, .int .i64 next, .int .i64 now] 66 (0, 0)) :: .row (.slice x.1 (evictL most q l).length x.2) 26 13 (evictL most q l).length ((evictL most q l).flatMap Ck.cells) :: F) (fun _ => True) := by
  refine enterM (E := [(0, .pointer (some ⟨go, 0, none⟩)), (1, .int .i64 most), (2, fv)]) Tryz.func35 rfl Tryz.ntmps35 rfl (by simp) ?_
  refine c_seq ?_
  refine c_region rfl ?_
  refine l_box1 rfl rfl rfl ?_; intro g3
  refine l_nil ?_
  refine q_then ?_
  refine c_block ?_
  refine loop (Ef := [(1, _), (2, _), (3, _)]) (Hf := [_] ++ F) (fun x : List Ck × Option Addr × Nat => evictL most q x.1 = evictL most q l ∧ x.1.length ≤ 1073741824) (fun x : List Ck × Option Addr × Nat => []) (fun x : List Ck × Option Addr × Nat => [.blk go (.cells #[.slice x.2.1 x.1.length x.2.2, .int .i64 next, .int .i64 now] 66 (0, 0)), .row (.slice x.2.1 x.1.length x.2.2) 26 13 x.1.length (x.1.flatMap Ck.cells)]) (fun x : List Ck × Option Addr × Nat => x.1.length) (l, A, k) ⟨rfl, hlen⟩ sub_nil (sub_cons rfl (sub_cons rfl (sub_cons rfl sub_nil))) (hs_app (A := [_, _, _]) (B := [_, _, _]) (is := [1, 2, 0]) rfl rfl) ?_
  rintro ⟨m, A9, k9⟩ hI
  dsimp only at hI ⊢
  refine c_sub (E' := [(1, _), (2, _), (3, _)]) (sub_cons rfl (sub_cons rfl (sub_cons rfl sub_nil))) ?_
  refine c_block ?_
  refine c_seq ?_
  refine c_region rfl ?_
  refine gv rfl (y_assign rfl) ?_
  refine l_nil ?_
  refine q_then ?_
  refine c_seq ?_
  refine c_seq ?_
  refine c_region rfl ?_
  refine gv rfl (y_load (k := 2)  one61 rfl rfl rfl) ?_
  refine gv rfl (y_nilCheck rfl) ?_
  refine gv rfl (y_faddr off66_0 rfl rfl) ?_
  refine gv rfl (y_faddr off24_0 rfl rfl) ?_
  refine gv rfl (y_load (k := 0)  one22 rfl rfl rfl) ?_
  refine gv rfl (y_len elem22 rfl) ?_
  refine gv rfl (y_move rfl) ?_
  refine l_nil ?_
  refine q_then ?_
  refine c_block ?_
  refine c_nilrow 3 1 ?_
  refine loop (Ef := [(1, _), (2, _), (3, _), (14, _), (15, _)]) (Hf := [_, _, _] ++ F) (fun y : Nat × Option Addr × Nat => y.1 ≤ m.length) (fun y : Nat × Option Addr × Nat => [(16, .int .i64 (y.1 : Int)), (6, .slice y.2.1 (idxT q m y.1).length y.2.2)]) (fun y : Nat × Option Addr × Nat => [.row (.slice y.2.1 (idxT q m y.1).length y.2.2) 3 1 (idxT q m y.1).length ((idxT q m y.1).flatMap i1)]) (fun y : Nat × Option Addr × Nat => m.length - y.1) (0, none, 0) (Nat.zero_le _) (sub_cons rfl (sub_cons rfl sub_nil)) (sub_cons rfl (sub_cons rfl (sub_cons rfl (sub_cons rfl (sub_cons rfl sub_nil))))) (hs_app (A := [_, _, _, _]) (B := [_, _, _, _]) (is := [0, 1, 2, 3]) rfl rfl) ?_
  rintro ⟨s, A6, k6⟩ hs
  dsimp only at hs ⊢
  refine c_sub (E' := [(16, _), (6, _), (1, _), (2, _), (3, _), (14, _), (15, _)]) (sub_cons rfl (sub_cons rfl (sub_cons rfl (sub_cons rfl (sub_cons rfl (sub_cons rfl (sub_cons rfl sub_nil))))))) ?_
  refine c_seq ?_
  refine c_region rfl ?_
  refine gv rfl (y_lss rfl rfl) ?_
  refine l_nil ?_
  refine q_then ?_
  refine c_seq ?_
  refine c_dec rfl ?_ ?_
  · intro h17
    have hlt : s < m.length := by omega
    obtain ⟨v, hv⟩ := get_lt hlt
    have hg := getD_of_get (d := Ck.none_) hv
    refine c_skip ?_
    refine q_then ?_
    refine c_seq ?_
    refine c_block ?_
    refine c_seq ?_
    refine c_region rfl ?_
    refine gv rfl (y_move rfl) ?_
    refine gv rfl (y_iaddr_row (k := 2) elem22 size26 rfl (fun _ => rfl) rfl rfl rfl (by omega) hv) ?_
    refine gv rfl (y_loadA_row (k := 2) agg26 rfl (fun _ => rfl) rfl rfl rfl hv rfl) ?_
    refine l_allocA rfl zero26 ?_; intro g8
    refine gv rfl (y_assign rfl) ?_
    refine l_storeW (k := 0) (H' := _ :: _ :: _ :: _ :: _ :: F) size26 rfl rfl rfl rfl rfl rfl rfl ?_
    refine l_nil ?_
    refine q_then ?_
    refine c_seq ?_
    refine c_region rfl ?_
    refine gv rfl (y_move rfl) ?_
    refine gv rfl (y_loadW (k := 0)  agg26 rfl rfl rfl) ?_
    refine l_callH rfl rfl rfl (hs_tail (A := [_, _, _, _, _])) (Fq v) ?_
    refine l_nil ?_
    refine q_then ?_
    refine c_bool rfl ?_ ?_
    · intro h23
      have ev : idxT q m (s + 1) = idxT q m s ++ [(s : Int)] := by rw [idxT, addL, hg, if_pos h23]
      have hil := idxT_len q m s
      have hm1 := hI.2
      refine c_region rfl ?_
      refine gv rfl (y_move rfl) ?_
      refine gv rfl (y_move rfl) ?_
      refine l_bslice (cl := [_]) rfl elem51 ap3 zero3 rfl rfl rfl rfl rfl rfl rfl ?_; intro g26
      refine l_append (k := 2) (j := 0) (zs := (idxT q m s ++ [(s : Int)]).flatMap i1) rfl elem51 ap3 rfl rfl rfl rfl rfl rfl (by omega) (by omega) app_one ?_; intro A27 c27
      refine gv rfl (y_assign rfl) ?_
      refine l_nil ?_
      refine q_block (q_then ?_)
      refine c_region rfl ?_
      refine gv rfl (y_add rfl rfl (wrap_in (by omega) (by omega))) ?_
      refine gv rfl (y_move rfl) ?_
      refine l_nil ?_
      rw [← len_snoc (idxT q m s) (s : Int), ← ev]
      exact again (s + 1, A27, c27) (Nat.succ_le_of_lt hlt) (by omega) (sub_cons rfl (sub_cons rfl sub_nil)) (sub_cons rfl (sub_cons rfl (sub_cons rfl (sub_cons rfl (sub_cons rfl sub_nil))))) (hs_app (A := [_, _, _, _]) (B := [_, _, _, _, _, _]) (is := [2, 3, 4, 5]) rfl rfl)
    · intro h23
      have ev : idxT q m (s + 1) = idxT q m s := by rw [idxT, addL, hg, if_neg (by rw [h23]; simp)]
      refine c_skip ?_
      refine q_block (q_then ?_)
      refine c_region rfl ?_
      refine gv rfl (y_add rfl rfl (wrap_in (by omega) (by omega))) ?_
      refine gv rfl (y_move rfl) ?_
      refine l_nil ?_
      rw [← ev]
      exact again (s + 1, A6, k6) (Nat.succ_le_of_lt hlt) (by omega) (sub_cons rfl (sub_cons rfl sub_nil)) (sub_cons rfl (sub_cons rfl (sub_cons rfl (sub_cons rfl (sub_cons rfl sub_nil))))) (hs_app (A := [_, _, _, _]) (B := [_, _, _, _, _]) (is := [1, 2, 3, 4]) rfl rfl)
  · intro h17
    have hs9 : s = m.length := by omega
    subst hs9
    have hil := idxT_len q m m.length
    have hm1 := hI.2
    refine c_exit ?_
    refine q_then_exit (q_loop_exit (q_block_exit (q_then ?_)))
    refine c_seq ?_
    refine c_seq ?_
    refine c_region rfl ?_
    refine gv rfl (y_move rfl) ?_
    refine gv rfl (y_len elem51 rfl) ?_
    refine gv rfl (y_move rfl) ?_
    refine gv rfl (y_leq rfl rfl) ?_
    refine l_nil ?_
    refine q_then ?_
    refine c_dec rfl ?_ ?_
    · intro h32
      refine c_ret ?_
      refine q_then_ret (q_block_ret (q_loop_ret (q_block_ret ?_)))
      have e9 : evictL most q l = m := hI.1.symm.trans (evictL_stop h32)
      exact q_ret0 (.inl rfl) rfl (A9, k9) trivial rfl (by rw [e9]; exact hs_app (B := [_, _, _, _]) (is := [1, 2]) rfl rfl)
    · intro h32
      have hl9 : 0 ≤ (minF (useF m) (idxT q m m.length)) ∧ (minF (useF m) (idxT q m m.length)) < m.length := leastI_lt h0 h32
      have hne : idxT q m m.length ≠ [] := by intro e; rw [e] at h32; simp at h32; omega
      refine c_skip ?_
      refine q_then ?_
      refine c_seq ?_
      refine c_region rfl ?_
      refine gv rfl (y_move rfl) ?_
      refine gv rfl (y_mkfn rfl) ?_
      refine l_callU rfl ent72 rfl (fun w hm => minInt_c (f := useF m) w (sl_of_row hm (k := 0) rfl (fun _ => rfl) rfl) hne (by omega) (fun x hx y hy => FnV.mk (fs := []) (cs := [_]) ent73 (fun w1 hb => evict1_c w1 ((el_of_blk hm (k := 3) rfl).below hb) ((el_of_blk hm (k := 1) rfl).below hb) ((sl_of_row hm (k := 2) rfl (fun _ => rfl) rfl).below hb) (by obtain ⟨i, h1, rfl, _⟩ := idxT_mem.1 hx; omega) (by obtain ⟨i, h1, rfl, _⟩ := idxT_mem.1 hy; omega)))) ?_
      refine gv rfl (y_assign rfl) ?_
      refine l_nil ?_
      refine q_then ?_
      refine c_drawp (l := #[false, false, false, false, false, false, false, false, false, false, false, false, false, false]) 10 (is := [0, 1, 3]) rfl rfl rfl rfl ?_
      refine h_take (l' := #[true, false, false, false, false, false, false, false, false, false, false, false, false, false]) 0 rfl (by kernel_rfl) rfl rfl (np_block (np_loop (np_block np_post))) (hs_pick (is := [0, 1, 3]) rfl rfl) (y_load (k := 2)  one61 rfl rfl rfl) ?_
      refine h_take (l' := #[true, true, false, false, false, false, false, false, false, false, false, false, false, false]) 1 rfl (by kernel_rfl) rfl rfl (np_block (np_loop (np_block np_post))) (hs_pick (is := [0, 1, 3]) rfl rfl) (y_load (k := 2)  one61 rfl rfl rfl) ?_
      refine h_take (l' := #[true, true, true, false, false, false, false, false, false, false, false, false, false, false]) 2 rfl (by kernel_rfl) rfl rfl (np_block (np_loop (np_block np_post))) (hs_pick (is := [0, 1, 3]) rfl rfl) (y_nilCheck rfl) ?_
      refine h_take (l' := #[true, true, true, true, false, false, false, false, false, false, false, false, false, false]) 3 rfl (by kernel_rfl) rfl rfl (np_block (np_loop (np_block np_post))) (hs_pick (is := [0, 1, 3]) rfl rfl) (y_faddr off66_0 rfl rfl) ?_
      refine h_take (l' := #[true, true, true, true, true, false, false, false, false, false, false, false, false, false]) 4 rfl (by kernel_rfl) rfl rfl (np_block (np_loop (np_block np_post))) (hs_pick (is := [0, 1, 3]) rfl rfl) (y_faddr off24_0 rfl rfl) ?_
      refine h_take (l' := #[true, true, true, true, true, true, false, false, false, false, false, false, false, false]) 5 rfl (by kernel_rfl) rfl rfl (np_block (np_loop (np_block np_post))) (hs_pick (is := [0, 1, 3]) rfl rfl) (y_load (k := 1)  one22 rfl rfl rfl) ?_
      refine h_take (l' := #[true, true, true, true, true, true, true, false, false, false, false, false, false, false]) 6 rfl (by kernel_rfl) rfl rfl (np_block (np_loop (np_block np_post))) (hs_pick (is := [0, 1, 3]) rfl rfl) (y_move rfl) ?_
      refine h_take (l' := #[true, true, true, true, true, true, true, true, false, false, false, false, false, false]) 7 rfl (by kernel_rfl) rfl rfl (np_block (np_loop (np_block np_post))) (hs_pick (is := [0, 1, 3]) rfl rfl) (y_move rfl) ?_
      refine h_take (l' := #[true, true, true, true, true, true, true, true, true, false, false, false, false, false]) 8 rfl (by kernel_rfl) rfl rfl (np_block (np_loop (np_block np_post))) (hs_pick (is := [0, 1, 3]) rfl rfl) (y_add rfl rfl (wrap_in (by omega) (by omega))) ?_
      refine h_only (l' := #[true, true, true, true, true, true, true, true, true, true, false, false, false, false]) 9 rfl (by kernel_rfl) rfl ?_
      refine l_hs (hs_app (A := [_, _, _, _]) (B := [_, _, _, _]) (is := [2, 0, 1, 3]) rfl rfl) ?_
      refine l_callM (fs := []) rfl ent74 rfl rfl (delete_m (l := m) _ hI.2 hl9) ?_; rintro ⟨A45, c45⟩ _
      refine l_nil ?_
      refine q_step (fun _ => hs_pick (is := [1, 2, 3]) rfl rfl) ?_
      refine h_only (l' := #[true, true, true, true, true, true, true, true, true, true, true, false, false, false]) 10 rfl (by kernel_rfl) rfl ?_
      refine gv rfl (y_nilCheck rfl) ?_
      refine l_nil ?_
      refine q_step (fun h => by cases h) ?_
      refine h_only (l' := #[true, true, true, true, true, true, true, true, true, true, true, true, false, false]) 11 rfl (by kernel_rfl) rfl ?_
      refine gv rfl (y_faddr off66_0 rfl rfl) ?_
      refine l_nil ?_
      refine q_step (fun h => by cases h) ?_
      refine h_only (l' := #[true, true, true, true, true, true, true, true, true, true, true, true, true, false]) 12 rfl (by kernel_rfl) rfl ?_
      refine gv rfl (y_faddr off24_0 rfl rfl) ?_
      refine l_nil ?_
      refine q_step (fun h => by cases h) ?_
      refine h_only (l' := #[true, true, true, true, true, true, true, true, true, true, true, true, true, true]) 13 rfl (by kernel_rfl) rfl ?_
      refine l_store (k := 2) (cs' := #[_, _, _]) (H' := _ :: _ :: _ :: _ :: F) size22 rfl rfl rfl rfl rfl rfl rfl ?_
      refine l_nil ?_
      refine q_step (fun h => by cases h) ?_
      refine h_done (by kernel_rfl) ?_
      refine q_block ?_
      have he9 := List.length_eraseIdx_of_lt (l := m) (i := (minF (useF m) (idxT q m m.length)).toNat) (by omega)
      exact again (m.eraseIdx (minF (useF m) (idxT q m m.length)).toNat, A45, c45) ⟨(evictL_step h0 h32).symm.trans hI.1, by have h7 := hI.2; dsimp only; omega⟩ (by dsimp only; omega) sub_nil (sub_cons rfl (sub_cons rfl (sub_cons rfl sub_nil))) (hs_app (A := [_, _, _]) (B := [_, _, _, _]) (is := [2, 0, 3]) rfl rfl)

theorem layL_len (l : List Ck) (n : Int) (c : Ck) : (layL l n c).length ≤ l.length + 1 := by
  unfold layL; split
  · rw [List.length_set]; omega
  · simp
theorem liveL_len (now : Int) (l : List Ck) : (liveL now l).length ≤ l.length := List.length_filter_le _ _
theorem evictN_len (most : Int) (q : Ck → Bool) : ∀ (n : Nat) (l : List Ck), (evictN most q n l).length ≤ l.length
  | 0, _ => Nat.le_refl _
  | n + 1, l => by
    unfold evictN
    split
    · exact Nat.le_refl _
    · exact Nat.le_trans (evictN_len most q n _) (List.length_eraseIdx_le ..)
theorem evictL_len (most : Int) (q : Ck → Bool) (l : List Ck) : (evictL most q l).length ≤ l.length := evictN_len most q _ l
theorem put_c {j : Ja} {c : Ck} {now : Int} {A0 : Option Addr} {k0 : Nat} (w : World) (hJ : Sl Ck.cells 13 w A0 j.cks) (hj : j.ok) (hk0 : A0 = none → k0 = 0) : Ct Tryz.prog 10 #[.agg (j.arr A0 k0), .agg c.arr, .int .i64 now] w (fun x : Option Addr × Nat => .tuple #[.agg #[.slice x.1 (putJ j c now).cks.length x.2, .int .i64 (putJ j c now).next], .int .i64 (putE j c now)]) (fun x => [.row (.slice x.1 (putJ j c now).cks.length x.2) 26 13 (putJ j c now).cks.length ((putJ j c now).cks.flatMap Ck.cells)]) (fun _ => True) := by
  refine enter (E := [(0, .agg (j.arr A0 k0)), (1, .agg c.arr), (2, .int .i64 now)]) Tryz.func10 rfl Tryz.ntmps10 rfl (by simp) ?_
  refine c_nilrow 26 13 ?_
  refine c_seq ?_
  refine c_region rfl ?_
  refine l_boxA rfl rfl ?_; intro g3
  refine l_boxA rfl rfl ?_; intro g4
  refine l_allocA rfl zero24 ?_; intro g6
  refine gv rfl (y_assign rfl) ?_
  refine l_nil ?_
  refine q_then ?_
  refine c_seq ?_
  refine c_seq ?_
  refine c_region rfl ?_
  refine gv rfl (y_loadW (k := 2)  agg24 rfl rfl rfl) ?_
  refine l_callU rfl ent13 rfl (fun w hm => jarCheck_c w (hJ.below hm.below) hj) ?_
  refine gv rfl (y_assign rfl) ?_
  refine l_nil ?_
  refine q_then ?_
  refine c_seq ?_
  refine c_region rfl ?_
  refine gv rfl (y_move rfl) ?_
  refine gv rfl (y_neq rfl rfl) ?_
  refine l_nil ?_
  refine q_then ?_
  refine c_dec rfl ?_ ?_
  · intro h13
    refine c_seq ?_
    refine c_region rfl ?_
    refine gv rfl (y_build (cs := #[_, _]) (cl := [_, _])  zero24 bld24 rfl rfl rfl rfl rfl) ?_
    refine gv rfl (y_move rfl) ?_
    refine l_storeW (k := 0) (H' := [_, _, _, _]) size24 rfl rfl rfl rfl rfl rfl rfl ?_
    refine gv rfl (y_assign rfl) ?_
    refine l_nil ?_
    refine q_then ?_
    refine c_ret ?_
    refine q_then_ret ?_
    have eE : putE j c now = jarErr j := by unfold putE; rw [if_pos h13]
    have eJ : putJ j c now = ⟨[], 0⟩ := if_pos (by rw [eE]; exact h13)
    exact q_retA1 (k := 0) Tryz.results10 agg24 rfl rfl rfl rfl (none, 0) trivial (by rw [eE, eJ] <;> rfl) (by rw [eJ]; exact hs_pick (is := [3]) rfl rfl)
  · intro h13
    have hz : jarErr j = 0 := Decidable.not_not.1 h13
    obtain ⟨hz1, hz2, hz3⟩ := jarErr_iff.1 hz
    have hl1 := liveL_len now j.cks
    have hl2 := layL_len (liveL now j.cks) j.next c
    have hl3 := liveL_len now (layL (liveL now j.cks) j.next c)
    have hl4 := evictL_len 4 (fun x => decide (x.domain = c.domain)) (liveL now (layL (liveL now j.cks) j.next c))
    refine c_skip ?_
    refine q_then ?_
    refine c_seq ?_
    refine c_block ?_
    refine c_seq ?_
    refine c_seq ?_
    refine c_region rfl ?_
    refine gv rfl (y_move rfl) ?_
    refine l_callU rfl ent30 rfl (fun w hm => is_c w) ?_
    refine gv rfl (y_not rfl rfl) ?_
    refine gv rfl (y_assign rfl) ?_
    refine l_nil ?_
    refine q_then ?_
    refine c_ndec rfl ?_ ?_
    · intro h16
      refine c_skip ?_
      refine q_then ?_
      refine c_cond_t rfl ?_
      refine c_seq ?_
      refine c_region rfl ?_
      refine gv rfl (y_build (cs := #[_, _]) (cl := [_, _])  zero24 bld24 rfl rfl rfl rfl rfl) ?_
      refine l_storeW (k := 0) (H' := [_, _, _, _]) size24 rfl rfl rfl rfl rfl rfl rfl ?_
      refine gv rfl (y_assign rfl) ?_
      refine l_nil ?_
      refine q_then ?_
      refine c_ret ?_
      refine q_block_ret (q_then_ret ?_)
      have eE : putE j c now = 3 := by unfold putE; rw [if_neg h13, if_pos (by first | exact .inl h16 | exact .inr h16)]
      have eJ : putJ j c now = ⟨[], 0⟩ := if_pos (by rw [eE]; decide)
      exact q_retA1 (k := 0) Tryz.results10 agg24 rfl rfl rfl rfl (none, 0) trivial (by rw [eE, eJ] <;> rfl) (by rw [eJ]; exact hs_pick (is := [3]) rfl rfl)
    · intro h16
      have hnow := h16
      refine c_region rfl ?_
      refine gv rfl (y_loadW (k := 1)  agg26 rfl rfl rfl) ?_
      refine l_callU rfl ent31 rfl (fun w hm => moments_c w) ?_
      refine gv rfl (y_not rfl rfl) ?_
      refine gv rfl (y_assign rfl) ?_
      refine l_nil ?_
      refine q_then ?_
      refine c_ndec rfl ?_ ?_
      · intro h16
        refine c_seq ?_
        refine c_region rfl ?_
        refine gv rfl (y_build (cs := #[_, _]) (cl := [_, _])  zero24 bld24 rfl rfl rfl rfl rfl) ?_
        refine l_storeW (k := 0) (H' := [_, _, _, _]) size24 rfl rfl rfl rfl rfl rfl rfl ?_
        refine gv rfl (y_assign rfl) ?_
        refine l_nil ?_
        refine q_then ?_
        refine c_ret ?_
        refine q_block_ret (q_then_ret ?_)
        have eE : putE j c now = 3 := by unfold putE; rw [if_neg h13, if_pos (by first | exact .inl h16 | exact .inr h16)]
        have eJ : putJ j c now = ⟨[], 0⟩ := if_pos (by rw [eE]; decide)
        exact q_retA1 (k := 0) Tryz.results10 agg24 rfl rfl rfl rfl (none, 0) trivial (by rw [eE, eJ] <;> rfl) (by rw [eJ]; exact hs_pick (is := [3]) rfl rfl)
      · intro h16
        refine c_seq ?_
        refine c_region rfl ?_
        refine gv rfl (y_faddr off24_1 rfl rfl) ?_
        refine gv rfl (y_load (k := 2)  one3 rfl rfl rfl) ?_
        refine gv rfl (y_eql rfl rfl) ?_
        refine gv rfl (y_assign rfl) ?_
        refine l_nil ?_
        refine q_then ?_
        refine c_dec rfl ?_ ?_
        · intro h24
          refine c_seq ?_
          refine c_region rfl ?_
          refine gv rfl (y_build (cs := #[_, _]) (cl := [_, _])  zero24 bld24 rfl rfl rfl rfl rfl) ?_
          refine l_storeW (k := 0) (H' := [_, _, _, _]) size24 rfl rfl rfl rfl rfl rfl rfl ?_
          refine gv rfl (y_assign rfl) ?_
          refine l_nil ?_
          refine q_then ?_
          refine c_ret ?_
          refine q_block_ret (q_then_ret ?_)
          have eE : putE j c now = 2 := by unfold putE; rw [if_neg h13, if_neg (by intro h; rcases h with h | h; exact h hnow; exact h h16), if_pos h24]
          have eJ : putJ j c now = ⟨[], 0⟩ := if_pos (by rw [eE]; decide)
          exact q_retA1 (k := 0) Tryz.results10 agg24 rfl rfl rfl rfl (none, 0) trivial (by rw [eE, eJ] <;> rfl) (by rw [eJ]; exact hs_pick (is := [3]) rfl rfl)
        · intro h24
          refine c_skip ?_
          refine q_block (q_then ?_)
          refine c_seq ?_
          refine c_region rfl ?_
          refine gv rfl (y_loadW (k := 2)  agg24 rfl rfl rfl) ?_
          refine gv rfl (y_move rfl) ?_
          refine l_call rfl ent32 rfl (fun w hm => own_c w (hJ.below hm.below) hj.1 hk0) ?_; rintro ⟨gO, AO, kO⟩ h31
          refine gv rfl (y_assign rfl) ?_
          refine l_nil ?_
          refine q_then ?_
          refine c_seq ?_
          refine c_region rfl ?_
          refine gv rfl (y_move rfl) ?_
          refine l_hs (hs_pick (is := [0, 1, 2, 3, 4, 5]) rfl rfl) ?_
          refine l_callM (fs := []) rfl ent33 rfl rfl (expire_m (l := j.cks) _ hj.1) ?_; rintro ⟨A33, c33⟩ _
          refine l_nil ?_
          refine q_then ?_
          refine c_seq ?_
          refine c_region rfl ?_
          refine gv rfl (y_move rfl) ?_
          refine gv rfl (y_loadW (k := 3)  agg26 rfl rfl rfl) ?_
          refine l_hs (hs_pick (is := [0, 1, 2, 3, 4, 5]) rfl rfl) ?_
          refine l_callM (fs := []) rfl ent34 rfl rfl (lay_m (l := (liveL now j.cks)) (c := c) _ (by omega) (by omega)) ?_; rintro ⟨A36, c36⟩ _
          refine l_nil ?_
          refine q_then ?_
          refine c_seq ?_
          refine c_region rfl ?_
          refine gv rfl (y_move rfl) ?_
          refine l_hs (hs_pick (is := [0, 1, 2, 3, 4, 5]) rfl rfl) ?_
          refine l_callM (fs := []) rfl ent33 rfl rfl (expire_m (l := (layL (liveL now j.cks) j.next c)) _ (by omega)) ?_; rintro ⟨A38, c38⟩ _
          refine l_nil ?_
          refine q_then ?_
          refine c_seq ?_
          refine c_region rfl ?_
          refine gv rfl (y_move rfl) ?_
          refine gv rfl (y_mkfn rfl) ?_
          refine l_hs (hs_pick (is := [0, 1, 2, 3, 4, 5]) rfl rfl) ?_
          refine l_callM (fs := []) rfl ent35 rfl rfl (evict_m (l := (liveL now (layL (liveL now j.cks) j.next c))) (q := fun x => decide (x.domain = c.domain)) _ (by omega) (by decide) (fun x => FnH.mk (fs := []) (cs := [_]) ent36 (fun w1 hm1 => put1_c w1 (el_of_blk hm1 (k := 1) rfl)))) ?_; rintro ⟨A41, c41⟩ _
          refine l_nil ?_
          refine q_then ?_
          refine c_seq ?_
          refine c_region rfl ?_
          refine gv rfl (y_move rfl) ?_
          refine l_hs (hs_pick (is := [0, 1, 2, 3, 4, 5]) rfl rfl) ?_
          refine l_callM (fs := []) rfl ent35 rfl rfl (evict_m (l := (evictL 4 (fun x => decide (x.domain = c.domain)) (liveL now (layL (liveL now j.cks) j.next c)))) (q := fun _ => true) _ (by omega) (by decide) (fun x => FnH.mk (fs := []) (cs := []) ent37 (fun w1 hm1 => put2_c w1))) ?_; rintro ⟨A43, c43⟩ _
          refine l_nil ?_
          refine q_then ?_
          refine c_seq ?_
          refine c_region rfl ?_
          refine gv rfl (y_move rfl) ?_
          refine gv rfl (y_nilCheck rfl) ?_
          refine gv rfl (y_faddr off66_0 rfl rfl) ?_
          refine gv rfl (y_loadA (k := 0) (vs := [_, _])  agg24 rfl rfl rfl rfl) ?_
          refine l_storeW (k := 2) (H' := [_, _, _, _, _, _]) size24 rfl rfl rfl rfl rfl rfl rfl ?_
          refine gv rfl (y_assign rfl) ?_
          refine l_nil ?_
          refine q_then ?_
          refine c_ret ?_
          have eE : putE j c now = 0 := by unfold putE; rw [if_neg h13, if_neg (by intro h; rcases h with h | h; exact h hnow; exact h h16), if_neg h24]
          have eJ : putJ j c now = ⟨putL j c now, layN (liveL now j.cks) j.next c⟩ := if_neg (by rw [eE]; simp)
          exact q_retA1 (k := 2) Tryz.results10 agg24 rfl rfl rfl rfl (A43, c43) trivial (by rw [eE, eJ] <;> rfl) (by rw [eJ]; exact hs_pick (is := [1]) rfl rfl)

end Go.Gx
