/- This text proves: functions of the program, walked: what each answers, for every input. No condition beyond those that each theorem names. -/
import Derived.Test.YtgehghoammpiaaaGreatDoorProg
import Derived.Test.YtgehghoammpiaaaGreatDoorT1
import Derived.Test.YtgehghoammpiaaaGreatDoorGy6
import Derived.KernelRfl
namespace Go.Gx
open Go.Proofs Go.Maps
theorem ent70 : enters Tryz.prog 70 = true := by kernel_rfl

theorem cloneCk_c {l : List Ck} {A : Option Addr} {k : Nat} (w : World) (hA : Sl Ck.cells 13 w A l) (hlen : l.length ≤ 1073741824) (hk0 : A = none → k = 0) : Ct Tryz.prog 57 #[.slice A l.length k] w (fun x : Option Addr × Nat => .slice x.1 l.length x.2) (fun x => [.row (.slice x.1 l.length x.2) 26 13 l.length (l.flatMap Ck.cells)]) (fun _ => True) := by
  refine enter (E := [(0, .slice A l.length k)]) Tryz.func57 rfl Tryz.ntmps57 rfl (by simp) ?_
  refine c_nilrow 26 13 ?_
  refine c_seq ?_
  refine c_region rfl ?_
  refine gv rfl (y_assign rfl) ?_
  refine l_nil ?_
  refine q_then ?_
  refine c_seq ?_
  refine c_seq ?_
  refine c_region rfl ?_
  refine gv rfl (y_move rfl) ?_
  refine gv rfl (y_snil elem22 rfl rfl) ?_
  refine l_nil ?_
  refine q_then ?_
  refine c_bool rfl ?_ ?_
  · intro h4
    refine c_seq ?_
    refine c_region rfl ?_
    refine gv rfl (y_assign rfl) ?_
    refine l_nil ?_
    refine q_then ?_
    refine c_ret ?_
    refine q_then_ret ?_
    obtain rfl : A = none := by simpa using h4
    have el : l = [] := by
      cases l with
      | nil => rfl
      | cons a l => obtain ⟨ad, h, _⟩ := hA 0 a rfl; cases h
    subst el
    exact q_ret1 Tryz.results57 rfl (none, 0) trivial (by have hk := hk0 rfl; subst hk; rfl) (hs_pick (is := [0]) rfl rfl)
  · intro h4
    obtain ⟨ad, rfl⟩ : ∃ ad, A = some ad := by cases A with
      | none => simp at h4
      | some ad => exact ⟨ad, rfl⟩
    refine c_skip ?_
    refine q_then ?_
    refine c_seq ?_
    refine c_region rfl ?_
    refine l_bslice0 13 rfl elem22 size26 ?_; intro g5
    refine gv rfl (y_move rfl) ?_
    refine l_append_old (k := 0) (zs := l.flatMap Ck.cells) rfl elem22 ap26 hA (fun _ => rfl) rfl rfl rfl (fun _ => rfl) (by omega) (by omega) (by simp) ?_; intro A7 c7
    refine gv rfl (y_assign rfl) ?_
    refine l_nil ?_
    refine q_then ?_
    refine c_ret ?_
    exact q_ret1 Tryz.results57 rfl (A7, c7) trivial (by rw [Nat.zero_add]) (by rw [Nat.zero_add]; exact hs_pick (is := [0]) rfl rfl)

theorem delCk_m {l : List Ck} {A : Option Addr} {k : Nat} {fv : Value} {p : Ck → Bool} {F : List Res} (w : World) (hlen : l.length ≤ 1073741824) (Fp : ∀ x ∈ l, FnH Tryz.prog w F fv [.agg x.arr] (.bool (p x))) : Cm Tryz.prog 68 #[.slice A l.length k, fv] w (.row (.slice A l.length k) 26 13 l.length (l.flatMap Ck.cells) :: F) (fun x : Option Addr × Nat => .slice x.1 (l.filter (fun v => !p v)).length x.2) (fun x => .row (.slice x.1 (l.filter (fun v => !p v)).length x.2) 26 13 (l.filter (fun v => !p v)).length ((l.filter (fun v => !p v)).flatMap Ck.cells) :: F) (fun _ => True) := by
  refine enterM (E := [(0, .slice A l.length k), (1, fv)]) Tryz.func68 rfl Tryz.ntmps68 rfl (by simp) ?_
  refine c_seq ?_
  refine c_region rfl ?_
  refine gv rfl (y_assign rfl) ?_
  refine l_nil ?_
  refine q_then ?_
  refine c_seq ?_
  refine c_region rfl ?_
  refine gv rfl (y_move rfl) ?_
  refine gv rfl (y_move rfl) ?_
  refine l_callU rfl ent70 rfl (fun w hm => idxFn_ck_c (p := p) w (sl_of_row hm (k := 0) rfl (fun _ => rfl) rfl) (Nat.le_trans hlen (by decide)) (fun x hx => (Fp x hx).fnV (hs_tail (A := [_]) _ _ hm))) ?_
  refine gv rfl (y_assign rfl) ?_
  refine l_nil ?_
  refine q_then ?_
  refine c_seq ?_
  refine c_seq ?_
  refine c_region rfl ?_
  refine gv rfl (y_move rfl) ?_
  refine gv rfl (y_eql rfl rfl) ?_
  refine l_nil ?_
  refine q_then ?_
  refine c_dec rfl ?_ ?_
  · intro h12
    refine c_seq ?_
    refine c_region rfl ?_
    refine gv rfl (y_move rfl) ?_
    refine gv rfl (y_assign rfl) ?_
    refine l_nil ?_
    refine q_then ?_
    refine c_ret ?_
    refine q_then_ret ?_
    have e9 := delF_none h12
    exact q_ret1 Tryz.results68 rfl (A, k) trivial (by rw [e9]) (by rw [e9]; exact hs_app (B := [_]) (is := [0]) rfl rfl)
  · intro h12
    obtain ⟨i0, e0, hi0, D0⟩ := DelF.start h12
    rw [e0]
    refine c_skip ?_
    refine q_then ?_
    refine c_seq ?_
    refine c_seq ?_
    refine c_region rfl ?_
    refine gv rfl (y_move rfl) ?_
    refine gv rfl (y_add rfl rfl (wrap_in (by omega) (by omega))) ?_
    refine gv rfl (y_assign rfl) ?_
    refine l_nil ?_
    refine q_then ?_
    refine c_block ?_
    refine c_rowopen (k := 0) rfl (flat_ne Ck.len13 (by decide) hi0) ?_
    intro g0 R0 hAe hx1 hx2 hnc hcm
    subst hAe
    refine loop (Ef := [(0, _), (1, _)]) (Hf := [] ++ F) (fun x : Nat × Nat × List Ck => DelF p l x.1 x.2.1 x.2.2 ∧ x.2.1 < x.1) (fun x : Nat × Nat × List Ck => [(6, .int .i64 (x.1 : Int)), (5, .int .i64 (x.2.1 : Int))]) (fun x : Nat × Nat × List Ck => [.blk g0 (.cells (rowF Ck.cells x.2.2 R0) 26 (0, 0))]) (fun x : Nat × Nat × List Ck => l.length - x.1) (i0 + 1, i0, l) ⟨D0, Nat.lt_succ_self _⟩ (sub_cons rfl (sub_cons rfl sub_nil)) (sub_cons rfl (sub_cons rfl sub_nil)) (hs_app (A := [_]) (B := [_]) (is := [0]) rfl rfl) ?_
    rintro ⟨j, i, m⟩ ⟨D, hij⟩
    dsimp only at D hij ⊢
    refine c_sub (E' := [(6, _), (5, _), (0, _), (1, _)]) (sub_cons rfl (sub_cons rfl (sub_cons rfl (sub_cons rfl sub_nil)))) ?_
    refine c_seq ?_
    refine c_seq ?_
    refine c_region rfl ?_
    refine gv rfl (y_move rfl) ?_
    refine gv rfl (y_move rfl) ?_
    refine gv rfl (y_len elem22 rfl) ?_
    refine gv rfl (y_lss rfl rfl) ?_
    refine l_nil ?_
    refine q_then ?_
    refine c_dec rfl ?_ ?_
    · intro h19
      have hlt : j < l.length := by omega
      obtain ⟨v, hv⟩ := get_lt hlt
      refine c_skip ?_
      refine q_then ?_
      refine c_seq ?_
      refine c_block ?_
      refine c_seq ?_
      refine c_region rfl ?_
      refine gv rfl (y_move rfl) ?_
      refine gv rfl (y_move rfl) ?_
      refine gv rfl (y_iaddr_own (r := (j * 13)) elem22 size26 rfl rfl (by omega) (by omega) (by simp)) ?_
      refine gv rfl (y_loadA (k := 0) (vs := v.cells) agg26 rfl rfl rfl (by exact rowF_get Ck.len13 (D.at hv))) ?_
      refine l_allocA rfl zero26 ?_; intro g7
      refine l_storeW (k := 0) (H' := _ :: _ :: F) size26 rfl rfl rfl rfl rfl rfl rfl ?_
      refine l_nil ?_
      refine q_then ?_
      refine c_seq ?_
      refine c_region rfl ?_
      refine gv rfl (y_move rfl) ?_
      refine gv rfl (y_loadW (k := 0)  agg26 rfl rfl rfl) ?_
      refine l_callH rfl rfl rfl (hs_tail (A := [_, _])) (Fp v (List.mem_of_getElem? hv)) ?_
      refine gv rfl (y_not rfl rfl) ?_
      refine l_nil ?_
      refine q_then ?_
      refine c_bool rfl ?_ ?_
      · intro h29
        refine c_seq ?_
        refine c_region rfl ?_
        refine gv rfl (y_move rfl) ?_
        refine gv rfl (y_move rfl) ?_
        refine gv rfl (y_loadW (k := 0)  agg26 rfl rfl rfl) ?_
        refine gv rfl (y_iaddr_own (r := (i * 13)) elem22 size26 rfl rfl (by omega) (by omega) (by simp)) ?_
        refine l_storeA (k := 1) (cs' := rowF Ck.cells (m.set i v) R0) (H' := _ :: _ :: F) size26 rfl rfl rfl rfl rfl (by have h2 := D.len; rw [rowF_len Ck.len13]; omega) (rowF_set Ck.len13 (by rw [D.len]; omega)) rfl ?_
        refine l_nil ?_
        refine q_then ?_
        refine c_region rfl ?_
        refine gv rfl (y_move rfl) ?_
        refine gv rfl (y_add rfl rfl (wrap_in (by omega) (by omega))) ?_
        refine gv rfl (y_assign rfl) ?_
        refine l_nil ?_
        refine q_block (q_then ?_)
        refine c_region rfl ?_
        refine gv rfl (y_move rfl) ?_
        refine gv rfl (y_add rfl rfl (wrap_in (by omega) (by omega))) ?_
        refine gv rfl (y_assign rfl) ?_
        refine l_nil ?_
        exact again (j + 1, i + 1, m.set i v) ⟨D.keep hv (by simpa using h29), Nat.succ_lt_succ hij⟩ (by omega) (sub_cons rfl (sub_cons rfl sub_nil)) (sub_cons rfl (sub_cons rfl sub_nil)) (hs_app (A := [_]) (B := [_, _]) (is := [1]) rfl rfl)
      · intro h29
        refine c_skip ?_
        refine q_block (q_then ?_)
        refine c_region rfl ?_
        refine gv rfl (y_move rfl) ?_
        refine gv rfl (y_add rfl rfl (wrap_in (by omega) (by omega))) ?_
        refine gv rfl (y_assign rfl) ?_
        refine l_nil ?_
        exact again (j + 1, i, m) ⟨D.drop hv (by simpa using h29), Nat.lt_succ_of_lt hij⟩ (by omega) (sub_cons rfl (sub_cons rfl sub_nil)) (sub_cons rfl (sub_cons rfl sub_nil)) (hs_app (A := [_]) (B := [_, _]) (is := [1]) rfl rfl)
    · intro h19
      have hj : j = l.length := by have := D.jn; omega
      subst hj
      have hDl := D.len
      refine c_exit ?_
      refine q_then_exit (q_loop_exit (q_block_exit (q_then ?_)))
      refine c_seq ?_
      refine c_region rfl ?_
      refine gv rfl (y_move rfl) ?_
      refine gv rfl (y_move rfl) ?_
      refine gv rfl (y_slfrom elem22 size26 rfl rfl (by omega) (by omega) hnc (by omega)) ?_
      refine l_clear0 (k := 0) (sz := 13) (H' := _ :: F) elem22 zero26 rfl rfl rfl (by simp; omega) rfl (by rw [rowF_len Ck.len13, D.len]; simp; omega) rfl rfl ?_
      refine l_nil ?_
      refine q_then ?_
      refine c_seq ?_
      refine c_rowclose (k := 0) (n := i) (c := k) (sz := 13) (xs := (l.filter (fun v => !p v)).flatMap Ck.cells) rfl ((sweep_size (sz := 13) Ck.len13 (by rw [D.len]; omega) (zero_len _ _)).trans (by rw [D.len]; omega)) (by omega) hcm (by rw [← D.end_]; exact sweep_take Ck.len13 (by rw [D.len]; omega)) ?_
      refine c_region rfl ?_
      refine gv rfl (y_move rfl) ?_
      refine gv rfl (y_move rfl) ?_
      refine gv rfl (y_slto elem22 size26 rfl rfl (by omega) (by omega)) ?_
      refine gv rfl (y_assign rfl) ?_
      refine l_nil ?_
      refine q_then ?_
      refine c_ret ?_
      have e9 : (l.filter (fun v => !p v)).length = i := by rw [← D.end_]; simp [D.len]; omega
      exact q_ret1 Tryz.results68 rfl (some ⟨g0, 0, none⟩, k) trivial (by rw [e9]; rfl) (by rw [e9]; exact hs_app (B := [_]) (is := [0]) rfl rfl)

theorem delete_m {l : List Ck} {A : Option Addr} {k : Nat} {i : Int} {F : List Res} (w : World) (hlen : l.length ≤ 1073741824) (hi : 0 ≤ i ∧ i < l.length) : Cm Tryz.prog 74 #[.slice A l.length k, .int .i64 i, .int .i64 (i + 1)] w (.row (.slice A l.length k) 26 13 l.length (l.flatMap Ck.cells) :: F) (fun x : Option Addr × Nat => .slice x.1 (l.eraseIdx i.toNat).length x.2) (fun x => .row (.slice x.1 (l.eraseIdx i.toNat).length x.2) 26 13 (l.eraseIdx i.toNat).length ((l.eraseIdx i.toNat).flatMap Ck.cells) :: F) (fun _ => True) := by
  refine enterM (E := [(0, .slice A l.length k), (1, .int .i64 i), (2, .int .i64 (i + 1))]) Tryz.func74 rfl Tryz.ntmps74 rfl (by simp) ?_
  have hel : (l.eraseIdx i.toNat).length = l.length - 1 := List.length_eraseIdx_of_lt (by omega)
  have hee : l.eraseIdx i.toNat = l.take i.toNat ++ l.drop (i.toNat + 1) := List.eraseIdx_eq_take_drop_succ ..
  have hi1 : (i + 1).toNat = i.toNat + 1 := by omega
  refine c_rowopen (k := 0) rfl (flat_ne Ck.len13 (by decide) (i := i.toNat) (by omega)) ?_
  intro g0 R0 hAe hx1 hx2 hnc hcm
  subst hAe
  refine c_seq ?_
  refine c_region rfl ?_
  refine gv rfl (y_assign rfl) ?_
  refine l_nil ?_
  refine q_then ?_
  refine c_seq ?_
  refine c_region rfl ?_
  refine gv rfl (y_move rfl) ?_
  refine gv rfl (y_move rfl) ?_
  refine gv rfl (y_move rfl) ?_
  refine gv rfl (y_move rfl) ?_
  refine gv rfl (y_len elem22 rfl) ?_
  refine gve rfl (y_sl3 elem22 size26 rfl rfl rfl rfl (by omega) (by omega) (by omega) (by omega)) ?_; rintro v13 _
  refine l_nil ?_
  refine q_then ?_
  refine c_seq ?_
  refine c_seq ?_
  refine c_region rfl ?_
  refine gv rfl (y_move rfl) ?_
  refine gv rfl (y_move rfl) ?_
  refine gv rfl (y_eql rfl rfl) ?_
  refine l_nil ?_
  refine q_then ?_
  refine c_dec rfl ?_ ?_
  · intro h16
    exact absurd h16 (by omega)
  · intro h16
    refine c_skip ?_
    refine q_then ?_
    refine c_seq ?_
    refine c_region rfl ?_
    refine gv rfl (y_move rfl) ?_
    refine gv rfl (y_len elem22 rfl) ?_
    refine gv rfl (y_assign rfl) ?_
    refine l_nil ?_
    refine q_then ?_
    refine c_seq ?_
    refine c_drawp (l := #[false, false, false, false, false, false, false, false]) 7 (is := []) rfl rfl rfl rfl ?_
    refine h_take (l' := #[true, false, false, false, false, false, false, false]) 0 rfl (by kernel_rfl) rfl rfl (np_then np_post) (hs_pick (is := []) rfl rfl) (y_move rfl) ?_
    refine h_take (l' := #[true, true, false, false, false, false, false, false]) 1 rfl (by kernel_rfl) rfl rfl (np_then np_post) (hs_pick (is := []) rfl rfl) (y_move rfl) ?_
    refine h_take (l' := #[true, true, true, false, false, false, false, false]) 2 rfl (by kernel_rfl) rfl rfl (np_then np_post) (hs_pick (is := []) rfl rfl) (y_slto elem22 size26 rfl rfl (by omega) (by omega)) ?_
    refine h_take (l' := #[true, true, true, true, false, false, false, false]) 3 rfl (by kernel_rfl) rfl rfl (np_then np_post) (hs_pick (is := []) rfl rfl) (y_move rfl) ?_
    refine h_take (l' := #[true, true, true, true, true, false, false, false]) 4 rfl (by kernel_rfl) rfl rfl (np_then np_post) (hs_pick (is := []) rfl rfl) (y_move rfl) ?_
    refine h_take (l' := #[true, true, true, true, true, true, false, false]) 5 rfl (by kernel_rfl) rfl rfl (np_then np_post) (hs_pick (is := []) rfl rfl) (y_slfromX elem22 size26 rfl rfl (by omega) (by omega) hnc) ?_
    refine h_only (l' := #[true, true, true, true, true, true, true, false]) 6 rfl (by kernel_rfl) rfl ?_
    refine l_append_in (k := 0) (news := ((l.drop (i.toNat + 1)).flatMap Ck.cells)) (cs' := (rowF Ck.cells (l.take i.toNat ++ l.drop (i.toNat + 1) ++ l.drop (l.length - 1)) R0)) (H' := _ :: F) rfl elem22 ap26 rfl rfl rfl (by rw [hi1]; exact del_news Ck.len13 hnc) (by rw [flat_len Ck.len13, List.length_drop, hi1]) (flat_one Ck.one _) (by omega) (by rw [flat_len Ck.len13, List.length_drop, List.size_toArray, List.length_append, flat_len Ck.len13]; omega) (by exact del_cells Ck.len13 (by omega)) rfl ?_
    refine l_nil ?_
    refine q_step (fun _ => hs_pick (is := []) rfl rfl) ?_
    refine h_only (l' := #[true, true, true, true, true, true, true, true]) 7 rfl (by kernel_rfl) rfl ?_
    refine gv rfl (y_assign rfl) ?_
    refine l_nil ?_
    refine q_step (fun h => by cases h) ?_
    refine h_done (by kernel_rfl) ?_
    refine q_then ?_
    refine c_seq ?_
    have hlm : (l.take i.toNat ++ l.drop (i.toNat + 1) ++ l.drop (l.length - 1)).length = l.length := by simp; omega
    refine c_region rfl ?_
    refine gv rfl (y_move rfl) ?_
    refine gv rfl (y_move rfl) ?_
    refine gv rfl (y_len elem22 rfl) ?_
    refine gv rfl (y_move rfl) ?_
    refine gv rfl (y_slft elem22 size26 rfl rfl rfl (by omega) (by omega) (by omega) (by omega)) ?_
    refine l_clear0 (k := 0) (sz := 13) (H' := _ :: F) elem22 zero26 rfl rfl rfl (by omega) rfl (by rw [rowF_len Ck.len13, hlm]; simp; omega) rfl rfl ?_
    refine l_nil ?_
    refine q_then ?_
    refine c_seq ?_
    refine c_rowclose (k := 0) (n := (l.eraseIdx i.toNat).length) (c := k) (sz := 13) (xs := (l.eraseIdx i.toNat).flatMap Ck.cells) rfl ((sweep_size (sz := 13) Ck.len13 (by rw [hlm]; omega) (zero_len _ _)).trans (by rw [hlm]; omega)) (by omega) hcm ?_ ?_
    · have ez : (↑(i.toNat + (l.length - (i + 1).toNat)) : Int).toNat = (l.eraseIdx i.toNat).length := by omega
      rw [ez]
      refine (sweep_take Ck.len13 (by rw [hlm]; omega)).trans ?_
      rw [hee, List.take_append_of_le_length (by simp), List.take_of_length_le (by simp)]
    refine c_region rfl ?_
    refine gv rfl (y_move rfl) ?_
    refine gv rfl (y_assign rfl) ?_
    refine l_nil ?_
    refine q_then ?_
    refine c_ret ?_
    exact q_ret1 Tryz.results74 rfl (some ⟨g0, 0, none⟩, k) trivial (by congr 1; omega) (by exact hs_app (B := [_]) (is := [0]) rfl rfl)

end Go.Gx
