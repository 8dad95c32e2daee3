/- This text proves: functions of the program, walked: what each answers, for every input. No condition beyond those that each theorem names. -/
import Derived.Test.YtgehghoammpiaaaGreatDoorProg
import Derived.Test.YtgehghoammpiaaaGreatDoorTStr
import Derived.Test.YtgehghoammpiaaaGreatDoorT7
import Derived.Test.YtgehghoammpiaaaGreatDoorGy9
import Derived.KernelRfl
namespace Go.Gx
open Go.Proofs Go.Maps
theorem ent129 : enters Tryz.prog 129 = true := by kernel_rfl
theorem iface128 : ifaceT Tryz.prog 128 = true := by kernel_rfl
theorem ent130 : enters Tryz.prog 130 = true := by kernel_rfl

theorem atoi_c {l : List UInt8} (w : World) (hT : TabsOk Tryz.prog w) (hl : l.length ≤ 1073741824) : Ct Tryz.prog 129 #[.string (B l)] w (fun x : Value => .tuple #[.int .i64 (atV l), x]) (fun _ => []) (fun x => AtE l x) := by
  obtain ⟨⟨t1, p1, h1⟩, ⟨t2, p2, h2⟩, h3⟩ := hT
  have hz : (B l).size ≤ 281474976710656 := by have : (B l).size = l.length := rfl; omega
  cases h : Lib.atoiAll l with
  | ok v =>
    refine (Go.Proofs.Tryz.strconv_Atoi_ok (B l) (by omega) v h w).mono fun e w' hh => ?_
    obtain ⟨rfl, hw⟩ := hh
    have ev : atV l = v := by unfold atV; rw [h]
    have eo : atOk l = true := by unfold atOk; rw [h]
    refine ⟨.nilIface, .inl ⟨eo, rfl⟩, by rw [ev], ?_, by simp, List.Pairwise.nil⟩
    rcases hw with rfl | ⟨t, rfl⟩
    · exact Go.RowKit.Below.refl _ _
    · exact Lib.bytesWorld_below _ _ _
  | range =>
    refine (Go.Proofs.Tryz.strconv_Atoi_range_var (B l) hz h t2 p2 w h2).mono fun e w' hh => ?_
    obtain ⟨N, rfl, _, _, hb⟩ := hh
    have ev : atV l = Lib.atoiSat l := by unfold atV; rw [h]
    have eo : atOk l = false := by unfold atOk; rw [h]
    exact ⟨_, .inr ⟨eo, _, _, rfl⟩, by rw [ev]; rfl, hb, by simp, List.Pairwise.nil⟩
  | _ =>
    refine (Go.Proofs.Any.strconv_Atoi_syntax_var Go.Proofs.Tryz.laysC172 (B l) hz h t1 p1 w h1).mono fun e w' hh => ?_
    obtain ⟨N, rfl, _, _, hb⟩ := hh
    have ev : atV l = 0 := by unfold atV; rw [h]
    have eo : atOk l = false := by unfold atOk; rw [h]
    exact ⟨_, .inr ⟨eo, _, _, rfl⟩, by rw [ev], hb, by simp, List.Pairwise.nil⟩

theorem itoa_c {n : Int} (w : World) (hT : TabsOk Tryz.prog w) (h0 : -9223372036854775808 ≤ n) (h1 : n ≤ 9223372036854775807) : Cv Tryz.prog 130 #[.int .i64 n] w (.string (B (Lib.itoa n))) := by
  refine (Go.Proofs.Tryz.strconv_Itoa n h0 h1 w hT.2.2).mono fun e w' hh => ?_
  obtain ⟨rfl, k, os, rfl⟩ := hh
  exact ⟨(), trivial, rfl, Lib.below_grow _ _ (Nat.le_refl _) _ _, by simp, List.Pairwise.nil⟩

theorem address_c {l : List UInt8} (w : World) (hT : TabsOk Tryz.prog w) (hl : l.length ≤ 1073741824) : Cv Tryz.prog 107 #[.string (B l)] w (.bool (addrF l)) := by
  refine enter (E := [(0, .string (B l))]) Tryz.func107 rfl Tryz.ntmps107 rfl (by simp) ?_
  refine c_seq ?_
  refine c_region rfl ?_
  refine gv rfl (y_assign rfl) ?_
  refine l_nil ?_
  refine q_then ?_
  refine c_seq ?_
  refine c_region rfl ?_
  refine gv rfl (y_move rfl) ?_
  refine l_call rfl ent95 rfl (fun w hm => parts_c (b := 46) w hl) ?_; rintro x9 h9
  have hpl := partsB_len 46 l
  refine gv rfl (y_assign rfl) ?_
  refine l_nil ?_
  refine q_then ?_
  refine c_seq ?_
  refine c_seq ?_
  refine c_region rfl ?_
  refine gv rfl (y_move rfl) ?_
  refine gv rfl (y_len elem117 rfl) ?_
  refine gv rfl (y_neq rfl rfl) ?_
  refine l_nil ?_
  refine q_then ?_
  refine c_dec rfl ?_ ?_
  · intro h12
    refine c_seq ?_
    refine c_region rfl ?_
    refine gv rfl (y_assign rfl) ?_
    refine l_nil ?_
    refine q_then ?_
    refine c_ret ?_
    refine q_then_ret ?_
    exact q_ret1 Tryz.results107 rfl () trivial (congrArg Value.bool (addrF_len h12).symm) hs_nil
  · intro h12
    refine c_skip ?_
    refine q_then ?_
    refine c_seq ?_
    refine c_seq ?_
    refine c_region rfl ?_
    refine gv rfl (y_move rfl) ?_
    refine gv rfl (y_len elem117 rfl) ?_
    refine gv rfl (y_move rfl) ?_
    refine l_nil ?_
    refine q_then ?_
    refine c_block ?_
    refine loop (Ef := [(13, _), (14, _)]) (Hf := [_]) (fun s : Nat => s ≤ (partsB 46 l).length ∧ ∀ j, j < s → ∀ u, (partsB 46 l)[j]? = some u → (fun p => !partA p) u = false) (fun s : Nat => [(15, .int .i64 (s : Int))]) (fun s : Nat => []) (fun s : Nat => (partsB 46 l).length - s) 0 ⟨by omega, none_get⟩ (sub_cons rfl sub_nil) (sub_cons rfl (sub_cons rfl sub_nil)) (hs_pick (is := [0]) rfl rfl) ?_
    rintro s ⟨hs, hI⟩
    refine c_sub (E' := [(15, _), (13, _), (14, _)]) (sub_cons rfl (sub_cons rfl (sub_cons rfl sub_nil))) ?_
    refine c_seq ?_
    refine c_region rfl ?_
    refine gv rfl (y_lss rfl rfl) ?_
    refine l_nil ?_
    refine q_then ?_
    refine c_seq ?_
    refine c_dec rfl ?_ ?_
    · intro h16
      have hlt : s < (partsB 46 l).length := by omega
      obtain ⟨v, hv⟩ := get_lt hlt
      have hvl := Nat.le_trans (partsB_el _ _ _ (List.mem_of_getElem? hv)) hl
      refine c_skip ?_
      refine q_then ?_
      refine c_seq ?_
      refine c_block ?_
      refine c_seq ?_
      refine c_region rfl ?_
      refine gv rfl (y_iaddr_row (k := 0) elem117 size9 rfl (fun _ => rfl) rfl rfl rfl (by omega) hv) ?_
      refine gv rfl (y_load_row (k := 0) one9 rfl (fun _ => rfl) rfl 0 rfl rfl hv rfl) ?_
      refine gv rfl (y_assign rfl) ?_
      refine l_nil ?_
      refine q_then ?_
      refine c_seq ?_
      refine c_region rfl ?_
      refine gv rfl (y_move rfl) ?_
      refine l_call rfl ent129 rfl (fun w hm => atoi_c w (hT.above hm.below) hvl) ?_; rintro x21 h21
      refine gv rfl (y_move rfl) ?_
      refine gv rfl (y_extract rfl rfl) ?_
      refine gv rfl (y_extract rfl rfl) ?_
      refine gv rfl (y_assign rfl) ?_
      refine gv rfl (y_assign rfl) ?_
      refine l_nil ?_
      refine q_then ?_
      refine c_seq ?_
      refine c_region rfl ?_
      refine gv rfl (y_move rfl) ?_
      refine gv rfl (y_ifne iface128 rfl h21.ne) ?_
      refine gv rfl (y_move rfl) ?_
      refine g_bool (t := 26) rfl ?_ ?_
      · intro h26
        refine g_off (t := 26) rfl rfl rfl rfl ?_
        refine g_off (t := 26) rfl rfl rfl rfl ?_
        refine gv rfl (y_pick_t rfl rfl) ?_
        refine gv rfl (y_move rfl) ?_
        refine g_off (t := 30) rfl rfl rfl rfl ?_
        refine g_off (t := 30) rfl rfl rfl rfl ?_
        refine g_off (t := 30) rfl rfl rfl rfl ?_
        refine g_off (t := 30) rfl rfl rfl rfl ?_
        refine gv rfl (y_pick_t rfl rfl) ?_
        refine gv rfl (y_move rfl) ?_
        refine g_off (t := 36) rfl rfl rfl rfl ?_
        refine g_off (t := 36) rfl rfl rfl rfl ?_
        refine gv rfl (y_pick_t rfl rfl) ?_
        refine l_nil ?_
        refine q_then ?_
        refine c_cond_t rfl ?_
        refine c_seq ?_
        refine c_region rfl ?_
        refine gv rfl (y_assign rfl) ?_
        refine l_nil ?_
        refine q_then ?_
        refine c_ret ?_
        refine q_block_ret (q_then_ret (q_loop_ret (q_block_ret (q_then_ret ?_))))
        exact q_ret1 Tryz.results107 rfl () trivial (congrArg Value.bool (addrF_bad hv (partA_f (by first | exact .inl h26 | exact .inr (.inl h30) | exact .inr (.inr (.inl h36)) | exact .inr (.inr (.inr h39)) | exact .inr (.inr (.inr h39))))).symm) hs_nil
      · intro h26
        refine g_on (t := 26) rfl rfl ?_
        refine gv rfl (y_move rfl) ?_
        refine g_on (t := 26) rfl rfl ?_
        refine gv rfl (y_gtr rfl rfl) ?_
        refine gv rfl (y_pick_f rfl rfl) ?_
        refine gv rfl (y_move rfl) ?_
        refine g_dec (t := 30) rfl ?_ ?_
        · intro h30
          refine g_off (t := 30) rfl rfl rfl rfl ?_
          refine g_off (t := 30) rfl rfl rfl rfl ?_
          refine g_off (t := 30) rfl rfl rfl rfl ?_
          refine g_off (t := 30) rfl rfl rfl rfl ?_
          refine gv rfl (y_pick_t rfl rfl) ?_
          refine gv rfl (y_move rfl) ?_
          refine g_off (t := 36) rfl rfl rfl rfl ?_
          refine g_off (t := 36) rfl rfl rfl rfl ?_
          refine gv rfl (y_pick_t rfl rfl) ?_
          refine l_nil ?_
          refine q_then ?_
          refine c_cond_t rfl ?_
          refine c_seq ?_
          refine c_region rfl ?_
          refine gv rfl (y_assign rfl) ?_
          refine l_nil ?_
          refine q_then ?_
          refine c_ret ?_
          refine q_block_ret (q_then_ret (q_loop_ret (q_block_ret (q_then_ret ?_))))
          exact q_ret1 Tryz.results107 rfl () trivial (congrArg Value.bool (addrF_bad hv (partA_f (by first | exact .inl h26 | exact .inr (.inl h30) | exact .inr (.inr (.inl h36)) | exact .inr (.inr (.inr h39)) | exact .inr (.inr (.inr h39))))).symm) hs_nil
        · intro h30
          refine g_on (t := 30) rfl rfl ?_
          refine gv rfl (y_move rfl) ?_
          refine g_on (t := 30) rfl rfl ?_
          refine l_callU rfl ent130 rfl (fun w hm => itoa_c w (hT.above hm.below) (atV_range v).1 (atV_range v).2) ?_
          refine g_on (t := 30) rfl rfl ?_
          refine gv rfl (y_move rfl) ?_
          refine g_on (t := 30) rfl rfl ?_
          refine gv rfl (y_sne rfl rfl) ?_
          refine gv rfl (y_pick_f rfl rfl) ?_
          refine gv rfl (y_move rfl) ?_
          refine g_dec (t := 36) rfl ?_ ?_
          · intro h36
            refine g_off (t := 36) rfl rfl rfl rfl ?_
            refine g_off (t := 36) rfl rfl rfl rfl ?_
            refine gv rfl (y_pick_t rfl rfl) ?_
            refine l_nil ?_
            refine q_then ?_
            refine c_cond_t rfl ?_
            refine c_seq ?_
            refine c_region rfl ?_
            refine gv rfl (y_assign rfl) ?_
            refine l_nil ?_
            refine q_then ?_
            refine c_ret ?_
            refine q_block_ret (q_then_ret (q_loop_ret (q_block_ret (q_then_ret ?_))))
            exact q_ret1 Tryz.results107 rfl () trivial (congrArg Value.bool (addrF_bad hv (partA_f (by first | exact .inl h26 | exact .inr (.inl h30) | exact .inr (.inr (.inl h36)) | exact .inr (.inr (.inr h39)) | exact .inr (.inr (.inr h39))))).symm) hs_nil
          · intro h36
            refine g_on (t := 36) rfl rfl ?_
            refine gv rfl (y_move rfl) ?_
            refine g_on (t := 36) rfl rfl ?_
            refine gv rfl (y_lss rfl rfl) ?_
            refine gv rfl (y_pick_f rfl rfl) ?_
            refine l_nil ?_
            refine q_then ?_
            refine c_dec rfl ?_ ?_
            · intro h39
              refine c_seq ?_
              refine c_region rfl ?_
              refine gv rfl (y_assign rfl) ?_
              refine l_nil ?_
              refine q_then ?_
              refine c_ret ?_
              refine q_block_ret (q_then_ret (q_loop_ret (q_block_ret (q_then_ret ?_))))
              exact q_ret1 Tryz.results107 rfl () trivial (congrArg Value.bool (addrF_bad hv (partA_f (by first | exact .inl h26 | exact .inr (.inl h30) | exact .inr (.inr (.inl h36)) | exact .inr (.inr (.inr h39)) | exact .inr (.inr (.inr h39))))).symm) hs_nil
            · intro h39
              refine c_skip ?_
              refine q_block (q_then ?_)
              refine c_region rfl ?_
              refine gv rfl (y_add rfl rfl (wrap_in (by omega) (by omega))) ?_
              refine gv rfl (y_move rfl) ?_
              refine l_nil ?_
              exact again (s + 1) ⟨by omega, step_get hI hv (by simp only [partA_t h26 h30 h36 h39]; rfl)⟩ (by omega) (sub_cons rfl sub_nil) (sub_cons rfl (sub_cons rfl sub_nil)) (hs_pick (is := [0]) rfl rfl)
    · intro h16
      refine c_exit ?_
      refine q_then_exit (q_loop_exit (q_block_exit (q_then ?_)))
      refine c_seq ?_
      refine c_region rfl ?_
      refine gv rfl (y_assign rfl) ?_
      refine l_nil ?_
      refine q_then ?_
      refine c_ret ?_
      exact q_ret1 Tryz.results107 rfl () trivial (congrArg Value.bool (addrF_all (by omega) hI (by omega)).symm) hs_nil

end Go.Gx
