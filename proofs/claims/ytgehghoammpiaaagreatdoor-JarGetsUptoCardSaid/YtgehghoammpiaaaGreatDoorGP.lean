/- This text proves: word.Parts, walked. No condition beyond those that each theorem names. -/
import Derived.Test.YtgehghoammpiaaaGreatDoorProg
import Derived.Test.YtgehghoammpiaaaGreatDoorGy3
import Derived.Test.YtgehghoammpiaaaGreatDoorGxG
import Derived.RangeFuncNested
import Derived.RangeFuncBound
import Derived.RangeFuncCalls
import Derived.RangeFuncLeaves
import Derived.Shelf.Abstract
import Derived.Shelf.RegionOpen
import Derived.WalkKit
import Derived.OwnWalkIn
import Derived.TacticsInMore
import Derived.LoopNIn
import Derived.LoopIn
import Derived.Maps.AppendAt
import Derived.KernelRfl
namespace Go.Gx
open Go.Proofs Go.RowKit Go.Shelf
attribute [local go_sem] Oper.semAt_some

/-- 'word.Cut answers cutF.' -/
def CutIs : Prop := ∀ (l : List UInt8) (b : UInt8) (w : World), l.length ≤ 1073741824 → Cv Tryz.prog 97 #[.string (B l), .int .u8 (b.toNat : Int)] w (.tuple #[.string (B (cutF b l).1), .string (B (cutF b l).2.1), .bool (cutF b l).2.2])

theorem CutIs.plain (h : CutIs) (l : List UInt8) (b : UInt8) (w : World) (hl : l.length ≤ 1073741824) : Calls Tryz.prog 97 #[.string (B l), .int .u8 (b.toNat : Int)] w fun e w' => e = .returned (.tuple #[.string (B (cutF b l).1), .string (B (cutF b l).2.1), .bool (cutF b l).2.2]) ∧ Below w.heap.size w w' :=
  (h l b w hl).mono fun _ _ ⟨_, _, he, hm⟩ => ⟨he, hm.below⟩
theorem boxed_below {W W' : World} {B : Nat} {t : TypeId} {v : Value} (h : Boxed W B t v) (hb : Below W.heap.size W W') : Boxed W' B t v := (hb.block B h.lt).trans h

def strLen (W : World) (b : Nat) : Nat := match W.cell? ⟨b, 0, none⟩ with | some (.string s) => s.size | _ => 0
theorem strLen_eq {W : World} {b : Nat} {t : TypeId} {s : List UInt8} (h : Boxed W b t (.string (B s))) : strLen W b = s.length := by simp [strLen, h.cell, B_size]

set_option maxRecDepth 100000 in
set_option maxHeartbeats 4000000 in
/-- The iterator: till the text is at its end, each part is yielded; its own two boxes are its own. -/
theorem partsIt (hcut : CutIs) (n : Nat) (hn : 2 ≤ n) (l bs bb : Nat) (b : UInt8) (s : List UInt8) (J : List (List UInt8) → World → Prop)
    (hJs : ∀ pre W v, J pre W → J pre (W.setCell ⟨bs, 0, none⟩ v)) (hJg : ∀ pre W W', J pre W → Below W.heap.size W W' → J pre W')
    (hY : ∀ pre x W, J pre W → pre.length < (partsB b s).length → YieldAt Fence.wide (n - 1) Tryz.prog l #[.string (B x)] W fun e W' => e = .returned (.bool true) ∧ J (pre ++ [x]) W' ∧ (∀ k o, k = bs ∨ k = bb → W.heap[k]? = some o → W'.heap[k]? = some o))
    (W : World) (hs : Boxed W bs 9 (.string (B s))) (hb : Boxed W bb 5 (.int .u8 (b.toNat : Int))) (hne : bs ≠ bb) (hsl : s.length ≤ 1073741824) (h0 : J [] W) :
    CallsIn Fence.wide n Tryz.prog 137 #[.func (.yield l) #[] #[], .pointer (some ⟨bs, 0, none⟩), .pointer (some ⟨bb, 0, none⟩)] W fun e W' => (∃ v, e = .returned v) ∧ J (partsB b s) W' := by
  refine callsIn_of_wp Tryz.func137 rfl trivial ?_ rfl
  simp only [Tryz.ntmps137, List.size_toArray, List.length_cons, List.length_nil, Nat.reduceAdd, Nat.reduceSub, Array.replicate_succ, Array.replicate_zero, List.push_toArray, List.append_toArray, List.nil_append, List.cons_append]
  gi_wp2
  gi_loopw [] (fun wr => ∃ (pre : List (List UInt8)) (r : List UInt8), Boxed wr bs 9 (.string (B r)) ∧ Boxed wr bb 5 (.int .u8 (b.toNat : Int)) ∧ r.length ≤ 1073741824 ∧ pre ++ partsB b r = partsB b s ∧ J pre wr) (fun wr => strLen wr bs)
  case atStart => exact ⟨[], s, hs, hb, hsl, rfl, h0⟩
  case round =>
    obtain ⟨pre, r, hs1, hb1, hrl, hpr, hJ1⟩ := hrel
    have hsc := hs1.cell
    have hbc := hb1.cell
    have hst := partsB_step b r
    have hlen : pre.length < (partsB b s).length := by rw [← hpr, List.length_append, hst]; simp
    gi_wp2_with (first | (refine ⟨trivial, fun _ => (by omega), ?_⟩; gi_at_call 97; refine (callsIn_wide.2 (hcut.plain r b _ hrl)).mono ?_; rintro e w1 ⟨rfl, hm⟩; obtain ⟨fn, tmps, assign, body, hy, hR⟩ := hY pre (cutF b r).1 w1 (hJg _ _ _ hJ1 hm) hlen) | gi_in)
    refine ⟨fun _ => (by omega), hR.mono ?_⟩
    rintro e W2 ⟨rfl, hJ2, hk2⟩
    have hs2 : Boxed W2 bs 9 (.string (B r)) := hk2 _ _ (.inl rfl) (boxed_below hs1 hm)
    have hb2 : Boxed W2 bb 5 (.int .u8 (b.toNat : Int)) := hk2 _ _ (.inr rfl) (boxed_below hb1 hm)
    have hsc2 := hs2.cell
    have hsf2 := hs2.frozen
    cases hc : (cutF b r).2.2 with
    | false =>
      rw [hc] at hst
      gi_wp2
      refine bodyPost_ret (results_none rfl _ _ _) rfl ?_
      refine ⟨⟨_, rfl⟩, ?_⟩
      rw [← hpr, hst]; exact hJ2
    | true =>
      rw [hc, if_pos rfl] at hst
      have hl1 := cutF_len b r hc
      gi_wp2
      go_roundw
      case rel =>
        refine ⟨pre ++ [(cutF b r).1], (cutF b r).2.1, hs2.set _, ?_, by omega, by rw [← hpr, hst, List.append_assoc]; rfl, hJs _ _ _ hJ2⟩
        exact hb2.kept (grownBy_setCell' W2 bs _) (fun e => hne (Option.some.inj e).symm)
      case measure => rw [strLen_eq (hs2.set _), strLen_eq hs1]; exact hl1

theorem parts_in (n : Nat) (l : List UInt8) (b : UInt8) (w : World) :
    CallsIn Fence.wide n Tryz.prog 117 #[.string (B l), .int .u8 (b.toNat : Int)] w fun e w' => e = .returned (.func (.func 137) #[] #[.pointer (some ⟨w.heap.size, 0, none⟩), .pointer (some ⟨w.heap.size + 1, 0, none⟩)]) ∧
      w' = (w.alloc (.cells #[.string (B l)] 9)).alloc (.cells #[.int .u8 (b.toNat : Int)] 5) := by
  refine callsIn_of_wp Tryz.func117 rfl trivial ?_ rfl
  simp only [Tryz.ntmps117, List.size_toArray, List.length_cons, List.length_nil, Nat.reduceAdd, Nat.reduceSub, Array.replicate_succ, Array.replicate_zero, List.push_toArray, List.append_toArray, List.nil_append, List.cons_append]
  gi_wp2
  go_ret
  exact ⟨rfl, rfl⟩

theorem infoS : (Tryz.prog.info? 9).map (fun i => (i.zero, i.size, i.bytes)) = some (some (.string ⟨#[]⟩), 1, 16) := by kernel_rfl

/-- What lies between two rounds. -/
def PAt (w : World) (pre : List (List UInt8)) (W : World) : Prop :=
  (∃ v, Boxed W w.heap.size 117 v ∧ W.ownsRow w.heap.size 9 1 v pre.length (pre.flatMap st1) ∧ v.ownBlock ≠ some (w.heap.size + 1) ∧ v.ownBlock ≠ some (w.heap.size + 2)) ∧ Below w.heap.size w W ∧ w.heap.size + 3 ≤ W.heap.size

theorem pAt_set {w : World} (pre : List (List UInt8)) (W : World) (v : Value) (h : PAt w pre W) : PAt w pre (W.setCell ⟨w.heap.size + 1, 0, none⟩ v) := by
  obtain ⟨⟨u, h1, h2, h3, h4⟩, h5, h6⟩ := h
  have hg := grownBy_setCell' W (w.heap.size + 1) v
  exact ⟨⟨u, h1.kept hg (fun e => by have := Option.some.inj e; omega), h2.kept hg (.inr h3), h3, h4⟩, h5.setCell (p := ⟨w.heap.size + 1, 0, none⟩) (by show w.heap.size ≤ w.heap.size + 1; omega) v, Nat.le_trans h6 hg.size⟩
theorem pAt_below {w : World} (pre : List (List UInt8)) (W W' : World) (h : PAt w pre W) (hb : Below W.heap.size W W') : PAt w pre W' := by
  obtain ⟨⟨u, h1, h2, h3, h4⟩, h5, h6⟩ := h
  refine ⟨⟨u, boxed_below h1 hb, h2.kept (grownBy_of_below hb) ?_, h3, h4⟩, Go.Gx.Below.trans' h5 (hb.mono (by omega)), Nat.le_trans h6 hb.size⟩
  cases hu : u.ownBlock with
  | none => exact .inl rfl
  | some g => exact .inr (by simp)
theorem pAt_put {w : World} (pre : List (List UInt8)) (W : World) (l : Nat) (o o' : Obj) (hl : w.heap.size ≤ l) (ho : W.heap[l]? = some o) (hc : o.isCells = false) (h : PAt w pre W) : PAt w pre (W.putObj l o') := by
  obtain ⟨⟨u, h1, h2, h3, h4⟩, h5, h6⟩ := h
  have hg := grownBy_putObj' W l o'
  refine ⟨⟨u, h1.kept hg (fun e => ?_), ownsRow_putObj h2 o' ho hc, h3, h4⟩, h5.grown hg h5.size (fun k e => by cases e; exact hl), Nat.le_trans h6 hg.size⟩
  obtain rfl := Option.some.inj e
  rw [show W.heap[w.heap.size]? = _ from h1] at ho
  cases ho; cases hc

set_option maxRecDepth 100000 in
set_option maxHeartbeats 4000000 in
theorem partsAll (hcut : CutIs) (l : List UInt8) (b : UInt8) (w : World) (hl : l.length ≤ 1073741824) :
    CallsIn Fence.wide 6 Tryz.prog 95 #[.string (B l), .int .u8 (b.toNat : Int)] w fun e w' => ∃ v, e = .returned v ∧ w'.ownsRow w.heap.size 9 1 v (partsB b l).length ((partsB b l).flatMap st1) ∧ Below w.heap.size w w' := by
  obtain ⟨i0, hi, hz0, hz1, hz2⟩ := info_parts infoS
  have hpl := partsB_len b l
  refine callsIn_of_wp_marks Tryz.func95 rfl trivial ?_ rfl
  simp only [Tryz.ntmps95, List.size_toArray, List.length_cons, List.length_nil, Nat.reduceAdd, Nat.reduceSub, Array.replicate_succ, Array.replicate_zero, List.push_toArray, List.append_toArray, List.nil_append, List.cons_append]
  gi_wp2_with (first | (refine ⟨trivial, ?_⟩; gi_at_call 117; refine (parts_in _ l b _).mono ?_; rintro e w' ⟨rfl, rfl⟩) | gi_in)
  have bO := Boxed.new w 117 (.slice none 0 0)
  have bS := Boxed.new (w.alloc (.cells #[.slice none 0 0] 117)) 9 (.string (B l))
  have bB := Boxed.new ((w.alloc (.cells #[.slice none 0 0] 117)).alloc (.cells #[.string (B l)] 9)) 5 (.int .u8 (b.toNat : Int))
  have hB0 : Below w.heap.size w (((w.alloc (.cells #[.slice none 0 0] 117)).alloc (.cells #[.string (B l)] 9)).alloc (.cells #[.int .u8 (b.toNat : Int)] 5)) :=
    (((Below.refl _ w).alloc (Nat.le_refl _) _).alloc (by simp) _).alloc (by simp; omega) _
  simp only [World.size_alloc] at bS bB
  refine rangeColl (by decide) (gf := 137) (lb := #[.pointer (some ⟨w.heap.size + 1, 0, none⟩), .pointer (some ⟨w.heap.size + 2, 0, none⟩)]) (by simp [Act.eval]) (enters_of Tryz.func137 (by kernel_rfl) rfl)
    (encs := fun p => #[.string (B p)]) (w.heap.size + 1) (w.heap.size + 2) (partsB b l).length (partsB b l) (by simp) (by simp) ?seq (fun _ => rfl) (PAt w) (fun pre W v h => pAt_set pre W v h) (fun pre W W' h hb => pAt_below pre W W' h hb)
    (fun pre W l' o o' hl' ho hc h => pAt_put pre W l' o o' (by simp at hl'; omega) ho hc h) ⟨⟨_, (bO.alloc _).alloc _, World.ownsRow_nil _ _ _ _, by simp [Value.ownBlock], by simp [Value.ownBlock]⟩, hB0, by simp⟩
    (fun x => { tmps := #[.string (B l), .int .u8 (b.toNat : Int), undef, undef, .slice none 0 0, .pointer (some ⟨w.heap.size, 0, none⟩), .string (B x), .string (B l), .int .u8 (b.toNat : Int),
      .func (.func 137) #[] #[.pointer (some ⟨w.heap.size + 1, 0, none⟩), .pointer (some ⟨w.heap.size + 2, 0, none⟩)], .string (B x), undef, undef, undef, undef, undef], defers := [] }) ?assign ?body ?done
  case seq =>
    intro lp J W hlp hJs hJb hY hkk h0
    refine partsIt hcut _ (by decide) lp _ _ b l J hJs hJb hY W ?_ ?_ (by omega) hl h0
    · exact (hkk _ (.inl rfl)).trans (bS.alloc _)
    · exact (hkk _ (.inr rfl)).trans bB
  case assign =>
    intro lp x W K hK
    gi_wp2
    exact hK
  case body =>
    rintro lp pre x W ⟨⟨v, hv, hrow, hn1, hn2⟩, hB, h3⟩ hlen
    have hvc := hv.cell
    have hBs := hB.size
    gi_wp2_with (first
      | (gi_at_builtin; refine wpListIn_append_own_at _ rfl _ _ 117 rfl w.heap.size 9 i0 (.string ⟨#[]⟩) 1 16 Tryz.underlying117 hi hz0 hz1 hz2 rfl (by decide) _ _ _ rfl (hrow.alloc _) ⟨W.heap.size, 0, none⟩ 1 1 [.string (B x)] rfl rfl (cell_one_new _ _ _) (by simp [Value.oneCell']) (by simp [maxLen]; omega) (by omega) (by simp; omega) ?_
         intro v' w1 hown' hgrow hat
         obtain ⟨g', cap', rfl⟩ := ownsRow_succ hown'
         obtain ⟨hv1, hv2, hr2, hk2, hb2⟩ := hv.appended (by decide) hrow hB.size (Nat.le_refl _) hown' hgrow
         have hc1 := hv1.cell
         have hf1 := hv1.frozen)
      | gi_in)
    have hg0 : (W.alloc (.cells #[.string (B x)] 9)).grownBy w1 v.ownBlock := hgrow
    have hat0 : (Value.slice (some ⟨g', 0, none⟩) (pre.length + 1) cap').ownBlock = v.ownBlock ∨ (Value.slice (some ⟨g', 0, none⟩) (pre.length + 1) cap').ownBlock = some (W.alloc (.cells #[.string (B x)] 9)).heap.size := hat
    rw [World.size_alloc] at hat0
    have hkeep : ∀ k, (k = w.heap.size + 1 ∨ k = w.heap.size + 2) → (w1.setCell ⟨w.heap.size, 0, none⟩ (.slice (some ⟨g', 0, none⟩) (pre.length + 1) cap')).heap[k]? = W.heap[k]? := by
      intro k hk
      refine (Below.heap_setCell _ _ _ k (by show k ≠ w.heap.size; omega)).trans ((hg0.block k (by simp; omega) ?_).trans (Below.heap_alloc _ _ k (by omega)))
      rcases hk with rfl | rfl
      · exact fun e => hn1 e.symm
      · exact fun e => hn2 e.symm
    refine ⟨⟨⟨_, hv2, ?_, ?_, ?_⟩, hB.trans hb2, Nat.le_trans h3 hb2.size⟩, fun k o hk ho => (hkeep k hk).trans ho⟩
    · simpa [st1] using hr2
    · intro e; rcases hat0 with h | h
      · exact hn1 (h.symm.trans e)
      · have := Option.some.inj (h.symm.trans e); omega
    · intro e; rcases hat0 with h | h
      · exact hn2 (h.symm.trans e)
      · have := Option.some.inj (h.symm.trans e); omega
  case done =>
    intro D W hD ⟨⟨v, hv, hrow, hn1, hn2⟩, hB, h3⟩ hK
    have hvc := hv.cell
    gi_wp2
    refine ⟨by simp, .inl ⟨_, _, rfl, run_takeDeferred hK, ?_⟩⟩
    exact ⟨_, results_tmp rfl _ _ _, v, rfl, ownsRow_putObj hrow _ hK rfl, hB.grown (grownBy_putObj' _ _ _) hB.size (fun k e => by cases e; simp at hD; omega)⟩

theorem parts_of (hcut : CutIs) (l : List UInt8) (b : UInt8) (w : World) (hl : l.length ≤ 1073741824) :
    Ct Tryz.prog 95 #[.string (B l), .int .u8 (b.toNat : Int)] w (fun x : Option Addr × Nat => .slice x.1 (partsB b l).length x.2) (fun x => PartsR 9 b l x) (fun _ => True) :=
  (callsIn_wide.1 (partsAll hcut l b w hl)).mono fun e w' ⟨v, he, hr, hb⟩ => by
    obtain ⟨A, c, rfl⟩ := row_shape hr
    exact ⟨(A, c), trivial, he, hb, by intro r hr'; rcases List.mem_singleton.1 hr' with rfl; exact hr, List.pairwise_singleton _ _⟩
end Go.Gx
