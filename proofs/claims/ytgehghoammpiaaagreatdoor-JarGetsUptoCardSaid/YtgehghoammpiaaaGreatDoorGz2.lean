/- This text proves: the step laws and the plain functions that the walks of this claim stand on. No condition beyond those that each theorem names. -/
import Derived.Test.YtgehghoammpiaaaGreatDoorGz1
namespace Go.Gx
/-! ## JarEvicts: the plain law -/
theorem count_erase {q : Ck → Bool} {l : List Ck} {i : Nat} {x : Ck} (hi : l[i]? = some x) (hq : q x = true) : ((l.eraseIdx i).filter q).length + 1 = (l.filter q).length := by
  have hlt := (List.getElem?_eq_some_iff.1 hi).1
  have hd := List.drop_eq_getElem_cons hlt
  rw [(List.getElem?_eq_some_iff.1 hi).2] at hd
  have e : l = l.take i ++ x :: l.drop (i + 1) := by rw [← hd, List.take_append_drop]
  have e2 : l.eraseIdx i = l.take i ++ l.drop (i + 1) := List.eraseIdx_eq_take_drop_succ ..
  rw [e2]
  conv => rhs; rw [e]
  simp only [List.filter_append, List.filter_cons, hq, if_true, List.length_append, List.length_cons]
  omega
theorem evictL_count {most : Int} {q : Ck → Bool} (h0 : 0 ≤ most) : ∀ (n : Nat) (l : List Ck), l.length ≤ n → most ≤ ((l.filter q).length : Int) → (((evictL most q l).filter q).length : Int) = most
  | 0, l, h, hm => by
    have : l = [] := List.length_eq_zero_iff.1 (by omega)
    subst this
    have h1 := evictL_sub most q []
    have h2 : evictL most q [] = [] := List.eq_nil_of_sublist_nil h1
    rw [h2]; simp at hm ⊢; omega
  | n + 1, l, h, hm => by
    by_cases hc : ((idxL q l).length : Int) ≤ most
    · rw [evictL_stop hc]; rw [idxL_count] at hc; omega
    · obtain ⟨i, x, hi, hx, hq⟩ := leastI_spec h0 hc
      rw [evictL_step h0 hc, hi, show ((i : Int)).toNat = i from rfl]
      have h1 := count_erase hx hq
      rw [idxL_count] at hc
      have hlt := (List.getElem?_eq_some_iff.1 hx).1
      exact evictL_count h0 n _ (by rw [List.length_eraseIdx_of_lt hlt]; omega) (by omega)
/-- Who had to go: there were too many of the kind, and those of the kind that stay were used later. -/
theorem evictL_gone {most : Int} {q : Ck → Bool} (h0 : 0 ≤ most) {x : Ck} : ∀ (n : Nat) (l : List Ck), l.length ≤ n → x ∈ l → x ∉ evictL most q l → l.Pairwise (fun a b => a.no ≠ b.no) → (((evictL most q l).filter q).length : Int) = most ∧ q x = true ∧ ∀ y ∈ evictL most q l, q y = true → uLt x y
  | 0, l, h, hx, _, _ => by
    have : l = [] := List.length_eq_zero_iff.1 (by omega)
    subst this; cases hx
  | n + 1, l, h, hx, hn, hp => by
    by_cases hc : ((idxL q l).length : Int) ≤ most
    · rw [evictL_stop hc] at hn; exact absurd hx hn
    · refine ⟨evictL_count h0 _ l (Nat.le_refl _) (by rw [idxL_count] at hc; omega), ?_⟩
      obtain ⟨i, v, hi, hv, hq⟩ := leastI_spec h0 hc
      have e : evictL most q l = evictL most q (l.eraseIdx i) := by rw [evictL_step h0 hc, hi]; rfl
      rw [e] at hn ⊢
      have hlt := (List.getElem?_eq_some_iff.1 hv).1
      by_cases hxv : v = x
      · subst hxv
        refine ⟨hq, fun y hy hqy => ?_⟩
        have hye := (evictL_sub most q _).subset hy
        rw [List.mem_iff_getElem?] at hye
        obtain ⟨k, hk⟩ := hye
        -- y stands at another place
        have hk2 : ∃ k2, k2 ≠ i ∧ l[k2]? = some y := by
          rcases Nat.lt_or_ge k i with h1 | h1
          · rw [List.getElem?_eraseIdx_of_lt h1] at hk; exact ⟨k, by omega, hk⟩
          · rw [List.getElem?_eraseIdx_of_ge h1] at hk; exact ⟨k + 1, by omega, hk⟩
        obtain ⟨k2, hne, hk2⟩ := hk2
        have h3 := leastI_le hk2 hqy
        rw [hi, show ((i : Int)).toNat = i from rfl, getD_of_get hv] at h3
        have hno : y.no ≠ v.no := by
          rw [List.pairwise_iff_getElem] at hp
          obtain ⟨b1, c1⟩ := List.getElem?_eq_some_iff.1 hk2
          obtain ⟨b2, c2⟩ := List.getElem?_eq_some_iff.1 hv
          rcases Nat.lt_or_ge k2 i with h5 | h5
          · have := hp k2 i b1 b2 h5; rw [c1, c2] at this; exact this
          · have := hp i k2 b2 b1 (by omega); rw [c1, c2] at this; exact fun e => this e.symm
        unfold uLt at h3 ⊢
        omega
      · have hx' := eraseIdx_mem hx (fun w hw => by rw [hv] at hw; cases hw; exact hxv)
        exact (evictL_gone h0 n _ (by rw [List.length_eraseIdx_of_lt hlt]; omega) hx' hn (hp.sublist (List.eraseIdx_sublist ..))).2
theorem layL_keep {l : List Ck} {next : Int} {c x : Ck} (hx : x ∈ l) (hk : keyEq x c = false) : x ∈ layL l next c := by
  unfold layL
  split
  · rename_i hi
    obtain ⟨i, v, e, hv, hkv⟩ := fidx_spec hi
    have e1 : (atI c l).toNat = i := by unfold atI; rw [e]; rfl
    rw [e1]
    obtain ⟨k, hk2⟩ := List.mem_iff_getElem?.1 hx
    have hne : i ≠ k := by
      rintro rfl
      rw [hv] at hk2
      have := Option.some.inj hk2
      subst this
      have hkv : keyEq v c = true := hkv
      rw [hk] at hkv; cases hkv
    exact List.mem_iff_getElem?.2 ⟨k, by rw [List.getElem?_set_ne hne]; exact hk2⟩
  · exact List.mem_append_left _ hx
section
variable {j : Ja} {c : Ck} {now : Int}
theorem evicts {x : Ck} (h : putE j c now = 0) (hx : x ∈ j.cks) (hk : keyEq x c = false) (hl : x.expiry > now) (hn : ¬ atI x (putJ j c now).cks ≥ 0) :
    (((putJ j c now).cks.length : Int) ≠ 12 → x.domain = c.domain ∧ (((putJ j c now).cks.filter (fun a => decide (a.domain = x.domain))).length : Int) = 4) ∧ ∀ y ∈ (putJ j c now).cks, x.domain = y.domain → uLt x y := by
  obtain ⟨h0, hm, e⟩ := putE_ok h
  obtain ⟨_, _, h5, _⟩ := jarErr_iff.1 h0
  have w2 := layL_well (live_well (now := now) h0) h5 hm
  have hx3 : x ∈ liveL now (layL (liveL now j.cks) j.next c) := by
    unfold liveL
    exact List.mem_filter.2 ⟨layL_keep (live_mem.2 ⟨hx, hl⟩) hk, by simpa using hl⟩
  have s3 : (liveL now (layL (liveL now j.cks) j.next c)).Sublist (layL (liveL now j.cks) j.next c) := List.filter_sublist
  have hp3 := (w2.2.imp (fun h => h.2) : (layL (liveL now j.cks) j.next c).Pairwise (fun a b => a.no ≠ b.no)).sublist s3
  have hnB : x ∉ (putJ j c now).cks := fun hxB => hn (atI_ge hxB (keyEq_refl x))
  rw [e] at hnB ⊢
  let A := evictL 4 (fun x => decide (x.domain = c.domain)) (liveL now (layL (liveL now j.cks) j.next c))
  have eB : putL j c now = evictL 12 (fun _ => true) A := rfl
  have hpA : A.Pairwise (fun a b => a.no ≠ b.no) := hp3.sublist (evictL_sub 4 _ _)
  have hB : (putL j c now).Sublist A := evictL_sub 12 _ _
  by_cases hxA : x ∈ A
  · obtain ⟨g1, _, g3⟩ := evictL_gone (most := 12) (q := fun _ => true) (by decide) _ A (Nat.le_refl _) hxA (by rw [← eB]; exact hnB) hpA
    rw [List.filter_eq_self.2 (fun _ _ => rfl), ← eB] at g1
    exact ⟨fun hne => absurd g1 hne, fun y hy _ => g3 y (by rw [← eB]; exact hy) rfl⟩
  · obtain ⟨g1, g2, g3⟩ := evictL_gone (most := 4) (q := fun x => decide (x.domain = c.domain)) (by decide) _ _ (Nat.le_refl _) hx3 hxA hp3
    have hd : x.domain = c.domain := of_decide_eq_true g2
    refine ⟨fun hne => ⟨hd, ?_⟩, fun y hy hxy => g3 y (hB.subset hy) (decide_eq_true (by rw [← hxy, hd]))⟩
    have hlen : ((idxL (fun _ => true) A).length : Int) ≤ 12 := by
      refine Classical.byContradiction fun hgt => hne ?_
      have := evictL_count (most := 12) (q := fun _ => true) (by decide) _ A (Nat.le_refl _) (by rw [idxL_count] at hgt; omega)
      rw [List.filter_eq_self.2 (fun _ _ => rfl), ← eB] at this
      exact this
    have eBA : putL j c now = A := by rw [eB, evictL_stop hlen]
    rw [hd]
    show (((putL j c now).filter _).length : Int) = 4
    rw [eBA]; exact g1
end
end Go.Gx
