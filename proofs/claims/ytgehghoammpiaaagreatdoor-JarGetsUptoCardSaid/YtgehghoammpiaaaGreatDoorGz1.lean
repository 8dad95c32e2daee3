/- This text proves: the step laws and the plain functions that the walks of this claim stand on. No condition beyond those that each theorem names. -/
import Derived.Test.YtgehghoammpiaaaGreatDoorGz0
namespace Go.Gx
section
variable {P : Program} {W0 : World} {N : Nat} {E E' : List (Nat × Value)} {H H' Hs : List Res} {Q : Exit → Act → World → Prop} {ops : Array Oper} {m f : Nat} {listed : Array Bool}
/-- A guarded step of a region that draws its order, whose value is told by a property. -/
theorem h_takege {d j t : Nat} {b : Bool} {op : Op} {ty : TypeId} {pos : String} {aft : Array Edge} {φ : Value → Prop} {l' : Array Bool} (i : Nat) (hi : ops[i]? = some ⟨some d, op, ty, pos, aft, some (j, b)⟩) (hc : (Region.noSelect ops && Region.free .any ops listed i && (Region.ready .any ops listed).contains i && tailB ops m && Nat.blt i m) = true)
    (hl : listed.setIfInBounds i true = l') (hd : Nat.blt d N = true) (hnp : NoPanic Q) (hHs : HS Hs H) (hj : (ops[j]?).bind (·.dst) = some t) (hb : get? E t = some (.bool b))
    (y : ∃ v, φ v ∧ Yl P W0 N E Hs ⟨some d, op, ty, pos, aft, none⟩ v) (h : ∀ v, φ v → GH P W0 N ops m f l' Hs ((d, v) :: E) H Q) : GH P W0 N ops m (f + 1) listed Hs E H Q := by
  obtain ⟨v, hv, y⟩ := y
  exact h_takeg i hi hc hl hd hnp hHs hj hb y (h v hv)
/-- A cut behind which the memory is as before: what is kept, and what is new. -/
theorem c_cut0 {c : Code} {Ef : List (Nat × Value)} (Et : List (Nat × Value)) (_hs : Sub Ef E) (h : GC P W0 N E H c (cutQ W0 N (fun _ : Unit => True) (fun _ => Et ++ Ef) (fun _ => H) Q)) (k : GQ W0 N (Et ++ Ef) H .normal Q) : GC P W0 N E H c Q :=
  c_cut _ _ _ h (fun _ _ => k)
end
/-! ## JarPuts: the plain law -/
theorem minF_le {f : Int → Int → Int} (tr : ∀ a b c, f a b < 0 → f b c < 0 → f a c < 0) (irr : ∀ a, ¬ f a a < 0) : ∀ {l : List Int} {x : Int}, x ∈ l → ¬ f x (minF f l) < 0 := by
  intro l
  cases l with
  | nil => intro x h; cases h
  | cons a r =>
    have key : ∀ (r : List Int) (m : Int), (∀ x, ¬ f x m < 0 → ¬ f x (r.foldl (fun m x => if f x m < 0 then x else m) m) < 0) ∧ ∀ x ∈ r, ¬ f x (r.foldl (fun m x => if f x m < 0 then x else m) m) < 0 := by
      intro r
      induction r with
      | nil => intro m; exact ⟨fun _ h => h, by simp⟩
      | cons b r ih =>
        intro m
        simp only [List.foldl_cons]
        obtain ⟨h1, h2⟩ := ih (if f b m < 0 then b else m)
        have hb : ¬ f b (if f b m < 0 then b else m) < 0 := by
          split
          · exact irr b
          · assumption
        refine ⟨fun x hx => h1 x ?_, fun x hx => ?_⟩
        · split
          · rename_i h; exact fun h3 => hx (tr x b m h3 h)
          · exact hx
        · rcases List.mem_cons.1 hx with rfl | hx
          · exact h1 _ hb
          · exact h2 x hx
    intro x hx
    rcases List.mem_cons.1 hx with rfl | hx
    · exact (key r x).1 x (irr x)
    · exact (key r a).2 x hx
/-- One was used earlier than another (at one moment: it has the smaller number). -/
def uLt (a b : Ck) : Prop := a.used < b.used ∨ (a.used = b.used ∧ a.no < b.no)
theorem useF_lt (l : List Ck) (i j : Int) : useF l i j < 0 ↔ uLt (l.getD i.toNat .none_) (l.getD j.toNat .none_) := by
  unfold useF uLt
  generalize l.getD i.toNat .none_ = a
  generalize l.getD j.toNat .none_ = b
  simp only [orF, cmpF]
  repeat' split
  all_goals omega
theorem leastI_le {q : Ck → Bool} {l : List Ck} {i : Nat} {x : Ck} (hi : l[i]? = some x) (hq : q x = true) : ¬ uLt x (l.getD (leastI q l).toNat .none_) := by
  have h1 : (i : Int) ∈ idxL q l := idxT_mem.2 ⟨i, (List.getElem?_eq_some_iff.1 hi).1, rfl, by rw [getD_of_get hi]; exact hq⟩
  have h2 := minF_le (f := useF l) (fun a b c h1 h2 => by rw [useF_lt] at *; unfold uLt at *; omega) (fun a h => by rw [useF_lt] at h; unfold uLt at h; omega) h1
  rw [useF_lt, show ((i : Int)).toNat = i from rfl, getD_of_get hi] at h2
  exact h2
/-- Where one must go, it is there, and another of its kind stands beside it. -/
theorem leastI_spec {most : Int} {q : Ck → Bool} {l : List Ck} (h0 : 0 ≤ most) (h : ¬ ((idxL q l).length : Int) ≤ most) : ∃ (i : Nat) (x : Ck), leastI q l = i ∧ l[i]? = some x ∧ q x = true := by
  have hne : idxL q l ≠ [] := by intro e; rw [e] at h; simp at h; omega
  obtain ⟨i, h1, h2, h3⟩ := idxT_mem.1 (minF_mem (f := useF l) hne)
  obtain ⟨x, hx⟩ := get_lt h1
  exact ⟨i, x, h2, hx, by rw [getD_of_get hx] at h3; exact h3⟩
theorem eraseIdx_mem {l : List Ck} {i : Nat} {x : Ck} (hx : x ∈ l) (h : ∀ v, l[i]? = some v → v ≠ x) : x ∈ l.eraseIdx i := by
  obtain ⟨k, hk⟩ := List.mem_iff_getElem?.1 hx
  have hne : k ≠ i := by intro e; subst e; exact h x hk rfl
  rw [List.mem_iff_getElem?]
  rcases Nat.lt_or_ge k i with h1 | h1
  · exact ⟨k, by rw [List.getElem?_eraseIdx_of_lt h1]; exact hk⟩
  · refine ⟨k - 1, ?_⟩
    rw [List.getElem?_eraseIdx_of_ge (by omega)]
    rw [show k - 1 + 1 = k by omega]; exact hk
/-- What was used later than all others stays. -/
theorem evictL_stays {most : Int} {q : Ck → Bool} {u : Ck} (h1 : 1 ≤ most) : ∀ (n : Nat) (l : List Ck), l.length ≤ n → u ∈ l → (∀ x ∈ l, x = u ∨ x.used < u.used) → l.Pairwise (fun a b => a.no ≠ b.no) → u ∈ evictL most q l
  | 0, l, h, hu, _, _ => by
    have : l = [] := List.length_eq_zero_iff.1 (by omega)
    subst this; cases hu
  | n + 1, l, h, hu, hx, hp => by
    by_cases hm : ((idxL q l).length : Int) ≤ most
    · rw [evictL_stop hm]; exact hu
    · have h0 : 0 ≤ most := by omega
      obtain ⟨i, v, hi, hv, hq⟩ := leastI_spec h0 hm
      have hvu : v ≠ u := by
        rintro rfl
        -- another of the kind
        have hc : 2 ≤ (l.filter q).length := by rw [← idxL_count]; omega
        have : ∃ k y, l[k]? = some y ∧ q y = true ∧ k ≠ i := by
          refine Classical.byContradiction fun hn => ?_
          have hsub : ∀ y ∈ (l.eraseIdx i), q y = false := by
            intro y hy
            rw [List.mem_iff_getElem?] at hy
            obtain ⟨k, hk⟩ := hy
            cases hqy : q y with
            | false => rfl
            | true =>
              rcases Nat.lt_or_ge k i with h3 | h3
              · rw [List.getElem?_eraseIdx_of_lt h3] at hk
                exact absurd ⟨k, y, hk, hqy, by omega⟩ hn
              · rw [List.getElem?_eraseIdx_of_ge h3] at hk
                exact absurd ⟨k + 1, y, hk, hqy, by omega⟩ hn
          have e : l = l.take i ++ v :: l.drop (i + 1) := by
            have hlt := (List.getElem?_eq_some_iff.1 hv).1
            have hd := List.drop_eq_getElem_cons hlt
            rw [(List.getElem?_eq_some_iff.1 hv).2] at hd
            rw [← hd, List.take_append_drop]
          have e2 : l.eraseIdx i = l.take i ++ l.drop (i + 1) := List.eraseIdx_eq_take_drop_succ ..
          rw [e2] at hsub
          rw [e, List.filter_append, List.filter_cons, hq, List.filter_eq_nil_iff.2 (fun y hy => by rw [hsub y (List.mem_append_left _ hy)]; simp), List.filter_eq_nil_iff.2 (fun y hy => by rw [hsub y (List.mem_append_right _ hy)]; simp)] at hc
          simp at hc
        obtain ⟨k, y, hk, hqy, hki⟩ := this
        have h3 := leastI_le hk hqy
        rw [hi, show ((i : Int)).toNat = i from rfl, getD_of_get hv] at h3
        rcases hx y (List.mem_of_getElem? hk) with rfl | h4
        · -- the same number twice
          rw [List.pairwise_iff_getElem] at hp
          have l1 := (List.getElem?_eq_some_iff.1 hk)
          have l2 := (List.getElem?_eq_some_iff.1 hv)
          obtain ⟨b1, c1⟩ := l1
          obtain ⟨b2, c2⟩ := l2
          rcases Nat.lt_or_ge k i with h5 | h5
          · exact hp k i b1 b2 h5 (by rw [c1, c2])
          · exact hp i k b2 b1 (by omega) (by rw [c1, c2])
        · exact h3 (.inl h4)
      rw [evictL_step h0 hm, hi, show ((i : Int)).toNat = i from rfl]
      have hlt := (List.getElem?_eq_some_iff.1 hv).1
      refine evictL_stays h1 n _ (by rw [List.length_eraseIdx_of_lt hlt]; omega) (eraseIdx_mem hu (fun w hw => by rw [hv] at hw; cases hw; exact hvu)) (fun x hx' => hx x (List.mem_of_mem_eraseIdx hx')) (hp.sublist (List.eraseIdx_sublist ..))
/-- The cookie as it is laid. -/
def laidC (l : List Ck) (next : Int) (c : Ck) : Ck := if atI c l ≥ 0 then { c with created := (l.getD (atI c l).toNat .none_).created, no := (l.getD (atI c l).toNat .none_).no } else { c with no := next }
theorem keyEq_comm (a b : Ck) : keyEq a b = keyEq b a := by simp [keyEq, eq_comm]
theorem keyEq_refl (a : Ck) : keyEq a a = true := by simp [keyEq]
theorem keyEq_trans {a b c : Ck} (h1 : keyEq a b = true) (h2 : keyEq b c = true) : keyEq a c = true := by
  rw [keyEq_iff] at *
  exact ⟨h1.1.trans h2.1, h1.2.1.trans h2.2.1, h1.2.2.trans h2.2.2⟩
theorem wellL.key {l : List Ck} {next : Int} (h : wellL l next) {i k : Nat} {x y : Ck} (hi : l[i]? = some x) (hk : l[k]? = some y) (he : keyEq x y = true) : i = k := by
  have hp := List.pairwise_iff_getElem.1 h.2
  obtain ⟨b1, c1⟩ := List.getElem?_eq_some_iff.1 hi
  obtain ⟨b2, c2⟩ := List.getElem?_eq_some_iff.1 hk
  rcases Nat.lt_trichotomy i k with h1 | h1 | h1
  · have := (hp i k b1 b2 h1).1; rw [c1, c2, he] at this; cases this
  · exact h1
  · have := (hp k i b2 b1 h1).1; rw [c1, c2, keyEq_comm, he] at this; cases this
theorem laidC_mem (l : List Ck) (next : Int) (c : Ck) : laidC l next c ∈ layL l next c := by
  unfold layL laidC
  split
  · rename_i h
    obtain ⟨i, v, e, hv, _⟩ := fidx_spec h
    have e1 : (atI c l).toNat = i := by unfold atI; rw [e]; rfl
    rw [e1]
    exact List.mem_iff_getElem?.2 ⟨i, List.getElem?_set_self (List.getElem?_eq_some_iff.1 hv).1⟩
  · simp
theorem laidC_key (l : List Ck) (next : Int) (c : Ck) : keyEq (laidC l next c) c = true := by
  unfold laidC; split <;> simp [keyEq]
theorem laidC_exp (l : List Ck) (next : Int) (c : Ck) : (laidC l next c).expiry = c.expiry ∧ (laidC l next c).used = c.used := by
  unfold laidC; split <;> exact ⟨rfl, rfl⟩
theorem layL_mem {l : List Ck} {next n2 : Int} {c x : Ck} (h : wellL l n2) (hx : x ∈ layL l next c) : x = laidC l next c ∨ (x ∈ l ∧ keyEq x c = false) := by
  unfold layL at hx
  unfold laidC
  split
  · rename_i hi
    rw [if_pos hi] at hx
    obtain ⟨i, v, e, hv, hk⟩ := fidx_spec hi
    have e1 : (atI c l).toNat = i := by unfold atI; rw [e]; rfl
    rw [e1] at hx ⊢
    obtain ⟨k, hk2⟩ := List.mem_iff_getElem?.1 hx
    by_cases hki : i = k
    · subst hki
      rw [List.getElem?_set_self (List.getElem?_eq_some_iff.1 hv).1] at hk2
      exact .inl (Option.some.inj hk2).symm
    · rw [List.getElem?_set_ne hki] at hk2
      right
      refine ⟨List.mem_of_getElem? hk2, ?_⟩
      cases hc : keyEq x c with
      | false => rfl
      | true => exact absurd (h.key hv hk2 (keyEq_trans hk (by rw [keyEq_comm]; exact hc))) hki
  · rename_i hi
    rw [if_neg hi] at hx
    rcases List.mem_append.1 hx with hx | hx
    · exact .inr ⟨hx, fidx_neg hi x hx⟩
    · simp at hx; exact .inl hx
theorem atI_ge {l : List Ck} {x c : Ck} (hx : x ∈ l) (hk : keyEq x c = true) : atI c l ≥ 0 := by
  have h3 := fidx_any (fun x => keyEq x c) l
  rw [List.any_eq_true.2 ⟨x, hx, hk⟩] at h3
  exact of_decide_eq_true h3
section
variable {j : Ja} {c : Ck} {now : Int}
theorem putE_ok (h : putE j c now = 0) : jarErr j = 0 ∧ (isM c.created ∧ isM c.used) ∧ putJ j c now = ⟨putL j c now, layN (liveL now j.cks) j.next c⟩ := by
  have e : putJ j c now = ⟨putL j c now, layN (liveL now j.cks) j.next c⟩ := if_neg (by rw [h]; simp)
  have h0 : jarErr j = 0 := by
    unfold putE at h
    split at h
    · exact h
    · rename_i h1; exact Decidable.not_not.1 h1
  refine ⟨h0, ?_, e⟩
  unfold putE at h
  rw [if_neg (fun k => k h0)] at h
  split at h
  · omega
  · rename_i h1
    rw [not_or] at h1
    exact Decidable.not_not.1 h1.2
theorem live_well (h : jarErr j = 0) : wellL (liveL now j.cks) j.next := by
  obtain ⟨h1, ⟨h2, h3, _⟩, _⟩ := jarErr_iff.1 h
  exact wellL.sub ⟨h2, h3⟩ List.filter_sublist
theorem live_mem {x : Ck} : x ∈ liveL now j.cks ↔ x ∈ j.cks ∧ x.expiry > now := by
  unfold liveL; rw [List.mem_filter]; simp
theorem putL_sub : (putL j c now).Sublist (layL (liveL now j.cks) j.next c) := (evictL_sub 12 _ _).trans ((evictL_sub 4 _ _).trans List.filter_sublist)
/-- Who is there, is the one that was put, or was there before. -/
theorem putL_mem (h : putE j c now = 0) {x : Ck} (hx : x ∈ (putJ j c now).cks) : x.expiry > now ∧ (x = laidC (liveL now j.cks) j.next c ∨ (x ∈ j.cks ∧ keyEq x c = false)) := by
  obtain ⟨h0, hm, e⟩ := putE_ok h
  refine ⟨(putJ_right h).2.1 x hx, ?_⟩
  rw [e] at hx
  rcases layL_mem (live_well h0) (putL_sub.subset hx) with h1 | ⟨h1, h2⟩
  · exact .inl h1
  · exact .inr ⟨(live_mem.1 h1).1, h2⟩
theorem putJ_well (h : putE j c now = 0) : wellL (putJ j c now).cks (putJ j c now).next := by
  obtain ⟨_, ⟨h2, h3, _⟩, _⟩ := jarErr_iff.1 (putJ_right h).1
  exact ⟨h2, h3⟩
theorem puts_dead (h : putE j c now = 0) (hl : ¬ c.expiry > now) : ¬ atI c (putJ j c now).cks ≥ 0 := by
  intro hi
  obtain ⟨i, v, e, hv, hk⟩ := fidx_spec hi
  obtain ⟨h1, h2 | ⟨_, h2⟩⟩ := putL_mem h (List.mem_of_getElem? hv)
  · rw [h2, (laidC_exp ..).1] at h1; exact hl h1
  · have hk : keyEq v c = true := hk
    rw [h2] at hk; cases hk
theorem puts_there (h : putE j c now = 0) (hl : c.expiry > now) (hu : ∀ x ∈ j.cks, x.used < c.used) : ¬ atI c (putJ j c now).cks < 0 := by
  intro hi
  obtain ⟨h0, hm, e⟩ := putE_ok h
  obtain ⟨_, _, h5, _⟩ := jarErr_iff.1 h0
  have w2 := layL_well (live_well (now := now) h0) h5 hm
  let u := laidC (liveL now j.cks) j.next c
  have hu3 : u ∈ liveL now (layL (liveL now j.cks) j.next c) := by
    unfold liveL
    exact List.mem_filter.2 ⟨laidC_mem .., by simp only [u]; rw [(laidC_exp ..).1]; simpa using hl⟩
  have hx3 : ∀ x ∈ layL (liveL now j.cks) j.next c, x = u ∨ x.used < u.used := by
    intro x hx
    rcases layL_mem (live_well h0) hx with h1 | ⟨h1, _⟩
    · exact .inl h1
    · right; simp only [u]; rw [(laidC_exp ..).2]; exact hu x (live_mem.1 h1).1
  have s3 : (liveL now (layL (liveL now j.cks) j.next c)).Sublist (layL (liveL now j.cks) j.next c) := List.filter_sublist
  have hp : (layL (liveL now j.cks) j.next c).Pairwise (fun a b => a.no ≠ b.no) := w2.2.imp (fun h => h.2)
  have h4 := evictL_stays (most := 4) (q := fun x => decide (x.domain = c.domain)) (by decide) _ _ (Nat.le_refl _) hu3 (fun x hx => hx3 x (s3.subset hx)) (hp.sublist s3)
  have s4 := (evictL_sub 4 (fun x => decide (x.domain = c.domain)) (liveL now (layL (liveL now j.cks) j.next c))).trans s3
  have h12 := evictL_stays (most := 12) (q := fun _ => true) (by decide) _ _ (Nat.le_refl _) h4 (fun x hx => hx3 x (s4.subset hx)) (hp.sublist s4)
  have hmem : u ∈ (putJ j c now).cks := by rw [e]; exact h12
  have := fidx_neg (p := fun x => keyEq x c) (show ¬ fidx (fun x => keyEq x c) (putJ j c now).cks ≥ 0 by unfold atI at hi; omega) u hmem
  rw [show keyEq u c = true from laidC_key ..] at this; cases this
theorem puts_same (h : putE j c now = 0) {va vw : Ck} {ia iw : Nat} (ha : (putJ j c now).cks[ia]? = some va) (hka : keyEq va c = true) (hw : j.cks[iw]? = some vw) (hkw : keyEq vw c = true) (hl : vw.expiry > now) : va.no = vw.no ∧ va.created = vw.created := by
  obtain ⟨h0, hm, e⟩ := putE_ok h
  obtain ⟨_, h2 | ⟨_, h2⟩⟩ := putL_mem h (List.mem_of_getElem? ha)
  · have hvL : vw ∈ liveL now j.cks := live_mem.2 ⟨List.mem_of_getElem? hw, hl⟩
    have hi : atI c (liveL now j.cks) ≥ 0 := by
      have h3 := fidx_any (fun x => keyEq x c) (liveL now j.cks)
      rw [List.any_eq_true.2 ⟨vw, hvL, hkw⟩] at h3
      exact of_decide_eq_true h3
    obtain ⟨i, v, e1, hv, hk⟩ := fidx_spec hi
    have e2 : (atI c (liveL now j.cks)).toNat = i := by unfold atI; rw [e1]; rfl
    have hvv : v = vw := by
      obtain ⟨k, hk2⟩ := List.mem_iff_getElem?.1 hvL
      have := (live_well h0).key hv hk2 (keyEq_trans hk (by rw [keyEq_comm]; exact hkw))
      subst this
      rw [hv] at hk2; exact Option.some.inj hk2
    rw [h2]
    unfold laidC
    rw [if_pos hi, e2, getD_of_get hv, hvv]
    exact ⟨rfl, rfl⟩
  · rw [h2] at hka; cases hka
theorem puts_else (h : putE j c now = 0) {v : Ck} {s : Nat} (hv : (putJ j c now).cks[s]? = some v) (hs : (s : Int) ≠ atI c (putJ j c now).cks) : ∃ k : Nat, atI v j.cks = k ∧ j.cks[k]? = some v := by
  obtain ⟨h0, hm, e⟩ := putE_ok h
  have hk : keyEq v c = false := by
    cases hk : keyEq v c with
    | false => rfl
    | true =>
      exfalso
      have hi : atI c (putJ j c now).cks ≥ 0 := by
        have h3 := fidx_any (fun x => keyEq x c) (putJ j c now).cks
        rw [List.any_eq_true.2 ⟨v, List.mem_of_getElem? hv, hk⟩] at h3
        exact of_decide_eq_true h3
      obtain ⟨i, u, e1, hu, hku⟩ := fidx_spec hi
      have := (putJ_well h).key hu hv (keyEq_trans hku (by rw [keyEq_comm]; exact hk))
      subst this
      exact hs e1.symm
  obtain ⟨_, h2 | ⟨h2, _⟩⟩ := putL_mem h (List.mem_of_getElem? hv)
  · rw [h2, laidC_key] at hk; cases hk
  · have hi := atI_ge h2 (keyEq_refl v)
    obtain ⟨i, u, e1, hu, hku⟩ := fidx_spec hi
    refine ⟨i, e1, ?_⟩
    obtain ⟨k, hk2⟩ := List.mem_iff_getElem?.1 h2
    obtain ⟨_, ⟨g2, g3, _⟩, _⟩ := jarErr_iff.1 h0
    have := wellL.key ⟨g2, g3⟩ hu hk2 hku
    subst this
    exact hk2
end
end Go.Gx
