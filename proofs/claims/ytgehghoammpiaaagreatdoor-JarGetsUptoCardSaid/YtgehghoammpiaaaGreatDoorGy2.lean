/- This text proves: the step laws and the plain functions that the walks of this claim stand on. No condition beyond those that each theorem names. -/
import Derived.Test.YtgehghoammpiaaaGreatDoorGy1
namespace Go.Gx

/-! ## PurgeMeet: the plain law -/
def rightL (l : List Ck) (next : Int) : Prop :=
  (∀ c ∈ l, (isM c.created ∧ isM c.used) ∧ 0 ≤ c.no ∧ c.no < next) ∧ l.Pairwise (fun a c => keyEq a c = false ∧ a.no ≠ c.no) ∧ ∀ d, (l.filter (fun a => decide (a.domain = d))).length ≤ 4
theorem ckE_iff {l : List Ck} {next : Int} {c : Ck} : ckE l next c = 0 ↔ (isM c.created ∧ isM c.used) ∧ (0 ≤ c.no ∧ c.no < next) ∧ (∀ a ∈ l, keyEq a c = false ∧ a.no ≠ c.no) ∧ (l.filter (fun a => decide (a.domain = c.domain))).length ≠ 4 := by
  unfold ckE
  split
  · rename_i h; constructor
    · intro h2; omega
    · rintro ⟨h2, _⟩; exact absurd h2 h
  · rename_i h; have h := Decidable.not_not.1 h
    split
    · rename_i h2; constructor
      · intro h3; omega
      · rintro ⟨_, h3, _⟩; omega
    · rename_i h2
      split
      · rename_i h3; constructor
        · intro h4; omega
        · rintro ⟨_, _, h4, _⟩
          rcases h3 with h3 | h3
          · obtain ⟨a, ha, hk⟩ := List.any_eq_true.1 h3
            rw [(h4 a ha).1] at hk; cases hk
          · obtain ⟨a, ha, hk⟩ := List.any_eq_true.1 h3
            exact absurd (by simpa using hk) (h4 a ha).2
      · rename_i h3
        rw [not_or] at h3
        have h3' : ∀ a ∈ l, keyEq a c = false ∧ a.no ≠ c.no := by
          intro a ha
          constructor
          · have := List.any_eq_false.1 (Bool.eq_false_iff.2 h3.1) a ha
            simpa using this
          · have := List.any_eq_false.1 (Bool.eq_false_iff.2 h3.2) a ha
            simpa using this
        split
        · rename_i h4; constructor
          · intro h5; omega
          · rintro ⟨_, _, _, h5⟩; exact absurd h4 h5
        · rename_i h4
          exact ⟨fun _ => ⟨h, by omega, h3', h4⟩, fun _ => rfl⟩
theorem rightL_snoc {l : List Ck} {next : Int} {c : Ck} : rightL (l ++ [c]) next ↔ rightL l next ∧ ckE l next c = 0 := by
  rw [ckE_iff]
  unfold rightL
  constructor
  · rintro ⟨h1, h2, h3⟩
    rw [List.pairwise_append] at h2
    obtain ⟨h2, _, h4⟩ := h2
    refine ⟨⟨fun a ha => h1 a (List.mem_append_left _ ha), h2, fun d => ?_⟩, (h1 c (by simp)).1, (h1 c (by simp)).2, fun a ha => h4 a ha c (by simp), ?_⟩
    · have := h3 d
      rw [List.filter_append, List.length_append] at this
      omega
    · have := h3 c.domain
      rw [List.filter_append, List.length_append] at this
      simp at this
      omega
  · rintro ⟨⟨h1, h2, h3⟩, h4, h5, h6, h7⟩
    refine ⟨?_, ?_, ?_⟩
    · intro a ha
      rcases List.mem_append.1 ha with ha | ha
      · exact h1 a ha
      · simp at ha; subst ha; exact ⟨h4, h5⟩
    · rw [List.pairwise_append]
      refine ⟨h2, by simp, fun a ha b hb => ?_⟩
      simp at hb; subst hb; exact h6 a ha
    · intro d
      rw [List.filter_append, List.length_append]
      by_cases hd : c.domain = d
      · subst hd
        have := h3 c.domain
        simp; omega
      · have := h3 d
        simp [hd]; exact this
theorem rightL_take {l : List Ck} {next : Int} : ∀ n, n ≤ l.length → ((∀ i, i < n → ckE (l.take i) next (l.getD i .none_) = 0) ↔ rightL (l.take n) next)
  | 0, _ => by
    constructor
    · intro _; simp [rightL]
    · intro _ i hi; omega
  | n + 1, h => by
    have ih := rightL_take (l := l) (next := next) n (by omega)
    obtain ⟨v, hv⟩ := get_lt (l := l) (i := n) (by omega)
    rw [take_snoc hv, rightL_snoc, ← ih]
    constructor
    · intro h1
      exact ⟨fun i hi => h1 i (by omega), by have := h1 n (by omega); rwa [getD_of_get hv] at this⟩
    · rintro ⟨h1, h2⟩ i hi
      rcases Nat.lt_or_ge i n with h3 | h3
      · exact h1 i h3
      · have : i = n := by omega
        subst this; rw [getD_of_get hv]; exact h2
theorem jarErr_iff {j : Ja} : jarErr j = 0 ↔ j.cks.length ≤ 12 ∧ rightL j.cks j.next ∧ 0 ≤ j.next ∧ j.next ≤ 1099511627776 := by
  have h := rightL_take (l := j.cks) (next := j.next) j.cks.length (Nat.le_refl _)
  rw [List.take_length] at h
  rw [← h]
  unfold jarErr
  split
  · constructor
    · intro h2; omega
    · rintro ⟨h2, _⟩; omega
  · split
    · rename_i h1 h2
      constructor
      · intro h3; exact absurd h3 h2
      · rintro ⟨_, h3, _⟩; exact absurd (firstE_zero (f := ckAt j) h3) h2
    · rename_i h1 h2
      have h2 := firstE_iff.1 (Decidable.not_not.1 h2)
      split
      · constructor
        · intro h3; omega
        · rintro ⟨_, _, h3⟩; omega
      · constructor
        · intro _; exact ⟨by omega, h2, by omega⟩
        · intro _; rfl
theorem rightL_filter {l : List Ck} {next : Int} (p : Ck → Bool) (h : rightL l next) : rightL (l.filter p) next := by
  obtain ⟨h1, h2, h3⟩ := h
  refine ⟨fun c hc => h1 c (List.mem_filter.1 hc).1, h2.sublist List.filter_sublist, fun d => Nat.le_trans (List.Sublist.length_le (List.Sublist.filter _ List.filter_sublist)) (h3 d)⟩
theorem rightL_clamp {ad : List UInt8 → Bool} {p : Po} {l : List Ck} {next : Int} (h : rightL l next) : rightL (l.map (clampF ad p)) next := by
  obtain ⟨h1, h2, h3⟩ := h
  refine ⟨?_, ?_, ?_⟩
  · intro c hc
    obtain ⟨a, ha, rfl⟩ := List.mem_map.1 hc
    exact h1 a ha
  · rw [List.pairwise_map]; exact h2
  · intro d
    rw [List.filter_map, List.length_map]
    exact h3 d
theorem jarErr_keep {ad : List UInt8 → Bool} {j : Ja} {p : Po} {g : Co} {now : Int} (h : jarErr j = 0) : jarErr ⟨keepL ad p g now j.cks, j.next⟩ = 0 := by
  rw [jarErr_iff] at h ⊢
  obtain ⟨h1, h2, h3⟩ := h
  exact ⟨Nat.le_trans (keepL_len ad p g now j.cks) h1, rightL_filter _ (rightL_clamp (rightL_filter _ h2)), h3⟩
theorem clamp_twice (ad : List UInt8 → Bool) (p : Po) (c : Ck) : clampF ad p (clampF ad p c) = clampF ad p c := by
  have e : capF ad p (clampF ad p c) = capF ad p c := rfl
  have e2 : (clampF ad p c).expiry = min c.expiry (capF ad p c) := rfl
  rw [show clampF ad p (clampF ad p c) = { clampF ad p c with expiry := min (clampF ad p c).expiry (capF ad p (clampF ad p c)) } from rfl, e, e2]
  have : min (min c.expiry (capF ad p c)) (capF ad p c) = min c.expiry (capF ad p c) := by omega
  rw [this]; rfl
theorem lets_clamp (ad : List UInt8 → Bool) (p : Po) (g : Co) (c : Ck) : letsF ad p g (clampF ad p c) = letsF ad p g c := rfl
theorem keepL_cons (ad : List UInt8 → Bool) (p : Po) (g : Co) (now : Int) (c : Ck) (l : List Ck) : keepL ad p g now (c :: l) = (if letsF ad p g c = true ∧ (clampF ad p c).expiry > now then [clampF ad p c] else []) ++ keepL ad p g now l := by
  simp only [keepL, List.filter_cons]
  by_cases h1 : letsF ad p g c = true
  · simp only [h1, if_true, List.map_cons, List.filter_cons, true_and]
    split <;> simp_all
  · simp [h1]
theorem keepL_keepL {ad : List UInt8 → Bool} {p : Po} {g h m : Co} {now : Int} (hm : ∀ c, letsF ad p m c = (letsF ad p g c && letsF ad p h c)) : ∀ l, keepL ad p h now (keepL ad p g now l) = keepL ad p m now l
  | [] => rfl
  | c :: l => by
    have ih := keepL_keepL (now := now) hm l
    rw [keepL_cons ad p g, keepL_cons ad p m, hm]
    by_cases h1 : letsF ad p g c = true
    · by_cases h2 : (clampF ad p c).expiry > now
      · rw [if_pos ⟨h1, h2⟩, List.singleton_append, keepL_cons, lets_clamp, clamp_twice, ih, h1, Bool.true_and]
      · rw [if_neg (fun h => h2 h.2), if_neg (fun h => h2 h.2), List.nil_append, List.nil_append, ih]
    · rw [if_neg (fun h => h1 h.1), if_neg (fun h => h1 (by have := h.1; simp at this; exact this.1)), List.nil_append, List.nil_append, ih]
theorem vendL_mem {f : Bool → Bool → Bool} {l m : List Int} {v : Int} : v ∈ vendL f l m 40 ↔ (1 ≤ v ∧ v ≤ 40) ∧ f (l.contains v) (m.contains v) = true := by
  unfold vendL
  rw [List.mem_filter, List.mem_map]
  constructor
  · rintro ⟨⟨n, hn, rfl⟩, h⟩
    have := List.mem_range.1 hn
    exact ⟨by omega, h⟩
  · rintro ⟨h1, h2⟩
    exact ⟨⟨(v - 1).toNat, List.mem_range.2 (by omega), by omega⟩, h2⟩
theorem vendL_inc (f : Bool → Bool → Bool) (l m : List Int) (s : Nat) : (vendL f l m s).Pairwise (· < ·) := by
  unfold vendL
  refine List.Pairwise.sublist List.filter_sublist ?_
  rw [List.pairwise_map]
  exact List.Pairwise.imp (fun h => by omega) List.pairwise_lt_range
theorem ven_ok {l : List Int} (h1 : ∀ v ∈ l, 1 ≤ v ∧ v ≤ 40) (h2 : l.Pairwise (· < ·)) : firstE (ven1 l) l.length = 0 := by
  apply firstE_zero
  intro j hj
  obtain ⟨v, hv⟩ := get_lt hj
  unfold ven1
  rw [getD_of_get hv]
  have h3 := h1 v (List.mem_of_getElem? hv)
  rw [if_neg (by omega)]
  split
  · rename_i h4
    obtain ⟨u, hu⟩ := get_lt (l := l) (i := j - 1) (by omega)
    rw [getD_of_get hu] at h4
    have := List.pairwise_iff_getElem.1 h2 (j - 1) j (by omega) hj (by omega)
    have e1 := (List.getElem?_eq_some_iff.1 hv).2
    have e2 := (List.getElem?_eq_some_iff.1 hu).2
    omega
  · rfl
theorem both_split {a b : Co} (h : bothE a b = 0) : conErr a = 0 ∧ conErr b = 0 := by
  unfold bothE at h
  split at h
  · omega
  · exact ⟨by omega, h⟩
theorem con_given {g : Co} (h : conErr g = 0) : 0 ≤ g.given ∧ g.given ≤ 68719476735 := by
  unfold conErr at h; split at h <;> omega
theorem con_meet {a b : Co} (f : Bool → Bool → Bool) (h : bothE a b = 0) : conErr (bothC f a b) = 0 := by
  obtain ⟨ha, hb⟩ := both_split h
  have h1 := con_given ha
  have h2 := con_given hb
  have e : bothC f a b = ⟨if b.given > a.given then b.given else a.given, fun i => f (a.pu i) (b.pu i), vendL f a.vs b.vs 40⟩ := if_neg (by rw [h]; simp)
  rw [e]
  unfold conErr
  rw [if_neg (by dsimp only; split <;> omega)]
  exact ven_ok (fun v hv => (vendL_mem.1 hv).1) (vendL_inc _ _ _ _)
theorem may_meet {a b : Co} (h : bothE a b = 0) (k v : Int) : mayF (bothC and a b) k v = (mayF a k v && mayF b k v) := by
  obtain ⟨ha, hb⟩ := both_split h
  have wa := con_wf ha
  have e : bothC and a b = ⟨if b.given > a.given then b.given else a.given, fun i => (a.pu i && b.pu i), vendL and a.vs b.vs 40⟩ := if_neg (by rw [h]; simp)
  have ec : (vendL and a.vs b.vs 40).contains v = (a.vs.contains v && b.vs.contains v) := by
    rw [Bool.eq_iff_iff]
    simp only [List.contains_iff_mem, Bool.and_eq_true, vendL_mem]
    constructor
    · rintro ⟨_, h⟩; simpa using h
    · rintro ⟨h1, h2⟩; exact ⟨wa v h1, by simpa using ⟨h1, h2⟩⟩
  rw [e]
  unfold mayF
  dsimp only
  rw [ec]
  by_cases hv : v = 0
  · simp only [hv, decide_true, Bool.true_or]
    by_cases h0 : k = 0
    · simp [h0]
    · by_cases hk : k < 1 ∨ k > 10
      · rcases hk with hk | hk <;> simp [h0, hk]
      · cases a.pu (k - 1).toNat <;> cases b.pu (k - 1).toNat <;> simp [h0, hk]
  · simp only [hv, decide_false, Bool.false_or]
    by_cases h0 : k = 0
    · simp [h0]
    · by_cases hk : k < 1 ∨ k > 10
      · rcases hk with hk | hk <;> simp [h0, hk]
      · cases a.pu (k - 1).toNat <;> cases b.pu (k - 1).toNat <;> simp [h0, hk]
theorem both_comm {a b : Co} (h : bothE a b = 0) : bothE b a = 0 := by
  obtain ⟨ha, hb⟩ := both_split h
  unfold bothE; rw [hb, if_neg (by simp)]; exact ha
theorem purgeE_split {j : Ja} {p : Po} {g : Co} {now : Int} (h : purgeE j p g now = 0) : jarErr j = 0 ∧ rightE p g = 0 ∧ isM now := by
  unfold purgeE at h
  split at h
  · omega
  · split at h
    · omega
    · split at h
      · omega
      · rename_i h1 h2 h3; exact ⟨by omega, by omega, Decidable.not_not.1 h3⟩
theorem purgeE_join {j : Ja} {p : Po} {g : Co} {now : Int} (h1 : jarErr j = 0) (h2 : rightE p g = 0) (h3 : isM now) : purgeE j p g now = 0 := by
  unfold purgeE
  rw [if_neg (by omega), if_neg (by omega), if_neg (fun h => h h3)]
theorem purgeJ_ok {ad : List UInt8 → Bool} {j : Ja} {p : Po} {g : Co} {now : Int} (h : purgeE j p g now = 0) : purgeJ ad j p g now = ⟨keepL ad p g now j.cks, j.next⟩ := if_neg (by rw [h]; simp)
theorem rightE_join {p : Po} {g : Co} (h1 : polErr p = 0) (h2 : conErr g = 0) : rightE p g = 0 := by
  unfold rightE; rw [if_neg (by omega)]; exact h2
theorem meet_law {ad : List UInt8 → Bool} {j : Ja} {p : Po} {g h : Co} {now : Int} (he : bothE g h = 0) (hf : purgeE j p g now = 0) (hi : purgeE j p h now = 0) :
    purgeE (purgeJ ad j p g now) p h now = 0 ∧ purgeE (purgeJ ad j p h now) p g now = 0 ∧ purgeE j p (bothC and g h) now = 0 ∧
    purgeJ ad (purgeJ ad j p g now) p h now = purgeJ ad j p (bothC and g h) now ∧ purgeJ ad (purgeJ ad j p h now) p g now = purgeJ ad j p (bothC and g h) now := by
  obtain ⟨f1, f2, f3⟩ := purgeE_split hf
  obtain ⟨i1, i2, _⟩ := purgeE_split hi
  have hp := (right_pol f2).1
  have e3 : purgeE j p (bothC and g h) now = 0 := purgeE_join f1 (rightE_join hp (con_meet _ he)) f3
  have e1 : purgeE (purgeJ ad j p g now) p h now = 0 := by rw [purgeJ_ok hf]; exact purgeE_join (jarErr_keep f1) i2 f3
  have e2 : purgeE (purgeJ ad j p h now) p g now = 0 := by rw [purgeJ_ok hi]; exact purgeE_join (jarErr_keep f1) f2 f3
  have hm : ∀ c, letsF ad p (bothC and g h) c = (letsF ad p g c && letsF ad p h c) := fun c => may_meet he _ _
  refine ⟨e1, e2, e3, ?_, ?_⟩
  · rw [purgeJ_ok e1, purgeJ_ok e3, purgeJ_ok hf]
    exact congrArg (fun l => (⟨l, j.next⟩ : Ja)) (keepL_keepL hm _)
  · rw [purgeJ_ok e2, purgeJ_ok e3, purgeJ_ok hi]
    exact congrArg (fun l => (⟨l, j.next⟩ : Ja)) (keepL_keepL (fun c => by rw [hm, Bool.and_comm]) _)
theorem keepL_ok {ad : List UInt8 → Bool} {j : Ja} {p : Po} {g : Co} {now : Int} (h : j.ok) : (purgeJ ad j p g now).ok := by
  unfold purgeJ
  split
  · exact ⟨by simp, by simp, by simp⟩
  · obtain ⟨h1, h2, h3⟩ := h
    have key : ∀ c ∈ keepL ad p g now j.cks, ∃ a ∈ j.cks, c = clampF ad p a := by
      intro c hc
      have := (List.mem_filter.1 hc).1
      obtain ⟨a, ha, rfl⟩ := List.mem_map.1 this
      exact ⟨a, (List.mem_filter.1 ha).1, rfl⟩
    refine ⟨Nat.le_trans (keepL_len ad p g now j.cks) h1, ?_, ?_⟩
    · intro c hc; obtain ⟨a, ha, rfl⟩ := key c hc; exact h2 a ha
    · intro c hc; obtain ⟨a, ha, rfl⟩ := key c hc; exact h3 a ha
theorem both_len {f : Bool → Bool → Bool} {a b : Co} : (bothC f a b).vs.length ≤ 40 := by
  unfold bothC
  split
  · simp
  · exact vendL_len _ _ _ _
end Go.Gx
