/- This text proves: the step laws and the plain functions that the walks of this claim stand on. No condition beyond those that each theorem names. -/
import Derived.Test.YtgehghoammpiaaaGreatDoorGz4
namespace Go.Gx
/-! ## An address in the document's words -/
def digB (c : UInt8) : Bool := decide (48 ≤ c.toNat ∧ c.toNat ≤ 57)
def numT (n : Int) : List UInt8 → Int
  | [] => n
  | c :: r => numT (n * 10 + (c.toNat : Int) - 48) r
def ldK (s : List UInt8) : Nat := (s.takeWhile digB).length
def ldN (s : List UInt8) : Int := numT 0 ((s.takeWhile digB).take 5)
def refP (s : List UInt8) : Bool := decide (¬((ldK s : Int) < 1 ∨ (ldK s : Int) > 3 ∨ (ldK s : Int) ≠ s.length ∨ ldN s > 255 ∨ ((ldK s : Int) > 1 ∧ s.getD 0 0 = 48)))
theorem dig_of (d : Nat) (h : d < 10) : (UInt8.ofNat (48 + d)).toNat = 48 + d := by
  rw [UInt8.toNat_ofNat']; omega
theorem digB_of (d : Nat) (h : d < 10) : digB (UInt8.ofNat (48 + d)) = true := by
  unfold digB; rw [dig_of d h]; exact decide_eq_true (by omega)
theorem dig_eq {c : UInt8} {d : Nat} (hd : d < 10) (h : c.toNat = 48 + d) : UInt8.ofNat (48 + d) = c := by
  apply UInt8.toNat.inj
  rw [dig_of d hd, h]
theorem dec1 {u : Nat} (h : u < 10) : Lib.decDigits u = [UInt8.ofNat (48 + u)] := by rw [Lib.decDigits, dif_pos h]
theorem dec2 {u : Nat} (h : ¬ u < 10) (h2 : u < 100) : Lib.decDigits u = [UInt8.ofNat (48 + u / 10), UInt8.ofNat (48 + u % 10)] := by
  rw [Lib.decDigits, dif_neg h, dec1 (by omega)]; rfl
theorem dec3 {u : Nat} (h : ¬ u < 100) (h2 : u < 1000) : Lib.decDigits u = [UInt8.ofNat (48 + u / 10 / 10), UInt8.ofNat (48 + u / 10 % 10), UInt8.ofNat (48 + u % 10)] := by
  rw [Lib.decDigits, dif_neg (by omega), dec2 (by omega) (by omega)]; rfl
theorem byte_ne {c : UInt8} {n : Nat} (h : c.toNat ≠ n) (hn : n < 256) : c ≠ UInt8.ofNat n := by
  intro e; apply h; rw [e, UInt8.toNat_ofNat']; omega
theorem digB_iff {c : UInt8} : digB c = true ↔ 48 ≤ c.toNat ∧ c.toNat ≤ 57 := by simp [digB]
theorem refP1 {a : UInt8} (ha : digB a = true) : refP [a] = true := by
  have i := digB_iff.1 ha
  have k : ldK [a] = 1 := by simp [ldK, ha]
  have n : ldN [a] = (a.toNat : Int) - 48 := by simp [ldN, ha, numT]
  unfold refP; rw [k, n]; exact decide_eq_true (by simp; omega)
theorem refP2 {a b : UInt8} (ha : digB a = true) (hb : digB b = true) (hz : a.toNat ≠ 48) : refP [a, b] = true := by
  have i := digB_iff.1 ha
  have i2 := digB_iff.1 hb
  have k : ldK [a, b] = 2 := by simp [ldK, ha, hb]
  have n : ldN [a, b] = ((a.toNat : Int) - 48) * 10 + (b.toNat : Int) - 48 := by simp [ldN, ha, hb, numT]
  have hne : a ≠ 48 := by intro e; subst e; exact hz rfl
  unfold refP; rw [k, n]; exact decide_eq_true (by simp [hne]; omega)
theorem refP3 {a b c : UInt8} (ha : digB a = true) (hb : digB b = true) (hc : digB c = true) (hz : a.toNat ≠ 48) (hn : (a.toNat - 48) * 100 + (b.toNat - 48) * 10 + (c.toNat - 48) ≤ 255) : refP [a, b, c] = true := by
  have i := digB_iff.1 ha
  have i2 := digB_iff.1 hb
  have i3 := digB_iff.1 hc
  have k : ldK [a, b, c] = 3 := by simp [ldK, ha, hb, hc]
  have n : ldN [a, b, c] = (((a.toNat : Int) - 48) * 10 + (b.toNat : Int) - 48) * 10 + (c.toNat : Int) - 48 := by simp [ldN, ha, hb, hc, numT]
  have hne : a ≠ 48 := by intro e; subst e; exact hz rfl
  unfold refP; rw [k, n]; exact decide_eq_true (by simp [hne]; omega)
theorem refP_of {u : Nat} (h : u ≤ 255) : refP (Lib.decDigits u) = true := by
  by_cases h1 : u < 10
  · rw [dec1 h1]; exact refP1 (digB_of u h1)
  · by_cases h2 : u < 100
    · rw [dec2 h1 h2]
      exact refP2 (digB_of _ (by omega)) (digB_of _ (by omega)) (by rw [dig_of _ (by omega)]; omega)
    · rw [dec3 h2 (by omega)]
      exact refP3 (digB_of _ (by omega)) (digB_of _ (by omega)) (digB_of _ (by omega)) (by rw [dig_of _ (by omega)]; omega) (by rw [dig_of _ (by omega), dig_of _ (by omega), dig_of _ (by omega)]; omega)
theorem pu_digit {acc : Nat} {c : UInt8} {r : List UInt8} (h : digB c = true) (ha : acc < 1000) : Lib.parseUint10 acc (c :: r) = Lib.parseUint10 (acc * 10 + (c.toNat - 48)) r := by
  have h := digB_iff.1 h
  rw [Lib.parseUint10, if_pos (by omega), if_neg (by omega), if_neg (by omega)]
theorem atoi_digits {c : UInt8} {r : List UInt8} {u : Nat} (h : digB c = true) (hu : Lib.parseUint10 0 (c :: r) = .ok u) (hlt : u < 1000) : Lib.atoiAll (c :: r) = .ok (u : Int) := by
  have h := digB_iff.1 h
  unfold Lib.atoiAll
  dsimp only
  rw [if_neg (by omega), Lib.parseMag, if_neg (by simp), hu]
  dsimp only
  rw [if_neg (by omega), if_neg (by omega), if_neg (by omega)]
theorem part_dec {s : List UInt8} {u : Nat} (h : Lib.atoiAll s = .ok (u : Int)) (hu : u ≤ 255) (hd : Lib.decDigits u = s) : partA s = true := by
  have ho : atOk s = true := by unfold atOk; rw [h]
  have hv : atV s = (u : Int) := by unfold atV; rw [h]
  have hi : Lib.itoa (atV s) = s := by rw [hv]; unfold Lib.itoa; rw [if_neg (by omega)]; exact hd
  unfold partA
  rw [ho, hi, hv]
  simp; omega
theorem tw_all {s : List UInt8} (h : (s.takeWhile digB).length = s.length) : ∀ c ∈ s, digB c = true := by
  induction s with
  | nil => simp
  | cons a r ih =>
    rw [List.takeWhile_cons] at h
    split at h
    · rename_i ha
      intro c hc
      rcases List.mem_cons.1 hc with rfl | hc
      · exact ha
      · exact ih (by simpa using h) c hc
    · simp at h
theorem tw_eq {s : List UInt8} (h : ∀ c ∈ s, digB c = true) : s.takeWhile digB = s := by
  induction s with
  | nil => rfl
  | cons a r ih => rw [List.takeWhile_cons, if_pos (h a (by simp)), ih (fun c hc => h c (by simp [hc]))]
theorem partA_ref (s : List UInt8) : partA s = refP s := by
  cases hp : partA s with
  | true =>
    unfold partA at hp
    simp only [Bool.and_eq_true, decide_eq_true_eq] at hp
    obtain ⟨⟨⟨_, h2⟩, h3⟩, h4⟩ := hp
    unfold Lib.itoa at h3
    rw [if_neg (by omega)] at h3
    rw [← h3]
    exact (refP_of (by omega)).symm
  | false =>
    cases hr : refP s with
    | false => rfl
    | true =>
      exfalso
      unfold refP at hr
      have hr := of_decide_eq_true hr
      have hk : ldK s = s.length := by omega
      have hall := tw_all hk
      have htw := tw_eq hall
      have hn : ldN s = numT 0 s := by unfold ldN; rw [htw, List.take_of_length_le (by omega)]
      rw [hn] at hr
      match s, hk, hr, hall, hp with
      | [], hk, hr, _, _ => simp [hk] at hr
      | [a], hk, hr, hall, hp =>
        have ga := hall a (by simp)
        have ia := digB_iff.1 ga
        have hu : Lib.parseUint10 0 [a] = .ok (a.toNat - 48) := by rw [pu_digit ga (by omega)]; simp [Lib.parseUint10]
        have := part_dec (atoi_digits ga hu (by omega)) (by omega) (by rw [dec1 (by omega)]; exact congrArg (fun x => [x]) (dig_eq (by omega) (by omega)))
        rw [this] at hp; cases hp
      | [a, b], hk, hr, hall, hp =>
        have ga := hall a (by simp)
        have gb := hall b (by simp)
        have ia := digB_iff.1 ga
        have ib := digB_iff.1 gb
        have hz : a.toNat ≠ 48 := by
          intro e
          apply hr
          right; right; right; right
          refine ⟨by rw [hk]; simp, ?_⟩
          show a = 48
          exact UInt8.toNat.inj e
        have hu : Lib.parseUint10 0 [a, b] = .ok ((a.toNat - 48) * 10 + (b.toNat - 48)) := by rw [pu_digit ga (by omega), pu_digit gb (by omega)]; simp [Lib.parseUint10]
        have := part_dec (atoi_digits ga hu (by omega)) (by omega) (by
          rw [dec2 (by omega) (by omega)]
          rw [dig_eq (c := a) (d := ((a.toNat - 48) * 10 + (b.toNat - 48)) / 10) (by omega) (by omega), dig_eq (c := b) (d := ((a.toNat - 48) * 10 + (b.toNat - 48)) % 10) (by omega) (by omega)])
        rw [this] at hp; cases hp
      | [a, b, c], hk, hr, hall, hp =>
        have ga := hall a (by simp)
        have gb := hall b (by simp)
        have gc := hall c (by simp)
        have ia := digB_iff.1 ga
        have ib := digB_iff.1 gb
        have ic := digB_iff.1 gc
        have hz : a.toNat ≠ 48 := by
          intro e
          apply hr
          right; right; right; right
          refine ⟨by rw [hk]; simp, ?_⟩
          show a = 48
          exact UInt8.toNat.inj e
        have hnum : numT 0 [a, b, c] ≤ 255 := by omega
        simp only [numT] at hnum
        have hu : Lib.parseUint10 0 [a, b, c] = .ok (((a.toNat - 48) * 10 + (b.toNat - 48)) * 10 + (c.toNat - 48)) := by rw [pu_digit ga (by omega), pu_digit gb (by omega), pu_digit gc (by omega)]; simp [Lib.parseUint10]
        have := part_dec (atoi_digits ga hu (by omega)) (by omega) (by
          rw [dec3 (by omega) (by omega)]
          rw [dig_eq (c := a) (d := (((a.toNat - 48) * 10 + (b.toNat - 48)) * 10 + (c.toNat - 48)) / 10 / 10) (by omega) (by omega), dig_eq (c := b) (d := (((a.toNat - 48) * 10 + (b.toNat - 48)) * 10 + (c.toNat - 48)) / 10 % 10) (by omega) (by omega), dig_eq (c := c) (d := (((a.toNat - 48) * 10 + (b.toNat - 48)) * 10 + (c.toNat - 48)) % 10) (by omega) (by omega)])
        rw [this] at hp; cases hp
      | a :: b :: c :: d :: r, hk, hr, _, _ => rw [hk] at hr; simp at hr; omega
end Go.Gx
