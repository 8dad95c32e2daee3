/- This text proves: the step laws and the plain functions that the walks of this claim stand on. No condition beyond those that each theorem names. -/
import Derived.Test.YtgehghoammpiaaaGreatDoorGxE
namespace Go.Gx

/-! ## The first fault -/
def firstE (f : Nat → Int) : Nat → Int
  | 0 => 0
  | n + 1 => if firstE f n = 0 then f n else firstE f n
theorem firstE_zero {f : Nat → Int} : ∀ {n : Nat}, (∀ j, j < n → f j = 0) → firstE f n = 0
  | 0, _ => rfl
  | n + 1, h => by
    have h1 : firstE f n = 0 := firstE_zero fun j hj => h j (by omega)
    simp [firstE, h1, h n (by omega)]
theorem firstE_at {f : Nat → Int} {i : Nat} (h0 : ∀ j, j < i → f j = 0) (hi : f i ≠ 0) : ∀ {n : Nat}, i < n → firstE f n = f i
  | 0, h => by omega
  | n + 1, h => by
    rcases Nat.lt_or_ge i n with h1 | h1
    · have h2 := firstE_at h0 hi h1
      simp [firstE, h2, hi]
    · have h2 : i = n := by omega
      subst h2
      simp [firstE, firstE_zero h0]
theorem firstE_iff {f : Nat → Int} : ∀ {n : Nat}, firstE f n = 0 ↔ ∀ j, j < n → f j = 0
  | 0 => ⟨fun _ j hj => by omega, fun _ => rfl⟩
  | n + 1 => by
    constructor
    · intro h j hj
      by_cases h1 : firstE f n = 0
      · rcases Nat.lt_or_ge j n with h2 | h2
        · exact firstE_iff.1 h1 j h2
        · have : j = n := by omega
          subst this
          simpa [firstE, h1] using h
      · simp [firstE, h1] at h
    · exact fun h => firstE_zero h
theorem step_all {p : Nat → Prop} {s : Nat} (h : ∀ j, j < s → p j) (hs : p s) : ∀ j, j < s + 1 → p j := fun j hj => by
  rcases Nat.lt_or_ge j s with h1 | h1
  · exact h j h1
  · have : j = s := by omega
    subst this; exact hs
theorem none_yet {p : Nat → Prop} : ∀ j, j < 0 → p j := fun j hj => by omega
theorem getD_of_get {α : Type} {l : List α} {i : Nat} {v d : α} (h : l[i]? = some v) : l.getD i d = v := by simp [List.getD, h]
theorem get_lt {α : Type} {l : List α} {i : Nat} (h : i < l.length) : ∃ v, l[i]? = some v := ⟨_, List.getElem?_eq_getElem h⟩

/-! ## The data -/
structure Ck where
  name : List UInt8
  value : List UInt8
  domain : List UInt8
  path : List UInt8
  hostOnly : Bool
  secure : Bool
  httpOnly : Bool
  lasting : Bool
  site : Int
  expiry : Int
  created : Int
  used : Int
  no : Int
instance : DecidableEq Ck := fun a b => decidable_of_iff (a.name = b.name ∧ a.value = b.value ∧ a.domain = b.domain ∧ a.path = b.path ∧ a.hostOnly = b.hostOnly ∧ a.secure = b.secure ∧ a.httpOnly = b.httpOnly ∧ a.lasting = b.lasting ∧ a.site = b.site ∧ a.expiry = b.expiry ∧ a.created = b.created ∧ a.used = b.used ∧ a.no = b.no) (by
  cases a; cases b; simp)
def Ck.cells (c : Ck) : List Value := [.string (B c.name), .string (B c.value), .string (B c.domain), .string (B c.path), .bool c.hostOnly, .bool c.secure, .bool c.httpOnly, .bool c.lasting,
  .int .i64 c.site, .int .i64 c.expiry, .int .i64 c.created, .int .i64 c.used, .int .i64 c.no]
def Ck.arr (c : Ck) : Array Value := c.cells.toArray
def Ck.none_ : Ck := ⟨[], [], [], [], false, false, false, false, 0, 0, 0, 0, 0⟩
def isM (n : Int) : Prop := -11644473600 ≤ n ∧ n ≤ 253402300799
instance (n : Int) : Decidable (isM n) := by unfold isM; exact inferInstance
def afterM (n s : Int) : Int := if s < 0 then n - min (n + 11644473600) (-(max s (-4611686018427387904))) else n + min (253402300799 - n) s
def i1 (v : Int) : List Value := [.int .i64 v]
def b1 (v : UInt8) : List Value := [.int .u8 (v.toNat : Int)]

/-- A consent. -/
structure Co where
  given : Int
  pu : Nat → Bool
  vs : List Int
def Co.cells (g : Co) (A : Option Addr) (k : Nat) : List Value := [.int .i64 g.given, .bool (g.pu 0), .bool (g.pu 1), .bool (g.pu 2), .bool (g.pu 3), .bool (g.pu 4), .bool (g.pu 5), .bool (g.pu 6), .bool (g.pu 7), .bool (g.pu 8), .bool (g.pu 9), .slice A g.vs.length k]
def Co.arr (g : Co) (A : Option Addr) (k : Nat) : Array Value := (g.cells A k).toArray
def ven1 (l : List Int) (j : Nat) : Int := if l.getD j 0 < 1 ∨ l.getD j 0 > 40 then 3 else if 0 < j ∧ l.getD j 0 ≤ l.getD (j - 1) 0 then 4 else 0
def conErr (g : Co) : Int := if g.given < 0 ∨ g.given > 68719476735 then 3 else firstE (ven1 g.vs) g.vs.length

/-- A rule, a policy. -/
structure Ru where
  kind : Int
  text : List UInt8
  purpose : Int
  vendor : Int
instance : DecidableEq Ru := fun a b => decidable_of_iff (a.kind = b.kind ∧ a.text = b.text ∧ a.purpose = b.purpose ∧ a.vendor = b.vendor) (by
  cases a; cases b; simp)
def Ru.cells (r : Ru) : List Value := [.int .i64 r.kind, .string (B r.text), .int .i64 r.purpose, .int .i64 r.vendor]
structure Po where
  rules : List Ru
  dflt : Int
  caps : Nat → Int
def Po.cells (p : Po) (A : Option Addr) (k : Nat) : List Value := [.slice A p.rules.length k, .int .i64 p.dflt, .int .i64 (p.caps 0), .int .i64 (p.caps 1), .int .i64 (p.caps 2), .int .i64 (p.caps 3), .int .i64 (p.caps 4), .int .i64 (p.caps 5),
  .int .i64 (p.caps 6), .int .i64 (p.caps 7), .int .i64 (p.caps 8), .int .i64 (p.caps 9), .int .i64 (p.caps 10)]
def Po.arr (p : Po) (A : Option Addr) (k : Nat) : Array Value := (p.cells A k).toArray
/-- A jar. -/
structure Ja where
  cks : List Ck
  next : Int
def Ja.arr (j : Ja) (A : Option Addr) (k : Nat) : Array Value := #[.slice A j.cks.length k, .int .i64 j.next]

theorem B_eqc (a b : List UInt8) : cellEq (.string (B a)) (.string (B b)) = some (decide (a = b)) := by simp [cellEq, B_toList]
theorem Ck.eqc (c d : Ck) : eqCells c.arr.toList d.arr.toList = some (decide (c = d)) := by
  obtain ⟨a1, a2, a3, a4, a5, a6, a7, a8, a9, a10, a11, a12, a13⟩ := c
  obtain ⟨b1, b2, b3, b4, b5, b6, b7, b8, b9, b10, b11, b12, b13⟩ := d
  simp only [Ck.arr, Ck.cells, eqCells, B_eqc, Ck.mk.injEq]
  simp only [cellEq, if_true, Option.some.injEq]
  apply Bool.eq_iff_iff.2
  simp [and_assoc]
theorem ext_getD {l m : List Int} (hl : l.length = m.length) (h : ∀ j, j < l.length → l.getD j 0 = m.getD j 0) : l = m := by
  apply List.ext_getElem hl
  intro i h1 h2
  have := h i h1
  simpa [List.getD_eq_getElem?_getD, h1, h2] using this
theorem ext_getC {l m : List Ck} (hl : l.length = m.length) (h : ∀ j, j < l.length → l.getD j .none_ = m.getD j .none_) : l = m := by
  apply List.ext_getElem hl
  intro i h1 h2
  have := h i h1
  simpa [List.getD_eq_getElem?_getD, h1, h2] using this
def puEq (g h : Co) : Bool := g.pu 0 == h.pu 0 && (g.pu 1 == h.pu 1 && (g.pu 2 == h.pu 2 && (g.pu 3 == h.pu 3 && (g.pu 4 == h.pu 4 && (g.pu 5 == h.pu 5 && (g.pu 6 == h.pu 6 && (g.pu 7 == h.pu 7 && (g.pu 8 == h.pu 8 && (g.pu 9 == h.pu 9 && true)))))))))
def sameCo (g h : Co) : Bool := decide (g.given = h.given) && (puEq g h && decide (g.vs = h.vs))

/-! ## Finding -/
def fidx {α : Type} (p : α → Bool) (l : List α) : Int := match l.findIdx? p with | some i => (i : Int) | none => -1
theorem fidx_at {α : Type} {p : α → Bool} {l : List α} {s : Nat} {v : α} (h : ∀ j, j < s → ∀ u, l[j]? = some u → p u = false) (hv : l[s]? = some v) (hp : p v = true) : fidx p l = s := by
  have : l.findIdx? p = some s := by
    rw [List.findIdx?_eq_some_iff_getElem]
    obtain ⟨hlt, e⟩ := List.getElem?_eq_some_iff.1 hv
    refine ⟨hlt, by rw [e]; exact hp, fun j hj => ?_⟩
    have := h j hj _ (List.getElem?_eq_getElem (by omega))
    simp [this]
  simp [fidx, this]
theorem all_of {α : Type} {p : α → Bool} {l : List α} {n : Nat} (h : ∀ j, j < n → ∀ u, l[j]? = some u → p u = false) (hn : l.length ≤ n) : ∀ x ∈ l, p x = false := by
  intro x hx
  obtain ⟨j, hj⟩ := List.getElem?_of_mem hx
  exact h j (Nat.lt_of_lt_of_le (List.getElem?_eq_some_iff.1 hj).1 hn) x hj
theorem fidx_none {α : Type} {p : α → Bool} {l : List α} {n : Nat} (h : ∀ j, j < n → ∀ u, l[j]? = some u → p u = false) (hn : l.length ≤ n) : fidx p l = -1 := by
  have : l.findIdx? p = none := by rw [List.findIdx?_eq_none_iff]; exact all_of h hn
  simp [fidx, this]
theorem fidx_any {α : Type} (p : α → Bool) (l : List α) : decide (fidx p l ≥ 0) = l.any p := by
  unfold fidx
  cases h : l.findIdx? p with
  | none => rw [List.findIdx?_eq_none_iff] at h; simp; exact h
  | some i =>
    have : (l.findIdx? p).isSome = true := by rw [h]; rfl
    rw [List.findIdx?_isSome] at this
    simp [this]
theorem step_get {α : Type} {p : α → Bool} {l : List α} {s : Nat} {v : α} (h : ∀ j, j < s → ∀ u, l[j]? = some u → p u = false) (hv : l[s]? = some v) (hp : p v = false) : ∀ j, j < s + 1 → ∀ u, l[j]? = some u → p u = false :=
  step_all (p := fun j => ∀ u, l[j]? = some u → p u = false) h (fun u hu => by rw [hv] at hu; cases hu; exact hp)
theorem none_get {α : Type} {p : α → Bool} {l : List α} : ∀ j, j < 0 → ∀ u, l[j]? = some u → p u = false := fun j hj => by omega
theorem find_at {α : Type} {p : α → Bool} : ∀ {l : List α} {s : Nat} {v : α}, (∀ j, j < s → ∀ u, l[j]? = some u → p u = false) → l[s]? = some v → p v = true → l.find? p = some v
  | [], _, _, _, h, _ => by simp at h
  | a :: l, 0, v, _, hv, hp => by simp at hv; subst hv; simp [hp]
  | a :: l, s + 1, v, h, hv, hp => by
    have ha := h 0 (by omega) a rfl
    rw [List.find?_cons, ha]
    exact find_at (s := s) (fun j hj u hu => h (j + 1) (by omega) u (by simpa using hu)) (by simpa using hv) hp
theorem find_none' {α : Type} {p : α → Bool} {l : List α} {n : Nat} (h : ∀ j, j < n → ∀ u, l[j]? = some u → p u = false) (hn : l.length ≤ n) : l.find? p = none := by
  rw [List.find?_eq_none]; intro x hx; simp [all_of h hn x hx]
def pre (m l : List UInt8) : Bool := decide (m <+: l)
def suf (m l : List UInt8) : Bool := decide (m <:+ l)
theorem pre_t {m l : List UInt8} : l.take m.length = m ↔ m <+: l := by rw [List.prefix_iff_eq_take]; exact eq_comm
theorem suf_t {m l : List UInt8} (h : m.length ≤ l.length) : l.drop (l.length - m.length) = m ↔ m <:+ l := by rw [List.suffix_iff_eq_drop]; exact eq_comm
def matchF (ad : List UInt8 → Bool) (h d : List UInt8) : Bool := decide (h = d) || (!(ad h) && decide ((46 :: d) <:+ h))
def namesF (ad : List UInt8 → Bool) (c : Ck) (r : Ru) : Bool :=
  if r.kind = 1 then decide (c.name = r.text) else if r.kind = 2 then decide (r.text <+: c.name) else if r.kind = 3 then decide (r.text <:+ c.name) else if r.kind = 4 then matchF ad c.domain r.text else false
def kindF (ad : List UInt8 → Bool) (p : Po) (c : Ck) : Int × Int := match p.rules.find? (namesF ad c) with | some r => (r.purpose, r.vendor) | none => (p.dflt, 0)
def mayF (g : Co) (k v : Int) : Bool := if k ≠ 0 ∧ (k < 1 ∨ k > 10 ∨ g.pu (k - 1).toNat = false) then false else (decide (v = 0) || g.vs.contains v)
def letsF (ad : List UInt8 → Bool) (p : Po) (g : Co) (c : Ck) : Bool := mayF g (kindF ad p c).1 (kindF ad p c).2
def capF (ad : List UInt8 → Bool) (p : Po) (c : Ck) : Int := afterM c.created (p.caps (kindF ad p c).1.toNat)
def clampF (ad : List UInt8 → Bool) (p : Po) (c : Ck) : Ck := { c with expiry := min c.expiry (capF ad p c) }
theorem co_pu (g : Co) (A : Option Addr) (k : Nat) {i : Nat} (h : i < 10) : (g.arr A k)[1 + i]? = some (.bool (g.pu i)) := by
  match i, h with
  | 0, _ | 1, _ | 2, _ | 3, _ | 4, _ | 5, _ | 6, _ | 7, _ | 8, _ | 9, _ => rfl
theorem po_cap (p : Po) (A : Option Addr) (k : Nat) {i : Nat} (h : i < 11) : (p.arr A k)[2 + i]? = some (.int .i64 (p.caps i)) := by
  match i, h with
  | 0, _ | 1, _ | 2, _ | 3, _ | 4, _ | 5, _ | 6, _ | 7, _ | 8, _ | 9, _ | 10, _ => rfl

/-! ## Words -/
def lowB (c : UInt8) : UInt8 := if 65 ≤ c.toNat ∧ c.toNat ≤ 90 then c + 32 else c
def foldTo (l : List UInt8) (s : Nat) : List UInt8 := (l.take s).map lowB ++ l.drop s
theorem foldTo_len (l : List UInt8) (s : Nat) : (foldTo l s).length = l.length := by simp [foldTo]; omega
theorem foldTo_at {l : List UInt8} {s : Nat} {b : UInt8} (h : l[s]? = some b) : (foldTo l s)[s]? = some b := by
  have hlt := (List.getElem?_eq_some_iff.1 h).1
  simp only [foldTo]
  rw [List.getElem?_append_right (by simp; omega)]
  simp [h, Nat.min_eq_left (Nat.le_of_lt hlt)]
theorem foldTo_set {l : List UInt8} {s : Nat} {b : UInt8} (h : l[s]? = some b) : (foldTo l s).set s (lowB b) = foldTo l (s + 1) := by
  obtain ⟨hlt, e⟩ := List.getElem?_eq_some_iff.1 h
  simp only [foldTo]
  rw [List.set_append_right _ _ (by simp; omega)]
  simp only [List.length_map, List.length_take, Nat.min_eq_left (Nat.le_of_lt hlt), Nat.sub_self]
  rw [List.drop_eq_getElem_cons hlt, List.set_cons_zero, List.take_succ_eq_append_getElem hlt, List.map_append, e]
  simp
theorem foldTo_same {l : List UInt8} {s : Nat} {b : UInt8} (h : l[s]? = some b) (hb : ¬(65 ≤ b.toNat ∧ b.toNat ≤ 90)) : foldTo l s = foldTo l (s + 1) := by
  rw [← foldTo_set h, show lowB b = b by unfold lowB; rw [if_neg hb]]
  have h2 := foldTo_at h
  apply List.ext_getElem?
  intro i
  rw [List.getElem?_set]
  split
  · rename_i e; subst e; rw [if_pos (List.getElem?_eq_some_iff.1 h2).1]; exact h2
  · rfl
theorem lowB_nat {b : UInt8} (h1 : 65 ≤ b.toNat) (h2 : b.toNat ≤ 90) : (b.toNat : Int) + 32 = ((lowB b).toNat : Int) := by
  unfold lowB
  rw [if_pos ⟨h1, h2⟩, UInt8.toNat_add]
  have : (32 : UInt8).toNat = 32 := rfl
  rw [this, Nat.mod_eq_of_lt (by omega)]
  omega
theorem foldTo_all {l : List UInt8} {s : Nat} (h : l.length ≤ s) : foldTo l s = l.map lowB := by simp [foldTo, List.take_of_length_le h, List.drop_eq_nil_of_le h]
def cutF (b : UInt8) (l : List UInt8) : List UInt8 × List UInt8 × Bool := if ibF l b < 0 then (l, [], false) else (l.take (ibF l b).toNat, l.drop (ibF l b + 1).toNat, true)
def outer (c : UInt8) : Bool := decide ((97 ≤ c.toNat ∧ c.toNat ≤ 122) ∨ (48 ≤ c.toNat ∧ c.toNat ≤ 57))
def outB (c : UInt8) : Bool := !outer c && decide ((c.toNat : Int) ≠ 45)
def labelF (l : List UInt8) : Bool := if l = [] then false else if (l.length : Int) > 63 then false else if (!outer (l.getD (0 : Int).toNat 0)) = true then false else if (!outer (l.getD ((l.length : Int) - 1).toNat 0)) = true then false else !(l.any outB)
def partsB (b : UInt8) : List UInt8 → List (List UInt8)
  | [] => [[]]
  | c :: r => if c = b then [] :: partsB b r else match partsB b r with | p :: ps => (c :: p) :: ps | [] => [[c]]
theorem partsB_len (b : UInt8) : ∀ l, (partsB b l).length ≤ l.length + 1
  | [] => by simp [partsB]
  | c :: r => by
    have ih := partsB_len b r
    unfold partsB
    split
    · simp; omega
    · split
      · rename_i p ps h; rw [h] at ih; simp at ih ⊢; omega
      · simp
def st1 (s : List UInt8) : List Value := [.string (B s)]
def canonF (l : List UInt8) : List UInt8 × Int := if l.length > 253 then ([], 2) else if (partsB 46 (l.map lowB)).any (fun p => !labelF p) then ([], 1) else (l.map lowB, 0)
def hostF (l : List UInt8) : Bool := decide ((canonF l).2 = 0) && decide ((canonF l).1 = l)

theorem sl_of_rowB {W0 w : World} {H : List Res} {k g : Nat} {l : List UInt8} {R : List Value} {e : TypeId} {fr : Nat × Nat} (hm : Mem W0 H w) (hk : H[k]? = some (.blk g (.cells (rowB l R) e fr))) : Sl b1 1 w (some ⟨g, 0, none⟩) l := by
  have he := el_of_blk hm hk
  intro i x hi
  refine ⟨_, rfl, he.sub (fun j u hj => ?_)⟩
  have hj' := (List.getElem?_eq_some_iff.1 hj).1
  simp [b1] at hj'
  subst hj'
  simp [b1] at hj
  have := rowB_at (R := R) hi
  simp only [Nat.mul_one, Nat.add_zero]
  subst hj
  simpa [bV] using this
theorem any_parts {p : List UInt8 → Bool} {l : List (List UInt8)} {s : Nat} {v : List UInt8} (hv : l[s]? = some v) (hp : p v = true) : l.any p = true := List.any_eq_true.2 ⟨v, List.mem_of_getElem? hv, hp⟩
theorem none_parts {p : List UInt8 → Bool} {l : List (List UInt8)} {s : Nat} (h : ∀ j, j < s → ∀ u, l[j]? = some u → p u = false) (hs : l.length ≤ s) : l.any p = false := by
  rw [List.any_eq_false]; intro x hx; simp [all_of h hs x hx]
/-- What a chain of dots answers. -/
def PartsR (T : TypeId) (b : UInt8) (l : List UInt8) (x : Option Addr × Nat) : List Res := [.row (.slice x.1 (partsB b l).length x.2) T 1 (partsB b l).length ((partsB b l).flatMap st1)]
/-- 'In whatever world above W, host.Address answers ad.' -/
def AddrIs (P : Program) (K : FuncId) (W : World) (ad : List UInt8 → Bool) : Prop := ∀ w', RowKit.Below W.heap.size W w' → ∀ h : List UInt8, h.length ≤ 1073741824 → Cv P K #[.string (B h)] w' (.bool (ad h))
theorem AddrIs.above {P : Program} {K : FuncId} {W W' : World} {ad : List UInt8 → Bool} (h : AddrIs P K W ad) (hb : RowKit.Below W.heap.size W W') : AddrIs P K W' ad := fun w' hb' => h w' (Go.Gx.Below.trans' hb hb')
theorem partsB_el (b : UInt8) : ∀ (l p : List UInt8), p ∈ partsB b l → p.length ≤ l.length
  | [], p, h => by simp [partsB] at h; simp [h]
  | c :: r, p, h => by
    unfold partsB at h
    split at h
    · rcases List.mem_cons.1 h with rfl | h
      · simp
      · have := partsB_el b r p h; simp; omega
    · split at h
      · rename_i q qs e
        rcases List.mem_cons.1 h with rfl | h
        · have := partsB_el b r q (by rw [e]; simp); simp; omega
        · have := partsB_el b r p (by rw [e]; simp [h]); simp; omega
      · simp at h; simp [h]
theorem partsB_small {b : UInt8} {l v : List UInt8} {s : Nat} (hl : l.length ≤ 1073741824) (hv : (partsB b (l.map lowB))[s]? = some v) : v.length ≤ 1073741824 := by
  have := partsB_el b _ v (List.mem_of_getElem? hv)
  simp at this; omega

def Po.ok (p : Po) : Prop := p.rules.length ≤ 1073741824 ∧ ∀ r ∈ p.rules, r.text.length ≤ 1073741824
def Ck.ok (c : Ck) : Prop := c.name.length ≤ 1073741824 ∧ c.domain.length ≤ 1073741824
def capsL (p : Po) : List Int := [p.caps 0, p.caps 1, p.caps 2, p.caps 3, p.caps 4, p.caps 5, p.caps 6, p.caps 7, p.caps 8, p.caps 9, p.caps 10]
def Po.good (p : Po) : Prop := (∀ i, i < 11 → 1 ≤ p.caps i ∧ p.caps i ≤ 1000000000) ∧ (0 ≤ p.dflt ∧ p.dflt ≤ 10) ∧ ∀ r ∈ p.rules, 0 ≤ r.purpose ∧ r.purpose ≤ 10
def Ru.none_ : Ru := ⟨0, [], 0, 0⟩
def ru1 (r : Ru) : Int := if r.kind < 1 ∨ r.kind > 4 then 7 else if r.text = [] ∨ (r.text.length : Int) > 400 ∨ (r.kind = 4 ∧ (!hostF r.text) = true) then 1 else if ¬(0 ≤ r.purpose ∧ r.purpose ≤ 10) ∨ r.vendor < 0 ∨ r.vendor > 40 then 3 else 0
def ruAt (p : Po) (j : Nat) : Int := ru1 (p.rules.getD j Ru.none_)
def polErr (p : Po) : Int := if (p.rules.length : Int) > 12 then 2 else if firstE (ruAt p) p.rules.length ≠ 0 then firstE (ruAt p) p.rules.length
  else if ¬(0 ≤ p.dflt ∧ p.dflt ≤ 10) ∨ (capsL p).any (fun n => decide (n < 1 ∨ n > 1000000000)) = true then 3 else 0
theorem kind_good {ad : List UInt8 → Bool} {p : Po} {c : Ck} (h : p.good) : 0 ≤ (kindF ad p c).1 ∧ (kindF ad p c).1 ≤ 10 := by
  unfold kindF
  split
  · rename_i r hr; exact h.2.2 r (List.mem_of_find?_eq_some hr)
  · exact h.2.1
theorem pol_good {p : Po} (h : polErr p = 0) : p.good := by
  unfold polErr at h
  split at h
  · omega
  · split at h
    · rename_i h1; exact absurd h h1
    · rename_i h1
      have h1 : firstE (ruAt p) p.rules.length = 0 := by omega
      split at h
      · omega
      · rename_i h2
        rw [not_or] at h2
        obtain ⟨h2, h3⟩ := h2
        have h2 : 0 ≤ p.dflt ∧ p.dflt ≤ 10 := by omega
        refine ⟨?_, h2, ?_⟩
        · intro i hi
          have h3 : (capsL p).any (fun n => decide (n < 1 ∨ n > 1000000000)) = false := by simpa using h3
          have : p.caps i ∈ capsL p := by
            match i, hi with
            | 0, _ | 1, _ | 2, _ | 3, _ | 4, _ | 5, _ | 6, _ | 7, _ | 8, _ | 9, _ | 10, _ => simp [capsL]
          have := List.any_eq_false.1 h3 _ this
          simp at this
          omega
        · intro r hr
          obtain ⟨j, hj⟩ := List.getElem?_of_mem hr
          have hlt := (List.getElem?_eq_some_iff.1 hj).1
          have h4 := firstE_iff.1 h1 j hlt
          unfold ruAt at h4
          rw [getD_of_get hj] at h4
          unfold ru1 at h4
          split at h4
          · omega
          · split at h4
            · omega
            · split at h4
              · omega
              · omega
theorem ck_ok {c : Ck} (h : c.ok) : c.name.length ≤ 1073741824 ∧ c.domain.length ≤ 1073741824 := h
theorem sl_of_el {W : World} {p : Addr} {vs : List Value} (h : El W p vs) (l : List Int) (o : Nat) (hl : ∀ i x, l[i]? = some x → vs[o + i]? = some (.int .i64 x)) : Sl i1 1 W (some (p.add o)) l := by
  intro i x hi
  refine ⟨_, rfl, ?_⟩
  rw [add_add, Nat.mul_one]
  refine h.sub (fun j u hj => ?_)
  have hj' := (List.getElem?_eq_some_iff.1 hj).1
  simp [i1] at hj'
  subst hj'
  simp [i1] at hj
  rw [Nat.add_zero, hl i x hi, hj]
theorem capsL_at (p : Po) (A : Option Addr) (k : Nat) : ∀ i x, (capsL p)[i]? = some x → (p.arr A k).toList[2 + i]? = some (.int .i64 x) := by
  intro i x hi
  have hlt := (List.getElem?_eq_some_iff.1 hi).1
  simp [capsL] at hlt
  match i, hlt with
  | 0, _ | 1, _ | 2, _ | 3, _ | 4, _ | 5, _ | 6, _ | 7, _ | 8, _ | 9, _ | 10, _ => simp [capsL] at hi; simp [Po.arr, Po.cells, hi]
theorem polErr_at {p : Po} {s : Nat} {v : Ru} {x : Int} (h12 : ¬(p.rules.length : Int) > 12) (hI : ∀ j, j < s → ruAt p j = 0) (hlt : s < p.rules.length) (e7 : ruAt p s = ru1 v) (hv : ru1 v = x) (hx : x ≠ 0) : polErr p = x := by
  have h1 : firstE (ruAt p) p.rules.length = x := by rw [firstE_at hI (by rw [e7, hv]; exact hx) hlt, e7, hv]
  unfold polErr
  rw [if_neg h12, h1, if_pos hx]
theorem polErr_end {p : Po} {s : Nat} (h12 : ¬(p.rules.length : Int) > 12) (hI : ∀ j, j < s → ruAt p j = 0) (hs : p.rules.length ≤ s) : polErr p = if ¬(0 ≤ p.dflt ∧ p.dflt ≤ 10) ∨ (capsL p).any (fun n => decide (n < 1 ∨ n > 1000000000)) = true then 3 else 0 := by
  have h1 : firstE (ruAt p) p.rules.length = 0 := firstE_zero (fun j hj => hI j (by omega))
  unfold polErr
  rw [if_neg h12, h1, if_neg (by simp)]
theorem ru1_7 {r : Ru} (h : r.kind < 1 ∨ r.kind > 4) : ru1 r = 7 := if_pos h
theorem ru1_1 {r : Ru} (h : ¬(r.kind < 1 ∨ r.kind > 4)) (h2 : r.text = [] ∨ (r.text.length : Int) > 400 ∨ (r.kind = 4 ∧ (!hostF r.text) = true)) : ru1 r = 1 := by unfold ru1; rw [if_neg h, if_pos h2]
theorem ru1_3 {r : Ru} (h : ¬(r.kind < 1 ∨ r.kind > 4)) (h2 : ¬(r.text = [] ∨ (r.text.length : Int) > 400 ∨ (r.kind = 4 ∧ (!hostF r.text) = true))) (h3 : ¬(0 ≤ r.purpose ∧ r.purpose ≤ 10) ∨ r.vendor < 0 ∨ r.vendor > 40) : ru1 r = 3 := by unfold ru1; rw [if_neg h, if_neg h2, if_pos h3]
theorem ru1_0 {r : Ru} (h : ¬(r.kind < 1 ∨ r.kind > 4)) (h2 : ¬(r.text = [] ∨ (r.text.length : Int) > 400 ∨ (r.kind = 4 ∧ (!hostF r.text) = true))) (h3 : ¬(¬(0 ≤ r.purpose ∧ r.purpose ≤ 10) ∨ r.vendor < 0 ∨ r.vendor > 40)) : ru1 r = 0 := by unfold ru1; rw [if_neg h, if_neg h2, if_neg h3]

def addL {α : Type} (b : Bool) (L : List α) (c : α) : List α := if b = true then L ++ [c] else L
theorem addL_t {α : Type} {L : List α} {c : α} {p : Prop} [Decidable p] (h : p) : addL (decide p) L c = L ++ [c] := by simp [addL, h]
theorem addL_f {α : Type} {L : List α} {c : α} {p : Prop} [Decidable p] (h : ¬p) : addL (decide p) L c = L := by simp [addL, h]
theorem len_snoc {α : Type} (L : List α) (c : α) : (L ++ [c]).length = L.length + 1 := by simp
theorem app_one {α β : Type} {f : α → List β} {L : List α} {c : α} : L.flatMap f ++ f c = (L ++ [c]).flatMap f := by simp
def keepL (ad : List UInt8 → Bool) (p : Po) (g : Co) (now : Int) (l : List Ck) : List Ck := ((l.filter (letsF ad p g)).map (clampF ad p)).filter (fun c => decide (c.expiry > now))
theorem keepL_snoc {ad : List UInt8 → Bool} {p : Po} {g : Co} {now : Int} {l : List Ck} {c : Ck} (h : letsF ad p g c = true) : keepL ad p g now (l ++ [c]) = addL (decide ((clampF ad p c).expiry > now)) (keepL ad p g now l) (clampF ad p c) := by
  simp only [keepL, List.filter_append, List.map_append, List.filter_cons, h, if_true, List.filter_nil, List.map_cons, List.map_nil, addL]
  split <;> simp_all
theorem keepL_not {ad : List UInt8 → Bool} {p : Po} {g : Co} {now : Int} {l : List Ck} {c : Ck} (h : letsF ad p g c = false) : keepL ad p g now (l ++ [c]) = keepL ad p g now l := by
  simp [keepL, h]
theorem take_snoc {α : Type} {l : List α} {s : Nat} {v : α} (h : l[s]? = some v) : l.take (s + 1) = l.take s ++ [v] := by
  obtain ⟨hlt, e⟩ := List.getElem?_eq_some_iff.1 h
  rw [List.take_succ_eq_append_getElem hlt, e]
theorem keepL_len (ad : List UInt8 → Bool) (p : Po) (g : Co) (now : Int) (l : List Ck) : (keepL ad p g now l).length ≤ l.length := by
  unfold keepL
  exact Nat.le_trans (List.length_filter_le _ _) (by rw [List.length_map]; exact List.length_filter_le _ _)
def rightE (p : Po) (g : Co) : Int := if polErr p ≠ 0 then polErr p else conErr g

def keyEq (a b : Ck) : Bool := decide (a.name = b.name) && (decide (a.domain = b.domain) && decide (a.path = b.path))
def ckE (l : List Ck) (next : Int) (c : Ck) : Int := if ¬(isM c.created ∧ isM c.used) then 3 else if c.no < 0 ∨ c.no ≥ next then 4 else if l.any (fun a => keyEq a c) = true ∨ l.any (fun a => decide (a.no = c.no)) = true then 6 else if (l.filter (fun a => decide (a.domain = c.domain))).length = 4 then 2 else 0
def ckAt (j : Ja) (i : Nat) : Int := ckE (j.cks.take i) j.next (j.cks.getD i .none_)
def jarErr (j : Ja) : Int := if (j.cks.length : Int) > 12 then 2 else if firstE (ckAt j) j.cks.length ≠ 0 then firstE (ckAt j) j.cks.length else if j.next < 0 ∨ j.next > 1099511627776 then 3 else 0
theorem jarErr_len {j : Ja} (h : jarErr j = 0) : j.cks.length ≤ 12 := by
  unfold jarErr at h; split at h <;> omega
theorem jarErr_at0 {j : Ja} (h : jarErr j = 0) {i : Nat} {c : Ck} (hc : j.cks[i]? = some c) : ckE (j.cks.take i) j.next c = 0 := by
  have hlt := (List.getElem?_eq_some_iff.1 hc).1
  unfold jarErr at h
  split at h
  · omega
  · split at h
    · rename_i h1; exact absurd h h1
    · rename_i h1
      have h1 : firstE (ckAt j) j.cks.length = 0 := by omega
      have h2 := firstE_iff.1 h1 i hlt
      unfold ckAt at h2
      rwa [getD_of_get hc] at h2
theorem jarErr_isM {j : Ja} (h : jarErr j = 0) : ∀ c ∈ j.cks, isM c.created := by
  intro c hc
  obtain ⟨i, hi⟩ := List.getElem?_of_mem hc
  have h1 := jarErr_at0 h hi
  unfold ckE at h1
  split at h1
  · omega
  · rename_i h2
    have h2 : isM c.created ∧ isM c.used := Decidable.not_not.1 h2
    exact h2.1
def Ja.ok (j : Ja) : Prop := j.cks.length ≤ 1073741824 ∧ (∀ c ∈ j.cks, c.ok) ∧ ∀ c ∈ j.cks, c.path.length ≤ 1073741824 ∧ -9223372036854775808 ≤ c.no ∧ c.no ≤ 9223372036854775807
theorem clamp_ok {ad : List UInt8 → Bool} {p : Po} {c : Ck} (h : c.ok) : (clampF ad p c).ok := h
def purgeE (j : Ja) (p : Po) (g : Co) (now : Int) : Int := if jarErr j ≠ 0 then jarErr j else if rightE p g ≠ 0 then rightE p g else if ¬ isM now then 3 else 0
def purgeJ (ad : List UInt8 → Bool) (j : Ja) (p : Po) (g : Co) (now : Int) : Ja := if purgeE j p g now ≠ 0 then ⟨[], 0⟩ else ⟨keepL ad p g now j.cks, j.next⟩
def purgeN (ad : List UInt8 → Bool) (j : Ja) (p : Po) (g : Co) (now : Int) : Int := if purgeE j p g now ≠ 0 then 0 else j.cks.length - (keepL ad p g now j.cks).length
theorem right_pol {p : Po} {g : Co} (h : rightE p g = 0) : polErr p = 0 ∧ conErr g = 0 := by
  unfold rightE at h
  split at h
  · rename_i h1; exact absurd h h1
  · rename_i h1; exact ⟨by omega, h⟩
def gateE (ad : List UInt8 → Bool) (p : Po) (g : Co) (c : Ck) : Int := if rightE p g ≠ 0 then rightE p g else if ¬ isM c.created then 3 else if (!letsF ad p g c) = true then 8 else 0
def gateC (ad : List UInt8 → Bool) (p : Po) (g : Co) (c : Ck) : Ck := if gateE ad p g c ≠ 0 then .none_ else clampF ad p c

/-! ## Consents, met and joined -/
theorem wf_i64 {z : Int} (h0 : -9223372036854775808 ≤ z) (h1 : z ≤ 9223372036854775807) : (Lit.int .i64 z).wf = true := by
  simp [Lit.wf, IntKind.min, IntKind.max, IntKind.bits, IntKind.signed]; omega
def sel {α : Type} (a b : α) (s : Nat) : α := if s = 0 then a else b
def vendL (f : Bool → Bool → Bool) (l m : List Int) (s : Nat) : List Int := ((List.range s).map (fun (n : Nat) => (n : Int) + 1)).filter (fun v => f (l.contains v) (m.contains v))
theorem vendL_succ (f : Bool → Bool → Bool) (l m : List Int) (s : Nat) : vendL f l m (s + 1) = addL (f (l.contains ((s : Int) + 1)) (m.contains ((s : Int) + 1))) (vendL f l m s) ((s : Int) + 1) := by
  simp only [vendL, List.range_succ, List.map_append, List.filter_append, addL]
  simp only [List.map_cons, List.map_nil, List.filter_cons, List.filter_nil]
  split <;> simp_all
theorem vendL_len (f : Bool → Bool → Bool) (l m : List Int) (s : Nat) : (vendL f l m s).length ≤ s := by
  unfold vendL
  exact Nat.le_trans (List.length_filter_le _ _) (by simp)
def bothE (a b : Co) : Int := if conErr a ≠ 0 then conErr a else conErr b
def bothC (f : Bool → Bool → Bool) (a b : Co) : Co := if bothE a b ≠ 0 then ⟨0, fun _ => false, []⟩ else ⟨if b.given > a.given then b.given else a.given, fun i => f (a.pu i) (b.pu i), vendL f a.vs b.vs 40⟩
def pS (f : Bool → Bool → Bool) (a b : Co) (i s : Nat) : Bool := decide (i < s) && f (a.pu i) (b.pu i)
def outC (f : Bool → Bool → Bool) (a b : Co) (mx : Int) (s : Nat) (v : Value) : Array Value := #[.int .i64 mx, .bool (pS f a b 0 s), .bool (pS f a b 1 s), .bool (pS f a b 2 s), .bool (pS f a b 3 s), .bool (pS f a b 4 s), .bool (pS f a b 5 s), .bool (pS f a b 6 s), .bool (pS f a b 7 s), .bool (pS f a b 8 s), .bool (pS f a b 9 s), v]
theorem outC_set (f : Bool → Bool → Bool) (a b : Co) (mx : Int) (v : Value) {s : Nat} (h : s < 10) : (outC f a b mx s v).setIfInBounds (1 + s) (.bool (f (a.pu s) (b.pu s))) = outC f a b mx (s + 1) v := by
  match s, h with
  | 0, _ | 1, _ | 2, _ | 3, _ | 4, _ | 5, _ | 6, _ | 7, _ | 8, _ | 9, _ => simp [outC, pS]
theorem outC_end (f : Bool → Bool → Bool) (a b : Co) (mx : Int) (A : Option Addr) (k : Nat) (vs : List Int) : outC f a b mx 10 (.slice A vs.length k) = (Co.arr ⟨mx, fun i => f (a.pu i) (b.pu i), vs⟩ A k) := by
  simp [outC, pS, Co.arr, Co.cells]
theorem pu_arr (g : Co) {s : Nat} (h : s < 10) : (#[Value.bool (g.pu 0), .bool (g.pu 1), .bool (g.pu 2), .bool (g.pu 3), .bool (g.pu 4), .bool (g.pu 5), .bool (g.pu 6), .bool (g.pu 7), .bool (g.pu 8), .bool (g.pu 9)] : Array Value)[s]? = some (.bool (g.pu s)) := by
  match s, h with
  | 0, _ | 1, _ | 2, _ | 3, _ | 4, _ | 5, _ | 6, _ | 7, _ | 8, _ | 9, _ => rfl
theorem con_wf {g : Co} (h : conErr g = 0) : ∀ v ∈ g.vs, 1 ≤ v ∧ v ≤ 40 := by
  intro v hv
  obtain ⟨i, hi⟩ := List.getElem?_of_mem hv
  have hlt := (List.getElem?_eq_some_iff.1 hi).1
  unfold conErr at h
  split at h
  · omega
  · have := firstE_iff.1 h i hlt
    unfold ven1 at this
    rw [getD_of_get hi] at this
    split at this <;> omega
theorem sel_sl {w : World} {A A2 : Option Addr} {a b : Co} (h : Sl i1 1 w A a.vs) (h2 : Sl i1 1 w A2 b.vs) (s : Nat) : Sl i1 1 w (sel A A2 s) (sel a b s).vs := by
  unfold sel; split
  · exact h
  · exact h2
theorem sel_len {a b : Co} {n : Nat} (h : a.vs.length ≤ n) (h2 : b.vs.length ≤ n) (s : Nat) : (sel a b s).vs.length ≤ n := by
  unfold sel; split
  · exact h
  · exact h2
theorem bothE_at {a b : Co} {s : Nat} (hlt : s < 2) (hI : ∀ j, j < s → conErr (sel a b j) = 0) (h : conErr (sel a b s) ≠ 0) : bothE a b = conErr (sel a b s) := by
  match s, hlt with
  | 0, _ => exact if_pos h
  | 1, _ =>
    have h0 : conErr a = 0 := hI 0 (by omega)
    exact if_neg (by omega)

/-! ## The maps of jar.Check -/
section
open Go.Maps
def keyK (c : Ck) : Lit := .string (keyBytes [.string c.name, .string c.domain, .string c.path])
theorem keyK_of {P : Program} {k : TypeId} {c : Ck} (h : s3T P k = true) (hc : c.ok) (hp : c.path.length ≤ 1073741824) : keyOf P k (.agg #[.string (B c.name), .string (B c.domain), .string (B c.path)]) = some (keyK c) :=
  keyOf_3s h (by have := hc.1; simp [maxLen]; omega) (by have := hc.2; simp [maxLen]; omega) (by simp [maxLen]; omega)
theorem keyK_inj {P : Program} {k : TypeId} (K : Keyed P k) (h : s3T P k = true) {a c : Ck} (ha : a.ok) (hap : a.path.length ≤ 1073741824) (hc : c.ok) (hcp : c.path.length ≤ 1073741824) : keyK a = keyK c ↔ keyEq a c = true := by
  constructor
  · intro e
    have h1 := keyK_of h ha hap
    have h2 := keyK_of h hc hcp
    rw [e] at h1
    have := K.inj h1 h2
    simp only [Value.agg.injEq, Array.mk.injEq, List.cons.injEq, Value.string.injEq] at this
    obtain ⟨e1, e2, e3, _⟩ := this
    simp [keyEq, B_inj e1, B_inj e2, B_inj e3]
  · intro e
    simp [keyEq] at e
    obtain ⟨e1, e2, e3⟩ := e
    simp [keyK, e1, e2, e3]
/-- A map that is filled in turn: entry i at key f of element i. -/
def fillD {α : Type} (f : α → Lit) (l : List α) : DU := l.zipIdx.foldl (fun D (x : α × Nat) => D.put (f x.1) (.lit (.int .i64 (x.2 : Int)))) (.map [])
theorem fillD_snoc {α : Type} (f : α → Lit) (l : List α) (v : α) : fillD f (l ++ [v]) = (fillD f l).put (f v) (.lit (.int .i64 (l.length : Int))) := by
  simp [fillD, List.zipIdx_append]
theorem fillD_isMap {α : Type} (f : α → Lit) (l : List α) : IsMap (fillD f l) := by
  have : ∀ (l : List (α × Nat)) (D : DU), IsMap D → IsMap (l.foldl (fun D (x : α × Nat) => D.put (f x.1) (.lit (.int .i64 (x.2 : Int)))) D) := by
    intro l
    induction l with
    | nil => intro D h; exact h
    | cons a l ih => intro D h; exact ih _ (isMap_put h _ _)
  exact this _ _ ⟨[], rfl⟩
theorem has_fillD {α : Type} {f : α → Lit} {l : List α} {q : α → Bool} {kl : Lit} (hk : WideAt.IsKeyLit kl) (hq : ∀ a ∈ l, f a = kl ↔ q a = true) : has (fillD f l) kl = l.any q := by
  have key : ∀ (l : List (α × Nat)) (D : DU), IsMap D → (∀ a ∈ l, f a.1 = kl ↔ q a.1 = true) → has (l.foldl (fun D (x : α × Nat) => D.put (f x.1) (.lit (.int .i64 (x.2 : Int)))) D) kl = (has D kl || l.any (fun x => q x.1)) := by
    intro l
    induction l with
    | nil => intro D _ _; simp
    | cons a l ih =>
      intro D hD hq
      rw [List.foldl_cons, ih _ (isMap_put hD _ _) (fun b hb => hq b (List.mem_cons_of_mem _ hb))]
      have h1 := hq a List.mem_cons_self
      by_cases h : f a.1 = kl
      · rw [h, has_put_same hD hk, List.any_cons, h1.1 h]
        simp
      · rw [has_put_other (fun e => h e.symm), List.any_cons]
        have : q a.1 = false := by
          cases hh : q a.1 with
          | true => exact absurd (h1.2 hh) h
          | false => rfl
        simp [this]
  have hz : ∀ a ∈ l.zipIdx, f a.1 = kl ↔ q a.1 = true := fun a ha => hq a.1 (List.fst_mem_of_mem_zipIdx ha)
  rw [fillD, key _ _ ⟨[], rfl⟩ hz]
  have : (l.zipIdx.any fun x => q x.1) = l.any q := by
    rw [Bool.eq_iff_iff, List.any_eq_true, List.any_eq_true]
    constructor
    · rintro ⟨x, hx, h⟩; exact ⟨x.1, List.fst_mem_of_mem_zipIdx hx, h⟩
    · rintro ⟨x, hx, h⟩
      obtain ⟨i, hi⟩ := List.getElem?_of_mem hx
      refine ⟨(x, i), ?_, h⟩
      exact List.mem_zipIdx_iff_getElem?.2 hi
  rw [this]
  rfl
def perD (l : List Ck) : DU := l.foldl (fun D c => D.put (.string c.domain) (.lit (.int .i64 (cnt D (.string c.domain) + 1)))) (.map [])
theorem perD_snoc (l : List Ck) (v : Ck) : perD (l ++ [v]) = (perD l).put (.string v.domain) (.lit (.int .i64 (cnt (perD l) (.string v.domain) + 1))) := by simp [perD]
theorem cnt_perD (l : List Ck) (d : List UInt8) : cnt (perD l) (.string d) = ((l.filter (fun a => decide (a.domain = d))).length : Int) := by
  have key : ∀ (l : List Ck) (D : DU), IsMap D → cnt (l.foldl (fun D c => D.put (.string c.domain) (.lit (.int .i64 (cnt D (.string c.domain) + 1)))) D) (.string d) = cnt D (.string d) + ((l.filter (fun a => decide (a.domain = d))).length : Int) := by
    intro l
    induction l with
    | nil => intro D _; simp
    | cons a l ih =>
      intro D hD
      rw [List.foldl_cons, ih _ (isMap_put hD _ _)]
      by_cases h : a.domain = d
      · have e : cnt (D.put (.string a.domain) (.lit (.int .i64 (cnt D (.string a.domain) + 1)))) (.string d) = cnt D (.string d) + 1 := by
          rw [h]; simp only [cnt]; rw [atKey_put_same hD (by trivial)]
        rw [e, List.filter_cons, if_pos (by simpa using h)]
        simp; omega
      · have e : cnt (D.put (.string a.domain) (.lit (.int .i64 (cnt D (.string a.domain) + 1)))) (.string d) = cnt D (.string d) := by
          simp only [cnt]; rw [atKey_put_other (by intro e; injection e with e; exact h e.symm)]
        rw [e, List.filter_cons, if_neg (by simpa using h)]
  rw [perD, key l _ ⟨[], rfl⟩]
  simp [cnt, DataW.atKey]
end
theorem jarErr_at {j : Ja} {s : Nat} {x : Int} {v : Ck} (h12 : ¬(j.cks.length : Int) > 12) (hI : ∀ i, i < s → ckAt j i = 0) (hlt : s < j.cks.length) (e7 : ckAt j s = ckE (j.cks.take s) j.next v) (hv : ckE (j.cks.take s) j.next v = x) (hx : x ≠ 0) : jarErr j = x := by
  have h1 : firstE (ckAt j) j.cks.length = x := by rw [firstE_at hI (by rw [e7, hv]; exact hx) hlt, e7, hv]
  unfold jarErr
  rw [if_neg h12, h1, if_pos hx]
theorem jarErr_end {j : Ja} {s : Nat} (h12 : ¬(j.cks.length : Int) > 12) (hI : ∀ i, i < s → ckAt j i = 0) (hs : j.cks.length ≤ s) : jarErr j = if j.next < 0 ∨ j.next > 1099511627776 then 3 else 0 := by
  have h1 : firstE (ckAt j) j.cks.length = 0 := firstE_zero (fun i hi => hI i (by omega))
  unfold jarErr
  rw [if_neg h12, h1, if_neg (by simp)]
theorem ckE_4 {l : List Ck} {next : Int} {c : Ck} (h : isM c.created ∧ isM c.used) (h2 : c.no < 0 ∨ c.no ≥ next) : ckE l next c = 4 := by unfold ckE; rw [if_neg (fun k => k h), if_pos h2]
theorem ckE_6 {l : List Ck} {next : Int} {c : Ck} (h : isM c.created ∧ isM c.used) (h2 : ¬(c.no < 0 ∨ c.no ≥ next)) (h3 : l.any (fun a => keyEq a c) = true ∨ l.any (fun a => decide (a.no = c.no)) = true) : ckE l next c = 6 := by unfold ckE; rw [if_neg (fun k => k h), if_neg h2, if_pos h3]
theorem ckE_2 {l : List Ck} {next : Int} {c : Ck} (h : isM c.created ∧ isM c.used) (h2 : ¬(c.no < 0 ∨ c.no ≥ next)) (h3 : ¬(l.any (fun a => keyEq a c) = true ∨ l.any (fun a => decide (a.no = c.no)) = true)) (h4 : (l.filter (fun a => decide (a.domain = c.domain))).length = 4) : ckE l next c = 2 := by unfold ckE; rw [if_neg (fun k => k h), if_neg h2, if_neg h3, if_pos h4]
theorem ckE_0 {l : List Ck} {next : Int} {c : Ck} (h : isM c.created ∧ isM c.used) (h2 : ¬(c.no < 0 ∨ c.no ≥ next)) (h3 : ¬(l.any (fun a => keyEq a c) = true ∨ l.any (fun a => decide (a.no = c.no)) = true)) (h4 : ¬(l.filter (fun a => decide (a.domain = c.domain))).length = 4) : ckE l next c = 0 := by unfold ckE; rw [if_neg (fun k => k h), if_neg h2, if_neg h3, if_neg h4]
theorem keyOf_dom {P : Program} {k : TypeId} {c : Ck} (hc : c.ok) (hk : P.underlying k = some .string) : keyOf P k (.string (B c.domain)) = some (.string c.domain) := by
  have h1 : c.domain.length ≤ maxLen := by have := hc.2; simp [maxLen]; omega
  have hsz : (B c.domain).data.toList = c.domain := by simp [B]
  simp [keyOf, hk, mapKey, B_size, h1, hsz]

/-! ## What the laws begin with -/
def identC : Ck := ⟨[105, 100], [55], [115, 104, 111, 112, 46, 99, 111, 109], [47, 99, 97, 114, 116], false, true, false, true, 0, 1060, 1000, 1000, 0⟩
def rulesP : Po := ⟨[⟨2, [97, 100, 95], 4, 9⟩, ⟨4, [97, 100, 115, 46, 99, 111, 109], 2, 3⟩, ⟨1, [105, 100], 0, 0⟩], 1, fun i => if i = 0 then 100 else if i = 4 then 50 else 60⟩
def agreedG : Co := ⟨1000, fun i => decide (i = 0) || decide (i = 3), [2, 3, 4, 9]⟩
def lessPu (a b : Co) : Int := firstE (fun i => if a.pu i = true ∧ b.pu i = false then 1 else 0) 10
def lessF (a b : Co) : Bool := decide (lessPu a b = 0) && !(a.vs.any fun v => !(b.vs.contains v))
theorem lessPu_at {a b : Co} {s : Nat} (h : s < 10) (hI : ∀ i, i < s → (if a.pu i = true ∧ b.pu i = false then (1 : Int) else 0) = 0) (h1 : a.pu s = true) (h2 : b.pu s = false) : lessPu a b = 1 := by
  unfold lessPu
  rw [firstE_at (f := fun i => if a.pu i = true ∧ b.pu i = false then (1 : Int) else 0) hI (by simp [h1, h2]) h]
  simp [h1, h2]
theorem lessPu_end {a b : Co} (hI : ∀ i, i < 10 → (if a.pu i = true ∧ b.pu i = false then (1 : Int) else 0) = 0) : lessPu a b = 0 := firstE_zero hI

/-! ## slices.DeleteFunc -/
def rowI (l : List Int) (R : List Value) : Array Value := (l.flatMap i1 ++ R).toArray
theorem flat_i1 (l : List Int) : l.flatMap i1 = l.map (Value.int .i64) := by
  induction l with
  | nil => rfl
  | cons a l ih => rw [List.flatMap_cons, ih]; rfl
theorem rowI_at {l : List Int} {R : List Value} {i : Nat} {v : Int} (h : l[i]? = some v) : (rowI l R)[i]? = some (.int .i64 v) := by
  simp only [rowI, flat_i1, List.getElem?_toArray]
  rw [List.getElem?_append_left (by simp; exact (List.getElem?_eq_some_iff.1 h).1)]
  simp [h]
theorem rowI_set (l : List Int) (R : List Value) {i : Nat} (v : Int) (h : i < l.length) : (rowI l R).setIfInBounds i (.int .i64 v) = rowI (l.set i v) R := by
  apply Array.toList_inj.1
  simp [rowI, flat_i1, List.set_append, h, List.map_set]
/-- The state of the sweep: j are seen, i are kept. -/
structure DelI (p : Int → Bool) (l : List Int) (j i : Nat) (m : List Int) : Prop where
  le : i ≤ j
  jn : j ≤ l.length
  len : m.length = l.length
  kept : m.take i = (l.take j).filter (fun v => !p v)
  tail : m.drop j = l.drop j
theorem DelI.at {p : Int → Bool} {l m : List Int} {j i : Nat} (h : DelI p l j i m) {v : Int} (hv : l[j]? = some v) : m[j]? = some v := by
  have h1 : (m.drop j)[0]? = (l.drop j)[0]? := by rw [h.tail]
  simpa [hv] using h1
theorem DelI.drop {p : Int → Bool} {l m : List Int} {j i : Nat} (h : DelI p l j i m) {v : Int} (hv : l[j]? = some v) (hp : p v = true) : DelI p l (j + 1) i m := by
  have hlt := (List.getElem?_eq_some_iff.1 hv).1
  refine ⟨by have := h.le; omega, by omega, h.len, ?_, ?_⟩
  · rw [take_snoc hv, List.filter_append, h.kept]; simp [hp]
  · have := congrArg (List.drop 1) h.tail
    simpa [List.drop_drop] using this
theorem DelI.keep {p : Int → Bool} {l m : List Int} {j i : Nat} (h : DelI p l j i m) {v : Int} (hv : l[j]? = some v) (hp : p v = false) : DelI p l (j + 1) (i + 1) (m.set i v) := by
  have hlt := (List.getElem?_eq_some_iff.1 hv).1
  have hle := h.le
  have hml := h.len
  refine ⟨by omega, by omega, by simp [h.len], ?_, ?_⟩
  · rw [take_snoc hv, List.filter_append, ← h.kept]
    apply List.ext_getElem?
    intro q
    by_cases hq : q < i
    · rw [List.getElem?_take_of_lt (by omega), List.getElem?_set_ne (by omega), List.getElem?_append_left (by simp; omega), List.getElem?_take_of_lt hq]
    · by_cases hq2 : q = i
      · subst hq2
        rw [List.getElem?_take_of_lt (by omega), List.getElem?_set_self (by omega), List.getElem?_append_right (by simp; omega)]
        simp [hp, Nat.min_eq_left (by omega : q ≤ m.length)]
      · rw [List.getElem?_take_eq_none (by omega), List.getElem?_eq_none]
        simp [hp]; omega
  · rw [List.drop_set_of_lt (by omega)]
    have := congrArg (List.drop 1) h.tail
    simpa [List.drop_drop] using this
theorem DelI.start {p : Int → Bool} {l : List Int} (h : ¬ fidx p l = -1) : ∃ i0 : Nat, fidx p l = i0 ∧ i0 < l.length ∧ DelI p l (i0 + 1) i0 l := by
  unfold fidx at h ⊢
  cases hi : l.findIdx? p with
  | none => simp [hi] at h
  | some i =>
    rw [List.findIdx?_eq_some_iff_getElem] at hi
    obtain ⟨hlt, h1, h2⟩ := hi
    refine ⟨i, rfl, hlt, by omega, by omega, rfl, ?_, rfl⟩
    rw [take_snoc (List.getElem?_eq_getElem hlt), List.filter_append]
    have : (l.take i).filter (fun v => !p v) = l.take i := by
      rw [List.filter_eq_self]
      intro a ha
      obtain ⟨q, hq, rfl⟩ := List.mem_take_iff_getElem.1 ha
      have := h2 q (by omega)
      simpa using this
    rw [this]
    simp [h1]
theorem del_none {p : Int → Bool} {l : List Int} (h : fidx p l = -1) : l.filter (fun v => !p v) = l := by
  rw [List.filter_eq_self]
  intro a ha
  unfold fidx at h
  cases hi : l.findIdx? p with
  | none => rw [List.findIdx?_eq_none_iff] at hi; simp [hi a ha]
  | some i => rw [hi] at h; simp at h
theorem DelI.end_ {p : Int → Bool} {l m : List Int} {i : Nat} (h : DelI p l l.length i m) : m.take i = l.filter (fun v => !p v) := by
  have := h.kept
  rwa [List.take_length] at this

def dropE (c : Co) (p v now : Int) : Int := if conErr c ≠ 0 then conErr c else if (p < 0 ∨ p > 10) ∨ (v < 0 ∨ v > 40) then 3 else if now < c.given ∨ now > 68719476735 then 4 else 0
def dropPu (c : Co) (p : Int) : Co := ⟨c.given, fun i => if (i : Int) = p - 1 then false else c.pu i, c.vs⟩
def dropC (c : Co) (p v now : Int) : Co := if dropE c p v now ≠ 0 then ⟨0, fun _ => false, []⟩ else ⟨now, fun i => if (i : Int) = p - 1 then false else c.pu i, c.vs.filter (fun x => !decide (x = v))⟩
theorem dropPu_set {c : Co} {p : Int} {A : Option Addr} {k : Nat} (h1 : 1 ≤ p) (h2 : p ≤ 10) : (c.arr A k).setIfInBounds (1 + (p - 1).toNat) (.bool false) = (dropPu c p).arr A k := by
  have : p = 1 ∨ p = 2 ∨ p = 3 ∨ p = 4 ∨ p = 5 ∨ p = 6 ∨ p = 7 ∨ p = 8 ∨ p = 9 ∨ p = 10 := by omega
  rcases this with rfl | rfl | rfl | rfl | rfl | rfl | rfl | rfl | rfl | rfl <;> simp [Co.arr, Co.cells, dropPu]
theorem dropPu_0 {c : Co} {A : Option Addr} {k : Nat} : (dropPu c 0).arr A k = c.arr A k := by simp [Co.arr, Co.cells, dropPu]
end Go.Gx
