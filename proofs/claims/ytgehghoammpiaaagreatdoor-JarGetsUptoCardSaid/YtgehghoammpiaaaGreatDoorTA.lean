/- This text proves: the arguments of the laws, opened. No condition beyond those that each theorem names. -/
import Derived.Test.YtgehghoammpiaaaGreatDoorRows
import Derived.Test.YtgehghoammpiaaaGreatDoorProg
import Derived.ChangeArms
import Derived.Deep.Slices
import Derived.Below
import Derived.ReadAgain
import Derived.KernelRfl
import Derived.ChangeShapes
import Derived.RowKit
import Derived.Test.YtgehghoammpiaaaGreatDoorGz0
namespace Go.Gx
open Go.RowKit Go.Deep Go.Proofs Go.Proofs.YtgehghoammpiaaaGreatDoor
/-! ## The arguments: from their reading to their cells -/
theorem cof1 : Tryz.prog.cellsOf 3 = 1 := by kernel_rfl
theorem cof2 : Tryz.prog.cellsOf 9 = 1 := by kernel_rfl
theorem cof3 : Tryz.prog.cellsOf 4 = 1 := by kernel_rfl
theorem cof4 : Tryz.prog.cellsOf 26 = 13 := by kernel_rfl
theorem cof5 : Tryz.prog.cellsOf 24 = 2 := by kernel_rfl
theorem cof6 : Tryz.prog.cellsOf 22 = 1 := by kernel_rfl
theorem cof7 : Tryz.prog.cellsOf 35 = 5 := by kernel_rfl
theorem list2 {α : Type} : ∀ {l : List α}, l.length = 2 → ∃ a b, l = [a, b]
  | [a, b], _ => ⟨a, b, rfl⟩
theorem list5 {α : Type} : ∀ {l : List α}, l.length = 5 → ∃ a b c d e, l = [a, b, c, d, e]
  | [a, b, c, d, e], _ => ⟨a, b, c, d, e, rfl⟩
theorem list13 {α : Type} : ∀ {l : List α}, l.length = 13 → ∃ a b c d e f g h i j k m n, l = [a, b, c, d, e, f, g, h, i, j, k, m, n]
  | [a, b, c, d, e, f, g, h, i, j, k, m, n], _ => ⟨a, b, c, d, e, f, g, h, i, j, k, m, n, rfl⟩
section
variable {H : Type} {enc : TypeId × Value → H} {w : World} {base : Nat} {spare : Nat → Bool} {held : Bool} {fuel : Nat}
def In64 (n : Int) : Prop := -9223372036854775808 ≤ n ∧ n ≤ 9223372036854775807
theorem in64_wf {n : Int} (h : (Lit.int .i64 n).wf = true) : In64 n := by
  simpa [Lit.wf, IntKind.min, IntKind.max, IntKind.signed, IntKind.bits, In64] using h
/-- A struct that came in, from its value. -/
theorem agg_of {P : Program} {t : TypeId} {fs : Array Field} {v : Value} {d : DataW H} {p : List MemPlace} {r : Reach} {b0 : Nat} (hs : P.underlying t = some (.struct fs)) (hv : Value.okWide P w r b0 t v) (h : DataW.Trod enc P w base spare held t v d p) :
    ∃ (cs : Array Value) (n : Nat), v = .agg cs ∧ DataW.trod enc P w base spare held n t cs.toList = some (d, p) := by
  obtain ⟨cs, rfl, _⟩ := Go.WideShapes.okWide_struct hs hv
  obtain ⟨n, hn⟩ := h
  exact ⟨cs, n, rfl, hn⟩
/-- An argument, by its place. -/
theorem arg_agg {P : Program} {ps : Array TypeId} {args : Array Value} {b0 : Nat} (hval : ∀ (j : Nat) t v, ps[j]? = some t → args[j]? = some v → Value.okWide P w .any b0 t v) (j t : Nat) {v : Value} {fs : Array Field} {d : DataW H} {p : List MemPlace}
    (hs : P.underlying t = some (.struct fs)) (h1 : ps[j]? = some t) (h2 : args[j]? = some v) (h : DataW.Trod enc P w base spare held t v d p) : ∃ (cs : Array Value) (n : Nat), v = .agg cs ∧ DataW.trod enc P w base spare held n t cs.toList = some (d, p) :=
  agg_of hs (hval j t v h1 h2) h
theorem arg_int {P : Program} {ps : Array TypeId} {args : Array Value} {b0 : Nat} (hval : ∀ (j : Nat) t v, ps[j]? = some t → args[j]? = some v → Value.okWide P w .any b0 t v) (j t : Nat) {v : Value} {d : DataW H} {p : List MemPlace}
    (hs : P.underlying t = some (.int .i64)) (h1 : ps[j]? = some t) (h2 : args[j]? = some v) (h : DataW.Trod enc P w base spare held t v d p) : ∃ n, v = .int .i64 n ∧ d = .lit (.int .i64 n) ∧ p = [] ∧ In64 n := by
  obtain ⟨n, h3, h4, h5, h6⟩ := Go.ChangeShapes.open_int hs (hval j t v h1 h2) h
  exact ⟨n, h3, h4, h5, in64_wf h6⟩
theorem arg_bool {P : Program} {ps : Array TypeId} {args : Array Value} {b0 : Nat} (hval : ∀ (j : Nat) t v, ps[j]? = some t → args[j]? = some v → Value.okWide P w .any b0 t v) (j t : Nat) {v : Value} {d : DataW H} {p : List MemPlace}
    (hs : P.underlying t = some .bool) (h1 : ps[j]? = some t) (h2 : args[j]? = some v) (h : DataW.Trod enc P w base spare held t v d p) : ∃ b, v = .bool b ∧ d = .lit (.bool b) ∧ p = [] := by
  obtain ⟨b, h3, h4, h5⟩ := Go.RowKit.open_bool hs (hval j t v h1 h2) h
  exact ⟨b, h3, h4, h5⟩
theorem cell_int {v : Value} {x : DataW H × List MemPlace} (h : DataW.trod enc Tryz.prog w base spare held fuel 3 [v] = some x) : ∃ n, v = .int .i64 n ∧ x = (.lit (.int .i64 n), []) ∧ In64 n := by
  obtain ⟨n, h1, h2, h3⟩ := DataW.trod_int Tryz.underlying3 h
  exact ⟨n, by simpa using h1, h2, in64_wf h3⟩
theorem cell_bool {v : Value} {x : DataW H × List MemPlace} (h : DataW.trod enc Tryz.prog w base spare held fuel 4 [v] = some x) : ∃ b, v = .bool b ∧ x = (.lit (.bool b), []) := by
  obtain ⟨b, h1, h2⟩ := DataW.trod_bool Tryz.underlying4 h
  exact ⟨b, by simpa using h1, h2⟩
theorem cell_str {v : Value} {x : DataW H × List MemPlace} (h : DataW.trod enc Tryz.prog w base spare held fuel 9 [v] = some x) : ∃ l : List UInt8, v = .string (B l) ∧ x = (.lit (.string l), []) := by
  obtain ⟨s, h1, h2, _⟩ := DataW.trod_string Tryz.underlying9 h
  have e : s = B s.data.toList := by cases s; simp [B]
  exact ⟨s.data.toList, by rw [← e]; simpa using h1, h2⟩
theorem fld {fs : Array Field} {xs : List (DataW H × List MemPlace)} {cs : List Value} {n : Nat} (hf : ∀ (i : Nat) (f : Field), fs[i]? = some f → DataW.trod enc Tryz.prog w base spare held n f.type ((cs.drop f.offset).take (Tryz.prog.cellsOf f.type)) = xs[i]?)
    (i t o : Nat) {v : Value} {x : DataW H × List MemPlace} (h : (fs[i]?).map (fun f => (f.type, f.offset)) = some (t, o)) (hc : Tryz.prog.cellsOf t = 1) (hv : cs[o]? = some v) (hx : xs[i]? = some x) : DataW.trod enc Tryz.prog w base spare held n t [v] = some x := by
  obtain ⟨f, h1, h2⟩ := Option.map_eq_some_iff.1 h
  obtain ⟨rfl, rfl⟩ := Prod.mk.injEq .. ▸ h2
  have h3 := hf i f h1
  rw [hc, hx] at h3
  obtain ⟨hlt, hv⟩ := List.getElem?_eq_some_iff.1 hv
  rw [List.drop_eq_getElem_cons hlt, hv] at h3
  exact h3
def Ck.in64 (c : Ck) : Prop := In64 c.site ∧ In64 c.expiry ∧ In64 c.created ∧ In64 c.used ∧ In64 c.no
def ckD {H : Type} (c : Ck) : DataW H := .agg [.lit (.string c.name), .lit (.string c.value), .lit (.string c.domain), .lit (.string c.path), .lit (.bool c.hostOnly), .lit (.bool c.secure), .lit (.bool c.httpOnly), .lit (.bool c.lasting), .lit (.int .i64 c.site), .lit (.int .i64 c.expiry), .lit (.int .i64 c.created), .lit (.int .i64 c.used), .lit (.int .i64 c.no)]
theorem open_ck {cs : List Value} {x : DataW H × List MemPlace} (h : DataW.trod enc Tryz.prog w base spare held fuel 26 cs = some x) : ∃ c : Ck, cs = c.cells ∧ x.1 = ckD c ∧ c.in64 := by
  obtain ⟨xs, n, _, rfl, hl, hlen, hf⟩ := DataW.trod_struct Tryz.underlying26 h
  rw [cof4] at hl
  obtain ⟨c0, c1, c2, c3, c4, c5, c6, c7, c8, c9, c10, c11, c12, rfl⟩ := list13 hl
  obtain ⟨x0, x1, x2, x3, x4, x5, x6, x7, x8, x9, x10, x11, x12, rfl⟩ := list13 hlen
  have g0 := fld hf 0 9 0 rfl cof2 rfl rfl
  have g1 := fld hf 1 9 1 rfl cof2 rfl rfl
  have g2 := fld hf 2 9 2 rfl cof2 rfl rfl
  have g3 := fld hf 3 9 3 rfl cof2 rfl rfl
  have g4 := fld hf 4 4 4 rfl cof3 rfl rfl
  have g5 := fld hf 5 4 5 rfl cof3 rfl rfl
  have g6 := fld hf 6 4 6 rfl cof3 rfl rfl
  have g7 := fld hf 7 4 7 rfl cof3 rfl rfl
  have g8 := fld hf 8 3 8 rfl cof1 rfl rfl
  have g9 := fld hf 9 3 9 rfl cof1 rfl rfl
  have g10 := fld hf 10 3 10 rfl cof1 rfl rfl
  have g11 := fld hf 11 3 11 rfl cof1 rfl rfl
  have g12 := fld hf 12 3 12 rfl cof1 rfl rfl
  clear hf h
  obtain ⟨s0, rfl, rfl⟩ := cell_str g0
  obtain ⟨s1, rfl, rfl⟩ := cell_str g1
  obtain ⟨s2, rfl, rfl⟩ := cell_str g2
  obtain ⟨s3, rfl, rfl⟩ := cell_str g3
  obtain ⟨b4, rfl, rfl⟩ := cell_bool g4
  obtain ⟨b5, rfl, rfl⟩ := cell_bool g5
  obtain ⟨b6, rfl, rfl⟩ := cell_bool g6
  obtain ⟨b7, rfl, rfl⟩ := cell_bool g7
  obtain ⟨n8, rfl, rfl, w8⟩ := cell_int g8
  obtain ⟨n9, rfl, rfl, w9⟩ := cell_int g9
  obtain ⟨n10, rfl, rfl, w10⟩ := cell_int g10
  obtain ⟨n11, rfl, rfl, w11⟩ := cell_int g11
  obtain ⟨n12, rfl, rfl, w12⟩ := cell_int g12
  exact ⟨⟨s0, s1, s2, s3, b4, b5, b6, b7, n8, n9, n10, n11, n12⟩, rfl, rfl, w8, w9, w10, w11, w12⟩
theorem bulk_ck (c : Ck) : c.name.length + c.value.length + c.domain.length + c.path.length ≤ Rows.uptoBulk (ckD (H := H) c) := by
  simp only [ckD, Rows.uptoBulk, Rows.uptoBulkAll]; omega
theorem bulk_mem {d : DataW H} {l : List (DataW H)} (h : d ∈ l) : Rows.uptoBulk d ≤ Rows.uptoBulkAll l := by
  induction l with
  | nil => cases h
  | cons x r ih =>
    simp only [Rows.uptoBulkAll]
    rcases List.mem_cons.1 h with rfl | h
    · omega
    · have := ih h; omega
theorem bulk_one (d : DataW H) : 1 ≤ Rows.uptoBulk d := by
  cases d with
  | lit l => cases l <;> simp [Rows.uptoBulk]
  | _ => simp [Rows.uptoBulk]
theorem bulk_len (l : List (DataW H)) : l.length ≤ Rows.uptoBulkAll l := by
  induction l with
  | nil => simp [Rows.uptoBulkAll]
  | cons x r ih => have := bulk_one x; simp only [Rows.uptoBulkAll, List.length_cons]; omega
/-- What is known of a cookie that came in. -/
def Ck.came (c : Ck) (n : Nat) : Prop := c.in64 ∧ c.name.length + c.value.length + c.domain.length + c.path.length ≤ n
theorem list_of {α : Type} {n : Nat} {p : Nat → α → Prop} (h : ∀ i, i < n → ∃ x, p i x) : ∃ l : List α, l.length = n ∧ ∀ i x, l[i]? = some x → p i x := by
  classical
  by_cases hn : n = 0
  · subst hn; exact ⟨[], rfl, by simp⟩
  · refine ⟨(List.range n).attach.map fun i => Classical.choose (h i.1 (List.mem_range.1 i.2)), by simp, fun i x hx => ?_⟩
    rw [List.getElem?_map] at hx
    obtain ⟨a, ha, rfl⟩ := Option.map_eq_some_iff.1 hx
    have hi : i = a.1 := by
      have := congrArg (Option.map Subtype.val) ha
      rw [← List.getElem?_map, List.attach_map_subtype_val] at this
      have h2 := (List.getElem?_eq_some_iff.1 this).2
      simpa using h2
    subst hi
    exact Classical.choose_spec (h a.1 (List.mem_range.1 a.2))
theorem el_cells {a : Addr} {n : Nat} {vs : List Value} (h : w.cells? base a n = some vs) (hn : 0 < n) : El w a vs := by
  obtain ⟨hb, hlen, hc⟩ := World.cells?_some h
  have hc' : ∀ j u, vs[j]? = some u → w.cell? (a.add j) = some u := fun j u hj => by
    have hlt := (List.getElem?_eq_some_iff.1 hj).1
    rw [hc j (by omega)]; exact hj
  refine ⟨?_, hc'⟩
  cases vs with
  | nil => simp at hlen; omega
  | cons v r =>
    have h0 := hc' 0 v rfl
    rcases Nat.lt_or_ge a.block w.heap.size with h1 | h1
    · exact h1
    · have e : (a.add 0).block = a.block := by simp [Addr.add]
      unfold World.cell? at h0
      rw [e, Array.getElem?_eq_none h1] at h0
      cases h0
theorem open_cks {cs : List Value} {x : DataW H × List MemPlace} (h : DataW.trod enc Tryz.prog w base spare held fuel 22 cs = some x) :
    ∃ (l : List Ck) (A : Option Addr) (k : Nat), cs = [.slice A l.length k] ∧ (A = none → k = 0) ∧ Sl Ck.cells 13 w A l ∧ l.length ≤ Rows.uptoBulk x.1 ∧ ∀ c ∈ l, c.came (Rows.uptoBulk x.1) := by
  rcases open_slice Tryz.underlying22 h with ⟨rfl, rfl⟩ | ⟨a, len, cap, m, n, D, Pl, rfl, hb, hl, hm, hmm, rfl, hx⟩
  · exact ⟨[], none, 0, rfl, fun _ => rfl, fun i x h => by simp at h, by simp, by simp⟩
  · have hle : len ≤ m := by rw [hmm]; split <;> omega
    obtain ⟨l, hlen, hp⟩ := list_of (α := Ck) (n := len) (p := fun i c => El w (a.add (i * 13)) c.cells ∧ D i = ckD c ∧ c.in64) (fun i hi => by
      obtain ⟨cs', h1, h2⟩ := hx i (by omega)
      obtain ⟨c, rfl, h3, h4⟩ := open_ck h2
      rw [cof4] at h1
      exact ⟨c, el_cells h1 (by decide), h3, h4⟩)
    have hsl : (DataW.slice ((List.range len).map D) ((List.range (m - len)).map fun j => D (len + j))) = (DataW.slice (H := H) ((List.range len).map D) ((List.range (m - len)).map fun j => D (len + j))) := rfl
    have hb1 : Rows.uptoBulkAll ((List.range len).map D) ≤ Rows.uptoBulk (DataW.slice (H := H) ((List.range len).map D) ((List.range (m - len)).map fun j => D (len + j))) := by simp only [Rows.uptoBulk]; omega
    refine ⟨l, some a, cap, by rw [hlen], by simp, fun i c hi => ⟨a, rfl, (hp i c hi).1⟩, ?_, ?_⟩
    · have := bulk_len ((List.range len).map D)
      rw [List.length_map, List.length_range] at this
      simp only
      omega
    · intro c hc
      obtain ⟨i, hi⟩ := List.mem_iff_getElem?.1 hc
      obtain ⟨h1, h2, h3⟩ := hp i c hi
      have hlt := (List.getElem?_eq_some_iff.1 hi).1
      have h4 := bulk_mem (List.mem_map.2 ⟨i, List.mem_range.2 (by omega), rfl⟩ : D i ∈ (List.range len).map D)
      have h5 := bulk_ck (H := H) c
      rw [h2] at h4
      exact ⟨h3, by simp only; omega⟩
def Ja.came (j : Ja) (n : Nat) : Prop := j.cks.length ≤ n ∧ (∀ c ∈ j.cks, c.came n) ∧ In64 j.next
theorem Ja.came.ok {j : Ja} {n : Nat} (h : j.came n) (hn : n ≤ 1073741824) : j.ok :=
  ⟨by have := h.1; omega, fun c hc => ⟨by have := (h.2.1 c hc).2; omega, by have := (h.2.1 c hc).2; omega⟩, fun c hc => ⟨by have := (h.2.1 c hc).2; omega, (h.2.1 c hc).1.2.2.2.2⟩⟩
theorem Ck.came.fits {c : Ck} {n : Nat} (h : c.came n) (hn : n ≤ 1073741824) : c.fits := ⟨⟨by have := h.2; omega, by have := h.2; omega⟩, by have := h.2; omega⟩
theorem open_ja {cs : List Value} {x : DataW H × List MemPlace} (h : DataW.trod enc Tryz.prog w base spare held fuel 24 cs = some x) :
    ∃ (j : Ja) (A : Option Addr) (k : Nat), cs = [.slice A j.cks.length k, .int .i64 j.next] ∧ (A = none → k = 0) ∧ Sl Ck.cells 13 w A j.cks ∧ j.came (Rows.uptoBulk x.1) := by
  obtain ⟨xs, n, _, rfl, hl, hlen, hf⟩ := DataW.trod_struct Tryz.underlying24 h
  rw [cof5] at hl
  obtain ⟨c0, c1, rfl⟩ := list2 hl
  obtain ⟨x0, x1, rfl⟩ := list2 hlen
  have g0 := fld hf 0 22 0 rfl cof6 rfl rfl
  have g1 := fld hf 1 3 1 rfl cof1 rfl rfl
  obtain ⟨n1, rfl, rfl, w1⟩ := cell_int g1
  obtain ⟨l, A, k, h1, h2, h3, h4, h5⟩ := open_cks g0
  obtain rfl : c0 = .slice A l.length k := by simpa using h1
  have hb : Rows.uptoBulk x0.1 ≤ Rows.uptoBulk (DataW.agg (H := H) ([x0, (.lit (.int .i64 n1), [])].map (·.1))) := by simp only [List.map_cons, List.map_nil, Rows.uptoBulk, Rows.uptoBulkAll]; omega
  exact ⟨⟨l, n1⟩, A, k, rfl, h2, h3, Nat.le_trans h4 hb, fun c hc => ⟨(h5 c hc).1, Nat.le_trans (h5 c hc).2 hb⟩, w1⟩
theorem open_fr {cs : List Value} {x : DataW H × List MemPlace} (h : DataW.trod enc Tryz.prog w base spare held fuel 35 cs = some x) : ∃ f : Fr, cs = f.arr.toList ∧ f.host.length + f.path.length ≤ Rows.uptoBulk x.1 := by
  obtain ⟨xs, n, _, rfl, hl, hlen, hf⟩ := DataW.trod_struct Tryz.underlying35 h
  rw [cof7] at hl
  obtain ⟨c0, c1, c2, c3, c4, rfl⟩ := list5 hl
  obtain ⟨x0, x1, x2, x3, x4, rfl⟩ := list5 hlen
  have g0 := fld hf 0 9 0 rfl cof2 rfl rfl
  have g1 := fld hf 1 9 1 rfl cof2 rfl rfl
  have g2 := fld hf 2 4 2 rfl cof3 rfl rfl
  have g3 := fld hf 3 4 3 rfl cof3 rfl rfl
  have g4 := fld hf 4 4 4 rfl cof3 rfl rfl
  obtain ⟨s0, rfl, rfl⟩ := cell_str g0
  obtain ⟨s1, rfl, rfl⟩ := cell_str g1
  obtain ⟨b2, rfl, rfl⟩ := cell_bool g2
  obtain ⟨b3, rfl, rfl⟩ := cell_bool g3
  obtain ⟨b4, rfl, rfl⟩ := cell_bool g4
  exact ⟨⟨s0, s1, b2, b3, b4⟩, rfl, by simp only [List.map_cons, List.map_nil, Rows.uptoBulk, Rows.uptoBulkAll]; omega⟩
theorem carry_all {W W' : World} (hb : Below W.heap.size W W') : ∀ {ts : List TypeId} {vs : List Value} {ds : List (DataW H)} {ps : List MemPlace}, DataW.TrodAll enc Tryz.prog W base spare held ts vs ds ps → DataW.TrodAll enc Tryz.prog W' base spare held ts vs ds ps
  | [], [], [], _, h => h
  | _ :: _, _ :: _, _ :: _, _, ⟨p, q, ⟨n, h1⟩, h2, e⟩ => ⟨p, q, ⟨n, DataW.trod_carry n _ _ _ h1 (fun x hx => hb.same (DataW.trod_lt n _ _ _ h1 x hx))⟩, carry_all hb h2, e⟩
end
end Go.Gx
