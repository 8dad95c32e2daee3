/- This text proves: the step laws and the plain functions that the walks of this claim stand on. No condition beyond those that each theorem names. -/
import Derived.Test.YtgehghoammpiaaaGreatDoorGxB
namespace Go.Gx
open Go.RowKit Go.Maps Go.ChangeMaps
/-! ## A key of three strings -/
def s3T (P : Program) (k : TypeId) : Bool :=
  Nat.blt 0 P.types.size && P.keyType k && Nat.beq (P.cellsOf k) 3 && (match P.underlying k with
  | some (.struct fs) => (match fs.toList with
    | [f1, f2, f3] => f1.name != "_" && f2.name != "_" && f3.name != "_" && Nat.beq f1.offset 0 && Nat.beq f2.offset 1 && Nat.beq f3.offset 2 && strT P f1.type && strT P f2.type && strT P f3.type && Nat.beq (P.cellsOf f1.type) 1 && Nat.beq (P.cellsOf f2.type) 1 && Nat.beq (P.cellsOf f3.type) 1
    | _ => false)
  | _ => false)
theorem keyOf_3s {P : Program} {k : TypeId} {a b c : List UInt8} (h : s3T P k = true) (ha : a.length ≤ maxLen) (hb : b.length ≤ maxLen) (hc : c.length ≤ maxLen) :
    keyOf P k (.agg #[.string (B a), .string (B b), .string (B c)]) = some (.string (keyBytes [.string a, .string b, .string c])) := by
  simp only [s3T, Bool.and_eq_true] at h
  obtain ⟨⟨⟨h0, hk⟩, h3⟩, h⟩ := h
  have h0 : 0 < P.types.size := by simpa [Nat.blt, Nat.ble_eq, Nat.succ_le_iff] using h0
  have h3 := Nat.eq_of_beq_eq_true h3
  cases hu : P.underlying k with
  | none => simp [hu] at h
  | some D =>
    cases D <;> simp only [hu] at h <;> try (cases h; done)
    rename_i fs
    split at h
    · rename_i f1 f2 f3 hfs
      simp only [Bool.and_eq_true] at h
      obtain ⟨⟨⟨⟨⟨⟨⟨⟨⟨⟨⟨n1, n2⟩, n3⟩, o1⟩, o2⟩, o3⟩, t1⟩, t2⟩, t3⟩, c1⟩, c2⟩, c3⟩ := h
      have o1 := Nat.eq_of_beq_eq_true o1
      have o2 := Nat.eq_of_beq_eq_true o2
      have o3 := Nat.eq_of_beq_eq_true o3
      have c1 := Nat.eq_of_beq_eq_true c1
      have c2 := Nat.eq_of_beq_eq_true c2
      have c3 := Nat.eq_of_beq_eq_true c3
      have t1 := strT_spec t1
      have t2 := strT_spec t2
      have t3 := strT_spec t3
      have hsz : ∀ l : List UInt8, (B l).data.toList = l := fun l => by simp [B]
      have hall : fs.all (fun x => x.name != "_") = true := by
        rw [← Array.all_toList, hfs]; simp [n1, n2, n3]
      have hpos : P.types.size = (P.types.size - 1) + 1 := by omega
      have hl : (P.keyLits (P.types.size + 1) k [.string (B a), .string (B b), .string (B c)]) = some [.string a, .string b, .string c] := by
        rw [hpos]
        simp [Program.keyLits, hu, h3, hall, hfs, o1, o2, o3, c1, c2, c3, t1, t2, t3, B_size, ha, hb, hc, hsz]
      simp [keyOf, hu, hk, Value.formed, h3]
      exact ⟨_, hl, rfl⟩
    · cases h
/-! ## Maps of numbers -/
section
variable {P : Program} {W0 : World} {N : Nat} {E : List (Nat × Value)} {H : List Res} {Q : Exit → Act → World → Prop} {ops : Array Oper} {rest : List Oper} {x y z : Operand} {d : Nat} {ty : TypeId} {pos : String} {aft : Array Edge}
def cnt (D : DU) (kl : Lit) : Int := match D.atKey kl (.lit (.int .i64 0)) with | .lit (.int _ c) => c | _ => 0
def i64T (P : Program) (e : TypeId) : Bool := match P.underlying e with | some (.int .i64) => true | _ => false
theorem i64T_spec {e : TypeId} (h : i64T P e = true) : P.underlying e = some (.int .i64) := by
  unfold i64T at h
  split at h
  · assumption
  · cases h
theorem y_lookI {t k e : TypeId} {g n k0 : Nat} {D : DU} {key : Value} {kl : Lit} (hT : mapT P t k e = true) (K : Keyed P k) (hi : i64T P e = true) (hx : ev E x = some (.map (some g))) (hy : ev E y = some key) (hk : H[k0]? = some (.obj g (MapIs P k (plainElem P e) n D)))
    (hz : zeroOf P e = some (.int .i64 0)) (hkey : keyOf P k key = some kl) : Yl P W0 N E H ⟨some d, .lookup t x y false, ty, pos, aft, none⟩ (.int .i64 (cnt D kl)) := by
  intro a w ha
  obtain ⟨_, hown⟩ := ha.mem.owns hk
  obtain ⟨c, hrun, hat, _⟩ := hown.lookup_int K (mapT_spec hT) (i64T_spec hi) (run_zeroValue hz) hkey
  have : cnt D kl = c := by simp [cnt, hat]
  subst this
  simp [execOp, ha.eval hx, ha.eval hy, hrun]
theorem y_lookIok {t k e : TypeId} {g n k0 : Nat} {D : DU} {key : Value} {kl : Lit} (hT : mapT P t k e = true) (K : Keyed P k) (hi : i64T P e = true) (hx : ev E x = some (.map (some g))) (hy : ev E y = some key) (hk : H[k0]? = some (.obj g (MapIs P k (plainElem P e) n D)))
    (hz : zeroOf P e = some (.int .i64 0)) (hkey : keyOf P k key = some kl) : Yl P W0 N E H ⟨some d, .lookup t x y true, ty, pos, aft, none⟩ (.tuple #[.int .i64 (cnt D kl), .bool (has D kl)]) := by
  intro a w ha
  obtain ⟨_, hown⟩ := ha.mem.owns hk
  have hw0 : (Lit.int .i64 0).wf = true := by decide
  obtain ⟨v, ps, hrun, hv⟩ := hown.look_ok K (mapT_spec hT) (run_zeroValue hz) (plainElem_int (i64T_spec hi) hw0) hkey
  obtain ⟨c, rfl, hc, _⟩ := plainElem_int_inv (i64T_spec hi) hv
  simp only [Prod.mk.injEq] at hc
  have : cnt D kl = c := by simp [cnt, hc.1]
  subst this
  simp [execOp, ha.eval hx, ha.eval hy, hrun]
/-- The entry of a key that is not there yet is laid: what stands then is told by the map as it was. -/
def PendIs (P : Program) (k : TypeId) (R : RdU) (n : Nat) (D : DU) (t : TypeId) (key : Value) (s : Int) (o : Obj) : Prop :=
  ∃ (w : World) (es : Array MapEntry) (clock : Nat) (z0 : Value), w.heap[0]? = some (.map es clock) ∧ w.ownsMap P k R 0 n D ∧ (∀ x ∈ es.toList, x.key ≠ key) ∧ (∀ x ∈ es.toList, x.born < clock) ∧ s = (clock : Int) ∧ o = .map (es.push { key := key, val := z0, born := clock }) (clock + 1)
theorem l_mapentry {t k e : TypeId} {g n k0 : Nat} {D : DU} {key z0 : Value} {kl : Lit} {zd : DU} {zp : List MemPlace} {R : RdU} (hd : Nat.blt d N = true) (hT : mapT P t k e = true) (K : Keyed P k) (hx : ev E x = some (.map (some g))) (hy : ev E y = some key)
    (hk : H[k0]? = some (.obj g (MapIs P k R n D))) (hz : zeroOf P e = some z0) (hzd : R z0 = some (zd, zp)) (hkey : keyOf P k key = some kl) (hno : has D kl = false)
    (h : ∀ s, GL P W0 N ops ((d, .tuple #[z0, .int .i64 s]) :: E) (H.set k0 (.obj g (PendIs P k R n D t key s))) rest Q) : GL P W0 N ops E H (⟨some d, .mapEntry t x y, ty, pos, aft, none⟩ :: rest) Q := by
  intro a w ha
  obtain ⟨hB, hown⟩ := ha.mem.owns hk
  have ht := mapT_spec hT
  have hz1 := run_zeroValue (w := w) hz
  obtain ⟨v, ps, hrun, _⟩ := hown.look_ok K ht hz1 hzd hkey
  have hown' := hown
  obtain ⟨es, clock, hb, F, hs, hD⟩ := hown
  rcases K.find w hkey es.toList F.keys with ⟨h1, h2⟩ | ⟨j, e0, h1, h2, h3⟩
  · refine wpl_val rfl (v := .tuple #[z0, .int .i64 (clock : Int)]) (w' := setBlock w g (.map (es.push { key := key, val := z0, born := clock }) (clock + 1))) ?_ ?_
    · simp [execOp, ha.eval hx, ha.eval hy, Instr.mapEntry, run_underlying ht, MapKept.run_getObj_map hb, K.check w false hkey, h1, hz1, MapKept.run_setObj_map _ hb, Result.andThen, setBlock, goInt]
    · have hm : Mem W0 (H.set k0 (.obj g (PendIs P k R n D t key (clock : Int)))) (setBlock w g (.map (es.push { key := key, val := z0, born := clock }) (clock + 1))) := by
        refine ha.mem.set (g := g) hk rfl ⟨rfl, rfl, rfl, by simp [setBlock], fun i _ hi => heap_setBlock_other hb _ (fun e2 => hi (by rw [e2]))⟩ ⟨hB, _, heap_setBlock_same hb _, ?_⟩ (by intro g' h'; simp only [Res.blk?, Option.some.injEq] at h'; exact .inl h'.symm)
        exact ⟨{ w with heap := #[.map es clock] }, es, clock, z0, rfl, ⟨es, clock, rfl, F, hs, hD⟩, h2, F.stamped.1, rfl, rfl⟩
      exact h _ _ _ ((ha.withMem hm).put d _ hd)
  · exfalso
    have : (Instr.lookup t (.map (some g)) key true).run P w = .ok (.tuple #[e0.val, .bool true]) w := by
      simp [Instr.lookup, run_underlying ht, MapKept.run_getObj_map hb, K.check w _ hkey, h1, Result.andThen]
    rw [this] at hrun
    injection hrun with hrun _
    simp [hno] at hrun
theorem l_entrystore {t k e : TypeId} {g n k0 : Nat} {D dd : DU} {key val : Value} {kl : Lit} {ps : List MemPlace} {R : RdU} {s : Int} {H' : List Res} (hT : mapT P t k e = true) (K : Keyed P k) (hx : ev E x = some (.map (some g))) (hy : ev E y = some (.int .i64 s)) (hv : ev E z = some val)
    (hk : H[k0]? = some (.obj g (PendIs P k R n D t key s))) (hn : n < maxLen) (hkey : keyOf P k key = some kl) (hval : R val = some (dd, ps)) (hH : H.set k0 (.obj g (MapIs P k R (n + 1) (D.put kl dd))) = H')
    (h : GL P W0 N ops E H' rest Q) : GL P W0 N ops E H (⟨none, .entryStore t x y z, ty, pos, aft, none⟩ :: rest) Q := by
  intro a w ha
  obtain ⟨hB, o, ho, w', es, clock, z0, hb, hown, hnk, hborn, rfl, rfl⟩ := ha.mem.res _ (mem_of_get hk)
  have ht := mapT_spec hT
  obtain ⟨w2, hrun, hown2, _⟩ := hown.update K ht hn hkey hval
  have hrun' : (Instr.mapUpdate t (.map (some 0)) key val).run P w' = .ok () (setBlock w' 0 (.map (es.push { key := key, val := val, born := clock }) (clock + 1))) := by
    obtain ⟨es0, clock0, hb0, F, _, _⟩ := hown
    rw [hb] at hb0
    cases hb0
    rcases K.find w' hkey es.toList F.keys with ⟨h1, h2⟩ | ⟨j, e0, h1, h2, h3⟩
    · simp [Instr.mapUpdate, run_underlying ht, MapKept.run_getObj_map hb, K.check w' false hkey, h1, MapKept.run_setObj_map _ hb, Result.andThen, setBlock]
    · exact absurd h3 (hnk e0 (List.mem_of_getElem? h2))
  rw [hrun'] at hrun
  injection hrun with _ hrun
  subst hrun
  have hidx : (es.push { key := key, val := z0, born := clock }).findIdx? (fun e => (e.born : Int) == (clock : Int)) = some es.size := by
    rw [Array.findIdx?_eq_some_iff_getElem]
    refine ⟨by simp, by simp, fun j hj => ?_⟩
    have hlt : (es[j]'hj).born < clock := hborn _ (by simp)
    rw [Array.getElem_push_lt hj]
    simp
    omega
  have hmod : (es.push { key := key, val := z0, born := clock }).modify es.size (fun e => { e with val := val }) = es.push { key := key, val := val, born := clock } := by
    apply Array.ext_getElem?
    intro i
    rw [Array.getElem?_modify]
    split
    · rename_i e; subst e; simp
    · rename_i e
      rw [Array.getElem?_push, Array.getElem?_push, if_neg (fun h => e h.symm), if_neg (fun h => e h.symm)]
  refine wpl_skip (w' := setBlock w g (.map (es.push { key := key, val := val, born := clock }) (clock + 1))) rfl ?_ ?_
  · simp [execOp, ha.eval hx, ha.eval hy, ha.eval hv, Instr.entryStore, MapKept.run_getObj_map ho, asInt, asIntOf, hidx, hmod, MapKept.run_setObj_map _ ho, Result.andThen, setBlock]
  · subst hH
    refine h _ _ (ha.withMem (ha.mem.set (g := g) hk rfl ⟨rfl, rfl, rfl, by simp [setBlock], fun i _ hi => heap_setBlock_other ho _ (fun e => hi (by rw [e]))⟩ ⟨hB, _, heap_setBlock_same ho _, ?_⟩ (by intro g' h'; simp only [Res.blk?, Option.some.injEq] at h'; exact .inl h'.symm)))
    exact ⟨_, heap_setBlock_same hb _, hown2⟩
/-- A map that lay there already. -/
def MapAt (P : Program) (k : TypeId) (R : RdU) (n : Nat) (D : DU) (W : World) (g : Nat) : Prop := g < W.heap.size ∧ ∃ o, W.heap[g]? = some o ∧ MapIs P k R n D o
theorem MapAt.below {k : TypeId} {R : RdU} {n : Nat} {D : DU} {W W' : World} {g : Nat} (h : MapAt P k R n D W g) (hb : Below W.heap.size W W') : MapAt P k R n D W' g := by
  obtain ⟨h1, o, ho, hm⟩ := h
  exact ⟨Nat.lt_of_lt_of_le h1 hb.size, o, (hb.block g h1).trans ho, hm⟩
theorem mapAt_of {k : TypeId} {R : RdU} {n k0 g : Nat} {D : DU} {w : World} (hm : Mem W0 H w) (hk : H[k0]? = some (.obj g (MapIs P k R n D))) : MapAt P k R n D w g := by
  obtain ⟨_, o, ho, hp⟩ := hm.res _ (mem_of_get hk)
  exact ⟨(Array.getElem?_eq_some_iff.1 ho).1, o, ho, hp⟩
theorem y_lookok_old {t k e : TypeId} {R : RdU} {g n : Nat} {D : DU} {key z0 : Value} {kl : Lit} {zd : DU} {zp : List MemPlace} (hM : MapAt P k R n D W0 g) (hT : mapT P t k e = true) (K : Keyed P k) (hx : ev E x = some (.map (some g))) (hy : ev E y = some key)
    (hz : zeroOf P e = some z0) (hzd : R z0 = some (zd, zp)) (hkey : keyOf P k key = some kl) (hu : ∀ v ps, R v = some (D.atKey kl zd, ps) → v = z0) :
    Yl P W0 N E H ⟨some d, .lookup t x y true, ty, pos, aft, none⟩ (.tuple #[z0, .bool (has D kl)]) := by
  intro a w ha
  obtain ⟨_, o, ho, hm⟩ := hM.below ha.mem.below
  have hown := owns_of ho hm
  obtain ⟨v, ps, hrun, hv⟩ := hown.look_ok K (mapT_spec hT) (run_zeroValue hz) hzd hkey
  have := hu v ps hv
  subst this
  simp [execOp, ha.eval hx, ha.eval hy, hrun]
end
end Go.Gx
