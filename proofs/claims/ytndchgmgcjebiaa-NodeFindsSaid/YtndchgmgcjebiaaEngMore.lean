/- More steps: conversions, slices of slices, bytes and strings, arrays held against each other. No program in sight. -/
import Derived.Test.YtndchgmgcjebiaaEngOps
import Derived.Lib.ConvBytes
import Derived.Laws.BytesArg
import Derived.Laws.BytesString
import Derived.DataElems
import Derived.Deep.AppendSrc
namespace Go.Proofs.Ytndchgmgcjebiaa.E
open Go Go.RowKit
set_option linter.unusedVariables false
set_option linter.unusedSimpArgs false

/-- A byte as a value. -/
def B (b : UInt8) : Value := .int .u8 b.toNat
theorem B_inj {a b : UInt8} (h : B a = B b) : a = b := by
  unfold B at h
  simp only [Value.int.injEq, true_and] at h
  exact UInt8.toNat_inj.1 (by omega)
theorem B_one (l : List UInt8) : ∀ u ∈ l.map B, u.oneCell' = true := by
  intro u hu
  obtain ⟨b, -, rfl⟩ := List.mem_map.1 hu
  rfl

section
variable {P : Program} {n : Nm} {E : Env} {C : World → Prop} {d : Option Nat} {ty : TypeId} {pos : String} {aft : Array Edge} {g : Option (Nat × Bool)}

theorem v_conv {T U : TypeId} {x : Operand} {k k' : IntKind} {a : Int} (hT : P.underlying T = some (.int k)) (hU : P.underlying U = some (.int k')) (hx : ev E x = some (.int k a)) :
    Val P n E ⟨d, .convert T U x, ty, pos, aft, g⟩ C (.int k' (k'.wrap a)) := by
  intro f w ha _
  simp only [execOp, ha.ev hx]
  simp [convert, run_underlying hT, run_underlying hU, Conv.intToInt]
theorem v_makeFunc {f : FuncId} {xs : List Operand} {vs : List Value} (hx : evs E xs = some vs) : Val P n E ⟨d, .makeFunc (.func f) #[] xs.toArray, ty, pos, aft, g⟩ C (.func (.func f) #[] vs.toArray) := by
  intro a w ha _
  have hm := evs_map ha hx
  simp only [execOp]
  simp [Instr.makeFunc, hm]
/-- 'string(b)', b of bytes that lie there. -/
theorem v_b2s {T U e : TypeId} {x : Operand} {ad : Addr} {l c : Nat} {bs : List UInt8} (hT : P.underlying T = some (.slice e)) (he : P.underlying e = some (.int .u8)) (hU : P.underlying U = some .string)
    (hx : ev E x = some (.slice (some ad) l c)) (hl : bs.length = l) (hr : ∀ w, C w → ∀ j v, (bs.map B)[j]? = some v → w.cell? (ad.add j) = some v) :
    Val P n E ⟨d, .convert T U x, ty, pos, aft, g⟩ C (.string ⟨bs.toArray⟩) := by
  intro f w ha hw
  simp only [execOp, ha.ev hx]
  have h1 := run_loadCells_list (P := P) (w := w) ad (bs.map B) (hr w hw)
  have h2 : (loadCells ad l).run P w = .ok ((bs.map fun b => (b.toNat : Int)).map (Value.int .u8)).toArray w := by
    rw [List.map_map, ← hl]; rw [List.length_map] at h1; exact h1
  have h3 := run_bytesToString w ad l c _ h2
  have h4 : ∀ (l : List UInt8) (r : ByteArray), (l.map fun b => (b.toNat : Int)).foldl (fun r n => r.push (UInt8.ofNat n.toNat)) r = ⟨r.data ++ l.toArray⟩ := by
    intro l
    induction l with
    | nil => intro r; simp
    | cons b t ih => intro r; simp only [List.map_cons, List.foldl_cons]; rw [ih]; simp [ByteArray.push]
  rw [h4] at h3
  simp [run_convert_bytes_string w T U e _ _ _ hT he hU, h3]
theorem v_sliceTo {T e : Nat} {x hi : Operand} {A : Option Addr} {l c : Nat} {q : Int} (hT : P.underlying T = some (.slice e)) (hz : ∀ w, ∃ z, (sizeOf e).run P w = .ok z w)
    (hx : ev E x = some (.slice A l c)) (hh : ev E hi = some (.int .i64 q)) (h0 : 0 ≤ q) (h2 : q ≤ c) :
    Val P n E ⟨d, .slice T x none (some hi) none, ty, pos, aft, g⟩ C (.slice A q.toNat c) := by
  intro f w ha _
  obtain ⟨z, hz⟩ := hz w
  simp only [execOp, ha.ev hx]
  simp [Instr.sliceAt, Instr.slice, Instr.sliceBounds, Instr.sliceBound, asIntOf, run_underlying hT, ha.ev hh, h0, h2, hz, Addr.add]
/-- Where a slice's part begins: one without room stands where its whole began. -/
def fromA (A : Option Addr) (c p z : Nat) : Option Addr := A.map fun ad => if c = p then ad else ad.add (p * z)
/-- What lies behind an address. -/
def Lies (w : World) (A : Option Addr) (xs : List Value) : Prop := xs = [] ∨ ∃ ad, A = some ad ∧ ∀ j u, xs[j]? = some u → w.cell? (ad.add j) = some u
theorem Lies.from {w : World} {A : Option Addr} {l c p z : Nat} {xs : List Value} (hl : xs.length = l * z) (hc : l ≤ c) (hp : p ≤ l) (h : Lies w A xs) : Lies w (fromA A c p z) (xs.drop (p * z)) := by
  rcases h with rfl | ⟨ad, rfl, h⟩
  · exact Or.inl (by simp)
  · refine Or.inr ⟨_, rfl, ?_⟩
    intro j u hj
    rw [List.getElem?_drop] at hj
    have hlt := (List.getElem?_eq_some_iff.1 hj).1
    split
    · rename_i e; subst e
      have : l = c := by omega
      subst this; omega
    · have := h _ u hj
      rwa [Addr.add_add]
theorem Lies.take {w : World} {A : Option Addr} {xs : List Value} (h : Lies w A xs) (k : Nat) : Lies w A (xs.take k) := by
  rcases h with rfl | ⟨ad, rfl, h⟩
  · exact Or.inl (by simp)
  · refine Or.inr ⟨ad, rfl, fun j u hj => h j u ?_⟩
    rw [List.getElem?_take] at hj
    split at hj
    · exact hj
    · cases hj
theorem Lies.keep {w w' : World} {A : Option Addr} {xs : List Value} (h : Lies w A xs) (hk : Keep No w w') : Lies w' A xs :=
  h.imp id fun ⟨ad, hA, hc⟩ => ⟨ad, hA, fun j u hj => hk.cellN (hc j u hj)⟩
theorem Lies.row {w : World} {e size m c : Nat} {A : Option Addr} {xs : List Value} (h : w.ownsRow 0 e size (.slice A m c) m xs) : Lies w A xs := by
  rcases h.2 with ⟨e1, e2⟩ | ⟨g, cap, cur, e1, -⟩
  · cases e1; exact Or.inl (List.eq_nil_of_length_eq_zero (by simpa using h.1))
  · cases e1; exact Or.inr ⟨_, rfl, World.ownsRow.cells h rfl⟩
theorem Lies.src {P : Program} {w : World} {size tx e' n c : Nat} {A : Option Addr} {xs : List Value} (hs : 0 < size) (hk : P.underlying tx = some (.slice e')) (h : Lies w A xs) (hl : xs.length = n * size) (h1 : ∀ u ∈ xs, u.oneCell' = true) : Src P size tx (.slice A n c) n xs w := by
  rcases h with rfl | ⟨ad, rfl, h⟩
  · have hn : n = 0 := by
      simp only [List.length_nil] at hl
      rcases Nat.mul_eq_zero.1 hl.symm with h2 | h2
      · exact h2
      · omega
    subst hn
    cases A with
    | none => exact Src.ofNil w hk c
    | some ad => exact Src.ofSlice w hk ad 0 c [] (by simp) (by simp) h1
  · exact Src.ofSlice w hk ad n c xs hl h h1
theorem v_slice3 {T e : Nat} {x hi mx : Operand} {A : Option Addr} {l c : Nat} {q r : Int} (hT : P.underlying T = some (.slice e)) (hz : ∀ w, ∃ z, (sizeOf e).run P w = .ok z w)
    (hx : ev E x = some (.slice A l c)) (hh : ev E hi = some (.int .i64 q)) (hm : ev E mx = some (.int .i64 r)) (h0 : 0 ≤ q) (h1 : q ≤ r) (h2 : r ≤ c) :
    Val P n E ⟨d, .slice T x none (some hi) (some mx), ty, pos, aft, g⟩ C (.slice A q.toNat r.toNat) := by
  intro f w ha _
  obtain ⟨z, hz⟩ := hz w
  have h3 : 0 ≤ r := by omega
  have h4 : q ≤ (r.toNat : Int) := by omega
  simp only [execOp, ha.ev hx]
  simp [Instr.sliceAt, Instr.slice, Instr.sliceBounds, Instr.sliceBound, asIntOf, run_underlying hT, ha.ev hh, ha.ev hm, h0, h2, h3, h4, hz, Addr.add]
  intro h5; omega
theorem v_sliceLo3 {T e z : Nat} {x lo hi mx : Operand} {A : Option Addr} {l c : Nat} {p q r : Int} (hT : P.underlying T = some (.slice e)) (hz : ∀ w, (sizeOf e).run P w = .ok z w)
    (hx : ev E x = some (.slice A l c)) (hl : ev E lo = some (.int .i64 p)) (hh : ev E hi = some (.int .i64 q)) (hm : ev E mx = some (.int .i64 r)) (h0 : 0 ≤ p) (h1 : p ≤ q) (h2 : q ≤ r) (h3 : r ≤ c) :
    Val P n E ⟨d, .slice T x (some lo) (some hi) (some mx), ty, pos, aft, g⟩ C (.slice (fromA A r.toNat p.toNat z) (q.toNat - p.toNat) (r.toNat - p.toNat)) := by
  intro f w ha _
  have hz := hz w
  have h3' : 0 ≤ r := by omega
  have h4 : q ≤ (r.toNat : Int) := by omega
  have h5 : 0 ≤ q := by omega
  have h6 : p ≤ (q.toNat : Int) := by omega
  simp only [execOp, ha.ev hx]
  simp [Instr.sliceAt, Instr.slice, Instr.sliceBounds, Instr.sliceBound, asIntOf, run_underlying hT, ha.ev hl, ha.ev hh, ha.ev hm, h0, h3, h3', h4, h5, h6, hz]
  rw [if_pos (by omega), if_pos (by omega)]
  cases A with
  | none => simp [fromA]
  | some ad => simp only [fromA, Option.map_some]; split <;> rfl
theorem v_sliceFrom {T e z : Nat} {x lo : Operand} {A : Option Addr} {l c : Nat} {p : Int} (hT : P.underlying T = some (.slice e)) (hz : ∀ w, (sizeOf e).run P w = .ok z w)
    (hx : ev E x = some (.slice A l c)) (hl : ev E lo = some (.int .i64 p)) (h0 : 0 ≤ p) (h1 : p ≤ l) (h2 : l ≤ c) :
    Val P n E ⟨d, .slice T x (some lo) none none, ty, pos, aft, g⟩ C (.slice (fromA A c p.toNat z) (l - p.toNat) (c - p.toNat)) := by
  intro f w ha _
  have hz := hz w
  simp only [execOp, ha.ev hx]
  simp [Instr.sliceAt, Instr.slice, Instr.sliceBounds, Instr.sliceBound, asIntOf, run_underlying hT, ha.ev hl, h0, h1, h2, hz]
  cases A with
  | none => simp [fromA]
  | some ad => simp only [fromA, Option.map_some]; split <;> rfl
theorem v_arr {T e m : Nat} {x : Operand} {A : Option Addr} {l c : Nat} (hT : P.underlying T = some (.array m e)) (hx : ev E x = some (.slice A l c)) (hl : m ≤ l) :
    Val P n E ⟨d, .sliceToArrayPointer T x, ty, pos, aft, g⟩ C (.pointer A) := by
  intro f w ha _
  simp only [execOp, ha.ev hx]
  simp [Instr.arrayAt, run_underlying hT, show ¬ l < m by omega]
end

section
variable {P : Program} {K : Act → World → Prop} {X : Exit → Act → World → Prop} {n : Nm} {E : Env} {w w0 : World} {S : Nat → Prop} {L : List Ent} {ops : Array Oper} {rest : List Oper} {d : Nat} {ty : TypeId} {pos : String} {aft : Array Edge}

/-- '[]byte(s)'. -/
theorem l_s2b {T U e : TypeId} {x : Operand} {s : ByteArray} (hS : St S w0 w L) (hT : P.underlying T = some .string) (hU : P.underlying U = some (.slice e)) (he : P.underlying e = some (.int .u8)) (hx : ev E x = some (.string s)) (hd : Nat.blt d n.n = true)
    (k : ∀ (b : Nat) (cs : Array Value) (c : Nat) (w' : World), St S w0 w' (.blk b (.cells cs e (cs.size, cs.size + 1)) :: L) → (∀ (j : Nat) (v : Value), (s.data.toList.map B)[j]? = some v → cs[j]? = some v) → WL P K X n ((d, .slice (some ⟨b, 0, none⟩) s.size c) :: E) ops rest w') :
    WL P K X n E ops (⟨some d, .convert T U x, ty, pos, aft, none⟩ :: rest) w := by
  have hr := Lib.run_convert_string_bytes w T U e s hT hU he
  have hk : Keep No w (Lib.bytesWorld w e s) := ⟨rfl, rfl, rfl, by rw [Lib.bytesWorld_size]; omega, fun k hk _ => Lib.bytesWorld_at_old w e s k hk⟩
  have h1 := hS.call hk
  have h2 : St S w0 (Lib.bytesWorld w e s) (.blk w.heap.size (.cells (Lib.bytesCells w e s) e ((Lib.bytesCells w e s).size, (Lib.bytesCells w e s).size + 1)) :: L) := by
    refine h1.more (Lib.bytesWorld_at_new w e s) (fun b hb => ?_) fun x hx => ⟨fun b hb hf => ?_, fun b hb hf => ?_⟩
    · simp only [Ent.mut] at hb; subst hb; exact Or.inl hS.keep.size
    · simp only [Ent.mut] at hb; subst hb; exact absurd (hS.lt hx hf) (Nat.lt_irrefl _)
    · simp only [Ent.foot] at hf; subst hf; exact absurd (hS.lt hx (Ent.mut_foot hb)) (Nat.lt_irrefl _)
  refine l_eff (w' := Lib.bytesWorld w e s) (fun a ha => ?_) hd (k w.heap.size _ (grownCap w s.size 0 e) _ h2 ?_)
  · simp only [execOp, ha.ev hx]
    simp [hr]
  · intro j v hj
    have hlt : j < s.data.toList.length := by
      have := (List.getElem?_eq_some_iff.1 hj).1; simpa using this
    have hlt' : j < s.data.size := by simpa using hlt
    rw [List.getElem?_map, List.getElem?_eq_getElem hlt] at hj
    simp only [Option.map_some, Option.some.injEq] at hj
    subst hj
    unfold Lib.bytesCells
    rw [Array.getElem?_append_left (by simpa using hlt')]
    simp [B]
    exact ⟨_, Array.getElem?_eq_getElem hlt', rfl⟩
end

section
variable {P : Program} {w : World}
theorem run_eq_bytes {T e m : Nat} (hT : P.underlying T = some (.array m e)) (he : P.underlying e = some (.int .u8)) (hz : ∀ w, (sizeOf e).run P w = .ok 1 w) (hg : ∀ w, (isAgg e).run P w = .ok false w) (xs ys : List UInt8) (hx : xs.length = m) (hy : ys.length = m) (dd : Nat) :
    (Op.equalIn (dd + 2) T (.agg (xs.map B).toArray) (.agg (ys.map B).toArray)).run P w = .ok (decide (xs = ys)) w := by
  have hpart : ∀ (l : List UInt8) (i : Nat) (h : i < l.length), (part e (l.map B).toArray (i * 1)).run P w = .ok (B l[i]) w := by
    intro l i h
    simp [part, hg w, h]
  have heq : ∀ a b : UInt8, (Op.equalIn (dd + 1) e (B a) (B b)).run P w = .ok (decide (a = b)) w := by
    intro a b
    unfold B
    rw [run_equalIn_int w dd e .u8 .u8 _ _ he]
    congr 1
    rw [Bool.eq_iff_iff, beq_iff_eq, decide_eq_true_eq]
    exact ⟨fun h => UInt8.toNat_inj.1 (by omega), fun h => by rw [h]⟩
  rw [show dd + 2 = (dd + 1) + 1 from rfl, Op.equalIn]
  simp only [Sem.run_bind, run_underlying hT, Result.andThen_ok, hz]
  rw [Std.Legacy.Range.forIn_eq_forIn_range']
  have key : ∀ k s, s + k ≤ m → (forIn (List.range' s k 1) ((none : Option Bool), ()) fun i (_ : Option Bool × Unit) => do
      let a ← part e (xs.map B).toArray (i * 1)
      let b ← part e (ys.map B).toArray (i * 1)
      let r ← Op.equalIn (dd + 1) e a b
      if (!r) = true then pure (ForInStep.done (some false, ())) else pure (ForInStep.yield ((none : Option Bool), ())) : Sem (Option Bool × Unit)).run P w
      = .ok (if (xs.drop s).take k = (ys.drop s).take k then none else some false, ()) w := by
    intro k
    induction k with
    | zero => intro s _; simp
    | succ k ih =>
      intro s hs
      have h1 : s < xs.length := by omega
      have h2 : s < ys.length := by omega
      rw [List.range'_succ, List.forIn_cons]
      simp only [Sem.run_bind, hpart xs s h1, hpart ys s h2, heq, Result.andThen_ok]
      rw [List.drop_eq_getElem_cons h1, List.drop_eq_getElem_cons h2]
      simp only [List.take_succ_cons, List.cons.injEq]
      by_cases h : xs[s] = ys[s]
      · have := ih (s + 1) (by omega)
        simp only [h, decide_true, Bool.not_true, Bool.false_eq_true, if_false, Sem.run_pure, Result.andThen_ok, true_and]
        exact this
      · simp [h]
  have hk := key m 0 (by omega)
  simp only [List.drop_zero, List.take_of_length_le (Nat.le_of_eq hx), List.take_of_length_le (Nat.le_of_eq hy)] at hk
  have hr : (List.range' [:m].start [:m].size [:m].step) = List.range' 0 m 1 := by simp [Std.Legacy.Range.size]
  rw [hr]
  refine (congrArg (fun r => Result.andThen r _) hk).trans ?_
  by_cases h : xs = ys
  · simp [h]
  · simp [h]

end
section
variable {P : Program} {n : Nm} {E : Env} {C : World → Prop} {d : Option Nat} {ty : TypeId} {pos : String} {aft : Array Edge} {g : Option (Nat × Bool)}
theorem run_guard_agg {op : BinOp} {T : TypeId} {x y : Operand} {a b : Array Value} (hT : P.eqGuardType P.depth T = false) (w : World) : (eqGuard op T x y (.agg a) (.agg b)).run P w = .ok () w := by
  cases op <;> first | rfl | simp [eqGuard, hT]
theorem v_aeql {T U e m : Nat} {x y : Operand} {xs ys : List UInt8} (hT : P.underlying T = some (.array m e)) (he : P.underlying e = some (.int .u8)) (hz : Ty1 P e) (hq : P.eqGuardType P.depth T = false)
    (hx : ev E x = some (.agg (xs.map B).toArray)) (hy : ev E y = some (.agg (ys.map B).toArray)) (h1 : xs.length = m) (h2 : ys.length = m) :
    Val P n E ⟨d, .binOp .eql T x y U, ty, pos, aft, g⟩ C (.bool (decide (xs = ys))) := by
  intro f w ha _
  simp only [execOp, ha.ev hx, ha.ev hy]
  simp only [Sem.run_bind, run_guard_agg hq, Result.andThen_ok]
  have := run_eq_bytes (w := w) hT he hz.size hz.agg xs ys h1 h2 9998
  simp [binOp, Op.equal, Op.maxDepth, this]
theorem v_aneq {T U e m : Nat} {x y : Operand} {xs ys : List UInt8} (hT : P.underlying T = some (.array m e)) (he : P.underlying e = some (.int .u8)) (hz : Ty1 P e) (hq : P.eqGuardType P.depth T = false)
    (hx : ev E x = some (.agg (xs.map B).toArray)) (hy : ev E y = some (.agg (ys.map B).toArray)) (h1 : xs.length = m) (h2 : ys.length = m) :
    Val P n E ⟨d, .binOp .neq T x y U, ty, pos, aft, g⟩ C (.bool (decide (¬ xs = ys))) := by
  intro f w ha _
  simp only [execOp, ha.ev hx, ha.ev hy]
  simp only [Sem.run_bind, run_guard_agg hq, Result.andThen_ok]
  have := run_eq_bytes (w := w) hT he hz.size hz.agg xs ys h1 h2 9998
  simp [binOp, Op.equal, Op.maxDepth, this]
end
theorem Elem.of {P : Program} {e size bytes : Nat} {z : Value} (h : (P.info? e).map (fun i => (i.zero, i.size, i.bytes)) = some (some z, size, bytes)) (hz : z.cells.size = size) (hp : 0 < size) : Elem P e size bytes := by
  refine ⟨?_, hp⟩
  cases hi : P.info? e with
  | none => rw [hi] at h; cases h
  | some i =>
    rw [hi] at h
    simp only [Option.map_some, Option.some.injEq, Prod.mk.injEq] at h
    exact ⟨i, z, rfl, h.1, h.2.1, h.2.2, hz⟩

theorem fill_ones : ∀ (vs : List Value) (o : Nat) (A : Array Value), (∀ v ∈ vs, v.cells = #[v]) → o + vs.length = A.size →
    Instr.fill (fun i => some (i * 1, 1)) A ((vs.zipIdx o).map fun (v, i) => (i, v)) = some (A.toList.take o ++ vs).toArray
  | [], o, A, _, h => by
    simp only [List.zipIdx_nil, List.map_nil, Instr.fill, List.append_nil]
    rw [List.take_of_length_le (by simp at h ⊢; omega)]
  | v :: r, o, A, h1, h => by
    simp only [List.length_cons] at h
    have hv := h1 v List.mem_cons_self
    simp only [List.zipIdx_cons, List.map_cons, Instr.fill, hv]
    rw [if_neg (by simp; omega)]
    have e : (#[v] : Array Value).zipIdx.foldl (fun cs (x : Value × Nat) => cs.setIfInBounds (o * 1 + x.2) x.1) A = A.setIfInBounds o v := by simp
    rw [e, fill_ones r (o + 1) _ (fun u hu => h1 u (List.mem_cons_of_mem _ hu)) (by simp; omega)]
    congr 1
    rw [Array.toList_setIfInBounds, List.take_succ_eq_append_getElem (by simp; omega)]
    simp only [List.getElem_set_self, List.append_assoc, List.cons_append, List.nil_append]
    rw [List.take_set_of_le (Nat.le_refl _)]

section
variable {P : Program} {K : Act → World → Prop} {X : Exit → Act → World → Prop} {n : Nm} {E : Env} {w w0 : World} {S : Nat → Prop} {L : List Ent} {ops : Array Oper} {rest : List Oper} {d : Nat} {ty : TypeId} {pos : String} {aft : Array Edge}

/-- A slice of so many elements of one cell each. -/
theorem l_sliceN {T e len : Nat} {xs : List Operand} {vs : List Value} {z : Value} {parts : Array (Nat × Operand)} (hS : St S w0 w L) (hT : P.underlying T = some (.slice e)) (hz : Ty1 P e) (hze : Zero P e z) (hzc : z.cells.size = 1)
    (hp : parts = ((xs.zipIdx).map fun (x, i) => (i, x)).toArray) (hx : evs E xs = some vs) (hc : ∀ v ∈ vs, v.cells = #[v]) (hlen : len = vs.length) (hle : Nat.ble len 1000 = true) (hpos : Nat.beq len 0 = false) (hd : Nat.blt d n.n = true)
    (k : ∀ b w', St S w0 w' (.blk b (.cells vs.toArray e (0, 0)) :: L) → WL P K X n ((d, .slice (some ⟨b, 0, none⟩) len len) :: E) ops rest w') :
    WL P K X n E ops (⟨some d, .buildSlice T len parts, ty, pos, aft, none⟩ :: rest) w := by
  refine l_eff (w' := w.alloc (.cells vs.toArray e (0, 0))) (fun a ha => ?_) hd (k w.heap.size _ (hS.alloc _))
  have hle' : len ≤ 1000 := Nat.le_of_ble_eq_true hle
  have hpos' : len ≠ 0 := fun h => by subst h; simp at hpos
  have hm := evs_map ha hx
  have hparts : (parts.map fun (i, x) => (i, a.eval x)).toList = (vs.zipIdx 0).map fun (v, i) => (i, v) := by
    subst hp
    rw [← hm]
    simp only [Array.toList_map, List.map_map, List.zipIdx_map]
    rfl
  have hf := fill_ones vs 0 ((Array.range (len * 1)).map (z.cells[· % z.cells.size]!)) hc (by simp [hlen])
  simp only [List.take_zero, List.nil_append] at hf
  rw [← hparts] at hf
  simp only [execOp]
  simp only [Instr.buildSlice, Sem.run_bind, run_underlying hT, Result.andThen_ok, hz.size, hze w, newRow]
  rw [if_neg (by omega)]
  rw [if_neg (by omega)]
  simp only [Sem.run_pure, Sem.run_bind, hze w, Result.andThen_ok]
  rw [hf]
  simp [← hlen]

/-! ### append, of what lies anywhere -/

theorem lenOf_slice {P : Program} {w : World} {A : Option Addr} {m c : Nat} : (Builtin.lenOf (.slice A m c)).run P w = .ok m w := rfl
theorem run_append_src {T tx U e size bytes : Nat} (hT : P.underlying T = some (.slice e)) (hE : Elem P e size bytes) {v : Value} {m : Nat} {xs : List Value} (hown : w.ownsRow 0 e size v m xs)
    {y : Value} {l : Nat} {news : List Value} (hs : Src P size tx y l news w) (h63 : m + l ≤ maxLen) (hb : (m + l) * bytes ≤ 140737488355328) :
    ∃ v' w', (Builtin.append_ #[T, tx] U #[v, y]).run P w = .ok v' w' ∧ w'.ownsRow 0 e size v' (m + l) (xs ++ news) ∧ Keep (fun k => v.ownBlock = some k) w w' ∧
      (v'.ownBlock = v.ownBlock ∨ ∃ g, v'.ownBlock = some g ∧ w.heap.size ≤ g) ∧ (v' = .slice none 0 0 ↔ v = .slice none 0 0 ∧ l = 0) := by
  obtain ⟨⟨i, z, hi, hz, rfl, rfl, hzs⟩, hpos⟩ := hE
  have h63' : m + l ≤ 9223372036854775807 := by have := h63; unfold maxLen at this; omega
  have hlen : (xs ++ news).length = (m + l) * i.size := by rw [List.length_append, hown.1, hs.newsLen, Nat.add_mul]
  have grown : ∀ (old : Nat) (base : Option Addr), v = .slice base m old → old < m + l → (Builtin.firstCells i.size m (.slice base m old)).run P w.drew = .ok xs.toArray w.drew →
      ∃ v' w', (Builtin.append_ #[T, tx] U #[v, y]).run P w = .ok v' w' ∧ w'.ownsRow 0 e i.size v' (m + l) (xs ++ news) ∧ Keep (fun k => v.ownBlock = some k) w w' ∧
      (v'.ownBlock = v.ownBlock ∨ ∃ g, v'.ownBlock = some g ∧ w.heap.size ≤ g) ∧ (v' = .slice none 0 0 ↔ v = .slice none 0 0 ∧ l = 0) := by
    intro old base hv ho hold
    have hr := run_append_grow_src w T tx U e i z hT hi hz base m old xs hold y l news hs ho (by omega) (growslice_fits ho hb)
    have hge := grownCap_ge w (m + l) old e
    refine ⟨_, _, by rw [hv]; exact hr, ⟨hlen, .inr ⟨w.heap.size, _, _, rfl, Nat.zero_le _, heap_alloc_new w.drew _, hge, grownCap_le_maxLen w (m + l) old e h63, ?_, ?_⟩⟩, ⟨rfl, rfl, rfl, by simp, fun k hk _ => Below.heap_alloc w.drew _ k hk⟩, Or.inr ⟨_, rfl, Nat.le_refl _⟩, ?_⟩
    · simp only [Array.size_append, List.size_toArray, size_zeroCells, hzs, hlen, ← Nat.add_mul]
      congr 1
      omega
    · simp only [Array.toList_append]
      rw [← hlen]
      exact List.take_left
    · constructor
      · intro e; cases e
      · rintro ⟨e, rfl⟩
        rw [hv] at e
        cases e
        omega
  rcases hown.2 with ⟨rfl, rfl⟩ | ⟨g, cap, cur, rfl, -, hg, hnc, hcm, hcs, htake⟩
  · have hx : xs = [] := List.eq_nil_of_length_eq_zero (by simpa using hown.1)
    subst hx
    by_cases hm : l = 0
    · subst hm
      have hn : news = [] := List.eq_nil_of_length_eq_zero (by simpa using hs.newsLen)
      subst hn
      refine ⟨.slice none 0 0, w, ?_, World.ownsRow_nil w 0 e i.size, Keep.refl _ _, Or.inl rfl, by simp⟩
      have hc := hs.cells
      rcases hs.kind with ⟨e', hk⟩ | hk <;> simp [Builtin.append_, run_underlying hT, run_underlying hk, sizeOf, typeInfo, hi, hs.len, hc, lenOf_slice, storeCells]
    · exact grown 0 none rfl (by omega) (run_firstCells_none w.drew i.size 0 0 0)
  · by_cases hroom : m + l ≤ cap
    · have hfit : m * i.size + news.length ≤ cur.size := by rw [hs.newsLen, hcs, ← Nat.add_mul]; exact Nat.mul_le_mul_right _ hroom
      have hcell : ∀ j, j < cur.size → w.cell? ⟨g, j, none⟩ = some cur[j]! := fun j hj => by simp [World.cell?, hg, hj]
      have hr := run_append_room_src w T tx U e i hT hi g 0 m cap y l news hs hroom (fun j hj => by rw [Nat.zero_add, hcell _ (by omega)]; rfl) (fun j _ => by simp [World.frozen?, hg])
      rw [Nat.zero_add] at hr
      have hst := run_storeCells_at P g (m * i.size) e news 0 cur w hg (by simpa using hfit) hs.one
      have hst2 := run_storeCells_cells (P := P) g (m * i.size) news 0 w (fun j hj => by rw [Nat.add_zero, hcell _ (by omega)]; rfl) (fun j _ => by simp [World.frozen?, hg]) hs.one
      rw [hst] at hst2
      simp only [Nat.add_zero, Result.ok.injEq, true_and] at hst2
      rw [← hst2] at hr
      refine ⟨_, _, hr, ⟨hlen, .inr ⟨g, cap, _, rfl, Nat.zero_le _, setRow_heap w g cur _ e _ hg, hroom, hcm, ?_, ?_⟩⟩, ⟨rfl, rfl, rfl, by simp, fun k _ hk => setRow_other w g k _ (fun e => hk (by simp [Value.ownBlock, e]))⟩, Or.inl rfl, by simp⟩
      · simp only [List.size_toArray, List.length_append, List.length_take, List.length_drop, Array.length_toList]
        omega
      · rw [htake, ← hlen]
        exact List.take_left
    · exact grown cap _ rfl (by omega) (run_firstCells_some w.drew i.size m _ m cap xs hown.1 (by simpa using hown.cells (g := g) rfl))

/-- append onto a row of the call's own, of what lies anywhere: a slice, nil, a string. -/
theorem l_appendS {T tx e size bytes : Nat} {x y : Operand} {v u : Value} {m l : Nat} {xs news : List Value} (i : Nat) (hS : St S w0 w L) (hT : P.underlying T = some (.slice e)) (hE : Elem P e size bytes)
    (hi : L[i]? = some (.row e size v m xs)) (hx : ev E x = some v) (hy : ev E y = some u) (hs : Src P size tx u l news w)
    (h63 : m + l ≤ maxLen) (hb : (m + l) * bytes ≤ 140737488355328) (hd : Nat.blt d n.n = true)
    (k : ∀ v' w', St S w0 w' (L.set i (.row e size v' (m + l) (xs ++ news))) → (v' = .slice none 0 0 ↔ v = .slice none 0 0 ∧ l = 0) → WL P K X n ((d, v') :: E) ops rest w') :
    WL P K X n E ops (⟨some d, .call { callee := .builtin .append, args := #[x, y], argTypes := #[T, tx] }, ty, pos, aft, none⟩ :: rest) w := by
  obtain ⟨v', w', hr, h2, h3, h4, h5⟩ := run_append_src (U := ty) hT hE (hS.rowAt i hi) hs h63 hb
  refine l_eff (w' := w') (fun a ha => ?_) hd (k v' w' (hS.replace hi h3 h2 h4) h5)
  simp only [execOp, resolve, invoke, builtin, Sem.run_bind, Sem.run_pure, Result.andThen_ok, List.map_toArray, List.map_cons, List.map_nil, ha.ev hx, ha.ev hy, hr]

/-- append onto a slice without room: a new row. -/
theorem l_appendFN {T tx e size bytes : Nat} {x y : Operand} {A : Option Addr} {u : Value} {m l c : Nat} {xs news : List Value} (hS : St S w0 w L) (hT : P.underlying T = some (.slice e)) (hE : Elem P e size bytes)
    (hx : ev E x = some (.slice A m c)) (hy : ev E y = some u) (ho : Lies w A xs) (hl : xs.length = m * size) (hs : Src P size tx u l news w)
    (hg : c < m + l) (h63 : m + l ≤ maxLen) (hb : (m + l) * bytes ≤ 140737488355328) (hd : Nat.blt d n.n = true)
    (k : ∀ v' w', St S w0 w' (.row e size v' (m + l) (xs ++ news) :: L) → v' ≠ .slice none 0 0 → (∀ b, v'.ownBlock = some b → w.heap.size ≤ b) → WL P K X n ((d, v') :: E) ops rest w') :
    WL P K X n E ops (⟨some d, .call { callee := .builtin .append, args := #[x, y], argTypes := #[T, tx] }, ty, pos, aft, none⟩ :: rest) w := by
  obtain ⟨⟨i, z, hi, hz, rfl, rfl, hzs⟩, hpos⟩ := hE
  have h63' : m + l ≤ 9223372036854775807 := by have := h63; unfold maxLen at this; omega
  have hlen : (xs ++ news).length = (m + l) * i.size := by rw [List.length_append, hl, hs.newsLen, Nat.add_mul]
  have hold : (Builtin.firstCells i.size m (.slice A m c)).run P w.drew = .ok xs.toArray w.drew := by
    rcases ho with rfl | ⟨ad, rfl, hc⟩
    · have hn : m = 0 := by
        simp only [List.length_nil] at hl
        rcases Nat.mul_eq_zero.1 hl.symm with h2 | h2
        · exact h2
        · omega
      subst hn
      cases A with
      | none => exact run_firstCells_none w.drew i.size 0 0 c
      | some ad => exact run_firstCells_some w.drew i.size 0 ad 0 c [] (by simp) (by simp)
    · exact run_firstCells_some w.drew i.size m ad m c xs hl (by simpa using hc)
  have hr := run_append_grow_src w T tx ty e i z hT hi hz A m c xs hold u l news hs hg (by omega) (growslice_fits hg hb)
  have hge := grownCap_ge w (m + l) c e
  have hrow : St S w0 (w.drew.alloc (.cells ((xs ++ news).toArray ++ Builtin.zeroCells z.cells (grownCap w (m + l) c e - (m + l))) e)) (.row e i.size (.slice (some ⟨w.heap.size, 0, none⟩) (m + l) (grownCap w (m + l) c e)) (m + l) (xs ++ news) :: L) := by
    have h1 := (hS.drew 1).alloc (.cells ((xs ++ news).toArray ++ Builtin.zeroCells z.cells (grownCap w (m + l) c e - (m + l))) e)
    refine (h1.less (List.sublist_cons_self _ _)).more (y := .row e i.size (.slice (some ⟨w.heap.size, 0, none⟩) (m + l) (grownCap w (m + l) c e)) (m + l) (xs ++ news)) ⟨hlen, .inr ⟨w.heap.size, _, _, rfl, Nat.zero_le _, heap_alloc_new w.drew _, hge, grownCap_le_maxLen w (m + l) c e h63, ?_, ?_⟩⟩ ?_ ?_
    · simp only [Array.size_append, List.size_toArray, size_zeroCells, hzs, hlen, ← Nat.add_mul]
      congr 1
      omega
    · simp only [Array.toList_append]
      rw [← hlen]
      exact List.take_left
    · intro b hb'
      simp only [Ent.mut, Value.ownBlock, Option.some.injEq] at hb'
      subst hb'
      exact Or.inl hS.keep.size
    · intro x hx'
      refine ⟨fun b hb' hf => ?_, fun b hb' hf => ?_⟩
      · simp only [Ent.mut, Value.ownBlock, Option.some.injEq] at hb'; subst hb'; exact absurd (hS.lt hx' hf) (Nat.lt_irrefl _)
      · simp only [Ent.foot, Value.ownBlock, Option.some.injEq] at hf; subst hf; exact absurd (hS.lt hx' (Ent.mut_foot hb')) (Nat.lt_irrefl _)
  refine l_eff (v := .slice (some ⟨w.heap.size, 0, none⟩) (m + l) (grownCap w (m + l) c e)) (fun a ha => ?_) hd (k _ _ hrow (by simp) (fun b hb' => by simp only [Value.ownBlock, Option.some.injEq] at hb'; omega))
  simp only [execOp, resolve, invoke, builtin, Sem.run_bind, Sem.run_pure, Result.andThen_ok, List.map_toArray, List.map_cons, List.map_nil, ha.ev hx, ha.ev hy, hr]
theorem l_appendF {T tx e size bytes : Nat} {x y : Operand} {A : Option Addr} {u : Value} {m l c : Nat} {xs news : List Value} (hS : St S w0 w L) (hT : P.underlying T = some (.slice e)) (hE : Elem P e size bytes)
    (hx : ev E x = some (.slice A m c)) (hy : ev E y = some u) (ho : Lies w A xs) (hl : xs.length = m * size) (hs : Src P size tx u l news w)
    (hg : c < m + l) (h63 : m + l ≤ maxLen) (hb : (m + l) * bytes ≤ 140737488355328) (hd : Nat.blt d n.n = true)
    (k : ∀ v' w', St S w0 w' (.row e size v' (m + l) (xs ++ news) :: L) → v' ≠ .slice none 0 0 → WL P K X n ((d, v') :: E) ops rest w') :
    WL P K X n E ops (⟨some d, .call { callee := .builtin .append, args := #[x, y], argTypes := #[T, tx] }, ty, pos, aft, none⟩ :: rest) w :=
  l_appendFN hS hT hE hx hy ho hl hs hg h63 hb hd fun v' w' h1 h2 _ => k v' w' h1 h2
/-- append of nothing. -/
theorem l_append0 {T tx e : Nat} {x y : Operand} {A : Option Addr} {u : Value} {m c size bytes : Nat} (hT : P.underlying T = some (.slice e)) (hE : Elem P e size bytes) (hx : ev E x = some (.slice A m c)) (hy : ev E y = some u) (hA : c = 0 → A = none ∨ True) (hm : m ≤ c) (hs : Src P size tx u 0 [] w) (hd : Nat.blt d n.n = true)
    (hAc : A = none → c = 0)
    (k : WL P K X n ((d, .slice A m c) :: E) ops rest w) : WL P K X n E ops (⟨some d, .call { callee := .builtin .append, args := #[x, y], argTypes := #[T, tx] }, ty, pos, aft, none⟩ :: rest) w := by
  have _ := hA
  obtain ⟨⟨i, z, hi, hz, rfl, rfl, hzs⟩, hpos⟩ := hE
  refine l_eff (fun a ha => ?_) hd k
  have hr : (Builtin.append_ #[T, tx] ty #[.slice A m c, u]).run P w = .ok (.slice A m c) w := by
    have hc := hs.cells
    cases A with
    | none =>
      have := hAc rfl
      subst this
      obtain rfl : m = 0 := by omega
      rcases hs.kind with ⟨e', hk⟩ | hk <;> simp [Builtin.append_, run_underlying hT, run_underlying hk, sizeOf, typeInfo, hi, hs.len, hc, lenOf_slice, storeCells]
    | some ad =>
      rcases hs.kind with ⟨e', hk⟩ | hk <;> simp [Builtin.append_, run_underlying hT, run_underlying hk, sizeOf, typeInfo, hi, hs.len, hc, lenOf_slice, hm, storeCells]
  simp only [execOp, resolve, invoke, builtin, Sem.run_bind, Sem.run_pure, Result.andThen_ok, List.map_toArray, List.map_cons, List.map_nil, ha.ev hx, ha.ev hy, hr]

/-! ### Results that lie in memory -/

theorem load_whole {T U k b i : Nat} {cs : Array Value} {fz : Nat × Nat} (hT : TyN P T k) (hS : St S w0 w L) (hi : L[i]? = some (.blk b (.cells cs U fz))) (hk : cs.size = k) : (loadVar T ⟨b, 0, none⟩).run P w = .ok (.agg cs) w := by
  have h1 := run_loadCells_list (P := P) (w := w) ⟨b, 0, none⟩ cs.toList (hS.row i hi)
  subst hk
  simp [loadVar, hT.agg, hT.size]
  simpa using congrArg (fun r => Result.andThen r (fun a w' => .ok (Value.agg a) w')) h1
theorem c_retC {fn : Func} {R : Ending → World → Prop} [hX : Rets X P fn R] {t T U k b : Nat} {cs : Array Value} {fz : Nat × Nat} (i : Nat) (hr : fn.results = #[.cell t T]) (hT : TyN P T k) (hS : St S w0 w L) (hi : L[i]? = some (.blk b (.cells cs U fz))) (hk : cs.size = k)
    (ht : look E t = some (.pointer (some ⟨b, 0, none⟩))) (h : R (.returned (.agg cs)) w) (hds : n.ds = [] := by rfl) : WC P K X n E .ret w :=
  fun a ha => wpIn_ret (hX.to a w ⟨ha.defers.trans hds, _, by
    have h1 := load_whole hT hS hi hk
    simp only [results, hr, List.mapM_toArray, List.mapM_cons, List.mapM_nil, ha.get t _ ht, asAddr, Sem.run_bind, Sem.run_pure, Result.andThen_ok, h1]
    simp [h1], h⟩)
theorem c_retCT {fn : Func} {R : Ending → World → Prop} [hX : Rets X P fn R] {t u T U k b : Nat} {cs : Array Value} {fz : Nat × Nat} {v : Value} (i : Nat) (hr : fn.results = #[.cell t T, .tmp u]) (hT : TyN P T k) (hS : St S w0 w L) (hi : L[i]? = some (.blk b (.cells cs U fz))) (hk : cs.size = k)
    (ht : look E t = some (.pointer (some ⟨b, 0, none⟩))) (hu : look E u = some v) (h : R (.returned (.tuple #[.agg cs, v])) w) (hds : n.ds = [] := by rfl) : WC P K X n E .ret w :=
  fun a ha => wpIn_ret (hX.to a w ⟨ha.defers.trans hds, _, by
    have h1 := load_whole hT hS hi hk
    simp only [results, hr, List.mapM_toArray, List.mapM_cons, List.mapM_nil, ha.get t _ ht, ha.get u _ hu, asAddr, Sem.run_bind, Sem.run_pure, Result.andThen_ok, h1]
    simp [h1], h⟩)


/-! ### More -/

theorem l_callVK {f : FuncId} {x : Operand} {xs : List Operand} {ts : Array TypeId} {vs first cap : List Value} {v : Value} (hg : Goes P f) (hf : ev E x = some (.func (.func f) first.toArray cap.toArray)) (hx : evs E xs = some vs)
    (hc : Calls P f (first ++ (vs ++ cap)).toArray w fun e w' => e = .returned v ∧ Keep No w w') (hd : Nat.blt d n.n = true) (hS : St S w0 w L)
    (k : ∀ w', St S w0 w' L → WL P K X n ((d, v) :: E) ops rest w') :
    WL P K X n E ops (⟨some d, .call { callee := .value x, args := xs.toArray, argTypes := ts }, ty, pos, aft, none⟩ :: rest) w :=
  l_callV hg hf hx hc hd fun _ w' h => ⟨v, h.1, k w' (hS.call h.2)⟩
theorem q_callVK {Rr : Act → Prop} {f : FuncId} {x : Operand} {xs : List Operand} {ts : Array TypeId} {vs first cap : List Value} {v : Value} (hg : Goes P f) (hf : ev E x = some (.func (.func f) first.toArray cap.toArray)) (hx : evs E xs = some vs)
    (hc : ∀ w, St S w0 w L → Calls P f (first ++ (vs ++ cap)).toArray w fun e w' => e = .returned v ∧ Keep No w w') (hd : Nat.blt d n.n = true)
    (k : WQ P n ((d, v) :: E) ops (fun w' => St S w0 w' L) Rr rest) :
    WQ P n E ops (fun w' => St S w0 w' L) Rr (⟨some d, .call { callee := .value x, args := xs.toArray, argTypes := ts }, ty, pos, aft, none⟩ :: rest) := by
  intro a ha
  refine wpQuiet_step fun J hJ => ?_
  simp only [Region.wanted, if_true]
  refine ⟨v, fun w hw => ?_, hJ _ (k _ (ha.put hd v))⟩
  unfold Oper.quietAt
  rw [run_callV hg hf hx ha w]
  exact ⟨rfl, (hc w hw).mono fun _ _ h => ⟨h.1, hw.call h.2⟩⟩

theorem setFrom_whole : ∀ (vs : List Value) (cs : Array Value) (o : Nat), o + vs.length = cs.size → setFrom cs o vs = (cs.toList.take o ++ vs).toArray
  | [], cs, o, h => by
    simp only [setFrom, List.append_nil]
    rw [List.take_of_length_le (by simp at h ⊢; omega)]
  | v :: r, cs, o, h => by
    simp only [List.length_cons] at h
    simp only [setFrom]
    rw [setFrom_whole r _ _ (by simp; omega)]
    congr 1
    rw [Array.toList_setIfInBounds, List.take_succ_eq_append_getElem (by simp; omega)]
    simp only [List.getElem_set_self, List.append_assoc, List.cons_append, List.nil_append]
    rw [List.take_set_of_le (Nat.le_refl _)]

theorem all_ones : ∀ {l : List Value}, (∀ u ∈ l, u.oneCell' = true) → ones l = true
  | [], _ => rfl
  | v :: r, h => by simp only [ones, Bool.and_eq_true]; exact ⟨h v List.mem_cons_self, all_ones fun u hu => h u (List.mem_cons_of_mem _ hu)⟩
/-- A store of a whole block. -/
theorem l_storeW {T U m : TypeId} {x y : Operand} {b : Nat} {cs : Array Value} {vs : List Value} (i : Nat) (hS : St S w0 w L) (hT : TyN P T m) (hi : L[i]? = some (.blk b (.cells cs U (0, 0)))) (ho : vs.length = cs.size)
    (hx : ev E x = some (.pointer (some ⟨b, 0, none⟩))) (hy : ev E y = some (.agg vs.toArray)) (hm : vs.length = m) (hv : ∀ u ∈ vs, u.oneCell' = true)
    (k : ∀ w', St S w0 w' (L.set i (.blk b (.cells vs.toArray U (0, 0)))) → WL P K X n E ops rest w') : WL P K X n E ops (⟨none, .store T x y, ty, pos, aft, none⟩ :: rest) w := by
  have := l_storeN (n := n) (cs := cs) (vs := vs.toArray) (o := 0) (rest := rest) (ops := ops) (K := K) (X := X) (ty := ty) (pos := pos) (aft := aft) i hS hT hi (by simp [ho]) hx hy (by simpa using hm) (all_ones hv)
  rw [setFrom_whole vs cs 0 (by simpa using ho)] at this
  exact this k

/-- A store at a reckoned place of a block. -/
theorem l_storeI {T U : TypeId} {x y : Operand} {b o : Nat} {cs : Array Value} {v : Value} (i : Nat) (hS : St S w0 w L) (hT : Ty1 P T) (hi : L[i]? = some (.blk b (.cells cs U (0, 0)))) (ho : o < cs.size)
    (hx : ev E x = some (.pointer (some ((⟨b, 0, none⟩ : Addr).add o)))) (hy : ev E y = some v) (hv : v.oneCell' = true)
    (k : ∀ w', St S w0 w' (L.set i (.blk b (.cells (cs.setIfInBounds o v) U (0, 0)))) → WL P K X n E ops rest w') : WL P K X n E ops (⟨none, .store T x y, ty, pos, aft, none⟩ :: rest) w := by
  have e : ((⟨b, 0, none⟩ : Addr).add o) = ⟨b, o, none⟩ := by unfold Addr.add; split <;> simp_all
  exact l_store i hS hT hi (Nat.ble_eq_true_of_le ho) (e ▸ hx) hy hv k

end
section
variable {P : Program} {n : Nm} {E : Env} {C : World → Prop} {d : Option Nat} {ty : TypeId} {pos : String} {aft : Array Edge} {g : Option (Nat × Bool)}
theorem v_indexA {T U m : Nat} {x i : Operand} {cs : Array Value} {q : Int} {v : Value} (hT : P.underlying T = some (.array m U)) (hU : Ty1 P U)
    (hx : ev E x = some (.agg cs)) (hi : ev E i = some (.int .i64 q)) (h0 : 0 ≤ q) (h1 : q < m) (hv : cs[q.toNat]? = some v) :
    Val P n E ⟨d, .index T x i, ty, pos, aft, g⟩ C v := by
  intro f w ha _
  simp only [execOp, ha.ev hx, ha.ev hi]
  simp [Instr.index, asIntOf, run_underlying hT, h0, h1, hU.size, part, hU.agg, hv]
theorem v_sliceArr {T e m : Nat} {x : Operand} {ad : Addr} (hT : P.underlying T = some (.array m e)) (hz : ∀ w, ∃ z, (sizeOf e).run P w = .ok z w) (hx : ev E x = some (.pointer (some ad))) :
    Val P n E ⟨d, .slice T x none none none, ty, pos, aft, g⟩ C (.slice (some ad) m m) := by
  intro f w ha _
  obtain ⟨z, hz⟩ := hz w
  simp only [execOp, ha.ev hx]
  simp [Instr.sliceAt, Instr.sliceBounds, run_underlying hT, Instr.sureAddr, hz, Addr.add]
theorem v_indexAddrO {T U z l c : Nat} {x i : Operand} {A : Option Addr} {ad : Addr} {q : Int} (hA : A = some ad) (hT : P.underlying T = some (.slice U)) (hz : ∀ w, (sizeOf U).run P w = .ok z w)
    (hx : ev E x = some (.slice A l c)) (hi : ev E i = some (.int .i64 q)) (h0 : 0 ≤ q) (h1 : q < l) :
    Val P n E ⟨d, .indexAddr T x i, ty, pos, aft, g⟩ C (.pointer (some (ad.add (q.toNat * z)))) := v_indexAddr hT hz (hA ▸ hx) hi h0 h1


theorem v_buildA {T U m : Nat} {z : Value} {xs : List (Nat × Operand)} {vs : List (Nat × Value)} {cells : Array Value} (hz : Zero P T z) (hT : P.underlying T = some (.array m U)) (hU : Ty1 P U) (hx : evp E xs = some vs)
    (hf : Instr.fill (fun i => some (i * 1, 1)) z.cells vs = some cells) : Val P n E ⟨d, .build T xs.toArray, ty, pos, aft, g⟩ C (.agg cells) := by
  intro f w ha _
  have hm := evp_map ha hx
  simp only [execOp]
  simp only [List.map_toArray, hm]
  simp only [Instr.build, Sem.run_bind, hz w, run_underlying hT, Result.andThen_ok, hU.size]
  rw [hf]
  simp
/-- 'string(b)', b a row of the call's own, nil or not. -/
theorem v_b2sRow {T U e m : TypeId} {x : Operand} {v : Value} {bs : List UInt8} (hT : P.underlying T = some (.slice e)) (he : P.underlying e = some (.int .u8)) (hU : P.underlying U = some .string)
    (hx : ev E x = some v) (hr : ∀ w, C w → w.ownsRow 0 e 1 v m (bs.map B)) (hC : ∃ w, C w) :
    Val P n E ⟨d, .convert T U x, ty, pos, aft, g⟩ C (.string ⟨bs.toArray⟩) := by
  obtain ⟨w1, hw1⟩ := hC
  have h1 := hr w1 hw1
  have hl : bs.length = m := by have := h1.1; simpa using this
  rcases h1.2 with ⟨rfl, rfl⟩ | ⟨gg, cap, cur, rfl, -⟩
  · have hb : bs = [] := List.eq_nil_of_length_eq_zero hl
    subst hb
    intro f w ha _
    simp only [execOp, ha.ev hx]
    simp [run_convert_bytes_string w T U e _ _ _ hT he hU, Conv.bytesToString]
    rfl
  · exact v_b2s hT he hU hx hl fun w hw => World.ownsRow.cells (hr w hw) rfl

end
end Go.Proofs.Ytndchgmgcjebiaa.E
