/- More operations: strings by their order, max and min, a field of a struct's value. No program in sight. -/
import Derived.Test.YtndchgmgcjebiaaEngLies
namespace Go.Proofs.Ytndchgmgcjebiaa.E
open Go Go.RowKit
set_option linter.unusedVariables false

/-- The order of strings: of their bytes. -/
def slt (a b : ByteArray) : Prop := a.data.toList < b.data.toList
instance (a b : ByteArray) : Decidable (slt a b) := inferInstanceAs (Decidable (a.data.toList < b.data.toList))
theorem slt_irrefl (a : ByteArray) : ¬ slt a a := List.lt_irrefl _
theorem slt_trans {a b c : ByteArray} (h : slt a b) (k : slt b c) : slt a c := List.lt_trans h k
theorem slt_asymm {a b : ByteArray} (h : slt a b) : ¬ slt b a := fun k => slt_irrefl a (slt_trans h k)
theorem slt_tri (a b : ByteArray) : slt a b ∨ a = b ∨ slt b a := by
  by_cases h : slt a b
  · exact Or.inl h
  · by_cases h2 : slt b a
    · exact Or.inr (Or.inr h2)
    · refine Or.inr (Or.inl (ByteArray.ext (Array.toList_inj.1 ?_)))
      exact List.le_antisymm (List.not_lt.1 h2) (List.not_lt.1 h)
theorem slt_of_not {a b : ByteArray} (h : ¬ slt a b) (hne : ¬ a = b) : slt b a := (slt_tri a b).resolve_left h |>.resolve_left hne
theorem slt_le_trans {a b c : ByteArray} (h : slt a b) (k : ¬ slt c b) : slt a c := by
  rcases slt_tri b c with h1 | h1 | h1
  · exact slt_trans h h1
  · exact h1 ▸ h
  · exact absurd h1 k
theorem le_slt_trans {a b c : ByteArray} (h : ¬ slt b a) (k : slt b c) : slt a c := by
  rcases slt_tri a b with h1 | h1 | h1
  · exact slt_trans h1 k
  · exact h1 ▸ k
  · exact absurd h1 h
theorem bytesLess_eq : ∀ (x y : List UInt8), Op.bytesLess x y = decide (x < y)
  | [], [] => by simp [Op.bytesLess]
  | _ :: _, [] => by simp [Op.bytesLess]
  | [], _ :: _ => by simp [Op.bytesLess]
  | a :: x, b :: y => by
    rw [Op.bytesLess, bytesLess_eq x y]
    simp only [List.cons_lt_cons_iff]
    by_cases h1 : a < b <;> by_cases h2 : a = b <;> by_cases h3 : x < y <;> simp [h1, h2, h3]
theorem bl_slt (a b : ByteArray) : Op.bytesLess a.toList b.toList = decide (slt a b) := by
  rw [bytesLess_eq, ByteArray.toList_eq, ByteArray.toList_eq]; rfl

theorem ri {k : IntKind} {a b : Int} (h : a = b) : Ending.returned (.int k a) = .returned (.int k b) := by rw [h]
theorem rb {a b : Bool} (h : a = b) : Ending.returned (.bool a) = .returned (.bool b) := by rw [h]
theorem rs {a b : ByteArray} (h : a = b) : Ending.returned (.string a) = .returned (.string b) := by rw [h]

section
variable {P : Program} {n : Nm} {E : Env} {C : World → Prop} {d : Option Nat} {ty : TypeId} {pos : String} {aft : Array Edge} {g : Option (Nat × Bool)}
section
variable {T U : TypeId} {x y : Operand} {a b : ByteArray} (hx : ev E x = some (.string a)) (hy : ev E y = some (.string b))
include hx hy
theorem v_slss : Val P n E ⟨d, .binOp .lss T x y U, ty, pos, aft, g⟩ C (.bool (decide (slt a b))) := v_str hx hy (by simp only [strOp]; rw [bl_slt])
theorem v_sgtr : Val P n E ⟨d, .binOp .gtr T x y U, ty, pos, aft, g⟩ C (.bool (decide (slt b a))) := v_str hx hy (by
  simp only [strOp]; rw [bl_slt, str_beq, ← Bool.decide_or, ← decide_not]
  congr 2
  rw [decide_eq_decide]
  constructor
  · intro h; exact slt_of_not (fun k => h (Or.inl k)) (fun k => h (Or.inr k))
  · rintro h (k | k)
    · exact slt_asymm h k
    · subst k; exact slt_irrefl _ h)
theorem v_sleq : Val P n E ⟨d, .binOp .leq T x y U, ty, pos, aft, g⟩ C (.bool (decide (¬ slt b a))) := v_str hx hy (by
  simp only [strOp]; rw [bl_slt, str_beq, ← Bool.decide_or]
  congr 2
  rw [decide_eq_decide]
  constructor
  · rintro (k | k) h
    · exact slt_asymm h k
    · subst k; exact slt_irrefl _ h
  · intro h
    rcases slt_tri a b with k | k | k
    · exact Or.inl k
    · exact Or.inr k
    · exact absurd k h)
theorem v_sgeq : Val P n E ⟨d, .binOp .geq T x y U, ty, pos, aft, g⟩ C (.bool (decide (¬ slt a b))) := v_str hx hy (by simp only [strOp]; rw [bl_slt, decide_not])
end

theorem v_max {x y : Operand} {a b : Int} {k : IntKind} {ts : Array TypeId} (hx : ev E x = some (.int k a)) (hy : ev E y = some (.int k b)) :
    Val P n E ⟨d, .call { callee := .builtin .max, args := #[x, y], argTypes := ts }, ty, pos, aft, g⟩ C (.int k (if b > a then b else a)) := by
  intro f w ha _
  simp only [execOp]
  simp [resolve, ha.ev hx, ha.ev hy, invoke, builtin, Builtin.max_, Builtin.max2]
theorem v_min {x y : Operand} {a b : Int} {k : IntKind} {ts : Array TypeId} (hx : ev E x = some (.int k a)) (hy : ev E y = some (.int k b)) :
    Val P n E ⟨d, .call { callee := .builtin .min, args := #[x, y], argTypes := ts }, ty, pos, aft, g⟩ C (.int k (if b < a then b else a)) := by
  intro f w ha _
  simp only [execOp]
  simp [resolve, ha.ev hx, ha.ev hy, invoke, builtin, Builtin.min_, Builtin.min2]
/-- A field of a struct's value. -/
def FieldOf (P : Program) (T f : Nat) (cs : Array Value) (v : Value) : Prop := ∀ w : World, (Instr.field T (.agg cs) f).run P w = .ok v w
theorem FieldOf.mk {T f : Nat} {fs : Array Field} {fd : Field} {cs : Array Value} {v : Value} (hT : P.underlying T = some (.struct fs)) (hf : fs[f]? = some fd) (h1 : Ty1 P fd.type) (hv : cs[fd.offset]? = some v) : FieldOf P T f cs v := by
  intro w
  simp [Instr.field, run_underlying hT, hf, part, h1.agg, asAgg, hv]
theorem v_field {T f : Nat} {x : Operand} {cs : Array Value} {v : Value} (hx : ev E x = some (.agg cs)) (hf : FieldOf P T f cs v) : Val P n E ⟨d, .field T x f, ty, pos, aft, g⟩ C v := by
  intro a w ha _
  simp only [execOp, ha.ev hx]
  simp [hf w]
theorem v_sliceLH {T e z : Nat} {x lo hi : Operand} {A : Option Addr} {l c : Nat} {p q : Int} (hT : P.underlying T = some (.slice e)) (hz : ∀ w, (sizeOf e).run P w = .ok z w)
    (hx : ev E x = some (.slice A l c)) (hl : ev E lo = some (.int .i64 p)) (hh : ev E hi = some (.int .i64 q)) (h0 : 0 ≤ p) (h1 : p ≤ q) (h2 : q ≤ c) :
    Val P n E ⟨d, .slice T x (some lo) (some hi) none, ty, pos, aft, g⟩ C (.slice (fromA A c p.toNat z) (q.toNat - p.toNat) (c - p.toNat)) := by
  intro f w ha _
  have hz := hz w
  have h4 : p ≤ (q.toNat : Int) := by omega
  have h5 : 0 ≤ q := by omega
  simp only [execOp, ha.ev hx]
  simp [Instr.sliceAt, Instr.slice, Instr.sliceBounds, Instr.sliceBound, asIntOf, run_underlying hT, ha.ev hl, ha.ev hh, h0, h2, h4, h5, hz]
  rw [if_pos (by omega)]
  cases A with
  | none => simp [fromA]
  | some ad => simp only [fromA, Option.map_some]; split <;> rfl
end

section
variable {P : Program} {K : Act → World → Prop} {X : Exit → Act → World → Prop} {n : Nm} {E : Env} {w w0 : World} {S : Nat → Prop} {L : List Ent} {ops : Array Oper} {rest : List Oper} {d : Nat} {ty : TypeId} {pos : String} {aft : Array Edge}

/-- append onto a slice without room that nobody turns: what comes is a slice that nobody turns; it is new, or (if nothing comes to it) the old one. -/
theorem l_appendG {T tx e size bytes : Nat} {x y : Operand} {A A0 : Option Addr} {u : Value} {m l : Nat} {xs news xs0 : List Value} (i : Nat) (hS : St S w0 w L) (hi : L[i]? = some (.lies A0 xs0)) (hsub : ∀ b, liesF A xs b → liesF A0 xs0 b) (hT : P.underlying T = some (.slice e)) (hE : Elem P e size bytes)
    (hx : ev E x = some (.slice A m m)) (hy : ev E y = some u) (ho : Lies w A xs) (hl : xs.length = m * size) (hs : Src P size tx u l news w)
    (h63 : m + l ≤ maxLen) (hb : (m + l) * bytes ≤ 140737488355328) (hd : Nat.blt d n.n = true)
    (k : ∀ A' c' w', St S w0 w' (.lies A' (xs ++ news) :: L) → m + l ≤ c' → (∀ b, liesF A' (xs ++ news) b → w.heap.size ≤ b ∨ liesF A0 xs0 b) → WL P K X n ((d, .slice A' (m + l) c') :: E) ops rest w') :
    WL P K X n E ops (⟨some d, .call { callee := .builtin .append, args := #[x, y], argTypes := #[T, tx] }, ty, pos, aft, none⟩ :: rest) w := by
  have hA : A = none → m = 0 := fun e => by
    subst e
    rcases ho with h1 | ⟨ad, h1, -⟩
    · rw [h1] at hl
      rcases Nat.mul_eq_zero.1 (show m * size = 0 by simpa using hl.symm) with h2 | h2
      · exact h2
      · exact absurd hE.pos (by omega)
    · cases h1
  by_cases h0 : l = 0
  · subst h0
    have hn : news = [] := List.eq_nil_of_length_eq_zero (by simpa using hs.newsLen)
    subst hn
    refine l_append0 (e := e) hT hE hx hy (fun _ => Or.inr trivial) (Nat.le_refl _) hs hd hA ?_
    refine k A m w ?_ (Nat.le_refl _) (fun b hb => Or.inr (hsub b (by simpa using hb)))
    rw [List.append_nil]
    exact hS.gain (Keep.refl No w) ho (As := [(A0, xs0)]) (fun b hb => Or.inr ⟨_, List.mem_singleton.2 rfl, hsub b hb⟩) (fun p hp => by rw [List.mem_singleton.1 hp]; exact List.mem_of_getElem? hi)
  · refine l_appendFN hS hT hE hx hy ho hl hs (by omega) h63 hb hd fun v' w' hS' hne hfr => ?_
    have hr := hS'.rowAt 0 rfl
    obtain ⟨A', c', rfl⟩ := row_form hr
    refine k A' c' w' (hS'.freeze 0 rfl) ?_ ?_
    · rcases hr.2 with ⟨e1, e2⟩ | ⟨g, cap, cur, e1, -, -, h2, -⟩
      · exact absurd e1 hne
      · cases e1; exact h2
    · rintro b ⟨-, ad, rfl, rfl⟩
      exact Or.inl (hfr _ rfl)
end

/-! ### Steps whose outcome is told outright: memory stays written out -/

def nth {α : Type} : List α → Nat → Option α
  | [], _ => none
  | a :: _, 0 => some a
  | _ :: r, n + 1 => nth r n
theorem nth_eq {α : Type} : ∀ (l : List α) (n : Nat), nth l n = l[n]?
  | [], n => by simp [nth]
  | a :: r, 0 => rfl
  | a :: r, n + 1 => by rw [nth, nth_eq r n]; rfl
theorem St.cellX {S : Nat → Prop} {w0 w : World} {L : List Ent} (h : St S w0 w L) (i : Nat) {b k : Nat} {cs : Array Value} {T : TypeId} {fz : Nat × Nat} {v : Value}
    (hi : nth L i = some (.blk b (.cells cs T fz))) (hk : nth cs.toList k = some v) : w.cell? ⟨b, k, none⟩ = some v :=
  h.cell i (by rw [← nth_eq]; exact hi) (by rw [nth_eq] at hk; simpa using hk)
theorem St.rowX {S : Nat → Prop} {w0 w : World} {L : List Ent} (h : St S w0 w L) (i : Nat) {b : Nat} {cs : Array Value} {T : TypeId} {fz : Nat × Nat}
    (hi : nth L i = some (.blk b (.cells cs T fz))) : ∀ j v, cs.toList[j]? = some v → w.cell? ((⟨b, 0, none⟩ : Addr).add j) = some v := h.row i (by rw [← nth_eq]; exact hi)
section
variable {P : Program} {K : Act → World → Prop} {X : Exit → Act → World → Prop} {n : Nm} {E : Env} {w w0 : World} {S : Nat → Prop} {L L' : List Ent} {ops : Array Oper} {rest : List Oper} {d : Nat} {ty : TypeId} {pos : String} {aft : Array Edge}
theorem l_storeX {T U : TypeId} {x y : Operand} {b o : Nat} {cs cs' : Array Value} {v : Value} (i : Nat) (hS : St S w0 w L) (hT : Ty1 P T) (hi : nth L i = some (.blk b (.cells cs U (0, 0)))) (ho : Nat.blt o cs.size = true)
    (hx : ev E x = some (.pointer (some ⟨b, o, none⟩))) (hy : ev E y = some v) (hv : v.oneCell' = true) (hcs : cs.setIfInBounds o v = cs') (hL : L.set i (.blk b (.cells cs' U (0, 0))) = L')
    (k : ∀ w', St S w0 w' L' → WL P K X n E ops rest w') : WL P K X n E ops (⟨none, .store T x y, ty, pos, aft, none⟩ :: rest) w := by
  subst hcs; subst hL
  exact l_store i hS hT (by rw [← nth_eq]; exact hi) ho hx hy hv k
theorem l_storeNX {T U m : TypeId} {x y : Operand} {b o : Nat} {cs cs' vs : Array Value} (i : Nat) (hS : St S w0 w L) (hT : TyN P T m) (hi : nth L i = some (.blk b (.cells cs U (0, 0)))) (ho : Nat.ble (o + vs.size) cs.size = true)
    (hx : ev E x = some (.pointer (some ⟨b, o, none⟩))) (hy : ev E y = some (.agg vs)) (hm : vs.size = m) (hv : ones vs.toList = true) (hcs : setFrom cs o vs.toList = cs') (hL : L.set i (.blk b (.cells cs' U (0, 0))) = L')
    (k : ∀ w', St S w0 w' L' → WL P K X n E ops rest w') : WL P K X n E ops (⟨none, .store T x y, ty, pos, aft, none⟩ :: rest) w := by
  subst hcs; subst hL
  exact l_storeN i hS hT (by rw [← nth_eq]; exact hi) ho hx hy hm hv k
theorem l_appendX {T e size bytes : Nat} {x y : Operand} {v : Value} {m : Nat} {xs : List Value} {ad : Addr} {l c : Nat} {news : List Value} (i : Nat) (hS : St S w0 w L) (hT : P.underlying T = some (.slice e)) (hE : Elem P e size bytes)
    (hi : nth L i = some (.row e size v m xs)) (hx : ev E x = some v) (hy : ev E y = some (.slice (some ad) l c)) (hl : news.length = l * size) (hnews : ∀ j u, news[j]? = some u → w.cell? (ad.add j) = some u) (h1 : ∀ u ∈ news, u.oneCell' = true)
    (h63 : m + l ≤ maxLen) (hb : (m + l) * bytes ≤ 140737488355328) (hd : Nat.blt d n.n = true) {L' : Value → List Ent} (hL : ∀ v', L.set i (.row e size v' (m + l) (xs ++ news)) = L' v')
    (k : ∀ v' w', St S w0 w' (L' v') → (v' = .slice none 0 0 ↔ v = .slice none 0 0 ∧ l = 0) → WL P K X n ((d, v') :: E) ops rest w') :
    WL P K X n E ops (⟨some d, .call { callee := .builtin .append, args := #[x, y], argTypes := #[T, T] }, ty, pos, aft, none⟩ :: rest) w :=
  l_append i hS hT hE (by rw [← nth_eq]; exact hi) hx hy hl hnews h1 h63 hb hd fun v' w' h h2 => k v' w' (by rw [← hL]; exact h) h2
end
section
variable {P : Program} {n : Nm} {E : Env} {C : World → Prop} {d : Option Nat} {ty : TypeId} {pos : String} {aft : Array Edge} {g : Option (Nat × Bool)}
theorem v_loadW {T k : TypeId} {x : Operand} {ad : Addr} {cs : Array Value} (hT : TyN P T k) (hk : cs.size = k) (hx : ev E x = some (.pointer (some ad))) (hr : ∀ w, C w → ∀ j v, cs.toList[j]? = some v → w.cell? (ad.add j) = some v) :
    Val P n E ⟨d, .load T x, ty, pos, aft, g⟩ C (.agg cs) := by
  have := v_loadN (n := n) (E := E) (C := C) (d := d) (ty := ty) (pos := pos) (aft := aft) (g := g) (cs := cs.toList) hT (by simpa using hk) hx hr
  simpa using this
theorem v_fieldX {T i off b o o' : Nat} {x : Operand} (hT : FieldAt P T i off) (hx : ev E x = some (.pointer (some ⟨b, o, none⟩))) (ho : o + off = o') :
    Val P n E ⟨d, .fieldAddr T x i, ty, pos, aft, g⟩ C (.pointer (some ⟨b, o', none⟩)) := by
  have := v_fieldAddr (n := n) (E := E) (C := C) (d := d) (ty := ty) (pos := pos) (aft := aft) (g := g) hT hx
  have e : (⟨b, o, none⟩ : Addr).add off = ⟨b, o', none⟩ := by subst ho; unfold Addr.add; split <;> simp_all
  rwa [e] at this
theorem v_nilCheck {x : Operand} {ad : Addr} (hx : ev E x = some (.pointer (some ad))) : Val P n E ⟨d, .nilCheck x, ty, pos, aft, g⟩ C (.pointer (some ad)) := by
  intro a w ha _
  simp only [execOp, ha.ev hx]
  rfl
theorem v_extractX {x : Operand} {i : Nat} {vs : Array Value} {v : Value} (hx : ev E x = some (.tuple vs)) (hi : nth vs.toList i = some v) :
    Val P n E ⟨d, .extract x i, ty, pos, aft, g⟩ C v := v_extract hx (by rw [nth_eq] at hi; simpa using hi)
end

/-! ### A slice of elements of several cells -/

def catC : List Value → List Value
  | [] => []
  | v :: r => v.cells.toList ++ catC r
theorem fold_set (o : Nat) : ∀ (us : List Value) (j : Nat) (A : Array Value), o + j + us.length ≤ A.size →
    (us.zipIdx j).foldl (fun cs (p : Value × Nat) => cs.setIfInBounds (o + p.2) p.1) A = (A.toList.take (o + j) ++ us ++ A.toList.drop (o + j + us.length)).toArray
  | [], j, A, h => by
    simp only [List.zipIdx_nil, List.foldl_nil, List.append_nil, List.length_nil, Nat.add_zero, List.take_append_drop]
  | u :: r, j, A, h => by
    simp only [List.length_cons] at h
    simp only [List.zipIdx_cons, List.foldl_cons]
    rw [fold_set o r (j + 1) _ (by simp; omega)]
    congr 1
    have hs : (A.setIfInBounds (o + j) u).toList = A.toList.take (o + j) ++ u :: A.toList.drop (o + j + 1) := by
      rw [Array.toList_setIfInBounds, List.set_eq_take_append_cons_drop, if_pos (by rw [Array.length_toList]; omega)]
    have hl : (A.toList.take (o + j) ++ [u]).length = o + (j + 1) := by rw [List.length_append, List.length_take, Array.length_toList, List.length_singleton]; omega
    have hs2 : (A.setIfInBounds (o + j) u).toList = (A.toList.take (o + j) ++ [u]) ++ A.toList.drop (o + j + 1) := by rw [hs]; simp
    rw [hs2, List.take_left' hl, ← List.drop_drop, List.drop_left' hl, List.drop_drop]
    simp only [List.append_assoc, List.cons_append, List.nil_append]
    rw [List.length_cons, show o + j + 1 + r.length = o + j + (r.length + 1) by omega]
theorem catC_len {size : Nat} : ∀ {vs : List Value}, (∀ v ∈ vs, v.cells.size = size) → (catC vs).length = vs.length * size
  | [], _ => by simp [catC]
  | v :: r, h => by
    simp only [catC, List.length_append, Array.length_toList, h v List.mem_cons_self, catC_len fun u hu => h u (List.mem_cons_of_mem _ hu), List.length_cons, Nat.add_mul]
    omega
theorem fill_cat {size : Nat} : ∀ (vs : List Value) (o : Nat) (A : Array Value), (∀ v ∈ vs, v.cells.size = size) → (o + vs.length) * size = A.size →
    Instr.fill (fun i => some (i * size, size)) A ((vs.zipIdx o).map fun (v, i) => (i, v)) = some (A.toList.take (o * size) ++ catC vs).toArray
  | [], o, A, _, h => by
    simp only [List.zipIdx_nil, List.map_nil, Instr.fill, catC, List.append_nil]
    rw [List.take_of_length_le (by simp at h ⊢; omega)]
  | v :: r, o, A, h1, h => by
    simp only [List.length_cons] at h
    have hv := h1 v List.mem_cons_self
    have hlen : o * size + size + r.length * size = A.size := by rw [← h, Nat.add_mul, Nat.add_mul]; omega
    simp only [List.zipIdx_cons, List.map_cons, Instr.fill]
    rw [if_neg (by simp [hv]; omega)]
    have e : v.cells.zipIdx.foldl (fun cs (x : Value × Nat) => cs.setIfInBounds (o * size + x.2) x.1) A = (A.toList.take (o * size) ++ v.cells.toList ++ A.toList.drop (o * size + size)).toArray := by
      rw [← Array.foldl_toList, Array.toList_zipIdx]
      have := fold_set (o * size) v.cells.toList 0 A (by rw [Array.length_toList, hv]; omega)
      rw [Array.length_toList, hv, Nat.add_zero] at this
      exact this
    rw [e, fill_cat r (o + 1) _ (fun u hu => h1 u (List.mem_cons_of_mem _ hu)) (by simp [hv]; rw [show (o + 1 + r.length) * size = o * size + size + r.length * size by rw [Nat.add_mul, Nat.add_mul]; omega]; omega)]
    congr 2
    rw [List.toList_toArray, List.take_append_of_le_length (by simp [hv]; rw [show (o + 1) * size = o * size + size by rw [Nat.add_mul]; omega]; omega)]
    rw [List.take_of_length_le (by simp [hv]; rw [show (o + 1) * size = o * size + size by rw [Nat.add_mul]; omega]; omega)]
    simp [catC]
section
variable {P : Program} {K : Act → World → Prop} {X : Exit → Act → World → Prop} {n : Nm} {E : Env} {w w0 : World} {S : Nat → Prop} {L : List Ent} {ops : Array Oper} {rest : List Oper} {d : Nat} {ty : TypeId} {pos : String} {aft : Array Edge}
theorem l_sliceM {T e len size : Nat} {xs : List Operand} {vs : List Value} {z : Value} {parts : Array (Nat × Operand)} {cs : Array Value} (hS : St S w0 w L) (hT : P.underlying T = some (.slice e)) (hz : ∀ w, (sizeOf e).run P w = .ok size w) (hze : Zero P e z) (hsz : Nat.ble (len * size) 16777216 = true) (hpos : Nat.beq (len * size) 0 = false)
    (hp : parts = ((xs.zipIdx).map fun (x, i) => (i, x)).toArray) (hx : evs E xs = some vs) (hc : vs.all (fun v => Nat.beq v.cells.size size) = true) (hlen : len = vs.length) (hcs : (catC vs).toArray = cs) (hd : Nat.blt d n.n = true)
    (k : ∀ b w', St S w0 w' (.blk b (.cells cs e (0, 0)) :: L) → WL P K X n ((d, .slice (some ⟨b, 0, none⟩) len len) :: E) ops rest w') :
    WL P K X n E ops (⟨some d, .buildSlice T len parts, ty, pos, aft, none⟩ :: rest) w := by
  subst hcs
  refine l_eff (w' := w.alloc (.cells (catC vs).toArray e (0, 0))) (fun a ha => ?_) hd (k w.heap.size _ (hS.alloc _))
  have hsz' : len * size ≤ 16777216 := Nat.le_of_ble_eq_true hsz
  have hpos' : len * size ≠ 0 := fun h => by rw [h] at hpos; simp at hpos
  have hc' : ∀ v ∈ vs, v.cells.size = size := fun v hv => Nat.eq_of_beq_eq_true (List.all_eq_true.1 hc v hv)
  have hm := evs_map ha hx
  have hparts : (parts.map fun (i, x) => (i, a.eval x)).toList = (vs.zipIdx 0).map fun (v, i) => (i, v) := by
    subst hp
    rw [← hm]
    simp only [Array.toList_map, List.map_map, List.zipIdx_map]
    rfl
  have hf := fill_cat (size := size) vs 0 ((Array.range (len * size)).map (z.cells[· % z.cells.size]!)) hc' (by simp [hlen])
  simp only [Nat.zero_mul, List.take_zero, List.nil_append] at hf
  rw [← hparts] at hf
  simp only [execOp]
  simp only [Instr.buildSlice, Sem.run_bind, run_underlying hT, Result.andThen_ok, hz w, hze w, newRow]
  rw [if_neg (by omega), if_neg (by omega)]
  simp only [Sem.run_pure, Sem.run_bind, hze w, Result.andThen_ok]
  rw [hf]
  simp
end
end Go.Proofs.Ytndchgmgcjebiaa.E
