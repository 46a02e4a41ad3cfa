/- One lemma an operation that turns nothing: what it yields. No program in sight. -/
import Derived.Test.YtndchgmgcjebiaaEng
namespace Go.Proofs.Ytndchgmgcjebiaa.E
open Go Go.RowKit

/-- A type of one cell; of k cells. -/
structure Ty1 (P : Program) (T : TypeId) : Prop where
  agg : ∀ w, (isAgg T).run P w = .ok false w
  size : ∀ w, (sizeOf T).run P w = .ok 1 w
structure TyN (P : Program) (T : TypeId) (k : Nat) : Prop where
  agg : ∀ w, (isAgg T).run P w = .ok true w
  size : ∀ w, (sizeOf T).run P w = .ok k w
/-- The value that a variable of a type begins with. -/
def Zero (P : Program) (T : TypeId) (z : Value) : Prop := ∀ w, (zeroValue T).run P w = .ok z w
/-- A field lies so many cells behind its struct's first. -/
def FieldAt (P : Program) (T f off : Nat) : Prop := ∀ (w : World) (a : Addr), (Instr.fieldAt T (.pointer (some a)) f).run P w = .ok (.pointer (some (a.add off))) w

section
variable {P : Program} {n : Nm} {E : Env} {C : World → Prop} {d : Option Nat} {ty : TypeId} {pos : String} {aft : Array Edge} {g : Option (Nat × Bool)}

theorem v_move {x : Operand} {v : Value} (hx : ev E x = some v) : Val P n E ⟨d, .move x, ty, pos, aft, g⟩ C v := by
  intro a w ha _
  simp only [execOp, ha.ev hx]; rfl
theorem v_assign {x : Operand} {v : Value} (hx : ev E x = some v) : Val P n E ⟨d, .assign x, ty, pos, aft, g⟩ C v := by
  intro a w ha _
  simp only [execOp, ha.ev hx]; rfl
theorem v_pick {c x y : Operand} {b : Bool} {u v : Value} (hc : ev E c = some (.bool b)) (hx : ev E x = some u) (hy : ev E y = some v) :
    Val P n E ⟨d, .pick c x y, ty, pos, aft, g⟩ C (bif b then u else v) := by
  intro a w ha _
  simp only [execOp, ha.ev hc, ha.ev hx, ha.ev hy]
  cases b <;> rfl
theorem v_pickT {c x y : Operand} {u : Value} (hc : ev E c = some (.bool true)) (hx : ev E x = some u) :
    Val P n E ⟨d, .pick c x y, ty, pos, aft, g⟩ C u := by
  intro a w ha _
  simp only [execOp, ha.ev hc, ha.ev hx]; rfl
theorem v_pickF {c x y : Operand} {u : Value} (hc : ev E c = some (.bool false)) (hy : ev E y = some u) :
    Val P n E ⟨d, .pick c x y, ty, pos, aft, g⟩ C u := by
  intro a w ha _
  simp only [execOp, ha.ev hc, ha.ev hy]; rfl
/-- 'x && y', 'x || y' of two Bools. -/
theorem v_and {c x : Operand} {b u : Bool} (hc : ev E c = some (.bool b)) (hx : b = true → ev E x = some (.bool u)) :
    Val P n E ⟨d, .pick c x (.const (.bool false)), ty, pos, aft, g⟩ C (.bool (b && u)) := by
  intro a w ha _
  simp only [execOp, ha.ev hc]
  cases b with
  | true => rw [ha.ev (hx rfl)]; rfl
  | false => rfl
theorem v_or {c x : Operand} {b u : Bool} (hc : ev E c = some (.bool b)) (hx : b = false → ev E x = some (.bool u)) :
    Val P n E ⟨d, .pick c (.const (.bool true)) x, ty, pos, aft, g⟩ C (.bool (b || u)) := by
  intro a w ha _
  simp only [execOp, ha.ev hc]
  cases b with
  | false => rw [ha.ev (hx rfl)]; rfl
  | true => rfl
theorem v_extract {x : Operand} {i : Nat} {vs : Array Value} {v : Value} (hx : ev E x = some (.tuple vs)) (hi : vs[i]? = some v) :
    Val P n E ⟨d, .extract x i, ty, pos, aft, g⟩ C v := by
  intro a w ha _
  simp only [execOp, ha.ev hx]
  simp [Instr.extract, hi]

/-- What an operation on two integers of one kind yields. -/
def intOp (op : BinOp) (k : IntKind) (a b : Int) : Option Value :=
  match op with
  | .add => some (.int k (k.wrap (a + b)))
  | .sub => some (.int k (k.wrap (a - b)))
  | .mul => some (.int k (k.wrap (a * b)))
  | .and => some (.int k (bits .and k a b))
  | .or => some (.int k (bits .or k a b))
  | .xor => some (.int k (bits .xor k a b))
  | .andNot => some (.int k (bits .andNot k a b))
  | .eql => some (.bool (a == b))
  | .neq => some (.bool (a != b))
  | .lss => some (.bool (decide (a < b)))
  | .leq => some (.bool (decide (a ≤ b)))
  | .gtr => some (.bool (decide (a > b)))
  | .geq => some (.bool (decide (a ≥ b)))
  | _ => none

theorem run_intOp {op : BinOp} {k : IntKind} {a b : Int} {v : Value} {T : TypeId} (h : intOp op k a b = some v) (w : World) : (binOp op T (.int k a) (.int k b)).run P w = .ok v w := by
  cases op <;> simp only [intOp, Option.some.injEq, reduceCtorEq] at h <;> (try subst h) <;> simp [binOp, Op.intArith, Op.intBits, Op.intCmp, bits]
  all_goals first | rfl | contradiction | skip

theorem run_guard_int {op : BinOp} {T : TypeId} {x y : Operand} {k k' : IntKind} {a b : Int} (w : World) : (eqGuard op T x y (.int k a) (.int k' b)).run P w = .ok () w := by
  cases op <;> rfl

theorem v_int {op : BinOp} {T U : TypeId} {x y : Operand} {k : IntKind} {a b : Int} {v : Value} (hx : ev E x = some (.int k a)) (hy : ev E y = some (.int k b)) (hv : intOp op k a b = some v) :
    Val P n E ⟨d, .binOp op T x y U, ty, pos, aft, g⟩ C v := by
  intro f w ha _
  simp only [execOp, ha.ev hx, ha.ev hy]
  simp [run_guard_int, run_intOp hv]

/-- A shift to the right, to the left, by a known number that is not below zero. -/
theorem v_shr {T U : TypeId} {x y : Operand} {k k' : IntKind} {a b : Int} (hx : ev E x = some (.int k a)) (hy : ev E y = some (.int k' b)) (hb : 0 ≤ b) :
    Val P n E ⟨d, .binOp .shr T x y U, ty, pos, aft, g⟩ C (.int k (a.fdiv (2 ^ min b.toNat k.bits))) := by
  intro f w ha _
  simp only [execOp, ha.ev hx, ha.ev hy]
  simp [run_guard_int, binOp, Op.shift, Int.not_lt.2 hb]
theorem v_shl {T U : TypeId} {x y : Operand} {k k' : IntKind} {a b : Int} (hx : ev E x = some (.int k a)) (hy : ev E y = some (.int k' b)) (hb : 0 ≤ b) :
    Val P n E ⟨d, .binOp .shl T x y U, ty, pos, aft, g⟩ C (.int k (k.wrap (a * 2 ^ min b.toNat k.bits))) := by
  intro f w ha _
  simp only [execOp, ha.ev hx, ha.ev hy]
  simp [run_guard_int, binOp, Op.shift, Int.not_lt.2 hb]
theorem v_quo {T U : TypeId} {x y : Operand} {k : IntKind} {a b : Int} (hx : ev E x = some (.int k a)) (hy : ev E y = some (.int k b)) (hb : b ≠ 0) :
    Val P n E ⟨d, .binOp .quo T x y U, ty, pos, aft, g⟩ C (.int k (k.wrap (a.tdiv b))) := by
  intro f w ha _
  simp only [execOp, ha.ev hx, ha.ev hy]
  simp [run_guard_int, binOp, Op.intDiv, hb]
theorem v_rem {T U : TypeId} {x y : Operand} {k : IntKind} {a b : Int} (hx : ev E x = some (.int k a)) (hy : ev E y = some (.int k b)) (hb : b ≠ 0) :
    Val P n E ⟨d, .binOp .rem T x y U, ty, pos, aft, g⟩ C (.int k (a.tmod b)) := by
  intro f w ha _
  simp only [execOp, ha.ev hx, ha.ev hy]
  simp [run_guard_int, binOp, Op.intDiv, hb]

/-- What an operation on two strings yields. -/
def strOp (op : BinOp) (a b : ByteArray) : Option Value :=
  match op with
  | .eql => some (.bool (a.toList == b.toList))
  | .neq => some (.bool (!(a.toList == b.toList)))
  | .lss => some (.bool (Op.bytesLess a.toList b.toList))
  | .leq => some (.bool (Op.bytesLess a.toList b.toList || a.toList == b.toList))
  | .gtr => some (.bool (!(Op.bytesLess a.toList b.toList || a.toList == b.toList)))
  | .geq => some (.bool (!Op.bytesLess a.toList b.toList))
  | _ => none
theorem v_str {op : BinOp} {T U : TypeId} {x y : Operand} {a b : ByteArray} {v : Value} (hx : ev E x = some (.string a)) (hy : ev E y = some (.string b)) (hv : strOp op a b = some v) :
    Val P n E ⟨d, .binOp op T x y U, ty, pos, aft, g⟩ C v := by
  intro f w ha _
  simp only [execOp, ha.ev hx, ha.ev hy]
  cases op <;> simp only [strOp, Option.some.injEq, reduceCtorEq] at hv <;> subst hv <;> simp [eqGuard, binOp, Op.stringOp]
theorem v_cat {T U : TypeId} {x y : Operand} {a b : ByteArray} (hx : ev E x = some (.string a)) (hy : ev E y = some (.string b)) (hs : a.size + b.size ≤ 9223372036854775807) :
    Val P n E ⟨d, .binOp .add T x y U, ty, pos, aft, g⟩ C (.string (a ++ b)) := by
  intro f w ha _
  simp only [execOp, ha.ev hx, ha.ev hy]
  simp [eqGuard, binOp, Op.stringOp]
  omega
theorem v_not {T : TypeId} {x : Operand} {b : Bool} (hx : ev E x = some (.bool b)) : Val P n E ⟨d, .unOp .not T x, ty, pos, aft, g⟩ C (.bool (!b)) := by
  intro f w ha _
  simp only [execOp, ha.ev hx]; rfl
theorem v_neg {T : TypeId} {x : Operand} {k : IntKind} {a : Int} (hx : ev E x = some (.int k a)) : Val P n E ⟨d, .unOp .neg T x, ty, pos, aft, g⟩ C (.int k (k.wrap (-a))) := by
  intro f w ha _
  simp only [execOp, ha.ev hx]
  simp [Op.unary, Op.intArith]
theorem run_eqBool {T : TypeId} (hT : P.underlying T = some .bool) (a b : Bool) (dd : Nat) (w : World) : (Op.equalIn (dd + 1) T (.bool a) (.bool b)).run P w = .ok (a == b) w := by
  simp [Op.equalIn, run_underlying hT]
theorem v_boolEq {T U : TypeId} {x y : Operand} {a b : Bool} (hT : P.underlying T = some .bool) (hx : ev E x = some (.bool a)) (hy : ev E y = some (.bool b)) : Val P n E ⟨d, .binOp .eql T x y U, ty, pos, aft, g⟩ C (.bool (a == b)) := by
  intro f w ha _
  simp only [execOp, ha.ev hx, ha.ev hy]
  simp [eqGuard, binOp, Op.equal, Op.maxDepth, run_eqBool hT a b 9999 w]
theorem v_boolNe {T U : TypeId} {x y : Operand} {a b : Bool} (hT : P.underlying T = some .bool) (hx : ev E x = some (.bool a)) (hy : ev E y = some (.bool b)) : Val P n E ⟨d, .binOp .neq T x y U, ty, pos, aft, g⟩ C (.bool (a != b)) := by
  intro f w ha _
  simp only [execOp, ha.ev hx, ha.ev hy]
  simp [eqGuard, binOp, Op.equal, Op.maxDepth, run_eqBool hT a b 9999 w]
  cases a <;> cases b <;> rfl

/-! ### Reading memory -/

theorem v_load {T : TypeId} {x : Operand} {ad : Addr} {v : Value} (hT : Ty1 P T) (hx : ev E x = some (.pointer (some ad))) (hr : ∀ w, C w → w.cell? ad = some v) :
    Val P n E ⟨d, .load T x, ty, pos, aft, g⟩ C v := by
  intro f w ha hw
  simp only [execOp, ha.ev hx, Instr.loadAt, Instr.sureAddr]
  simp [loadVar, hT.agg, hr w hw]
theorem v_loadN {T k : TypeId} {x : Operand} {ad : Addr} {cs : List Value} (hT : TyN P T k) (hk : cs.length = k) (hx : ev E x = some (.pointer (some ad))) (hr : ∀ w, C w → ∀ j v, cs[j]? = some v → w.cell? (ad.add j) = some v) :
    Val P n E ⟨d, .load T x, ty, pos, aft, g⟩ C (.agg cs.toArray) := by
  intro f w ha hw
  simp only [execOp, ha.ev hx, Instr.loadAt, Instr.sureAddr]
  have := run_loadCells_list (P := P) (w := w) ad cs (hr w hw)
  subst hk
  simp [loadVar, hT.agg, hT.size]
  rw [this]; rfl
theorem v_fieldAddr {T i off : Nat} {x : Operand} {ad : Addr} (hT : FieldAt P T i off) (hx : ev E x = some (.pointer (some ad))) :
    Val P n E ⟨d, .fieldAddr T x i, ty, pos, aft, g⟩ C (.pointer (some (ad.add off))) := by
  intro f w ha _
  simp only [execOp, ha.ev hx]
  simp [hT w ad]
theorem v_len {T U : TypeId} {x : Operand} {A : Option Addr} {l c : Nat} (hT : P.underlying T = some (.slice U)) (hx : ev E x = some (.slice A l c)) :
    Val P n E ⟨d, .call { callee := .builtin .len, args := #[x], argTypes := #[T] }, ty, pos, aft, g⟩ C (.int .i64 l) := by
  intro f w ha _
  simp only [execOp]
  simp [resolve, ha.ev hx, invoke, builtin, Builtin.len_, run_underlying hT, goInt]
theorem v_lenS {T : TypeId} {x : Operand} {s : ByteArray} (hT : P.underlying T = some .string) (hx : ev E x = some (.string s)) :
    Val P n E ⟨d, .call { callee := .builtin .len, args := #[x], argTypes := #[T] }, ty, pos, aft, g⟩ C (.int .i64 s.size) := by
  intro f w ha _
  simp only [execOp]
  simp [resolve, ha.ev hx, invoke, builtin, Builtin.len_, run_underlying hT, goInt]
theorem v_indexAddr {T U z l c : Nat} {x i : Operand} {ad : Addr} {q : Int} (hT : P.underlying T = some (.slice U)) (hz : ∀ w, (sizeOf U).run P w = .ok z w)
    (hx : ev E x = some (.slice (some ad) l c)) (hi : ev E i = some (.int .i64 q)) (h0 : 0 ≤ q) (h1 : q < l) :
    Val P n E ⟨d, .indexAddr T x i, ty, pos, aft, g⟩ C (.pointer (some (ad.add (q.toNat * z)))) := by
  intro f w ha _
  simp only [execOp, ha.ev hx, ha.ev hi]
  simp [Instr.indexAt, asIntOf, run_underlying hT, hz, h0, h1]
theorem v_indexAddrA {T U z m : Nat} {x i : Operand} {ad : Addr} {q : Int} {kk : IntKind} (hT : P.underlying T = some (.array m U)) (hz : ∀ w, (sizeOf U).run P w = .ok z w)
    (hx : ev E x = some (.pointer (some ad))) (hi : ev E i = some (.int kk q)) (h0 : 0 ≤ q) (h1 : q < m) :
    Val P n E ⟨d, .indexAddr T x i, ty, pos, aft, g⟩ C (.pointer (some (ad.add (q.toNat * z)))) := by
  intro f w ha _
  simp only [execOp, ha.ev hx, ha.ev hi]
  simp [Instr.indexAt, asIntOf, run_underlying hT, Instr.sureAddr, hz, h0, h1]
theorem v_byteAt {T : Nat} {x i : Operand} {s : ByteArray} {q : Int} (hT : P.underlying T = some .string)
    (hx : ev E x = some (.string s)) (hi : ev E i = some (.int .i64 q)) (h0 : 0 ≤ q) (h1 : q.toNat < s.size) :
    Val P n E ⟨d, .index T x i, ty, pos, aft, g⟩ C (.int .u8 (s[q.toNat]'h1).toNat) := by
  intro f w ha _
  simp only [execOp, ha.ev hx, ha.ev hi]
  simp [Instr.index, asIntOf, run_underlying hT, h0, h1]
theorem v_sliceS {T : Nat} {x lo hi : Operand} {s : ByteArray} {p q : Int} (hT : P.underlying T = some .string)
    (hx : ev E x = some (.string s)) (hl : ev E lo = some (.int .i64 p)) (hh : ev E hi = some (.int .i64 q)) (h0 : 0 ≤ p) (h1 : p ≤ q) (h2 : q ≤ s.size) :
    Val P n E ⟨d, .slice T x (some lo) (some hi) none, ty, pos, aft, g⟩ C (.string (s.extract p.toNat q.toNat)) := by
  intro f w ha _
  have h3 : 0 ≤ q := by omega
  have h4 : p ≤ (q.toNat : Int) := by omega
  simp only [execOp, ha.ev hx]
  simp [Instr.sliceAt, Instr.slice, Instr.sliceBounds, Instr.sliceBound, asIntOf, run_underlying hT, ha.ev hl, ha.ev hh, h0, h2, h3]
  intro h5; omega
theorem v_sliceSTo {T : Nat} {x hi : Operand} {s : ByteArray} {q : Int} (hT : P.underlying T = some .string)
    (hx : ev E x = some (.string s)) (hh : ev E hi = some (.int .i64 q)) (h0 : 0 ≤ q) (h2 : q ≤ s.size) :
    Val P n E ⟨d, .slice T x none (some hi) none, ty, pos, aft, g⟩ C (.string (s.extract 0 q.toNat)) := by
  intro f w ha _
  simp only [execOp, ha.ev hx]
  simp [Instr.sliceAt, Instr.slice, Instr.sliceBounds, Instr.sliceBound, asIntOf, run_underlying hT, ha.ev hh, h0, h2]
theorem v_sliceSFrom {T : Nat} {x lo : Operand} {s : ByteArray} {p : Int} (hT : P.underlying T = some .string)
    (hx : ev E x = some (.string s)) (hl : ev E lo = some (.int .i64 p)) (h0 : 0 ≤ p) (h1 : p ≤ s.size) :
    Val P n E ⟨d, .slice T x (some lo) none none, ty, pos, aft, g⟩ C (.string (s.extract p.toNat s.size)) := by
  intro f w ha _
  simp only [execOp, ha.ev hx]
  simp [Instr.sliceAt, Instr.slice, Instr.sliceBounds, Instr.sliceBound, asIntOf, run_underlying hT, ha.ev hl, h0, h1]

/-! ### In the forms that a walk wants -/

theorem here {w : World} {ad : Addr} {v : Value} (h : w.cell? ad = some v) : ∀ w', w' = w → w'.cell? ad = some v := fun _ e => e ▸ h
theorem hereN {w : World} {ad : Addr} {cs : List Value} (h : ∀ j v, cs[j]? = some v → w.cell? (ad.add j) = some v) : ∀ w', w' = w → ∀ j v, cs[j]? = some v → w'.cell? (ad.add j) = some v := fun _ e => e ▸ h

theorem v_add {T U : TypeId} {x y : Operand} {a b : Int} (hx : ev E x = some (.int .i64 a)) (hy : ev E y = some (.int .i64 b)) (h : -9223372036854775808 ≤ a + b ∧ a + b ≤ 9223372036854775807) :
    Val P n E ⟨d, .binOp .add T x y U, ty, pos, aft, g⟩ C (.int .i64 (a + b)) := v_int hx hy (by simp only [intOp]; rw [IntWalk.i64_in _ h])
theorem v_sub {T U : TypeId} {x y : Operand} {a b : Int} (hx : ev E x = some (.int .i64 a)) (hy : ev E y = some (.int .i64 b)) (h : -9223372036854775808 ≤ a - b ∧ a - b ≤ 9223372036854775807) :
    Val P n E ⟨d, .binOp .sub T x y U, ty, pos, aft, g⟩ C (.int .i64 (a - b)) := v_int hx hy (by simp only [intOp]; rw [IntWalk.i64_in _ h])
theorem v_mul {T U : TypeId} {x y : Operand} {a b : Int} (hx : ev E x = some (.int .i64 a)) (hy : ev E y = some (.int .i64 b)) (h : -9223372036854775808 ≤ a * b ∧ a * b ≤ 9223372036854775807) :
    Val P n E ⟨d, .binOp .mul T x y U, ty, pos, aft, g⟩ C (.int .i64 (a * b)) := v_int hx hy (by simp only [intOp]; rw [IntWalk.i64_in _ h])

section
variable {T U : TypeId} {x y : Operand} {k : IntKind} {a b : Int} (hx : ev E x = some (.int k a)) (hy : ev E y = some (.int k b))
include hx hy
theorem v_eql : Val P n E ⟨d, .binOp .eql T x y U, ty, pos, aft, g⟩ C (.bool (decide (a = b))) := v_int hx hy rfl
theorem v_eqlT (h : a = b) : Val P n E ⟨d, .binOp .eql T x y U, ty, pos, aft, g⟩ C (.bool true) := v_int hx hy (by simp only [intOp]; rw [beq_iff_eq.2 h])
theorem v_eqlF (h : ¬ a = b) : Val P n E ⟨d, .binOp .eql T x y U, ty, pos, aft, g⟩ C (.bool false) := v_int hx hy (by simp only [intOp]; rw [beq_eq_false_iff_ne.2 h])
theorem v_neq : Val P n E ⟨d, .binOp .neq T x y U, ty, pos, aft, g⟩ C (.bool (decide (¬ a = b))) := v_int hx hy (by simp only [intOp, bne]; rw [decide_not]; rfl)
theorem v_neqT (h : ¬ a = b) : Val P n E ⟨d, .binOp .neq T x y U, ty, pos, aft, g⟩ C (.bool true) := v_int hx hy (by simp only [intOp, bne]; rw [beq_eq_false_iff_ne.2 h]; rfl)
theorem v_neqF (h : a = b) : Val P n E ⟨d, .binOp .neq T x y U, ty, pos, aft, g⟩ C (.bool false) := v_int hx hy (by simp only [intOp, bne]; rw [beq_iff_eq.2 h]; rfl)
theorem v_lss : Val P n E ⟨d, .binOp .lss T x y U, ty, pos, aft, g⟩ C (.bool (decide (a < b))) := v_int hx hy rfl
theorem v_lssT (h : a < b) : Val P n E ⟨d, .binOp .lss T x y U, ty, pos, aft, g⟩ C (.bool true) := v_int hx hy (by simp only [intOp]; rw [decide_eq_true h])
theorem v_lssF (h : ¬ a < b) : Val P n E ⟨d, .binOp .lss T x y U, ty, pos, aft, g⟩ C (.bool false) := v_int hx hy (by simp only [intOp]; rw [decide_eq_false h])
theorem v_leq : Val P n E ⟨d, .binOp .leq T x y U, ty, pos, aft, g⟩ C (.bool (decide (a ≤ b))) := v_int hx hy rfl
theorem v_leqT (h : a ≤ b) : Val P n E ⟨d, .binOp .leq T x y U, ty, pos, aft, g⟩ C (.bool true) := v_int hx hy (by simp only [intOp]; rw [decide_eq_true h])
theorem v_leqF (h : ¬ a ≤ b) : Val P n E ⟨d, .binOp .leq T x y U, ty, pos, aft, g⟩ C (.bool false) := v_int hx hy (by simp only [intOp]; rw [decide_eq_false h])
theorem v_gtr : Val P n E ⟨d, .binOp .gtr T x y U, ty, pos, aft, g⟩ C (.bool (decide (b < a))) := v_int hx hy rfl
theorem v_gtrT (h : b < a) : Val P n E ⟨d, .binOp .gtr T x y U, ty, pos, aft, g⟩ C (.bool true) := v_int hx hy (by simp only [intOp]; rw [decide_eq_true (show a > b from h)])
theorem v_gtrF (h : ¬ b < a) : Val P n E ⟨d, .binOp .gtr T x y U, ty, pos, aft, g⟩ C (.bool false) := v_int hx hy (by simp only [intOp]; rw [decide_eq_false (show ¬ a > b from h)])
theorem v_geq : Val P n E ⟨d, .binOp .geq T x y U, ty, pos, aft, g⟩ C (.bool (decide (b ≤ a))) := v_int hx hy rfl
theorem v_geqT (h : b ≤ a) : Val P n E ⟨d, .binOp .geq T x y U, ty, pos, aft, g⟩ C (.bool true) := v_int hx hy (by simp only [intOp]; rw [decide_eq_true (show a ≥ b from h)])
theorem v_geqF (h : ¬ b ≤ a) : Val P n E ⟨d, .binOp .geq T x y U, ty, pos, aft, g⟩ C (.bool false) := v_int hx hy (by simp only [intOp]; rw [decide_eq_false (show ¬ a ≥ b from h)])
end

theorem toList_inj {s t : ByteArray} (h : s.toList = t.toList) : s = t := by
  rw [ByteArray.toList_eq, ByteArray.toList_eq] at h
  exact ByteArray.ext (Array.toList_inj.1 h)
theorem str_beq (s t : ByteArray) : (s.toList == t.toList) = decide (s = t) := by
  rw [Bool.eq_iff_iff, beq_iff_eq, decide_eq_true_eq]
  exact ⟨toList_inj, fun h => by rw [h]⟩
section
variable {T U : TypeId} {x y : Operand} {a b : ByteArray} (hx : ev E x = some (.string a)) (hy : ev E y = some (.string b))
include hx hy
theorem v_seql : Val P n E ⟨d, .binOp .eql T x y U, ty, pos, aft, g⟩ C (.bool (decide (a = b))) := v_str hx hy (by simp only [strOp]; rw [str_beq])
theorem v_seqlT (h : a = b) : Val P n E ⟨d, .binOp .eql T x y U, ty, pos, aft, g⟩ C (.bool true) := v_str hx hy (by simp only [strOp]; rw [str_beq, decide_eq_true h])
theorem v_seqlF (h : ¬ a = b) : Val P n E ⟨d, .binOp .eql T x y U, ty, pos, aft, g⟩ C (.bool false) := v_str hx hy (by simp only [strOp]; rw [str_beq, decide_eq_false h])
theorem v_sneq : Val P n E ⟨d, .binOp .neq T x y U, ty, pos, aft, g⟩ C (.bool (decide (¬ a = b))) := v_str hx hy (by simp only [strOp]; rw [str_beq, decide_not])
theorem v_sneqT (h : ¬ a = b) : Val P n E ⟨d, .binOp .neq T x y U, ty, pos, aft, g⟩ C (.bool true) := v_str hx hy (by simp only [strOp]; rw [str_beq, decide_eq_false h]; rfl)
theorem v_sneqF (h : a = b) : Val P n E ⟨d, .binOp .neq T x y U, ty, pos, aft, g⟩ C (.bool false) := v_str hx hy (by simp only [strOp]; rw [str_beq, decide_eq_true h]; rfl)
end

/-- Where a struct's fields lie, and of how many cells they are. -/
def Places (P : Program) (T : TypeId) (pl : Array (Nat × Nat)) : Prop :=
  ∃ fs, P.underlying T = some (.struct fs) ∧ ∀ w, (fs.mapM (fun f => Prod.mk f.offset <$> sizeOf f.type) : Sem (Array (Nat × Nat))).run P w = .ok pl w
def evp (E : Env) : List (Nat × Operand) → Option (List (Nat × Value))
  | [] => some []
  | (i, x) :: r => match ev E x, evp E r with
    | some v, some vs => some ((i, v) :: vs)
    | _, _ => none
theorem evp_map {a : Act} (ha : Fr n E a) : ∀ {xs : List (Nat × Operand)} {vs : List (Nat × Value)}, evp E xs = some vs → xs.map (fun (i, x) => (i, a.eval x)) = vs
  | [], vs, hx => by simp [evp] at hx; simp [hx]
  | (i, x) :: r, vs, hx => by
    simp only [evp] at hx
    cases h1 : ev E x with
    | none => rw [h1] at hx; simp at hx
    | some v =>
      cases h2 : evp E r with
      | none => rw [h1, h2] at hx; simp at hx
      | some us =>
        rw [h1, h2] at hx
        simp only [Option.some.injEq] at hx
        subst hx
        have := evp_map ha h2
        simp only [List.map_cons, ha.ev h1, this]
theorem v_build {T : TypeId} {z : Value} {pl : Array (Nat × Nat)} {xs : List (Nat × Operand)} {vs : List (Nat × Value)} {cells : Array Value} (hz : Zero P T z) (hpl : Places P T pl) (hx : evp E xs = some vs)
    (hf : Instr.fill (pl[·]?) z.cells vs = some cells) : Val P n E ⟨d, .build T xs.toArray, ty, pos, aft, g⟩ C (.agg cells) := by
  intro f w ha _
  obtain ⟨fs, hu, hp⟩ := hpl
  have hm := evp_map ha hx
  simp only [execOp]
  simp only [List.map_toArray, hm]
  simp [Instr.build, hz w, run_underlying hu, hp w, hf]

end
end Go.Proofs.Ytndchgmgcjebiaa.E
