/- A walk by explicit steps: what is known of a frame's slots is a list; one lemma an operation. No program in sight. -/
import Derived.WalkKit
import Derived.WalkSpells
import Derived.WalkLawsBesides
import Derived.Deep.Quiet
import Derived.Lib.Hide
import Derived.RangeFuncLeaves
import Derived.RangeFuncRecord
namespace Go.Proofs.Ytndchgmgcjebiaa.E
open Go Go.RowKit

abbrev Env := List (Nat × Value)

/-- What is known of a slot. -/
def look : Env → Nat → Option Value
  | [], _ => none
  | (k, v) :: r, t => bif Nat.beq k t then some v else look r t

/-- What is known of an operand. -/
def ev (E : Env) : Operand → Option Value
  | .tmp t => look E t
  | .const v => some v
  | .global g => some (.pointer (some ⟨g, 0, none⟩))
  | .func f => some (.func (.func f) #[] #[])

def evs (E : Env) : List Operand → Option (List Value)
  | [] => some []
  | x :: r => match ev E x, evs E r with
    | some v, some vs => some (v :: vs)
    | _, _ => none

/-- How many slots a frame has; what it has deferred; of which loop it is a round; whether it may ask for a round. -/
structure Nm where
  n : Nat
  ds : List Deferred
  ro : Option Nat
  it : Bool
instance (k : Nat) : OfNat Nm k := ⟨⟨k, [], none, false⟩⟩
abbrev Fn (n : Nm) : Fence := { Fence.wide with round := n.ro }
theorem Fn.wide {n : Nm} (h : n.ro = none) : Fn n = Fence.wide := by
  unfold Fn; rw [h]; rfl

/-- A frame of n slots, of which E is known. -/
structure Fr (n : Nm) (E : Env) (a : Act) : Prop where
  size : a.tmps.size = n.n
  defers : a.defers = n.ds
  get : ∀ t v, look E t = some v → a.tmps.getD t undef = v

theorem Fr.ev {n : Nm} {E : Env} {a : Act} (h : Fr n E a) {x : Operand} {v : Value} (hx : Go.Proofs.Ytndchgmgcjebiaa.E.ev E x = some v) : a.eval x = v := by
  cases x with
  | tmp t => exact h.get t v hx
  | const c => simpa [Go.Proofs.Ytndchgmgcjebiaa.E.ev, Act.eval] using hx
  | global g => simpa [Go.Proofs.Ytndchgmgcjebiaa.E.ev, Act.eval] using hx
  | func f => simpa [Go.Proofs.Ytndchgmgcjebiaa.E.ev, Act.eval] using hx

theorem Fr.put {n : Nm} {d : Nat} {E : Env} {a : Act} (h : Fr n E a) (hd : Nat.blt d n.n = true) (v : Value) : Fr n ((d, v) :: E) (a.put (some d) v) := by
  have hd' : d < a.tmps.size := by rw [h.size]; exact Nat.le_of_ble_eq_true hd
  refine ⟨by simpa [Act.put] using h.size, h.defers, fun t u ht => ?_⟩
  simp only [Act.put]
  unfold look at ht
  by_cases e : d = t
  · subst e
    simp only [Nat.beq_refl, cond_true, Option.some.injEq] at ht
    subst ht
    simp [Array.getD, hd']
  · have : Nat.beq d t = false := by
      cases hb : Nat.beq d t with
      | false => rfl
      | true => exact absurd (Nat.eq_of_beq_eq_true hb) e
    rw [this] at ht
    have hg := h.get t u (by simpa using ht)
    rw [← hg]
    simp [Array.getD_eq_getD_getElem?, e]

theorem Fr.putAny {n : Nm} {E : Env} {a : Act} (h : Fr n E a) {d : Nat} (v : Value) (hd : ∀ u, look E d = some u → False) : Fr n E (a.put (some d) v) := by
  refine ⟨by simpa [Act.put] using h.size, h.defers, fun t u ht => ?_⟩
  simp only [Act.put]
  by_cases e : d = t
  · subst e; exact (hd u ht).elim
  · rw [← h.get t u ht]
    simp [Array.getD_eq_getD_getElem?, e]

theorem Fr.putNone {n : Nm} {E : Env} {a : Act} (h : Fr n E a) (v : Value) : Fr n E (a.put none v) := h

/-- Less may be known. -/
theorem Fr.weak {n : Nm} {E E' : Env} {a : Act} (h : Fr n E a) (hw : ∀ t v, look E' t = some v → look E t = some v) : Fr n E' a :=
  ⟨h.size, h.defers, fun t v ht => h.get t v (hw t v ht)⟩

/-- Of the list E' all is known in E. -/
def knows (E : Env) : Env → Prop
  | [] => True
  | (t, v) :: r => look E t = some v ∧ knows E r

theorem knows.out {E : Env} : ∀ {E' : Env}, knows E E' → ∀ t v, look E' t = some v → look E t = some v
  | [], _, t, v, h => by simp [look] at h
  | (k, u) :: r, ⟨h1, h2⟩, t, v, h => by
    unfold look at h
    cases hb : Nat.beq k t with
    | true =>
      obtain rfl := Nat.eq_of_beq_eq_true hb
      simp only [Nat.beq_refl, cond_true, Option.some.injEq] at h
      subst h; exact h1
    | false => rw [hb] at h; exact knows.out h2 t v (by simpa using h)

theorem Fr.sub {n : Nm} {E E' : Env} {a : Act} (h : Fr n E a) (hs : knows E E') : Fr n E' a := h.weak hs.out

/-- What is owed at each exit but the plain one, inside a block. -/
def blk (id : Nat) (K : Act → World → Prop) (X : Exit → Act → World → Prop) : Exit → Act → World → Prop
  | .exit i, a, w => bif Nat.beq i id then K a w else X (.exit i) a w
  | e, a, w => X e a w

theorem ex_here {id : Nat} {K : Act → World → Prop} {X : Exit → Act → World → Prop} : ∀ a w, K a w → blk id K X (.exit id) a w := fun a w h => by
  unfold blk; simp only [Nat.beq_refl, cond_true]; exact h
theorem ex_out {id id' : Nat} {J K : Act → World → Prop} {X : Exit → Act → World → Prop} (hne : Nat.beq id id' = false) (h : ∀ a w, J a w → X (.exit id) a w) : ∀ a w, J a w → blk id' K X (.exit id) a w := fun a w hj => by
  unfold blk; simp only [hne, cond_false]; exact h a w hj

/-- A return leads to the function's own end. -/
class Rets (X : Exit → Act → World → Prop) (P : outParam Program) (fn : outParam Func) (R : outParam (Ending → World → Prop)) : Prop where
  to : ∀ a w, bodyPost P fn R .ret a w → X .ret a w
instance (P : Program) (fn : Func) (R : Ending → World → Prop) : Rets (bodyPost P fn R) P fn R := ⟨fun _ _ h => h⟩
instance (id : Nat) (K : Act → World → Prop) (X : Exit → Act → World → Prop) (P : Program) (fn : Func) (R : Ending → World → Prop) [h : Rets X P fn R] : Rets (blk id K X) P fn R := ⟨h.to⟩

section
variable (P : Program) (K : Act → World → Prop) (X : Exit → Act → World → Prop) (n : Nm) (E : Env)

/-- The code from here on, of a frame of which E is known; K: what is owed behind it; X: at each other exit. -/
abbrev WC (c : Code) (w : World) : Prop := ∀ a, Fr n E a → c.wpIn (Fn n) 0 P (Exit.then K X) a w
/-- The operations from here on. -/
abbrev WL (ops : Array Oper) (l : List Oper) (w : World) : Prop := ∀ a, Fr n E a → wpListIn (Fn n) 0 P ops (Exit.then K X) l a w ∧ (n.it = false → wpList P ops (Exit.then K X) l a w)
/-- .. in a region that only reads. -/
abbrev WQ (ops : Array Oper) (C : World → Prop) (R : Act → Prop) (l : List Oper) : Prop := ∀ a, Fr n E a → wpQuiet P ops C R l a
end

section
variable {P : Program} {K : Act → World → Prop} {X : Exit → Act → World → Prop} {n : Nm} {E : Env} {w : World}

/-- An operation has a value in each world of a class, and turns nothing. -/
def Val (P : Program) (n : Nm) (E : Env) (o : Oper) (C : World → Prop) (v : Value) : Prop :=
  ∀ a w, Fr n E a → C w → (execOp a.eval o).run P w = .ok (.value v) w

/-! ### Control -/

theorem plainly (h : n.ro = none) {c : Code} {Q : Exit → Act → World → Prop} {a : Act} (hc : c.wp P Q a w) : c.wpIn (Fn n) 0 P Q a w := by
  rw [Fn.wide h]; exact wpIn_wide.2 hc

theorem then_then {y : Act → World → Prop} {c : Code} {a : Act} (h : c.wpIn (Fn n) 0 P (Exit.then y X) a w) (hy : ∀ a w, y a w → K a w) : c.wpIn (Fn n) 0 P (Exit.then K X) a w :=
  wpIn_mono h fun e a w q => by cases e <;> first | exact hy _ _ q | exact q

theorem c_region {id : Nat} {l : List Oper} (h : WL P K X n E l.toArray l w) : WC P K X n E (.region id l.toArray false) w :=
  fun a ha => wpIn_region_lit (h a ha).1
theorem c_seq {x y : Code} (h : WC P (fun a w => y.wpIn (Fn n) 0 P (Exit.then K X) a w) X n E x w) : WC P K X n E (.seq x y) w :=
  fun a ha => wpIn_seq (wpIn_mono (h a ha) fun e a w q => by cases e <;> exact q)
theorem c_skip (h : ∀ a, Fr n E a → K a w) : WC P K X n E .skip w := fun a ha => wpIn_skip (h a ha)
theorem c_exit {id : Nat} {J : Act → World → Prop} (hJ : ∀ a w, J a w → X (.exit id) a w) (h : ∀ a, Fr n E a → J a w) : WC P K X n E (.exit id) w := fun a ha => wpIn_exit (hJ a w (h a ha))
theorem c_block {id : Nat} {c : Code} (h : WC P K (blk id K X) n E c w) : WC P K X n E (.block id c) w :=
  fun a ha => wpIn_block (wpIn_mono (h a ha) fun e a w q => by
    cases e with
    | exit i =>
      simp only [Exit.then, blk, Exit.inBlock] at q ⊢
      cases hb : Nat.beq i id with
      | true => rw [hb] at q; rw [if_pos (Nat.eq_of_beq_eq_true hb)]; exact q
      | false =>
        rw [hb] at q
        rw [if_neg fun e => by subst e; simp at hb]
        exact q
    | _ => exact q)
theorem c_cond {c : Operand} {x y : Code} {t : Bool} (hc : ev E c = some (.bool t)) (h1 : t = true → WC P K X n E x w) (h2 : t = false → WC P K X n E y w) : WC P K X n E (.cond c x y) w :=
  fun a ha => wpIn_cond_split (ha.ev hc) (fun e => h1 e a ha) (fun e => h2 e a ha)
theorem c_yes {c : Operand} {x y : Code} (hc : ev E c = some (.bool true)) (h : WC P K X n E x w) : WC P K X n E (.cond c x y) w := fun a ha => wpIn_cond_true (ha.ev hc) (h a ha)
theorem c_no {c : Operand} {x y : Code} (hc : ev E c = some (.bool false)) (h : WC P K X n E y w) : WC P K X n E (.cond c x y) w := fun a ha => wpIn_cond_false (ha.ev hc) (h a ha)
theorem c_if {c : Operand} {x y : Code} {p : Prop} [Decidable p] (hc : ev E c = some (.bool (decide p))) (h1 : p → WC P K X n E x w) (h2 : ¬ p → WC P K X n E y w) : WC P K X n E (.cond c x y) w :=
  c_cond hc (fun e => h1 (of_decide_eq_true e)) (fun e => h2 (of_decide_eq_false e))

/-- A region that only reads, at any order. -/
theorem c_quiet {C : World → Prop} {id : Nat} {l : List Oper} (hm : P.follows .mixedOrders = true) (hB : Region.lexB .any l.toArray = true) (hC : C { w with drawn := w.drawn + 1 })
    (h : WQ P n E l.toArray C (fun a' => ∀ w', C w' → K a' w') l) (hro : n.ro = none := by rfl) : WC P K X n E (.region id l.toArray true) w :=
  fun a ha => plainly hro (wp_region_quiet hm hB hC (by rw [List.toList_toArray]; exact h a ha))

/-! ### One operation -/

theorem semAt_run {r : Option Nat} {ρ : Operand → Value} {o : Oper} {x : Next} {w' : World} (h : (execOp ρ o).run P w = .ok x w') (hx : ∀ d, x ≠ .defer d) : (o.semAt r ρ).run P w = .ok x w' := by
  cases r with
  | none => exact h
  | some l =>
    by_cases hd : ∃ c, o.op = .defer c
    · obtain ⟨c, hc⟩ := hd
      exfalso
      simp only [execOp, hc, Sem.run_bind, Sem.run_pure] at h
      cases hr : (resolve ρ c o.type).run P w with
      | ok d w1 => rw [hr] at h; simp only [Result.andThen, Result.ok.injEq] at h; exact hx d h.1.symm
      | halt y w1 => rw [hr] at h; simp [Result.andThen] at h
    · rw [Oper.semAt_some l ρ o (fun c hc => hd ⟨c, hc⟩)]; exact h

/-- An operation without a guard that is carried out, and goes on. -/
theorem both {o : Oper} {ops : Array Oper} {rest : List Oper} {Q : Exit → Act → World → Prop} {a : Act} {x : Next} {w' : World} (hg : o.guard = none) (hr : (execOp a.eval o).run P w = .ok x w') (hx : ∀ d, x ≠ .defer d)
    (h1 : o.uponIn (Fn n) 0 P a (wpListIn (Fn n) 0 P ops Q rest) Q (.ok x w')) (h2 : n.it = false → o.upon P a (wpList P ops Q rest) Q (.ok x w')) :
    wpListIn (Fn n) 0 P ops Q (o :: rest) a w ∧ (n.it = false → wpList P ops Q (o :: rest) a w) := by
  refine ⟨?_, fun hi => wpList_plain hg fun J hJ => ?_⟩
  · simp only [wpListIn, Region.wanted, hg, if_true]
    exact ⟨fun _ _ => trivial, by rw [semAt_run hr hx]; exact h1⟩
  · unfold Oper.wp
    rw [hr]
    have := h2 hi
    cases x with
    | value v => exact hJ _ _ this
    | skip => exact hJ _ _ this
    | defer d => exact hJ _ _ this
    | enter f args =>
      refine Calls.mono this fun e w' h => ?_
      cases e <;> first | exact hJ _ _ h | exact h
    | row r args => exact Rows.mono this fun v w' h => hJ _ _ h
    | _ => exact this

/-- An operation that has a value and leaves another world. -/
theorem l_eff {ops : Array Oper} {rest : List Oper} {d : Nat} {op : Op} {ty : TypeId} {pos : String} {aft : Array Edge} {v : Value} {w' : World} (hr : ∀ a, Fr n E a → (execOp a.eval ⟨some d, op, ty, pos, aft, none⟩).run P w = .ok (.value v) w') (hd : Nat.blt d n.n = true) (k : WL P K X n ((d, v) :: E) ops rest w') :
    WL P K X n E ops (⟨some d, op, ty, pos, aft, none⟩ :: rest) w := by
  intro a ha
  have h := k _ (ha.put hd v)
  exact both rfl (hr a ha) (fun _ h => by cases h) h.1 h.2
theorem l_val {ops : Array Oper} {rest : List Oper} {d : Nat} {op : Op} {ty : TypeId} {pos : String} {aft : Array Edge} {v : Value}
    (hv : Val P n E ⟨some d, op, ty, pos, aft, none⟩ (· = w) v) (hd : Nat.blt d n.n = true) (k : WL P K X n ((d, v) :: E) ops rest w) :
    WL P K X n E ops (⟨some d, op, ty, pos, aft, none⟩ :: rest) w := l_eff (fun a ha => hv a w ha rfl) hd k

theorem q_val {ops : Array Oper} {C : World → Prop} {R : Act → Prop} {rest : List Oper} {d : Nat} {op : Op} {ty : TypeId} {pos : String} {aft : Array Edge} {v : Value}
    (hv : Val P n E ⟨some d, op, ty, pos, aft, none⟩ C v) (hd : Nat.blt d n.n = true) (k : WQ P n ((d, v) :: E) ops C R rest) :
    WQ P n E ops C R (⟨some d, op, ty, pos, aft, none⟩ :: rest) := by
  intro a ha
  refine wpQuiet_step fun J hJ => ?_
  simp only [Region.wanted, if_true]
  exact ⟨v, fun w hw => by unfold Oper.quietAt; rw [hv a w ha hw]; exact ⟨rfl, rfl⟩, hJ _ (k _ (ha.put hd v))⟩

end
end Go.Proofs.Ytndchgmgcjebiaa.E
