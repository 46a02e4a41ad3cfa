/- A region that draws its order and turns memory: what only reads may be taken ahead; the rest comes one by one. No program in sight. -/
import Derived.Test.YtndchgmgcjebiaaEngMore
import Derived.OrdersHeld
namespace Go.Proofs.Ytndchgmgcjebiaa.E
open Go Go.RowKit
set_option linter.unusedVariables false
set_option linter.unusedSimpArgs false

/-- A panic's post does not look at slots. -/
class Blind (X : Exit → Act → World → Prop) : Prop where
  at_ : ∀ c a d v w, X (.panic c) (Act.put a d v) w → X (.panic c) a w
instance (P : Program) (fn : Func) (R : Ending → World → Prop) : Blind (bodyPost P fn R) := ⟨fun c a d v w h => by cases d <;> exact h⟩
instance (id : Nat) (K : Act → World → Prop) (X : Exit → Act → World → Prop) [h : Blind X] : Blind (blk id K X) := ⟨h.at_⟩

section
variable {P : Program} {ops : Array Oper} {Q : Exit → Act → World → Prop} {S : World → Prop} {z : Nat}

/-- Whichever comes up; S holds behind each but number z. -/
def wpE (P : Program) (ops : Array Oper) (Q : Exit → Act → World → Prop) (S : World → Prop) (z : Nat) : Nat → Array Bool → Act → World → Prop
  | 0, listed, a, w => Region.ready .any ops listed = [] ∧ Q .normal a w
  | fuel + 1, listed, a, w =>
    (Region.ready .any ops listed = [] → Q .normal a w) ∧
    ∀ i ∈ Region.ready .any ops listed, wpOp P ops Q i (fun a' w' => (i = z ∨ S w') ∧ wpE P ops Q S z fuel (listed.setIfInBounds i true) a' w') a w

theorem wpAny_of_wpE : ∀ (fuel : Nat) (listed : Array Bool) (a : Act) (w : World), wpE P ops Q S z fuel listed a w → wpAny P .any ops Q fuel listed a w
  | 0, _, _, _, h => h
  | fuel + 1, _, _, _, h => ⟨h.1, fun i hi => wpOp_mono (fun a' w' h' => wpAny_of_wpE fuel _ a' w' h'.2) (h.2 i hi)⟩

theorem wpE_first {i : Nat} {oi : Oper} {v : Value} (hi : ops[i]? = some oi) (hsel : Region.noSelect ops = true) (hQ : ∀ c a w, Q (.panic c) (a.put oi.dst v) w → Q (.panic c) a w) (hz : ∀ oz, ops[z]? = some oz → ∃ e ∈ oz.after, Region.binds .any e = true ∧ e.on = i) :
    ∀ (fuel : Nat) (listed : Array Bool) (a : Act) (w : World),
      (∀ j oj, ops[j]? = some oj → j ≠ i → listed.getD j true = false → (∀ e ∈ oj.after, Region.binds .any e = true → e.on ≠ i) → oi.apart ops oj = true) →
      i ∈ Region.ready .any ops listed → YieldsIf P ops S oi v a → S w →
      wpE P ops Q S z fuel (listed.setIfInBounds i true) (a.put oi.dst v) w → wpE P ops Q S z (fuel + 1) listed a w := by
  intro fuel
  induction fuel with
  | zero =>
    intro listed a w _ hr hy hS H
    refine ⟨fun h => (by rw [h] at hr; cases hr), fun j hj => ?_⟩
    by_cases hji : j = i
    · subst hji; exact hy.wpOp hi hS ⟨Or.inr hS, H⟩
    · have := ready_mono hj hji
      rw [H.1] at this
      cases this
  | succ fuel ih =>
    intro listed a w hfree hr hy hS H
    refine ⟨fun h => (by rw [h] at hr; cases hr), fun j hj => ?_⟩
    by_cases hji : j = i
    · subst hji; exact hy.wpOp hi hS ⟨Or.inr hS, H⟩
    · have h1 := H.2 j (ready_mono hj hji)
      obtain ⟨hjun, oj, hoj, hall⟩ := mem_ready.1 hj
      have hnot : ∀ e ∈ oj.after, Region.binds .any e = true → e.on ≠ i := fun e he hb heq => by
        have h1 := hall e he hb
        have h0 := (mem_ready.1 hr).1
        rw [heq] at h1
        rcases Nat.lt_or_ge i listed.size with h' | h'
        · simp [h'] at h0 h1; rw [h0] at h1; cases h1
        · simp [Array.getElem?_eq_none h'] at h1
      have h2 := wpOp_putIf hoj (hfree j oj hoj hji hjun hnot) (fun cs b => Region.noSelect_spec hsel i oi cs b hi) (fun cs b => Region.noSelect_spec hsel j oj cs b hoj) hQ hy h1
      have hfree' : ∀ k ok, ops[k]? = some ok → k ≠ i → (listed.setIfInBounds j true).getD k true = false →
          (∀ e ∈ ok.after, Region.binds .any e = true → e.on ≠ i) → oi.apart ops ok = true := fun k ok hk hki hun hno => by
        refine hfree k ok hk hki ?_ hno
        by_cases hjk : j = k
        · subst hjk; exact hjun
        · rw [getD_set_ne true hjk] at hun; exact hun
      refine wpOp_mono (fun a' w' h3 => ?_) h2
      obtain ⟨h3, h4, h5⟩ := h3
      have hri := ready_mono hr (Ne.symm hji)
      have hS' : S w' := h4.resolve_left fun e => by
        subst e
        obtain ⟨e, he, hb, heq⟩ := hz oj hoj
        exact hnot e he hb heq
      refine ⟨Or.inr hS', ih (listed.setIfInBounds j true) a' w' hfree' hri h3 hS' ?_⟩
      rw [Array.setIfInBounds_comm _ _ hji]
      exact h5

/-! ### A call that only reads may be taken ahead too -/

/-- What an operation behind another one's may have turned in the frame. -/
theorem wpOp_shape {j : Nat} {oj : Oper} {K : Act → World → Prop} {a : Act} {w : World} (hj : ops[j]? = some oj) (h : wpOp P ops Q j K a w) :
    wpOp P ops Q j (fun a' w' => K a' w' ∧ ∃ u ds, a' = ({ a with defers := ds } : Act).put oj.dst u) a w := by
  unfold wpOp at *
  simp only [hj] at *
  split
  · rename_i hw
    simp only [hw, if_true] at h
    rcases h with h | h
    case inr => exact .inr h
    refine .inl ?_
    unfold Oper.wp at *
    generalize (execOp a.eval oj).run P w = r at *
    cases r with
    | ok n w' =>
      cases n <;> simp only [Oper.upon] at h ⊢
      case value u => exact ⟨h, u, a.defers, rfl⟩
      case skip => exact ⟨h, undef, a.defers, rfl⟩
      case defer d => exact ⟨h, undef, d :: a.defers, rfl⟩
      case enter f args =>
        refine Calls.mono h fun e w'' he => ?_
        cases e with
        | returned v => exact ⟨he, v, a.defers, rfl⟩
        | panicked c => exact he
        | outgrown => exact he
      case row r args => exact Rows.mono h fun v w'' he => ⟨he, v, a.defers, rfl⟩
    | halt x w' => cases x <;> simp only [Oper.upon] at h ⊢ <;> exact h
  · rename_i hw
    simp only [hw] at h
    exact ⟨h, undef, a.defers, rfl⟩

/-- It yields v in each world of a class, by itself or by a call, and turns nothing. -/
def Gives (P : Program) (ops : Array Oper) (S : World → Prop) (o : Oper) (v : Value) (a : Act) : Prop :=
  Region.wanted o (yielded ops a.tmps) = true ∧ ∀ w, S w → ∃ f args, (execOp a.eval o).run P w = .ok (.enter f args) w ∧ Calls P f args w fun e w' => e = .returned v ∧ w = w'
theorem Gives.wpOp {i : Nat} {oi : Oper} {v : Value} {a : Act} {w : World} {K : Act → World → Prop} (h : Gives P ops S oi v a) (hi : ops[i]? = some oi) (hS : S w) (k : K (a.put oi.dst v) w) : Go.wpOp P ops Q i K a w := by
  unfold Go.wpOp
  simp only [hi, h.1, if_true]
  obtain ⟨f, args, hr, hc⟩ := h.2 w hS
  refine Or.inl ?_
  unfold Oper.wp
  rw [hr, Oper.upon_enter]
  refine hc.mono fun e w' he => ?_
  obtain ⟨rfl, rfl⟩ := he
  exact k

theorem wpE_firstC {i : Nat} {oi : Oper} {v : Value} (hi : ops[i]? = some oi) (hsel : Region.noSelect ops = true) (hQ : ∀ c a w, Q (.panic c) (a.put oi.dst v) w → Q (.panic c) a w) (hz : ∀ oz, ops[z]? = some oz → ∃ e ∈ oz.after, Region.binds .any e = true ∧ e.on = i) :
    ∀ (fuel : Nat) (listed : Array Bool) (a : Act) (w : World),
      (∀ j oj, ops[j]? = some oj → j ≠ i → listed.getD j true = false → (∀ e ∈ oj.after, Region.binds .any e = true → e.on ≠ i) → oi.apart ops oj = true) →
      i ∈ Region.ready .any ops listed → Gives P ops S oi v a → S w →
      wpE P ops Q S z fuel (listed.setIfInBounds i true) (a.put oi.dst v) w → wpE P ops Q S z (fuel + 1) listed a w := by
  intro fuel
  induction fuel with
  | zero =>
    intro listed a w _ hr hy hS H
    refine ⟨fun h => (by rw [h] at hr; cases hr), fun j hj => ?_⟩
    by_cases hji : j = i
    · subst hji; exact hy.wpOp hi hS ⟨Or.inr hS, H⟩
    · have := ready_mono hj hji
      rw [H.1] at this
      cases this
  | succ fuel ih =>
    intro listed a w hfree hr hy hS H
    refine ⟨fun h => (by rw [h] at hr; cases hr), fun j hj => ?_⟩
    by_cases hji : j = i
    · subst hji; exact hy.wpOp hi hS ⟨Or.inr hS, H⟩
    · have h1 := H.2 j (ready_mono hj hji)
      obtain ⟨hjun, oj, hoj, hall⟩ := mem_ready.1 hj
      have hnot : ∀ e ∈ oj.after, Region.binds .any e = true → e.on ≠ i := fun e he hb heq => by
        have h1 := hall e he hb
        have h0 := (mem_ready.1 hr).1
        rw [heq] at h1
        rcases Nat.lt_or_ge i listed.size with h' | h'
        · simp [h'] at h0 h1; rw [h0] at h1; cases h1
        · simp [Array.getElem?_eq_none h'] at h1
      have hap := hfree j oj hoj hji hjun hnot
      have hsi := fun cs b => Region.noSelect_spec hsel i oi cs b hi
      obtain ⟨-, -, hap3⟩ := Oper.apart_spec hap
      have hfalse : YieldsIf P ops (fun _ => False) oi v a := Or.inl ⟨hy.1, fun _ h => h.elim⟩
      have h2 := wpOp_shape hoj (wpOp_putIf hoj hap hsi (fun cs b => Region.noSelect_spec hsel j oj cs b hoj) hQ hfalse h1)
      have hfree' : ∀ k ok, ops[k]? = some ok → k ≠ i → (listed.setIfInBounds j true).getD k true = false →
          (∀ e ∈ ok.after, Region.binds .any e = true → e.on ≠ i) → oi.apart ops ok = true := fun k ok hk hki hun hno => by
        refine hfree k ok hk hki ?_ hno
        by_cases hjk : j = k
        · subst hjk; exact hjun
        · rw [getD_set_ne true hjk] at hun; exact hun
      refine wpOp_mono (fun a' w' h3 => ?_) h2
      obtain ⟨⟨-, h4, h5⟩, u, ds, rfl⟩ := h3
      have hri := ready_mono hr (Ne.symm hji)
      have hS' : S w' := h4.resolve_left fun e => by
        subst e
        obtain ⟨e, he, hb, heq⟩ := hz oj hoj
        exact hnot e he hb heq
      have hy' : Gives P ops S oi v (({ a with defers := ds } : Act).put oj.dst u) := by
        have e1 := execOp_put oi hsi ({ a with defers := ds } : Act) oj.dst u hap3
        have e2 := wanted_put (ops := ops) oi ({ a with defers := ds } : Act) oj.dst u hap3
        refine ⟨e2.trans hy.1, fun w hw => ?_⟩
        rw [e1]
        exact hy.2 w hw
      refine ⟨Or.inr hS', ih (listed.setIfInBounds j true) _ w' hfree' hri hy' hS' ?_⟩
      rw [Array.setIfInBounds_comm _ _ hji]
      exact h5

theorem wp_region_wpE {id : Nat} {a : Act} {w : World} (z : Nat) (hm : P.follows .mixedOrders = true)
    (h : wpE P ops Q S z ops.size (Array.replicate ops.size false) a { w with drawn := w.drawn + 1 }) : (Code.region id ops true).wp P Q a w :=
  wp_region_any hm (wpAny_of_wpE _ _ _ _ h)

/-- Number z waits for number i. -/
def waits (ops : Array Oper) (z i : Nat) : Bool := match ops[z]? with
  | some oz => oz.after.any fun e => Region.binds .any e && e.on == i
  | none => true
theorem waits_spec {z i : Nat} (h : waits ops z i = true) : ∀ oz, ops[z]? = some oz → ∃ e ∈ oz.after, Region.binds .any e = true ∧ e.on = i := by
  intro oz hz
  unfold waits at h
  rw [hz] at h
  simp at h
  obtain ⟨j, hj, hb⟩ := h
  exact ⟨oz.after[j], Array.getElem_mem hj, hb⟩
end

section
variable {P : Program} {K : Act → World → Prop} {X : Exit → Act → World → Prop} {n : Nm} {E : Env} {w : World} {S : World → Prop} {ops : Array Oper} {z : Nat}

/-- The operations that have not come yet. -/
abbrev WD (P : Program) (K : Act → World → Prop) (X : Exit → Act → World → Prop) (S : World → Prop) (z : Nat) (n : Nm) (E : Env) (ops : Array Oper) (fuel : Nat) (listed : Array Bool) (w : World) : Prop :=
  ∀ a, Fr n E a → wpE P ops (Exit.then K X) S z fuel listed a w

theorem d_region {id : Nat} {l : List Oper} (S : World → Prop) (z : Nat) (hm : P.follows .mixedOrders = true) (h : WD P K X S z n E l.toArray l.toArray.size (Array.replicate l.toArray.size false) { w with drawn := w.drawn + 1 }) (hro : n.ro = none := by rfl) :
    WC P K X n E (.region id l.toArray true) w := fun a ha => plainly hro (wp_region_wpE z hm (h a ha))

/-- Number i only reads: it is taken ahead. -/
theorem d_take [hX : Blind X] (i : Nat) {fuel d : Nat} {listed : Array Bool} {op : Op} {ty : TypeId} {pos : String} {aft : Array Edge} {v : Value}
    (hi : ops[i]? = some ⟨some d, op, ty, pos, aft, none⟩) (hs : Region.noSelect ops = true) (hf : Region.free .any ops listed i = true) (hr : (Region.ready .any ops listed).contains i = true) (hz : waits ops z i = true)
    (hS : S w) (hv : Val P n E ⟨some d, op, ty, pos, aft, none⟩ S v) (hd : Nat.blt d n.n = true) (k : WD P K X S z n ((d, v) :: E) ops fuel (listed.setIfInBounds i true) w) : WD P K X S z n E ops (fuel + 1) listed w :=
  fun a ha => wpE_first (Q := Exit.then K X) hi hs (fun c a w h => hX.at_ c a _ _ w h) (waits_spec hz) fuel listed a w (Region.free_spec hi hf) (by simpa using hr) (Or.inl ⟨by simp [Region.wanted], fun w hw => hv a w ha hw⟩) hS (k _ (ha.put hd v))
/-- .. under a guard that is met. -/
theorem d_takeG [hX : Blind X] (i : Nat) {fuel d j dj : Nat} {b : Bool} {listed : Array Bool} {op : Op} {ty : TypeId} {pos : String} {aft : Array Edge} {v : Value}
    (hi : ops[i]? = some ⟨some d, op, ty, pos, aft, some (j, b)⟩) (hs : Region.noSelect ops = true) (hf : Region.free .any ops listed i = true) (hr : (Region.ready .any ops listed).contains i = true) (hz : waits ops z i = true)
    (hS : S w) (hj : (ops[j]?).bind (·.dst) = some dj) (hb : look E dj = some (.bool b)) (hn : Nat.blt dj n.n = true) (hv : Val P n E ⟨some d, op, ty, pos, aft, some (j, b)⟩ S v) (hd : Nat.blt d n.n = true) (k : WD P K X S z n ((d, v) :: E) ops fuel (listed.setIfInBounds i true) w) : WD P K X S z n E ops (fuel + 1) listed w :=
  fun a ha => wpE_first (Q := Exit.then K X) hi hs (fun c a w h => hX.at_ c a _ _ w h) (waits_spec hz) fuel listed a w (Region.free_spec hi hf) (by simpa using hr)
    (Or.inl ⟨by simp [Region.wanted, guard_of ha hj hb hn], fun w hw => hv a w ha hw⟩) hS (k _ (ha.put hd v))
/-- .. under a guard that is not. -/
theorem d_skip [hX : Blind X] (i : Nat) {fuel d j dj : Nat} {b b' : Bool} {listed : Array Bool} {op : Op} {ty : TypeId} {pos : String} {aft : Array Edge}
    (hi : ops[i]? = some ⟨some d, op, ty, pos, aft, some (j, b')⟩) (hs : Region.noSelect ops = true) (hf : Region.free .any ops listed i = true) (hr : (Region.ready .any ops listed).contains i = true) (hz : waits ops z i = true)
    (hS : S w) (hj : (ops[j]?).bind (·.dst) = some dj) (hb : look E dj = some (.bool b)) (hn : Nat.blt dj n.n = true) (hne : (b == b') = false) (hd : Nat.blt d n.n = true) (k : WD P K X S z n ((d, undef) :: E) ops fuel (listed.setIfInBounds i true) w) : WD P K X S z n E ops (fuel + 1) listed w :=
  fun a ha => wpE_first (Q := Exit.then K X) hi hs (fun c a w h => hX.at_ c a _ _ w h) (waits_spec hz) fuel listed a w (Region.free_spec hi hf) (by simpa using hr)
    (Or.inr ⟨by simp only [Region.wanted, guard_of ha hj hb hn]; cases b <;> cases b' <;> simp_all, rfl⟩) hS (k _ (ha.put hd undef))
theorem d_skipU [hX : Blind X] (i : Nat) {fuel d j dj : Nat} {b' : Bool} {listed : Array Bool} {op : Op} {ty : TypeId} {pos : String} {aft : Array Edge}
    (hi : ops[i]? = some ⟨some d, op, ty, pos, aft, some (j, b')⟩) (hs : Region.noSelect ops = true) (hf : Region.free .any ops listed i = true) (hr : (Region.ready .any ops listed).contains i = true) (hz : waits ops z i = true)
    (hS : S w) (hj : (ops[j]?).bind (·.dst) = some dj) (hb : look E dj = some undef) (hn : Nat.blt dj n.n = true) (hd : Nat.blt d n.n = true) (k : WD P K X S z n ((d, undef) :: E) ops fuel (listed.setIfInBounds i true) w) : WD P K X S z n E ops (fuel + 1) listed w :=
  fun a ha => wpE_first (Q := Exit.then K X) hi hs (fun c a w h => hX.at_ c a _ _ w h) (waits_spec hz) fuel listed a w (Region.free_spec hi hf) (by simpa using hr)
    (Or.inr ⟨by simp [Region.wanted, guard_undef ha hj hb hn], rfl⟩) hS (k _ (ha.put hd undef))
theorem d_part {fuel : Nat} {listed : Array Bool} {p : Prop} [Decidable p] (t : Nat) (ht : look E t = some (.bool (decide p))) (h1 : p → WD P K X S z n ((t, .bool true) :: E) ops fuel listed w) (h2 : ¬ p → WD P K X S z n ((t, .bool false) :: E) ops fuel listed w) : WD P K X S z n E ops fuel listed w := by
  intro a ha
  by_cases hp : p
  · exact h1 hp a (look_put (by rw [ht, decide_eq_true hp]) ha)
  · exact h2 hp a (look_put (by rw [ht, decide_eq_false hp]) ha)
theorem d_partB {fuel : Nat} {listed : Array Bool} {b : Bool} (t : Nat) (ht : look E t = some (.bool b)) (h1 : b = true → WD P K X S z n ((t, .bool true) :: E) ops fuel listed w) (h2 : b = false → WD P K X S z n ((t, .bool false) :: E) ops fuel listed w) : WD P K X S z n E ops fuel listed w := by
  intro a ha
  cases b with
  | true => exact h1 rfl a (look_put ht ha)
  | false => exact h2 rfl a (look_put ht ha)
/-- Number i is a call that only reads: it is taken ahead. -/
theorem d_call [hX : Blind X] (i : Nat) {fuel d : Nat} {listed : Array Bool} {f : FuncId} {xs : List Operand} {ts : Array TypeId} {ty : TypeId} {pos : String} {aft : Array Edge} {vs : List Value} {v : Value}
    (hi : ops[i]? = some ⟨some d, .call { callee := .value (.func f), args := xs.toArray, argTypes := ts }, ty, pos, aft, none⟩) (hs : Region.noSelect ops = true) (hf : Region.free .any ops listed i = true) (hr : (Region.ready .any ops listed).contains i = true) (hz : waits ops z i = true)
    (hS : S w) (hg : Goes P f) (hx : evs E xs = some vs) (hc : ∀ w, S w → Calls P f vs.toArray w fun e w' => e = .returned v ∧ w = w') (hd : Nat.blt d n.n = true) (k : WD P K X S z n ((d, v) :: E) ops fuel (listed.setIfInBounds i true) w) : WD P K X S z n E ops (fuel + 1) listed w :=
  fun a ha => wpE_firstC (Q := Exit.then K X) hi hs (fun c a w h => hX.at_ c a _ _ w h) (waits_spec hz) fuel listed a w (Region.free_spec hi hf) (by simpa using hr)
    ⟨by simp [Region.wanted], fun w hw => ⟨f, _, run_callV (first := []) (cap := []) hg rfl hx ha w, by simpa using hc w hw⟩⟩ hS (k _ (ha.put hd v))
/-- Number i comes. -/
theorem d_go (i : Nat) {fuel : Nat} {listed : Array Bool} {o : Oper} (hi : ops[i]? = some o)
    (k : WL P (fun a' w' => (i = z ∨ S w') ∧ wpE P ops (Exit.then K X) S z fuel (listed.setIfInBounds i true) a' w') X n E ops [o] w) (hit : n.it = false) {a : Act} (ha : Fr n E a) :
    wpOp P ops (Exit.then K X) i (fun a' w' => (i = z ∨ S w') ∧ wpE P ops (Exit.then K X) S z fuel (listed.setIfInBounds i true) a' w') a w := by
  have h := (k a ha).2 hit
  unfold wpOp
  simp only [hi]
  unfold wpList at h
  split
  · rename_i hw
    rw [if_pos hw] at h
    rcases h with h | h
    · refine Or.inl (Oper.wp_mono' h)
    · exact Or.inr ⟨h.1, by obtain ⟨a', w', h'⟩ := h.2; exact ⟨a', w', h'⟩⟩
  · rename_i hw
    rw [if_neg hw] at h
    exact h
where
  Oper.wp_mono' {o : Oper} {a : Act} {w : World} {J : Act → World → Prop} (h : o.wp P a w (wpList P ops (Exit.then J X) []) (Exit.then J X)) : o.wp P a w J (Exit.then K X) := by
    unfold Oper.wp at h ⊢
    cases hr : (execOp a.eval o).run P w with
    | ok r w' =>
      rw [hr] at h
      cases r <;> simp only [Oper.upon] at h ⊢ <;> first | exact h | skip
    | halt x w' =>
      rw [hr] at h
      cases x <;> simp only [Oper.upon] at h ⊢ <;> exact h
/-- Number i is the only one that may come. -/
theorem d_one (i : Nat) {fuel : Nat} {listed : Array Bool} {o : Oper} (hi : ops[i]? = some o) (hr : Region.ready .any ops listed = [i])
    (k : WL P (fun a' w' => (i = z ∨ S w') ∧ wpE P ops (Exit.then K X) S z fuel (listed.setIfInBounds i true) a' w') X n E ops [o] w) (hit : n.it = false := by rfl) : WD P K X S z n E ops (fuel + 1) listed w := by
  intro a ha
  refine ⟨fun h => (by rw [hr] at h; cases h), fun j hj => ?_⟩
  rw [hr] at hj
  obtain rfl : j = i := by simpa using hj
  exact d_go j hi k hit ha
/-- Two may come. -/
theorem d_two (i j : Nat) {fuel : Nat} {listed : Array Bool} {o o' : Oper} (hi : ops[i]? = some o) (hj : ops[j]? = some o') (hr : Region.ready .any ops listed = [i, j])
    (k : WL P (fun a' w' => (i = z ∨ S w') ∧ wpE P ops (Exit.then K X) S z fuel (listed.setIfInBounds i true) a' w') X n E ops [o] w)
    (k' : WL P (fun a' w' => (j = z ∨ S w') ∧ wpE P ops (Exit.then K X) S z fuel (listed.setIfInBounds j true) a' w') X n E ops [o'] w) (hit : n.it = false := by rfl) : WD P K X S z n E ops (fuel + 1) listed w := by
  intro a ha
  refine ⟨fun h => (by rw [hr] at h; cases h), fun m hm => ?_⟩
  rw [hr] at hm
  rcases List.mem_cons.1 hm with rfl | hm
  · exact d_go m hi k hit ha
  · obtain rfl : m = j := by simpa using hm
    exact d_go m hj k' hit ha
/-- Three may come. -/
theorem d_three (i j l : Nat) {fuel : Nat} {listed : Array Bool} {o o' o'' : Oper} (hi : ops[i]? = some o) (hj : ops[j]? = some o') (hl : ops[l]? = some o'') (hr : Region.ready .any ops listed = [i, j, l])
    (k : WL P (fun a' w' => (i = z ∨ S w') ∧ wpE P ops (Exit.then K X) S z fuel (listed.setIfInBounds i true) a' w') X n E ops [o] w)
    (k' : WL P (fun a' w' => (j = z ∨ S w') ∧ wpE P ops (Exit.then K X) S z fuel (listed.setIfInBounds j true) a' w') X n E ops [o'] w)
    (k'' : WL P (fun a' w' => (l = z ∨ S w') ∧ wpE P ops (Exit.then K X) S z fuel (listed.setIfInBounds l true) a' w') X n E ops [o''] w) (hit : n.it = false := by rfl) : WD P K X S z n E ops (fuel + 1) listed w := by
  intro a ha
  refine ⟨fun h => (by rw [hr] at h; cases h), fun m hm => ?_⟩
  rw [hr] at hm
  rcases List.mem_cons.1 hm with rfl | hm
  · exact d_go m hi k hit ha
  · rcases List.mem_cons.1 hm with rfl | hm
    · exact d_go m hj k' hit ha
    · obtain rfl : m = l := by simpa using hm
      exact d_go m hl k'' hit ha
/-- Behind number i. -/
abbrev WK (P : Program) (K : Act → World → Prop) (X : Exit → Act → World → Prop) (S : World → Prop) (z : Nat) (n : Nm) (E : Env) (ops : Array Oper) (i fuel : Nat) (listed : Array Bool) (w : World) : Prop :=
  ∀ a, Fr n E a → (i = z ∨ S w) ∧ wpE P ops (Exit.then K X) S z fuel listed a w
theorem d_on {i fuel : Nat} {listed : Array Bool} (hS : S w) (k : WD P K X S z n E ops fuel listed w) : WK P K X S z n E ops i fuel listed w := fun a ha => ⟨Or.inr hS, k a ha⟩
theorem d_last {fuel : Nat} {listed : Array Bool} (k : WD P K X S z n E ops fuel listed w) : WK P K X S z n E ops z fuel listed w := fun a ha => ⟨Or.inl rfl, k a ha⟩
theorem d_end {fuel : Nat} {listed : Array Bool} (hr : Region.ready .any ops listed = []) (h : ∀ a, Fr n E a → K a w) : WD P K X S z n E ops fuel listed w := by
  intro a ha
  cases fuel with
  | zero => exact ⟨hr, h a ha⟩
  | succ f => exact ⟨fun _ => h a ha, fun i hi => (by rw [hr] at hi; cases hi)⟩
end
end Go.Proofs.Ytndchgmgcjebiaa.E
