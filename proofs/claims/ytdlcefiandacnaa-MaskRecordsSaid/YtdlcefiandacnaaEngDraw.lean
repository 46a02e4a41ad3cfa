/- A region that draws its order and turns memory: what only reads may be taken ahead; the rest comes one by one. No program in sight. -/
import Derived.Test.YtdlcefiandacnaaEngMore
import Derived.OrdersHeld
namespace Go.Proofs.Ytdlcefiandacnaa.E
open Go Go.RowKit
set_option linter.unusedVariables false
set_option linter.unusedSimpArgs false

/-- A panic's post does not look at slots. -/
class Blind (X : Exit → Act → World → Prop) : Prop where
  at_ : ∀ c a d v w, X (.panic c) (Act.put a d v) w → X (.panic c) a w
instance (P : Program) (fn : Func) (R : Ending → World → Prop) : Blind (bodyPost P fn R) := ⟨fun c a d v w h => by cases d <;> exact h⟩
instance (id : Nat) (K : Act → World → Prop) (X : Exit → Act → World → Prop) [h : Blind X] : Blind (blk id K X) := ⟨h.at_⟩

section
variable {P : Program} {ops : Array Oper} {Q : Exit → Act → World → Prop} {S : World → Prop} {z : Nat}

/-- Whichever comes up; S holds behind each but number z. -/
def wpE (P : Program) (ops : Array Oper) (Q : Exit → Act → World → Prop) (S : World → Prop) (z : Nat) : Nat → Array Bool → Act → World → Prop
  | 0, listed, a, w => Region.ready .any ops listed = [] ∧ Q .normal a w
  | fuel + 1, listed, a, w =>
    (Region.ready .any ops listed = [] → Q .normal a w) ∧
    ∀ i ∈ Region.ready .any ops listed, wpOp P ops Q i (fun a' w' => (i = z ∨ S w') ∧ wpE P ops Q S z fuel (listed.setIfInBounds i true) a' w') a w

theorem wpAny_of_wpE : ∀ (fuel : Nat) (listed : Array Bool) (a : Act) (w : World), wpE P ops Q S z fuel listed a w → wpAny P .any ops Q fuel listed a w
  | 0, _, _, _, h => h
  | fuel + 1, _, _, _, h => ⟨h.1, fun i hi => wpOp_mono (fun a' w' h' => wpAny_of_wpE fuel _ a' w' h'.2) (h.2 i hi)⟩

theorem wpE_first {i : Nat} {oi : Oper} {v : Value} (hi : ops[i]? = some oi) (hsel : Region.noSelect ops = true) (hQ : ∀ c a w, Q (.panic c) (a.put oi.dst v) w → Q (.panic c) a w) (hz : ∀ oz, ops[z]? = some oz → ∃ e ∈ oz.after, Region.binds .any e = true ∧ e.on = i) :
    ∀ (fuel : Nat) (listed : Array Bool) (a : Act) (w : World),
      (∀ j oj, ops[j]? = some oj → j ≠ i → listed.getD j true = false → (∀ e ∈ oj.after, Region.binds .any e = true → e.on ≠ i) → oi.apart ops oj = true) →
      i ∈ Region.ready .any ops listed → YieldsIf P ops S oi v a → S w →
      wpE P ops Q S z fuel (listed.setIfInBounds i true) (a.put oi.dst v) w → wpE P ops Q S z (fuel + 1) listed a w := by
  intro fuel
  induction fuel with
  | zero =>
    intro listed a w _ hr hy hS H
    refine ⟨fun h => (by rw [h] at hr; cases hr), fun j hj => ?_⟩
    by_cases hji : j = i
    · subst hji; exact hy.wpOp hi hS ⟨Or.inr hS, H⟩
    · have := ready_mono hj hji
      rw [H.1] at this
      cases this
  | succ fuel ih =>
    intro listed a w hfree hr hy hS H
    refine ⟨fun h => (by rw [h] at hr; cases hr), fun j hj => ?_⟩
    by_cases hji : j = i
    · subst hji; exact hy.wpOp hi hS ⟨Or.inr hS, H⟩
    · have h1 := H.2 j (ready_mono hj hji)
      obtain ⟨hjun, oj, hoj, hall⟩ := mem_ready.1 hj
      have hnot : ∀ e ∈ oj.after, Region.binds .any e = true → e.on ≠ i := fun e he hb heq => by
        have h1 := hall e he hb
        have h0 := (mem_ready.1 hr).1
        rw [heq] at h1
        rcases Nat.lt_or_ge i listed.size with h' | h'
        · simp [h'] at h0 h1; rw [h0] at h1; cases h1
        · simp [Array.getElem?_eq_none h'] at h1
      have h2 := wpOp_putIf hoj (hfree j oj hoj hji hjun hnot) (fun cs b => Region.noSelect_spec hsel i oi cs b hi) (fun cs b => Region.noSelect_spec hsel j oj cs b hoj) hQ hy h1
      have hfree' : ∀ k ok, ops[k]? = some ok → k ≠ i → (listed.setIfInBounds j true).getD k true = false →
          (∀ e ∈ ok.after, Region.binds .any e = true → e.on ≠ i) → oi.apart ops ok = true := fun k ok hk hki hun hno => by
        refine hfree k ok hk hki ?_ hno
        by_cases hjk : j = k
        · subst hjk; exact hjun
        · rw [getD_set_ne true hjk] at hun; exact hun
      refine wpOp_mono (fun a' w' h3 => ?_) h2
      obtain ⟨h3, h4, h5⟩ := h3
      have hri := ready_mono hr (Ne.symm hji)
      have hS' : S w' := h4.resolve_left fun e => by
        subst e
        obtain ⟨e, he, hb, heq⟩ := hz oj hoj
        exact hnot e he hb heq
      refine ⟨Or.inr hS', ih (listed.setIfInBounds j true) a' w' hfree' hri h3 hS' ?_⟩
      rw [Array.setIfInBounds_comm _ _ hji]
      exact h5

theorem wp_region_wpE {id : Nat} {a : Act} {w : World} (z : Nat) (hm : P.follows .mixedOrders = true)
    (h : wpE P ops Q S z ops.size (Array.replicate ops.size false) a { w with drawn := w.drawn + 1 }) : (Code.region id ops true).wp P Q a w :=
  wp_region_any hm (wpAny_of_wpE _ _ _ _ h)

/-- Number z waits for number i. -/
def waits (ops : Array Oper) (z i : Nat) : Bool := match ops[z]? with
  | some oz => oz.after.any fun e => Region.binds .any e && e.on == i
  | none => true
theorem waits_spec {z i : Nat} (h : waits ops z i = true) : ∀ oz, ops[z]? = some oz → ∃ e ∈ oz.after, Region.binds .any e = true ∧ e.on = i := by
  intro oz hz
  unfold waits at h
  rw [hz] at h
  simp at h
  obtain ⟨j, hj, hb⟩ := h
  exact ⟨oz.after[j], Array.getElem_mem hj, hb⟩
end

section
variable {P : Program} {K : Act → World → Prop} {X : Exit → Act → World → Prop} {n : Nat} {E : Env} {w : World} {S : World → Prop} {ops : Array Oper} {z : Nat}

/-- The operations that have not come yet. -/
abbrev WD (P : Program) (K : Act → World → Prop) (X : Exit → Act → World → Prop) (S : World → Prop) (z n : Nat) (E : Env) (ops : Array Oper) (fuel : Nat) (listed : Array Bool) (w : World) : Prop :=
  ∀ a, Fr n E a → wpE P ops (Exit.then K X) S z fuel listed a w

theorem d_region {id : Nat} {l : List Oper} (S : World → Prop) (z : Nat) (hm : P.follows .mixedOrders = true) (h : WD P K X S z n E l.toArray l.toArray.size (Array.replicate l.toArray.size false) { w with drawn := w.drawn + 1 }) :
    WC P K X n E (.region id l.toArray true) w := fun a ha => wp_region_wpE z hm (h a ha)

/-- Number i only reads: it is taken ahead. -/
theorem d_take [hX : Blind X] (i : Nat) {fuel d : Nat} {listed : Array Bool} {op : Op} {ty : TypeId} {pos : String} {aft : Array Edge} {v : Value}
    (hi : ops[i]? = some ⟨some d, op, ty, pos, aft, none⟩) (hs : Region.noSelect ops = true) (hf : Region.free .any ops listed i = true) (hr : (Region.ready .any ops listed).contains i = true) (hz : waits ops z i = true)
    (hS : S w) (hv : Val P n E ⟨some d, op, ty, pos, aft, none⟩ S v) (hd : Nat.blt d n = true) (k : WD P K X S z n ((d, v) :: E) ops fuel (listed.setIfInBounds i true) w) : WD P K X S z n E ops (fuel + 1) listed w :=
  fun a ha => wpE_first (Q := Exit.then K X) hi hs (fun c a w h => hX.at_ c a _ _ w h) (waits_spec hz) fuel listed a w (Region.free_spec hi hf) (by simpa using hr) (Or.inl ⟨by simp [Region.wanted], fun w hw => hv a w ha hw⟩) hS (k _ (ha.put hd v))
/-- Number i is the only one that may come. -/
theorem d_one (i : Nat) {fuel : Nat} {listed : Array Bool} {o : Oper} (hi : ops[i]? = some o) (hr : Region.ready .any ops listed = [i])
    (k : WL P (fun a' w' => (i = z ∨ S w') ∧ wpE P ops (Exit.then K X) S z fuel (listed.setIfInBounds i true) a' w') X n E ops [o] w) : WD P K X S z n E ops (fuel + 1) listed w := by
  intro a ha
  refine ⟨fun h => (by rw [hr] at h; cases h), fun j hj => ?_⟩
  rw [hr] at hj
  obtain rfl : j = i := by simpa using hj
  have h := k a ha
  unfold wpOp
  simp only [hi]
  unfold wpList at h
  split
  · rename_i hw
    rw [if_pos hw] at h
    rcases h with h | h
    · refine Or.inl (Oper.wp_mono' h)
    · exact Or.inr ⟨h.1, by obtain ⟨a', w', h'⟩ := h.2; exact ⟨a', w', h'⟩⟩
  · rename_i hw
    rw [if_neg hw] at h
    exact h
where
  Oper.wp_mono' {o : Oper} {a : Act} {w : World} {J : Act → World → Prop} (h : o.wp P a w (wpList P ops (Exit.then J X) []) (Exit.then J X)) : o.wp P a w J (Exit.then K X) := by
    unfold Oper.wp at h ⊢
    cases hr : (execOp a.eval o).run P w with
    | ok r w' =>
      rw [hr] at h
      cases r <;> simp only [Oper.upon] at h ⊢ <;> first | exact h | skip
    | halt x w' =>
      rw [hr] at h
      cases x <;> simp only [Oper.upon] at h ⊢ <;> exact h
/-- Behind number i. -/
abbrev WK (P : Program) (K : Act → World → Prop) (X : Exit → Act → World → Prop) (S : World → Prop) (z n : Nat) (E : Env) (ops : Array Oper) (i fuel : Nat) (listed : Array Bool) (w : World) : Prop :=
  ∀ a, Fr n E a → (i = z ∨ S w) ∧ wpE P ops (Exit.then K X) S z fuel listed a w
theorem d_on {i fuel : Nat} {listed : Array Bool} (hS : S w) (k : WD P K X S z n E ops fuel listed w) : WK P K X S z n E ops i fuel listed w := fun a ha => ⟨Or.inr hS, k a ha⟩
theorem d_last {fuel : Nat} {listed : Array Bool} (k : WD P K X S z n E ops fuel listed w) : WK P K X S z n E ops z fuel listed w := fun a ha => ⟨Or.inl rfl, k a ha⟩
theorem d_end {fuel : Nat} {listed : Array Bool} (hr : Region.ready .any ops listed = []) (h : ∀ a, Fr n E a → K a w) : WD P K X S z n E ops fuel listed w := by
  intro a ha
  cases fuel with
  | zero => exact ⟨hr, h a ha⟩
  | succ f => exact ⟨fun _ => h a ha, fun i hi => (by rw [hr] at hi; cases hi)⟩
end
end Go.Proofs.Ytdlcefiandacnaa.E
