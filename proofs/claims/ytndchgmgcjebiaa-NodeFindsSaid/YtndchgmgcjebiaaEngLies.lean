/- Slices that nobody turns: what lies in them is known as a fact; what a callee hands back is new, or lies where an argument lies. No program in sight. -/
import Derived.Test.YtndchgmgcjebiaaEngRange
namespace Go.Proofs.Ytndchgmgcjebiaa.E
open Go Go.RowKit
set_option linter.unusedVariables false

/-- The block where a slice lies, if it has anything. -/
def liesF (A : Option Addr) (xs : List Value) : Nat → Prop := fun b => xs ≠ [] ∧ ∃ ad, A = some ad ∧ ad.block = b
theorem lies_stable {A : Option Addr} {xs : List Value} (w w' : World) (h : ∀ b, liesF A xs b → w'.heap[b]? = w.heap[b]?) (hl : Lies w A xs) : Lies w' A xs := by
  rcases hl with rfl | ⟨ad, rfl, hc⟩
  · exact Or.inl rfl
  · refine Or.inr ⟨ad, rfl, fun j u hj => ?_⟩
    have hne : xs ≠ [] := fun e => by subst e; simp at hj
    have hb : (ad.add j).block = ad.block := by unfold Addr.add; split <;> simp_all
    rw [World.cell?_of_block (w := w) (by rw [hb]; exact h _ ⟨hne, ad, rfl, rfl⟩)]
    exact hc j u hj
def Ent.lies (A : Option Addr) (xs : List Value) : Ent := .fact (liesF A xs) (fun w => Lies w A xs) lies_stable
theorem Lies.lt {w : World} {A : Option Addr} {xs : List Value} (h : Lies w A xs) : ∀ b, liesF A xs b → b < w.heap.size := by
  rintro b ⟨hne, ad, rfl, rfl⟩
  rcases h with rfl | ⟨ad', e, hc⟩
  · exact absurd rfl hne
  · cases e
    cases xs with
    | nil => exact absurd rfl hne
    | cons x r =>
      have := World.block_lt_of_cell? w _ (hc 0 x rfl)
      have hb : (ad.add 0).block = ad.block := by unfold Addr.add; split <;> simp_all
      rwa [hb] at this

/-- A slice that is handed back is new, or lies where one of these lies. -/
def From (w0 : World) (As : List (Option Addr × List Value)) (A : Option Addr) (xs : List Value) : Prop :=
  ∀ b, liesF A xs b → w0.heap.size ≤ b ∨ ∃ p ∈ As, liesF p.1 p.2 b

section
variable {S : Nat → Prop} {w0 w w' : World} {L : List Ent}
theorem St.lies (h : St S w0 w L) (i : Nat) {A : Option Addr} {xs : List Value} (hi : L[i]? = some (.lies A xs)) : Lies w A xs := h.fact i hi
/-- A slice that a callee has handed back. -/
theorem St.gain (h : St S w0 w L) (hk : Keep No w w') {A : Option Addr} {xs : List Value} (hl : Lies w' A xs) {As : List (Option Addr × List Value)} (hf : From w As A xs) (hAs : ∀ p ∈ As, Ent.lies p.1 p.2 ∈ L) : St S w0 w' (.lies A xs :: L) := by
  refine (h.call hk).more ⟨hl, hl.lt⟩ (fun b hb => hb.elim) fun x hx => ⟨fun b hb => hb.elim, fun b hb hy => ?_⟩
  rcases hf b hy with h1 | ⟨p, hp, h1⟩
  · exact absurd (h.lt hx (Ent.mut_foot hb)) (by omega)
  · have hm := hAs p hp
    obtain ⟨i, hi⟩ := List.mem_iff_getElem?.1 hx
    obtain ⟨j, hj⟩ := List.mem_iff_getElem?.1 hm
    by_cases e : i = j
    · subst e; rw [hi] at hj; cases hj; exact hb.elim
    · exact (apart_at h.apart hi hj e).1 b hb h1
/-- A slice that was there at the start, and that this call may not turn. -/
theorem St.gainOld (h : St S w0 w L) {A : Option Addr} {xs : List Value} (hl : Lies w0 A xs) (hS : ∀ b, liesF A xs b → ¬ S b) : St S w0 w (.lies A xs :: L) := by
  have hl' : Lies w A xs := lies_stable w0 w (fun b hb => h.keep.block b (hl.lt b hb) (hS b hb)) hl
  refine h.more ⟨hl', hl'.lt⟩ (fun b hb => hb.elim) fun x hx => ⟨fun b hb => hb.elim, fun b hb hy => ?_⟩
  rcases h.own x hx b hb with h1 | h1
  · exact absurd (hl.lt b hy) (by omega)
  · exact hS b hy h1
/-- A row of the call's own is turned no more. -/
theorem St.freeze (h : St S w0 w L) (i : Nat) {e size m c : Nat} {A : Option Addr} {xs : List Value} (hi : L[i]? = some (.row e size (.slice A m c) m xs)) : St S w0 w (L.set i (.lies A xs)) := by
  have hl := Lies.row (h.rowAt i hi)
  refine h.replace' hi (Keep.refl _ _) ⟨hl, hl.lt⟩ (fun b hb => hb.elim) fun b hb => Or.inl ?_
  obtain ⟨-, ad, rfl, rfl⟩ := hb
  rfl
/-- .. it is new. -/
theorem St.fromRow (h : St No w0 w L) (i : Nat) {e size m c : Nat} {A : Option Addr} {xs : List Value} (hi : L[i]? = some (.row e size (.slice A m c) m xs)) (As : List (Option Addr × List Value)) : From w0 As A xs := by
  rintro b ⟨-, ad, rfl, rfl⟩
  rcases h.own _ (List.mem_of_getElem? hi) ad.block rfl with h1 | h1
  · exact Or.inl h1
  · exact h1.elim
/-- A block of the call's own is turned no more. -/
theorem St.freezeB {S : Nat → Prop} {w0 w : World} {L : List Ent} (h : St S w0 w L) (i : Nat) {b : Nat} {cs : Array Value} {T : TypeId} {fz : Nat × Nat} (hi : L[i]? = some (.blk b (.cells cs T fz))) : St S w0 w (L.set i (.lies (some ⟨b, 0, none⟩) cs.toList)) := by
  have hl : Lies w (some ⟨b, 0, none⟩) cs.toList := Or.inr ⟨_, rfl, h.row i hi⟩
  refine h.replace' hi (Keep.refl _ _) ⟨hl, hl.lt⟩ (fun b hb => hb.elim) fun b' hb => Or.inl ?_
  obtain ⟨-, ad, e, rfl⟩ := hb
  cases e
  rfl
/-- A row and a slice, as a callee wants them that turns the row. -/
theorem St.focusRow {S : Nat → Prop} {w0 w : World} {L : List Ent} (h : St S w0 w L) (i j : Nat) {e size m : Nat} {v : Value} {xs ys : List Value} {A : Option Addr} (hi : L[i]? = some (.row e size v m xs)) (hj : L[j]? = some (.lies A ys)) (hne : i ≠ j := by decide) :
    St (fun k => v.ownBlock = some k) w w [.row e size v m xs, .lies A ys] :=
  ⟨Keep.refl _ _, fun x hx => by
    rcases List.mem_cons.1 hx with rfl | hx
    · exact h.at_ _ (List.mem_of_getElem? hi)
    · rw [List.mem_singleton.1 hx]; exact h.at_ _ (List.mem_of_getElem? hj), List.pairwise_cons.2 ⟨fun x hx => by rw [List.mem_singleton.1 hx]; exact apart_at h.apart hi hj hne, List.pairwise_singleton _ _⟩, fun x hx b hb => by
    rcases List.mem_cons.1 hx with rfl | hx
    · exact Or.inr hb
    · rw [List.mem_singleton.1 hx] at hb; exact hb.elim⟩
/-- A callee has turned a row that was handed to it. -/
theorem St.turned {S : Nat → Prop} {w0 w w' : World} {L : List Ent} (h : St S w0 w L) {i e size n e' size' n' : Nat} {v v' : Value} {xs xs' : List Value} (hi : L[i]? = some (.row e size v n xs)) (hk : Keep (fun k => v.ownBlock = some k) w w') (hy : w'.ownsRow 0 e' size' v' n' xs')
    (hf : ∀ b, v'.ownBlock = some b → v.ownBlock = some b ∨ w.heap.size ≤ b) : St S w0 w' (L.set i (.row e' size' v' n' xs')) :=
  h.replace' (y := .row e' size' v' n' xs') hi hk hy hf hf
theorem St.rowFrom {S : Nat → Prop} {w0 w : World} {L : List Ent} (h : St S w0 w L) (i : Nat) {e size n : Nat} {v : Value} {xs : List Value} (hi : L[i]? = some (.row e size v n xs)) : ∀ b, v.ownBlock = some b → S b ∨ w0.heap.size ≤ b := fun b hb => (h.own _ (List.mem_of_getElem? hi) b hb).symm
theorem From.same (As : List (Option Addr × List Value)) {A : Option Addr} {xs : List Value} (h : (A, xs) ∈ As) : From w0 As A xs := fun b hb => Or.inr ⟨_, h, hb⟩
theorem From.older (hk : Keep S w0 w) {As : List (Option Addr × List Value)} {A : Option Addr} {xs : List Value} (h : From w As A xs) : From w0 As A xs := fun b hb => (h b hb).imp (fun h1 => Nat.le_trans hk.size h1) id
end

/-- An element of a slice. -/
theorem Lies.elem {w : World} {A : Option Addr} {xs ys : List Value} (h : Lies w A xs) (o : Nat) (hy : ∀ j u, ys[j]? = some u → xs[o + j]? = some u) (hne : xs ≠ []) : ∃ ad, A = some ad ∧ ∀ j u, ys[j]? = some u → w.cell? ((ad.add o).add j) = some u := by
  rcases h with rfl | ⟨ad, rfl, hc⟩
  · exact absurd rfl hne
  · exact ⟨ad, rfl, fun j u hj => by rw [Addr.add_add]; exact hc _ _ (hy j u hj)⟩
end Go.Proofs.Ytndchgmgcjebiaa.E
