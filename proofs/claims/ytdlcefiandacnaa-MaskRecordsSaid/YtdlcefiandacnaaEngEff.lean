/- The operations that make or turn memory; calls; the end of a function. What the call's own blocks hold is a list of entries. No program in sight. -/
import Derived.Test.YtdlcefiandacnaaEngVal
import Derived.Laws.AppendOwn
namespace Go.Proofs.Ytdlcefiandacnaa.E
open Go Go.RowKit

/-- Of what was there nothing has turned but blocks of S. -/
structure Keep (S : Nat → Prop) (w w' : World) : Prop where
  os : w'.os = w.os
  tape : w'.tape = w.tape
  output : w'.output = w.output
  size : w.heap.size ≤ w'.heap.size
  block : ∀ k, k < w.heap.size → ¬ S k → w'.heap[k]? = w.heap[k]?

def No : Nat → Prop := fun _ => False

theorem Keep.refl (S : Nat → Prop) (w : World) : Keep S w w := ⟨rfl, rfl, rfl, Nat.le_refl _, fun _ _ _ => rfl⟩
theorem Keep.trans {S : Nat → Prop} {a b c : World} (h : Keep S a b) (k : Keep S b c) : Keep S a c :=
  ⟨k.os.trans h.os, k.tape.trans h.tape, k.output.trans h.output, Nat.le_trans h.size k.size, fun i hi hS => (k.block i (Nat.lt_of_lt_of_le hi h.size) hS).trans (h.block i hi hS)⟩
theorem Keep.below {w w' : World} (h : Keep No w w') : Below w.heap.size w w' := ⟨h.os, h.tape, h.output, h.size, fun k hk => h.block k hk (fun e => e)⟩
theorem Keep.of_below {w w' : World} (h : Below w.heap.size w w') : Keep No w w' := ⟨h.os, h.tape, h.output, h.size, fun k hk _ => h.block k hk⟩
theorem Keep.cell {S : Nat → Prop} {w w' : World} (h : Keep S w w') {p : Addr} (hS : ¬ S p.block) {v : Value} (hc : w.cell? p = some v) : w'.cell? p = some v :=
  (World.cell?_of_block (w := w) (h.block p.block (World.block_lt_of_cell? w _ hc) hS)).trans hc
theorem Keep.cellN {w w' : World} (h : Keep No w w') {p : Addr} {v : Value} (hc : w.cell? p = some v) : w'.cell? p = some v := h.cell (fun e => e) hc
theorem Keep.drewN {S : Nat → Prop} (w : World) (n : Nat) : Keep S w (w.drewN n) := ⟨rfl, rfl, rfl, Nat.le_refl _, fun _ _ _ => rfl⟩
theorem Keep.mono {S S' : Nat → Prop} {w w' : World} (h : Keep S w w') (hs : ∀ k, k < w.heap.size → S k → S' k) : Keep S' w w' :=
  ⟨h.os, h.tape, h.output, h.size, fun k hk hS => h.block k hk fun e => hS (hs k hk e)⟩

/-- What a block of the call's own holds: just an object; or a row that a slice value looks at, of which the first n elements are told. -/
inductive Ent where
  | blk (b : Nat) (o : Obj)
  | row (e size : Nat) (v : Value) (n : Nat) (xs : List Value)

def Ent.foot : Ent → Option Nat
  | .blk b _ => some b
  | .row _ _ v _ _ => v.ownBlock

def Ent.holds (w : World) : Ent → Prop
  | .blk b o => w.heap[b]? = some o
  | .row e size v n xs => w.ownsRow 0 e size v n xs

theorem Ent.stable {w w' : World} {x : Ent} (h : x.holds w) (hb : ∀ b, x.foot = some b → w'.heap[b]? = w.heap[b]?) : x.holds w' := by
  cases x with
  | blk b o => simp only [Ent.holds] at h ⊢; rw [hb b rfl]; exact h
  | row e size v n xs =>
    obtain ⟨h1, h2⟩ := h
    refine ⟨h1, ?_⟩
    rcases h2 with h2 | ⟨g, cap, cur, hv, hg, hh, r⟩
    · exact Or.inl h2
    · subst hv
      exact Or.inr ⟨g, cap, cur, rfl, hg, by rw [hb g rfl]; exact hh, r⟩

theorem Ent.lt {w : World} {x : Ent} (h : x.holds w) {b : Nat} (hb : x.foot = some b) : b < w.heap.size := by
  have : ∃ o, w.heap[b]? = some o := by
    cases x with
    | blk c o => simp only [Ent.foot, Option.some.injEq] at hb; subst hb; exact ⟨o, h⟩
    | row e size v n xs =>
      obtain ⟨-, h2⟩ := h
      rcases h2 with ⟨rfl, -⟩ | ⟨g, cap, cur, rfl, -, hh, -⟩
      · simp [Ent.foot, Value.ownBlock] at hb
      · simp only [Ent.foot, Value.ownBlock, Option.some.injEq] at hb; subst hb; exact ⟨_, hh⟩
  obtain ⟨o, ho⟩ := this
  rcases Nat.lt_or_ge b w.heap.size with h' | h'
  · exact h'
  · simp [Array.getElem?_eq_none h'] at ho

def feet (L : List Ent) : List Nat := L.filterMap Ent.foot

/-- The state in a call's midst: since w0 nothing has turned but blocks of S; what its own blocks hold. -/
structure St (S : Nat → Prop) (w0 w : World) (L : List Ent) : Prop where
  keep : Keep S w0 w
  at_ : ∀ x ∈ L, x.holds w
  apart : (feet L).Nodup
  own : ∀ b ∈ feet L, w0.heap.size ≤ b ∨ S b

theorem St.start (S : Nat → Prop) (w : World) : St S w w [] := ⟨Keep.refl _ _, fun _ h => absurd h List.not_mem_nil, List.nodup_nil, fun _ h => absurd h List.not_mem_nil⟩

theorem St.lt {S : Nat → Prop} {w0 w : World} {L : List Ent} (h : St S w0 w L) {b : Nat} (hb : b ∈ feet L) : b < w.heap.size := by
  obtain ⟨x, hx, he⟩ := List.mem_filterMap.1 hb
  exact Ent.lt (h.at_ x hx) he

theorem St.block {S : Nat → Prop} {w0 w : World} {L : List Ent} (h : St S w0 w L) {i b : Nat} {o : Obj} (hi : L[i]? = some (.blk b o)) : w.heap[b]? = some o :=
  h.at_ _ (List.mem_of_getElem? hi)
theorem St.cell {S : Nat → Prop} {w0 w : World} {L : List Ent} (h : St S w0 w L) (i : Nat) {b k : Nat} {cs : Array Value} {T : TypeId} {fz : Nat × Nat} {v : Value}
    (hi : L[i]? = some (.blk b (.cells cs T fz))) (hk : cs[k]? = some v) : w.cell? ⟨b, k, none⟩ = some v := by
  simp [World.cell?, h.block hi, hk]
theorem St.row {S : Nat → Prop} {w0 w : World} {L : List Ent} (h : St S w0 w L) (i : Nat) {b : Nat} {cs : Array Value} {T : TypeId} {fz : Nat × Nat}
    (hi : L[i]? = some (.blk b (.cells cs T fz))) : ∀ j v, cs.toList[j]? = some v → w.cell? ((⟨b, 0, none⟩ : Addr).add j) = some v := by
  intro j v hj
  have : ((⟨b, 0, none⟩ : Addr).add j) = ⟨b, j, none⟩ := by unfold Addr.add; split <;> simp_all
  rw [this]
  exact h.cell i hi (by simpa using hj)
/-- A cell that was there ahead of the call. -/
theorem St.old {w0 w : World} {L : List Ent} (h : St No w0 w L) {p : Addr} {v : Value} (hc : w0.cell? p = some v) : w.cell? p = some v := h.keep.cellN hc

/-- Less may be told; in another order. -/
theorem St.less {S : Nat → Prop} {w0 w : World} {L L' : List Ent} (h : St S w0 w L) (hs : L'.Sublist L) : St S w0 w L' :=
  ⟨h.keep, fun x hx => h.at_ x (hs.subset hx), h.apart.sublist (hs.filterMap _), fun b hb => h.own b ((hs.filterMap _).subset hb)⟩
theorem St.perm {S : Nat → Prop} {w0 w : World} {L L' : List Ent} (h : St S w0 w L) (hs : L'.Perm L) : St S w0 w L' :=
  ⟨h.keep, fun x hx => h.at_ x (hs.subset hx), (hs.filterMap _).nodup_iff.2 h.apart, fun b hb => h.own b ((hs.filterMap _).subset hb)⟩

/-- A step that turns no block of the call's own. -/
theorem St.step {S S' : Nat → Prop} {w0 w w' : World} {L : List Ent} (h : St S w0 w L) (hk : Keep S' w w') (h1 : ∀ b, S' b → b < w.heap.size → b ∉ feet L) (h2 : ∀ b, S' b → b < w0.heap.size → S b) : St S w0 w' L := by
  refine ⟨⟨hk.os.trans h.keep.os, hk.tape.trans h.keep.tape, hk.output.trans h.keep.output, Nat.le_trans h.keep.size hk.size, fun k hk0 hS => ?_⟩, fun x hx => ?_, h.apart, h.own⟩
  · have hkw : k < w.heap.size := Nat.lt_of_lt_of_le hk0 h.keep.size
    rw [hk.block k hkw fun e => hS (h2 k e hk0), h.keep.block k hk0 hS]
  · refine Ent.stable (h.at_ x hx) fun b hb => ?_
    have hlt := Ent.lt (h.at_ x hx) hb
    exact hk.block b hlt fun e => h1 b e hlt (List.mem_filterMap.2 ⟨x, hx, hb⟩)
theorem St.call {S : Nat → Prop} {w0 w w' : World} {L : List Ent} (h : St S w0 w L) (hk : Keep No w w') : St S w0 w' L := h.step hk (fun _ e => e.elim) (fun _ e => e.elim)
theorem St.drew {S : Nat → Prop} {w0 w : World} {L : List Ent} (h : St S w0 w L) (n : Nat) : St S w0 (w.drewN n) L := h.call (Keep.drewN w n)

/-- A new block. -/
theorem St.alloc {S : Nat → Prop} {w0 w : World} {L : List Ent} (h : St S w0 w L) (o : Obj) : St S w0 (w.alloc o) (.blk w.heap.size o :: L) := by
  have hk : Keep No w (w.alloc o) := ⟨rfl, rfl, rfl, by simp, fun k hk _ => Below.heap_alloc _ _ _ hk⟩
  have h' := h.call hk
  refine ⟨h'.keep, fun x hx => ?_, ?_, fun b hb => ?_⟩
  · rcases List.mem_cons.1 hx with rfl | hx
    · show (w.heap.push o)[w.heap.size]? = _; simp
    · exact h'.at_ x hx
  · show ((w.heap.size) :: feet L).Nodup
    exact List.nodup_cons.2 ⟨fun hm => absurd (h.lt hm) (Nat.lt_irrefl _), h.apart⟩
  · rcases List.mem_cons.1 (show b ∈ w.heap.size :: feet L from hb) with rfl | hb
    · exact Or.inl h.keep.size
    · exact h.own b hb

theorem feet_set {L : List Ent} {i : Nat} {x y : Ent} (hi : L[i]? = some x) (hf : y.foot = x.foot) : feet (L.set i y) = feet L := by
  induction L generalizing i with
  | nil => simp at hi
  | cons z L ih =>
    cases i with
    | zero => simp only [List.getElem?_cons_zero, Option.some.injEq] at hi; subst hi; simp only [List.set_cons_zero, feet, List.filterMap_cons, hf]
    | succ i => simp only [List.getElem?_cons_succ] at hi; simp only [List.set_cons_succ, feet, List.filterMap_cons]; have := ih hi; unfold feet at this; rw [this]

/-- A step that turns just the block that entry i looks at. -/
theorem St.turn {S : Nat → Prop} {w0 w w' : World} {L : List Ent} (h : St S w0 w L) {i b : Nat} {x y : Ent} (hi : L[i]? = some x) (hx : x.foot = some b) (hf : y.foot = some b) (hk : Keep (· = b) w w') (hy : y.holds w') : St S w0 w' (L.set i y) := by
  have hmem : b ∈ feet L := List.mem_filterMap.2 ⟨x, List.mem_of_getElem? hi, hx⟩
  refine ⟨⟨hk.os.trans h.keep.os, hk.tape.trans h.keep.tape, hk.output.trans h.keep.output, Nat.le_trans h.keep.size hk.size, fun k hk0 hS => ?_⟩, fun z hz => ?_, ?_, ?_⟩
  · have hne : ¬ k = b := by
      intro e; subst e
      rcases h.own k hmem with h1 | h1
      · omega
      · exact hS h1
    rw [hk.block k (Nat.lt_of_lt_of_le hk0 h.keep.size) hne, h.keep.block k hk0 hS]
  · have hnd := h.apart
    obtain ⟨j, hj⟩ := List.mem_iff_getElem?.1 hz
    rw [List.getElem?_set] at hj
    by_cases e : i = j
    · subst e
      rw [if_pos rfl] at hj
      split at hj
      · cases hj; exact hy
      · cases hj
    · rw [if_neg e] at hj
      have hz' := h.at_ z (List.mem_of_getElem? hj)
      refine Ent.stable hz' fun c hc => hk.block c (Ent.lt hz' hc) ?_
      intro e2; subst e2
      exact apart_at hnd hi hj hx hc e
  · rw [feet_set hi (hf.trans hx.symm)]; exact h.apart
  · rw [feet_set hi (hf.trans hx.symm)]; exact h.own
where
  apart_at {L : List Ent} {i j : Nat} {x z : Ent} {c : Nat} (hnd : (feet L).Nodup) (hi : L[i]? = some x) (hj : L[j]? = some z) (hx : x.foot = some c) (hz : z.foot = some c) (hne : i ≠ j) : False := by
    induction L generalizing i j with
    | nil => simp at hi
    | cons y L ih =>
      have hnd' : (feet L).Nodup := by
        unfold feet at hnd ⊢
        rw [List.filterMap_cons] at hnd
        split at hnd
        · exact hnd
        · exact (List.nodup_cons.1 hnd).2
      have hno : ∀ {k : Nat} {u : Ent}, L[k]? = some u → u.foot = some c → y.foot = some c → False := by
        intro k u hk hu hy
        unfold feet at hnd
        rw [List.filterMap_cons, hy] at hnd
        exact (List.nodup_cons.1 hnd).1 (List.mem_filterMap.2 ⟨u, List.mem_of_getElem? hk, hu⟩)
      cases i with
      | zero =>
        cases j with
        | zero => exact hne rfl
        | succ j =>
          simp only [List.getElem?_cons_zero, Option.some.injEq] at hi; subst hi
          simp only [List.getElem?_cons_succ] at hj
          exact hno hj hz hx
      | succ i =>
        simp only [List.getElem?_cons_succ] at hi
        cases j with
        | zero =>
          simp only [List.getElem?_cons_zero, Option.some.injEq] at hj; subst hj
          exact hno hi hx hz
        | succ j =>
          simp only [List.getElem?_cons_succ] at hj
          exact ih hnd' hi hj (fun e => hne (by rw [e]))

theorem Keep.setCell (w : World) (p : Addr) (v : Value) : Keep (· = p.block) w (w.setCell p v) :=
  ⟨rfl, rfl, rfl, by simp [World.setCell], fun k _ hk => Below.heap_setCell _ _ _ _ hk⟩

/-- A store into a cell of entry i. -/
theorem St.store {S : Nat → Prop} {w0 w : World} {L : List Ent} (h : St S w0 w L) {i b k : Nat} {cs : Array Value} {T : TypeId} {fz : Nat × Nat} (hi : L[i]? = some (.blk b (.cells cs T fz))) (v : Value) :
    St S w0 (w.setCell ⟨b, k, none⟩ v) (L.set i (.blk b (.cells (cs.setIfInBounds k v) T fz))) := by
  refine h.turn hi rfl rfl (Keep.setCell w ⟨b, k, none⟩ v) ?_
  have hb := h.block hi
  have hlt := h.lt (List.mem_filterMap.2 ⟨_, List.mem_of_getElem? hi, rfl⟩)
  have hb' : w.heap[b] = .cells cs T fz := by simpa [Array.getElem?_eq_getElem hlt] using hb
  show (w.heap.modify b _)[b]? = _
  rw [Array.getElem?_eq_getElem (by simpa using hlt), Array.getElem_modify_self, hb']
  rfl

/-- A step that turns just what the first entry looks at; it may look at a new block then. -/
theorem St.swap {S : Nat → Prop} {w0 w w' : World} {M : List Ent} {x y : Ent} (h : St S w0 w (x :: M)) (hk : Keep (fun k => x.foot = some k) w w') (hy : y.holds w')
    (hf : y.foot = x.foot ∨ ∃ g, y.foot = some g ∧ w.heap.size ≤ g) : St S w0 w' (y :: M) := by
  have hM : St S w0 w M := h.less (List.sublist_cons_self _ _)
  have hnot : ∀ k, x.foot = some k → k ∉ feet M := by
    intro k hk hm
    have := h.apart
    unfold feet at this
    rw [List.filterMap_cons, hk] at this
    exact (List.nodup_cons.1 this).1 hm
  have hown : ∀ k, x.foot = some k → w0.heap.size ≤ k ∨ S k := fun k hk => h.own k (List.mem_filterMap.2 ⟨x, List.mem_cons_self, hk⟩)
  have hM' : St S w0 w' M := hM.step hk (fun b hb _ => hnot b hb) (fun b hb hlt => (hown b hb).resolve_left (by omega))
  refine ⟨hM'.keep, fun z hz => ?_, ?_, fun b hb => ?_⟩
  · rcases List.mem_cons.1 hz with rfl | hz
    · exact hy
    · exact hM'.at_ z hz
  · unfold feet
    rw [List.filterMap_cons]
    split
    · exact hM'.apart
    · rename_i g hg
      refine List.nodup_cons.2 ⟨fun hm => ?_, hM'.apart⟩
      rcases hf with e | ⟨g', e, hge⟩
      · exact hnot g (e ▸ hg) hm
      · rw [e] at hg; cases hg; exact absurd (hM.lt hm) (by omega)
  · unfold feet at hb
    rw [List.filterMap_cons] at hb
    split at hb
    · exact hM'.own b hb
    · rename_i g hg
      rcases List.mem_cons.1 hb with rfl | hb
      · rcases hf with e | ⟨g', e, hge⟩
        · exact hown b (e ▸ hg)
        · rw [e] at hg; cases hg; exact Or.inl (Nat.le_trans hM.keep.size hge)
      · exact hM'.own b hb

theorem St.replace {S : Nat → Prop} {w0 w w' : World} {L : List Ent} (h : St S w0 w L) {i : Nat} {x y : Ent} (hi : L[i]? = some x) (hk : Keep (fun k => x.foot = some k) w w') (hy : y.holds w')
    (hf : y.foot = x.foot ∨ ∃ g, y.foot = some g ∧ w.heap.size ≤ g) : St S w0 w' (L.set i y) := by
  obtain ⟨hlt, he⟩ := List.getElem?_eq_some_iff.1 hi
  have p1 : (x :: (L.take i ++ L.drop (i + 1))).Perm L := by
    have e : L.take i ++ x :: L.drop (i + 1) = L := by rw [← he, List.getElem_cons_drop, List.take_append_drop]
    rw [← e]
    simpa [e] using (List.perm_middle (a := x) (l₁ := L.take i) (l₂ := L.drop (i + 1))).symm
  have p2 : (L.set i y).Perm (y :: (L.take i ++ L.drop (i + 1))) := by
    rw [List.set_eq_take_append_cons_drop, if_pos hlt]
    exact List.perm_middle
  exact ((h.perm p1).swap hk hy hf).perm p2

/-- Nothing is looked at yet. -/
theorem St.nil {S : Nat → Prop} {w0 w : World} {L : List Ent} (h : St S w0 w L) (e size : Nat) : St S w0 w (.row e size (.slice none 0 0) 0 [] :: L) :=
  ⟨h.keep, fun x hx => by
    rcases List.mem_cons.1 hx with rfl | hx
    · exact World.ownsRow_nil _ _ _ _
    · exact h.at_ x hx, h.apart, h.own⟩

theorem St.rowAt {S : Nat → Prop} {w0 w : World} {L : List Ent} (h : St S w0 w L) (i : Nat) {e size n : Nat} {v : Value} {xs : List Value} (hi : L[i]? = some (.row e size v n xs)) : w.ownsRow 0 e size v n xs := h.at_ _ (List.mem_of_getElem? hi)
/-- The cells of a row. -/
theorem St.rowCells {S : Nat → Prop} {w0 w : World} {L : List Ent} (h : St S w0 w L) (i : Nat) {e size n l c : Nat} {ad : Addr} {xs : List Value} (hi : L[i]? = some (.row e size (.slice (some ad) l c) n xs)) :
    ∀ j u, xs[j]? = some u → w.cell? (ad.add j) = some u := by
  have hr := h.rowAt i hi
  have hg : ad = ⟨ad.block, 0, none⟩ := by
    rcases hr.2 with ⟨e1, -⟩ | ⟨g, cap, cur, e1, -⟩
    · cases e1
    · cases e1; rfl
  rw [hg]
  exact World.ownsRow.cells (g := ad.block) (by rw [hg] at hr; exact hr) rfl

theorem St.cast {S : Nat → Prop} {w0 w : World} {L L' : List Ent} (h : St S w0 w L) (e : L = L') : St S w0 w L' := e ▸ h

theorem St.cellA {S : Nat → Prop} {w0 w : World} {L : List Ent} (h : St S w0 w L) (i : Nat) {b k : Nat} {cs : Array Value} {T : TypeId} {fz : Nat × Nat} {v : Value}
    (hi : L[i]? = some (.blk b (.cells cs T fz))) (hk : cs[k]? = some v) : w.cell? ((⟨b, 0, none⟩ : Addr).add k) = some v := by
  have : ((⟨b, 0, none⟩ : Addr).add k) = ⟨b, k, none⟩ := by unfold Addr.add; split <;> simp_all
  rw [this]
  exact h.cell i hi hk
theorem row_form {w : World} {base e size m : Nat} {v : Value} {xs : List Value} (h : w.ownsRow base e size v m xs) : ∃ A c, v = .slice A m c := by
  rcases h.2 with ⟨rfl, rfl⟩ | ⟨g, cap, cur, rfl, -⟩
  · exact ⟨none, 0, rfl⟩
  · exact ⟨_, cap, rfl⟩
theorem row_one {w : World} {base e size m : Nat} {v : Value} {xs : List Value} (h : w.ownsRow base e size v m xs) : v.oneCell' = true := by
  obtain ⟨A, c, rfl⟩ := row_form h
  rfl

/-- What a callee has made comes to what was there. -/
theorem St.merge {S : Nat → Prop} {w0 w w' : World} {L M : List Ent} (h : St S w0 w L) (h' : St No w w' M) : St S w0 w' (M ++ L) := by
  have h1 := h.call h'.keep
  refine ⟨h1.keep, fun x hx => ?_, ?_, fun b hb => ?_⟩
  · rcases List.mem_append.1 hx with hx | hx
    · exact h'.at_ x hx
    · exact h1.at_ x hx
  · unfold feet
    rw [List.filterMap_append, List.nodup_append]
    refine ⟨h'.apart, h1.apart, fun a ha b hb e => ?_⟩
    subst e
    have h2 := (h'.own a ha).resolve_right (fun e => e)
    have h3 := h.lt hb
    omega
  · unfold feet at hb
    rw [List.filterMap_append, List.mem_append] at hb
    rcases hb with hb | hb
    · have h2 := (h'.own b hb).resolve_right (fun e => e)
      exact Or.inl (Nat.le_trans h.keep.size h2)
    · exact h1.own b hb

/-- The entries that a state tells of. -/
abbrev Lof {S : Nat → Prop} {w0 w : World} {L : List Ent} (_ : St S w0 w L) : List Ent := L

end Go.Proofs.Ytdlcefiandacnaa.E
