/- The operations that make or turn memory; calls; the end of a function. What the call's own blocks hold is a list of entries. No program in sight. -/
import Derived.Test.YtndchgmgcjebiaaEngVal
import Derived.Laws.AppendOwn
namespace Go.Proofs.Ytndchgmgcjebiaa.E
open Go Go.RowKit

/-- Of what was there nothing has turned but blocks of S. -/
structure Keep (S : Nat → Prop) (w w' : World) : Prop where
  os : w'.os = w.os
  tape : w'.tape = w.tape
  output : w'.output = w.output
  size : w.heap.size ≤ w'.heap.size
  block : ∀ k, k < w.heap.size → ¬ S k → w'.heap[k]? = w.heap[k]?

def No : Nat → Prop := fun _ => False

theorem Keep.refl (S : Nat → Prop) (w : World) : Keep S w w := ⟨rfl, rfl, rfl, Nat.le_refl _, fun _ _ _ => rfl⟩
theorem Keep.trans {S : Nat → Prop} {a b c : World} (h : Keep S a b) (k : Keep S b c) : Keep S a c :=
  ⟨k.os.trans h.os, k.tape.trans h.tape, k.output.trans h.output, Nat.le_trans h.size k.size, fun i hi hS => (k.block i (Nat.lt_of_lt_of_le hi h.size) hS).trans (h.block i hi hS)⟩
theorem Keep.below {w w' : World} (h : Keep No w w') : Below w.heap.size w w' := ⟨h.os, h.tape, h.output, h.size, fun k hk => h.block k hk (fun e => e)⟩
theorem Keep.of_below {w w' : World} (h : Below w.heap.size w w') : Keep No w w' := ⟨h.os, h.tape, h.output, h.size, fun k hk _ => h.block k hk⟩
theorem Keep.cell {S : Nat → Prop} {w w' : World} (h : Keep S w w') {p : Addr} (hS : ¬ S p.block) {v : Value} (hc : w.cell? p = some v) : w'.cell? p = some v :=
  (World.cell?_of_block (w := w) (h.block p.block (World.block_lt_of_cell? w _ hc) hS)).trans hc
theorem Keep.cellN {w w' : World} (h : Keep No w w') {p : Addr} {v : Value} (hc : w.cell? p = some v) : w'.cell? p = some v := h.cell (fun e => e) hc
theorem Keep.drewN {S : Nat → Prop} (w : World) (n : Nat) : Keep S w (w.drewN n) := ⟨rfl, rfl, rfl, Nat.le_refl _, fun _ _ _ => rfl⟩
theorem Keep.mono {S S' : Nat → Prop} {w w' : World} (h : Keep S w w') (hs : ∀ k, k < w.heap.size → S k → S' k) : Keep S' w w' :=
  ⟨h.os, h.tape, h.output, h.size, fun k hk hS => h.block k hk fun e => hS (hs k hk e)⟩

/-- What is known of memory: of a block, what it holds; of a row that a slice value looks at, its first n elements; a fact on blocks that nobody turns; an object, of which some blocks may turn. -/
inductive Ent where
  | blk (b : Nat) (o : Obj)
  | row (e size : Nat) (v : Value) (n : Nat) (xs : List Value)
  | fact (F : Nat → Prop) (p : World → Prop) (h : ∀ w w' : World, (∀ b, F b → w'.heap[b]? = w.heap[b]?) → p w → p w')
  | obj (M F : Nat → Prop) (p : World → Prop) (h : ∀ w w' : World, (∀ b, M b ∨ F b → w'.heap[b]? = w.heap[b]?) → p w → p w')

/-- The blocks that may be turned. -/
def Ent.mut : Ent → Nat → Prop
  | .blk b _, k => k = b
  | .row _ _ v _ _, k => v.ownBlock = some k
  | .fact _ _ _, _ => False
  | .obj M _ _ _, k => M k
/-- The blocks that are looked at. -/
def Ent.foot : Ent → Nat → Prop
  | .blk b _, k => k = b
  | .row _ _ v _ _, k => v.ownBlock = some k
  | .fact F _ _, k => F k
  | .obj M F _ _, k => M k ∨ F k
theorem Ent.mut_foot {x : Ent} {k : Nat} (h : x.mut k) : x.foot k := by
  cases x with
  | blk b o => exact h
  | row e size v n xs => exact h
  | fact F p h' => exact h.elim
  | obj M F p h' => exact Or.inl h

def Ent.holds (w : World) : Ent → Prop
  | .blk b o => w.heap[b]? = some o
  | .row e size v n xs => w.ownsRow 0 e size v n xs
  | .fact F p _ => p w ∧ ∀ b, F b → b < w.heap.size
  | .obj M F p _ => p w ∧ ∀ b, M b ∨ F b → b < w.heap.size

theorem lt_of_some {w : World} {b : Nat} {o : Obj} (h : w.heap[b]? = some o) : b < w.heap.size := by
  rcases Nat.lt_or_ge b w.heap.size with h' | h'
  · exact h'
  · simp [Array.getElem?_eq_none h'] at h

theorem Ent.lt {w : World} {x : Ent} (h : x.holds w) {b : Nat} (hb : x.foot b) : b < w.heap.size := by
  cases x with
  | blk c o => simp only [Ent.foot] at hb; subst hb; exact lt_of_some h
  | row e size v n xs =>
    obtain ⟨-, h2⟩ := h
    rcases h2 with ⟨rfl, -⟩ | ⟨g, cap, cur, rfl, -, hh, -⟩
    · simp [Ent.foot, Value.ownBlock] at hb
    · simp only [Ent.foot, Value.ownBlock, Option.some.injEq] at hb; subst hb; exact lt_of_some hh
  | fact F p h' => exact h.2 b hb
  | obj M F p h' => exact h.2 b hb

theorem Ent.stable {w w' : World} {x : Ent} (h : x.holds w) (hs : w.heap.size ≤ w'.heap.size) (hb : ∀ b, x.foot b → w'.heap[b]? = w.heap[b]?) : x.holds w' := by
  cases x with
  | blk b o => simp only [Ent.holds] at h ⊢; rw [hb b rfl]; exact h
  | row e size v n xs =>
    obtain ⟨h1, h2⟩ := h
    refine ⟨h1, ?_⟩
    rcases h2 with h2 | ⟨g, cap, cur, hv, hg, hh, r⟩
    · exact Or.inl h2
    · subst hv
      exact Or.inr ⟨g, cap, cur, rfl, hg, by rw [hb g rfl]; exact hh, r⟩
  | fact F p h' => exact ⟨h' w w' hb h.1, fun b hF => Nat.lt_of_lt_of_le (h.2 b hF) hs⟩
  | obj M F p h' => exact ⟨h' w w' hb h.1, fun b hF => Nat.lt_of_lt_of_le (h.2 b hF) hs⟩

/-- What one may turn the other doesn't look at. -/
def Apart (x y : Ent) : Prop := (∀ b, x.mut b → ¬ y.foot b) ∧ ∀ b, y.mut b → ¬ x.foot b
theorem Apart.symm {x y : Ent} (h : Apart x y) : Apart y x := ⟨h.2, h.1⟩

/-- The state in a call's midst: since w0 nothing has turned but blocks of S; what is known. -/
structure St (S : Nat → Prop) (w0 w : World) (L : List Ent) : Prop where
  keep : Keep S w0 w
  at_ : ∀ x ∈ L, x.holds w
  apart : L.Pairwise Apart
  own : ∀ x ∈ L, ∀ b, x.mut b → w0.heap.size ≤ b ∨ S b

theorem St.start (S : Nat → Prop) (w : World) : St S w w [] := ⟨Keep.refl _ _, fun _ h => absurd h List.not_mem_nil, .nil, fun _ h => absurd h List.not_mem_nil⟩

theorem St.lt {S : Nat → Prop} {w0 w : World} {L : List Ent} (h : St S w0 w L) {x : Ent} (hx : x ∈ L) {b : Nat} (hb : x.foot b) : b < w.heap.size := Ent.lt (h.at_ x hx) hb

theorem St.block {S : Nat → Prop} {w0 w : World} {L : List Ent} (h : St S w0 w L) {i b : Nat} {o : Obj} (hi : L[i]? = some (.blk b o)) : w.heap[b]? = some o :=
  h.at_ _ (List.mem_of_getElem? hi)
theorem St.cell {S : Nat → Prop} {w0 w : World} {L : List Ent} (h : St S w0 w L) (i : Nat) {b k : Nat} {cs : Array Value} {T : TypeId} {fz : Nat × Nat} {v : Value}
    (hi : L[i]? = some (.blk b (.cells cs T fz))) (hk : cs[k]? = some v) : w.cell? ⟨b, k, none⟩ = some v := by
  simp [World.cell?, h.block hi, hk]
theorem St.row {S : Nat → Prop} {w0 w : World} {L : List Ent} (h : St S w0 w L) (i : Nat) {b : Nat} {cs : Array Value} {T : TypeId} {fz : Nat × Nat}
    (hi : L[i]? = some (.blk b (.cells cs T fz))) : ∀ j v, cs.toList[j]? = some v → w.cell? ((⟨b, 0, none⟩ : Addr).add j) = some v := by
  intro j v hj
  have : ((⟨b, 0, none⟩ : Addr).add j) = ⟨b, j, none⟩ := by unfold Addr.add; split <;> simp_all
  rw [this]
  exact h.cell i hi (by simpa using hj)
/-- A cell that was there ahead of the call. -/
theorem St.old {w0 w : World} {L : List Ent} (h : St No w0 w L) {p : Addr} {v : Value} (hc : w0.cell? p = some v) : w.cell? p = some v := h.keep.cellN hc
/-- A fact that is known. -/
theorem St.fact {S : Nat → Prop} {w0 w : World} {L : List Ent} (h : St S w0 w L) (i : Nat) {F : Nat → Prop} {p : World → Prop} {hp} (hi : L[i]? = some (.fact F p hp)) : p w := (h.at_ _ (List.mem_of_getElem? hi)).1
theorem St.obj {S : Nat → Prop} {w0 w : World} {L : List Ent} (h : St S w0 w L) (i : Nat) {M F : Nat → Prop} {p : World → Prop} {hp} (hi : L[i]? = some (.obj M F p hp)) : p w := (h.at_ _ (List.mem_of_getElem? hi)).1

/-- Less may be told; in another order. -/
theorem St.less {S : Nat → Prop} {w0 w : World} {L L' : List Ent} (h : St S w0 w L) (hs : L'.Sublist L) : St S w0 w L' :=
  ⟨h.keep, fun x hx => h.at_ x (hs.subset hx), h.apart.sublist hs, fun x hx => h.own x (hs.subset hx)⟩
theorem St.perm {S : Nat → Prop} {w0 w : World} {L L' : List Ent} (h : St S w0 w L) (hs : L'.Perm L) : St S w0 w L' :=
  ⟨h.keep, fun x hx => h.at_ x (hs.subset hx), (hs.pairwise_iff (fun h => h.symm)).2 h.apart, fun x hx => h.own x (hs.subset hx)⟩

theorem apart_at {L : List Ent} (h : L.Pairwise Apart) {i j : Nat} {x y : Ent} (hi : L[i]? = some x) (hj : L[j]? = some y) (hne : i ≠ j) : Apart x y := by
  obtain ⟨hil, rfl⟩ := List.getElem?_eq_some_iff.1 hi
  obtain ⟨hjl, rfl⟩ := List.getElem?_eq_some_iff.1 hj
  rcases Nat.lt_or_gt_of_ne hne with h1 | h1
  · exact List.pairwise_iff_getElem.1 h i j hil hjl h1
  · exact (List.pairwise_iff_getElem.1 h j i hjl hil h1).symm
/-- Just these, in this order. -/
def take_ (L : List Ent) : List Nat → List Ent
  | [] => []
  | i :: p => match L[i]? with
    | some x => x :: take_ L p
    | none => take_ L p
theorem take_mem {L : List Ent} : ∀ {p : List Nat} {x : Ent}, x ∈ take_ L p → ∃ i, i ∈ p ∧ L[i]? = some x
  | [], x, h => absurd h List.not_mem_nil
  | i :: p, x, h => by
    unfold take_ at h
    split at h
    · rename_i y hy
      rcases List.mem_cons.1 h with rfl | h
      · exact ⟨i, List.mem_cons_self, hy⟩
      · obtain ⟨j, hj, e⟩ := take_mem h; exact ⟨j, List.mem_cons_of_mem _ hj, e⟩
    · obtain ⟨j, hj, e⟩ := take_mem h; exact ⟨j, List.mem_cons_of_mem _ hj, e⟩
theorem take_apart {L : List Ent} (h : L.Pairwise Apart) : ∀ {p : List Nat}, p.Nodup → (take_ L p).Pairwise Apart
  | [], _ => .nil
  | i :: p, hp => by
    obtain ⟨h1, h2⟩ := List.nodup_cons.1 hp
    unfold take_
    split
    · rename_i y hy
      refine List.pairwise_cons.2 ⟨fun x hx => ?_, take_apart h h2⟩
      obtain ⟨j, hj, e⟩ := take_mem hx
      exact apart_at h hy e (fun e => h1 (e ▸ hj))
    · exact take_apart h h2
theorem St.arr {S : Nat → Prop} {w0 w : World} {L : List Ent} (h : St S w0 w L) (p : List Nat) (hp : p.Nodup := by decide) : St S w0 w (take_ L p) :=
  ⟨h.keep, fun x hx => by obtain ⟨i, -, e⟩ := take_mem hx; exact h.at_ x (List.mem_of_getElem? e), take_apart h.apart hp, fun x hx => by obtain ⟨i, -, e⟩ := take_mem hx; exact h.own x (List.mem_of_getElem? e)⟩

/-- A step that turns no block that is looked at. -/
theorem St.step {S S' : Nat → Prop} {w0 w w' : World} {L : List Ent} (h : St S w0 w L) (hk : Keep S' w w') (h1 : ∀ b, S' b → b < w.heap.size → ∀ x ∈ L, ¬ x.foot b) (h2 : ∀ b, S' b → b < w0.heap.size → S b) : St S w0 w' L := by
  refine ⟨⟨hk.os.trans h.keep.os, hk.tape.trans h.keep.tape, hk.output.trans h.keep.output, Nat.le_trans h.keep.size hk.size, fun k hk0 hS => ?_⟩, fun x hx => ?_, h.apart, h.own⟩
  · have hkw : k < w.heap.size := Nat.lt_of_lt_of_le hk0 h.keep.size
    rw [hk.block k hkw fun e => hS (h2 k e hk0), h.keep.block k hk0 hS]
  · refine Ent.stable (h.at_ x hx) hk.size fun b hb => ?_
    have hlt := Ent.lt (h.at_ x hx) hb
    exact hk.block b hlt fun e => h1 b e hlt x hx hb
theorem St.call {S : Nat → Prop} {w0 w w' : World} {L : List Ent} (h : St S w0 w L) (hk : Keep No w w') : St S w0 w' L := h.step hk (fun _ e => e.elim) (fun _ e => e.elim)
theorem St.drew {S : Nat → Prop} {w0 w : World} {L : List Ent} (h : St S w0 w L) (n : Nat) : St S w0 (w.drewN n) L := h.call (Keep.drewN w n)

/-- One thing more is known: what it may turn is new, and it looks at nothing that others may turn. -/
theorem St.more {S : Nat → Prop} {w0 w : World} {L : List Ent} (h : St S w0 w L) {y : Ent} (hy : y.holds w) (ho : ∀ b, y.mut b → w0.heap.size ≤ b ∨ S b) (ha : ∀ x ∈ L, Apart y x) : St S w0 w (y :: L) :=
  ⟨h.keep, fun x hx => by
    rcases List.mem_cons.1 hx with rfl | hx
    · exact hy
    · exact h.at_ x hx, List.pairwise_cons.2 ⟨ha, h.apart⟩, fun x hx => by
    rcases List.mem_cons.1 hx with rfl | hx
    · exact ho
    · exact h.own x hx⟩

/-- A new block. -/
theorem St.alloc {S : Nat → Prop} {w0 w : World} {L : List Ent} (h : St S w0 w L) (o : Obj) : St S w0 (w.alloc o) (.blk w.heap.size o :: L) := by
  have hk : Keep No w (w.alloc o) := ⟨rfl, rfl, rfl, by simp, fun k hk _ => Below.heap_alloc _ _ _ hk⟩
  have h' := h.call hk
  refine h'.more (by show (w.heap.push o)[w.heap.size]? = _; simp) (fun b hb => ?_) (fun x hx => ?_)
  · simp only [Ent.mut] at hb; subst hb; exact Or.inl h.keep.size
  · refine ⟨fun b hb hf => ?_, fun b hb hf => ?_⟩
    · simp only [Ent.mut] at hb; subst hb; exact absurd (h.lt hx hf) (Nat.lt_irrefl _)
    · simp only [Ent.foot] at hf; subst hf; exact absurd (h.lt hx (Ent.mut_foot hb)) (Nat.lt_irrefl _)

theorem Keep.setCell (w : World) (p : Addr) (v : Value) : Keep (· = p.block) w (w.setCell p v) :=
  ⟨rfl, rfl, rfl, by simp [World.setCell], fun k _ hk => Below.heap_setCell _ _ _ _ hk⟩

/-- A step that turns just what the first entry may turn; it may look at new blocks then. -/
theorem St.swap {S : Nat → Prop} {w0 w w' : World} {M : List Ent} {x y : Ent} (h : St S w0 w (x :: M)) (hk : Keep x.mut w w') (hy : y.holds w')
    (hm : ∀ b, y.mut b → x.mut b ∨ w.heap.size ≤ b) (hf : ∀ b, y.foot b → x.foot b ∨ w.heap.size ≤ b) : St S w0 w' (y :: M) := by
  have hM : St S w0 w M := h.less (List.sublist_cons_self _ _)
  have hnot := (List.pairwise_cons.1 h.apart).1
  have hown := h.own x List.mem_cons_self
  have hM' : St S w0 w' M := hM.step hk (fun b hb _ z hz => (hnot z hz).1 b hb) (fun b hb hlt => (hown b hb).resolve_left (by omega))
  refine hM'.more hy (fun b hb => ?_) fun z hz => ⟨fun b hb hzf => ?_, fun b hb hyf => ?_⟩
  · rcases hm b hb with h1 | h1
    · exact hown b h1
    · exact Or.inl (Nat.le_trans hM.keep.size h1)
  · rcases hm b hb with h1 | h1
    · exact (hnot z hz).1 b h1 hzf
    · exact absurd (hM.lt hz hzf) (by omega)
  · rcases hf b hyf with h1 | h1
    · exact (hnot z hz).2 b hb h1
    · exact absurd (hM.lt hz (Ent.mut_foot hb)) (by omega)

theorem St.replace' {S : Nat → Prop} {w0 w w' : World} {L : List Ent} (h : St S w0 w L) {i : Nat} {x y : Ent} (hi : L[i]? = some x) (hk : Keep x.mut w w') (hy : y.holds w')
    (hm : ∀ b, y.mut b → x.mut b ∨ w.heap.size ≤ b) (hf : ∀ b, y.foot b → x.foot b ∨ w.heap.size ≤ b) : St S w0 w' (L.set i y) := by
  obtain ⟨hlt, he⟩ := List.getElem?_eq_some_iff.1 hi
  have p1 : (x :: (L.take i ++ L.drop (i + 1))).Perm L := by
    have e : L.take i ++ x :: L.drop (i + 1) = L := by rw [← he, List.getElem_cons_drop, List.take_append_drop]
    rw [← e]
    simpa [e] using (List.perm_middle (a := x) (l₁ := L.take i) (l₂ := L.drop (i + 1))).symm
  have p2 : (L.set i y).Perm (y :: (L.take i ++ L.drop (i + 1))) := by
    rw [List.set_eq_take_append_cons_drop, if_pos hlt]
    exact List.perm_middle
  exact ((h.perm p1).swap hk hy hm hf).perm p2
/-- .. of a row: it looks at its block, or at a new one. -/
theorem St.replace {S : Nat → Prop} {w0 w w' : World} {L : List Ent} (h : St S w0 w L) {i e size n e' size' n' : Nat} {v v' : Value} {xs xs' : List Value} (hi : L[i]? = some (.row e size v n xs)) (hk : Keep (fun k => v.ownBlock = some k) w w') (hy : w'.ownsRow 0 e' size' v' n' xs')
    (hf : v'.ownBlock = v.ownBlock ∨ ∃ g, v'.ownBlock = some g ∧ w.heap.size ≤ g) : St S w0 w' (L.set i (.row e' size' v' n' xs')) := by
  have hb : ∀ b, v'.ownBlock = some b → v.ownBlock = some b ∨ w.heap.size ≤ b := fun b hb => by
    rcases hf with e | ⟨g, e, hge⟩
    · exact Or.inl (e ▸ hb)
    · rw [e] at hb; cases hb; exact Or.inr hge
  exact h.replace' (y := .row e' size' v' n' xs') hi hk hy hb hb
/-- A step that turns just the block that entry i looks at. -/
theorem St.turn {S : Nat → Prop} {w0 w w' : World} {L : List Ent} (h : St S w0 w L) {i b : Nat} {o o' : Obj} (hi : L[i]? = some (.blk b o)) (hk : Keep (· = b) w w') (hy : w'.heap[b]? = some o') : St S w0 w' (L.set i (.blk b o')) :=
  h.replace' (y := .blk b o') hi hk hy (fun _ h => Or.inl h) (fun _ h => Or.inl h)

/-- A store into a cell of entry i. -/
theorem St.store {S : Nat → Prop} {w0 w : World} {L : List Ent} (h : St S w0 w L) {i b k : Nat} {cs : Array Value} {T : TypeId} {fz : Nat × Nat} (hi : L[i]? = some (.blk b (.cells cs T fz))) (v : Value) :
    St S w0 (w.setCell ⟨b, k, none⟩ v) (L.set i (.blk b (.cells (cs.setIfInBounds k v) T fz))) := by
  refine h.turn hi (Keep.setCell w ⟨b, k, none⟩ v) ?_
  have hb := h.block hi
  have hlt := lt_of_some hb
  have hb' : w.heap[b] = .cells cs T fz := by simpa [Array.getElem?_eq_getElem hlt] using hb
  show (w.heap.modify b _)[b]? = _
  rw [Array.getElem?_eq_getElem (by simpa using hlt), Array.getElem_modify_self, hb']
  rfl

/-- Nothing is looked at yet. -/
theorem St.nil {S : Nat → Prop} {w0 w : World} {L : List Ent} (h : St S w0 w L) (e size : Nat) : St S w0 w (.row e size (.slice none 0 0) 0 [] :: L) :=
  h.more (World.ownsRow_nil _ _ _ _) (fun b hb => by simp [Ent.mut, Value.ownBlock] at hb) fun x hx => ⟨fun b hb => by simp [Ent.mut, Value.ownBlock] at hb, fun b _ hb => by simp [Ent.foot, Value.ownBlock] at hb⟩

theorem St.rowAt {S : Nat → Prop} {w0 w : World} {L : List Ent} (h : St S w0 w L) (i : Nat) {e size n : Nat} {v : Value} {xs : List Value} (hi : L[i]? = some (.row e size v n xs)) : w.ownsRow 0 e size v n xs := h.at_ _ (List.mem_of_getElem? hi)
/-- The cells of a row. -/
theorem St.rowCells {S : Nat → Prop} {w0 w : World} {L : List Ent} (h : St S w0 w L) (i : Nat) {e size n l c : Nat} {ad : Addr} {xs : List Value} (hi : L[i]? = some (.row e size (.slice (some ad) l c) n xs)) :
    ∀ j u, xs[j]? = some u → w.cell? (ad.add j) = some u := by
  have hr := h.rowAt i hi
  have hg : ad = ⟨ad.block, 0, none⟩ := by
    rcases hr.2 with ⟨e1, -⟩ | ⟨g, cap, cur, e1, -⟩
    · cases e1
    · cases e1; rfl
  rw [hg]
  exact World.ownsRow.cells (g := ad.block) (by rw [hg] at hr; exact hr) rfl

theorem St.cast {S : Nat → Prop} {w0 w : World} {L L' : List Ent} (h : St S w0 w L) (e : L = L') : St S w0 w L' := e ▸ h

theorem St.cellA {S : Nat → Prop} {w0 w : World} {L : List Ent} (h : St S w0 w L) (i : Nat) {b k : Nat} {cs : Array Value} {T : TypeId} {fz : Nat × Nat} {v : Value}
    (hi : L[i]? = some (.blk b (.cells cs T fz))) (hk : cs[k]? = some v) : w.cell? ((⟨b, 0, none⟩ : Addr).add k) = some v := by
  have : ((⟨b, 0, none⟩ : Addr).add k) = ⟨b, k, none⟩ := by unfold Addr.add; split <;> simp_all
  rw [this]
  exact h.cell i hi hk
theorem row_form {w : World} {base e size m : Nat} {v : Value} {xs : List Value} (h : w.ownsRow base e size v m xs) : ∃ A c, v = .slice A m c := by
  rcases h.2 with ⟨rfl, rfl⟩ | ⟨g, cap, cur, rfl, -⟩
  · exact ⟨none, 0, rfl⟩
  · exact ⟨_, cap, rfl⟩
theorem row_one {w : World} {base e size m : Nat} {v : Value} {xs : List Value} (h : w.ownsRow base e size v m xs) : v.oneCell' = true := by
  obtain ⟨A, c, rfl⟩ := row_form h
  rfl

/-- A thing that looks only at its own new blocks. -/
def Ent.new (n : Nat) (x : Ent) : Prop := ∀ b, x.foot b → x.mut b ∨ n ≤ b
theorem Ent.new_blk (n b : Nat) (o : Obj) : Ent.new n (.blk b o) := fun _ h => Or.inl h
theorem Ent.new_row (n e size : Nat) (v : Value) (m : Nat) (xs : List Value) : Ent.new n (.row e size v m xs) := fun _ h => Or.inl h
def News (n : Nat) : List Ent → Prop
  | [] => True
  | x :: r => Ent.new n x ∧ News n r
theorem News.all {n : Nat} : ∀ {M : List Ent}, News n M → ∀ x ∈ M, Ent.new n x
  | [], _, x, h => absurd h List.not_mem_nil
  | y :: r, h, x, hx => by
    rcases List.mem_cons.1 hx with rfl | hx
    · exact h.1
    · exact News.all h.2 x hx

/-- What a callee has made comes to what was there. -/
theorem St.merge {S : Nat → Prop} {w0 w w' : World} {L M : List Ent} (h : St S w0 w L) (h' : St No w w' M) (hM : News w.heap.size M := by repeat (first | exact trivial | refine ⟨Ent.new_blk _ _ _, ?_⟩ | refine ⟨Ent.new_row _ _ _ _ _ _, ?_⟩)) : St S w0 w' (M ++ L) := by
  have h1 := h.call h'.keep
  have hnew : ∀ y ∈ M, ∀ b, y.foot b → w.heap.size ≤ b := fun y hy b hb => by
    rcases hM.all y hy b hb with h2 | h2
    · exact (h'.own y hy b h2).resolve_right (fun e => e)
    · exact h2
  refine ⟨h1.keep, fun x hx => ?_, List.pairwise_append.2 ⟨h'.apart, h1.apart, fun y hy x hx => ⟨fun b hb hf => ?_, fun b hb hf => ?_⟩⟩, fun x hx b hb => ?_⟩
  · rcases List.mem_append.1 hx with hx | hx
    · exact h'.at_ x hx
    · exact h1.at_ x hx
  · have h2 := hnew y hy b (Ent.mut_foot hb)
    have h3 := h.lt hx hf
    omega
  · have h2 := hnew y hy b hf
    have h3 := h.lt hx (Ent.mut_foot hb)
    omega
  · rcases List.mem_append.1 hx with hx | hx
    · exact Or.inl (Nat.le_trans h.keep.size (hnew x hx b (Ent.mut_foot hb)))
    · exact h1.own x hx b hb

/-- The entries that a state tells of. -/
abbrev Lof {S : Nat → Prop} {w0 w : World} {L : List Ent} (_ : St S w0 w L) : List Ent := L

end Go.Proofs.Ytndchgmgcjebiaa.E
