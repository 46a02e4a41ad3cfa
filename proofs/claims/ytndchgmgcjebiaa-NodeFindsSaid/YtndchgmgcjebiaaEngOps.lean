/- The steps of a walk: operations that turn memory, calls, guards, the end of a function, loops. No program in sight. -/
import Derived.Test.YtndchgmgcjebiaaEngEff
import Derived.Deep.MidRow
namespace Go.Proofs.Ytndchgmgcjebiaa.E
open Go Go.RowKit

/-- Cells from offset o on are others. -/
def setFrom (cs : Array Value) (o : Nat) : List Value → Array Value
  | [] => cs
  | v :: r => setFrom (cs.setIfInBounds o v) (o + 1) r

def ones : List Value → Bool
  | [] => true
  | v :: r => v.oneCell' && ones r

theorem setFrom_size (vs : List Value) : ∀ (cs : Array Value) (o : Nat), (setFrom cs o vs).size = cs.size := by
  induction vs with
  | nil => intro cs o; rfl
  | cons v r ih => intro cs o; simp only [setFrom]; rw [ih]; simp

theorem St.stores {S : Nat → Prop} {w0 : World} {T : TypeId} {fz : Nat × Nat} {b i : Nat} (vs : List Value) : ∀ {w : World} {L : List Ent} (k : Nat) {cs : Array Value}, St S w0 w L → L[i]? = some (.blk b (.cells cs T fz)) →
    St S w0 (w.setCells b k vs) (L.set i (.blk b (.cells (setFrom cs k vs) T fz))) := by
  induction vs with
  | nil =>
    intro w L k cs h hi
    have : L.set i (.blk b (.cells cs T fz)) = L := by
      apply List.ext_getElem?
      intro j
      rw [List.getElem?_set]
      by_cases e : i = j
      · subst e
        rw [if_pos rfl, hi]
        rw [if_pos]
        exact (List.getElem?_eq_some_iff.1 hi).1
      · rw [if_neg e]
    simp only [setFrom, World.setCells, this]
    exact h
  | cons v r ih =>
    intro w L k cs h hi
    have h1 := h.store (k := k) hi v
    have hlen : i < L.length := (List.getElem?_eq_some_iff.1 hi).1
    have h2 := ih (k + 1) (cs := cs.setIfInBounds k v) h1 (by rw [List.getElem?_set]; simp [hlen])
    simp only [setFrom, World.setCells]
    rw [List.set_set] at h2
    exact h2

section
variable {P : Program} {K : Act → World → Prop} {X : Exit → Act → World → Prop} {n : Nm} {E : Env} {w w0 : World} {S : Nat → Prop} {L : List Ent} {ops : Array Oper} {rest : List Oper} {d : Nat} {ty : TypeId} {pos : String} {aft : Array Edge}

theorem l_do {op : Op} {w' : World} (hr : ∀ a, Fr n E a → (execOp a.eval ⟨none, op, ty, pos, aft, none⟩).run P w = .ok .skip w') (k : WL P K X n E ops rest w') :
    WL P K X n E ops (⟨none, op, ty, pos, aft, none⟩ :: rest) w := by
  intro a ha
  exact both rfl (hr a ha) (fun _ h => by cases h) (k _ ha).1 (k _ ha).2

theorem l_box {T : TypeId} {x : Operand} {v : Value} {cs : Array Value} (hS : St S w0 w L) (hx : ev E x = some v) (hcs : v.cells = cs) (hd : Nat.blt d n.n = true)
    (k : ∀ b w', St S w0 w' (.blk b (.cells cs T (0, 0)) :: L) → WL P K X n ((d, .pointer (some ⟨b, 0, none⟩)) :: E) ops rest w') : WL P K X n E ops (⟨some d, .box T x, ty, pos, aft, none⟩ :: rest) w := by
  subst hcs
  refine l_eff (w' := w.alloc (.cells v.cells T (0, 0))) (fun a ha => ?_) hd (k w.heap.size _ (hS.alloc _))
  simp only [execOp, ha.ev hx]
  simp [Instr.box, newVar, newRow]
theorem l_alloc {T : TypeId} {z : Value} {cs : Array Value} (hS : St S w0 w L) (hz : Zero P T z) (hcs : z.cells = cs) (hd : Nat.blt d n.n = true)
    (k : ∀ b w', St S w0 w' (.blk b (.cells cs T (0, 0)) :: L) → WL P K X n ((d, .pointer (some ⟨b, 0, none⟩)) :: E) ops rest w') : WL P K X n E ops (⟨some d, .alloc T, ty, pos, aft, none⟩ :: rest) w := by
  subst hcs
  refine l_eff (w' := w.alloc (.cells z.cells T (0, 0))) (fun a _ => ?_) hd (k w.heap.size _ (hS.alloc _))
  simp only [execOp]
  simp [Instr.alloc, newVar, newRow, hz w]

theorem l_store {T U : TypeId} {x y : Operand} {b o : Nat} {cs : Array Value} {v : Value} (i : Nat) (hS : St S w0 w L) (hT : Ty1 P T) (hi : L[i]? = some (.blk b (.cells cs U (0, 0)))) (ho : Nat.blt o cs.size = true)
    (hx : ev E x = some (.pointer (some ⟨b, o, none⟩))) (hy : ev E y = some v) (hv : v.oneCell' = true)
    (k : ∀ w', St S w0 w' (L.set i (.blk b (.cells (cs.setIfInBounds o v) U (0, 0)))) → WL P K X n E ops rest w') : WL P K X n E ops (⟨none, .store T x y, ty, pos, aft, none⟩ :: rest) w := by
  have hlt : o < cs.size := Nat.le_of_ble_eq_true ho
  have hc := hS.cell i (k := o) (v := cs[o]) hi (by simp [hlt])
  have hf : w.frozen? ⟨b, o, none⟩ = false := by simp [World.frozen?, hS.block hi]
  refine l_do (fun a ha => ?_) (k _ (hS.store hi v))
  simp only [execOp, ha.ev hx, ha.ev hy, Instr.storeAt, Instr.sureAddr]
  have h1 : v.cells = #[v] := by cases v <;> first | rfl | (simp [Value.oneCell'] at hv)
  simp [storeVar, h1, hT.size, storeCells, run_store _ _ _ _ _ hv, Addr.add, hc, hf]

theorem ones_all : ∀ {l : List Value}, ones l = true → ∀ u ∈ l, u.oneCell' = true
  | [], _, u, hu => absurd hu List.not_mem_nil
  | v :: r, h, u, hu => by
    simp only [ones, Bool.and_eq_true] at h
    rcases List.mem_cons.1 hu with rfl | hu
    · exact h.1
    · exact ones_all h.2 u hu
theorem l_storeN {T U m : TypeId} {x y : Operand} {b o : Nat} {cs vs : Array Value} (i : Nat) (hS : St S w0 w L) (hT : TyN P T m) (hi : L[i]? = some (.blk b (.cells cs U (0, 0)))) (ho : Nat.ble (o + vs.size) cs.size = true)
    (hx : ev E x = some (.pointer (some ⟨b, o, none⟩))) (hy : ev E y = some (.agg vs)) (hm : vs.size = m) (hv : ones vs.toList = true)
    (k : ∀ w', St S w0 w' (L.set i (.blk b (.cells (setFrom cs o vs.toList) U (0, 0)))) → WL P K X n E ops rest w') : WL P K X n E ops (⟨none, .store T x y, ty, pos, aft, none⟩ :: rest) w := by
  have hlt : o + vs.size ≤ cs.size := Nat.le_of_ble_eq_true ho
  refine l_do (fun a ha => ?_) (k _ (hS.stores vs.toList o hi))
  simp only [execOp, ha.ev hx, ha.ev hy, Instr.storeAt, Instr.sureAddr]
  have hc := fun j (hj : j < vs.size) => hS.cell i (k := o + j) (v := cs[o + j]'(by omega)) hi (by simp [show o + j < cs.size by omega])
  have hf : ∀ j, w.frozen? ⟨b, o + j, none⟩ = false := fun j => by simp [World.frozen?, hS.block hi]
  have := run_storeCells_cells (P := P) b o vs.toList 0 w (fun j hj => by rw [Nat.add_zero, hc j (by simpa using hj)]; rfl) (fun j _ => hf _)
    (fun v hv' => ones_all hv v hv')
  simp only [Nat.add_zero] at this
  simp [storeVar, Value.cells, hT.size, hm, this]

/-! ### Calls, guards -/

/-- A function that is entered where it is called. -/
def Goes (P : Program) (f : FuncId) : Prop := ∀ args w, (callFunc f args).run P w = .ok (.enter f args) w

theorem evs_map {a : Act} (ha : Fr n E a) : ∀ {xs : List Operand} {vs : List Value}, evs E xs = some vs → xs.map a.eval = vs
  | [], vs, hx => by simp [evs] at hx; simp [hx]
  | x :: r, vs, hx => by
    simp only [evs] at hx
    cases h1 : ev E x with
    | none => rw [h1] at hx; simp at hx
    | some v =>
      cases h2 : evs E r with
      | none => rw [h1, h2] at hx; simp at hx
      | some us =>
        rw [h1, h2] at hx
        simp only [Option.some.injEq] at hx
        subst hx
        simp [ha.ev h1, evs_map ha h2]

theorem run_callV {f : FuncId} {x : Operand} {xs : List Operand} {ts : Array TypeId} {vs first cap : List Value} {dst : Option Nat} {g : Option (Nat × Bool)} (hg : Goes P f) (hf : ev E x = some (.func (.func f) first.toArray cap.toArray)) (hx : evs E xs = some vs)
    {a : Act} (ha : Fr n E a) (w : World) : (execOp a.eval ⟨dst, .call { callee := .value x, args := xs.toArray, argTypes := ts }, ty, pos, aft, g⟩).run P w = .ok (.enter f (first ++ (vs ++ cap)).toArray) w := by
  have hm := evs_map ha hx
  simp only [execOp, resolve, ha.ev hf, Deferred.ofValue]
  simp [invoke, hm, hg _ w]

/-- A call of a function, or of a function value. -/
theorem l_callV {f : FuncId} {x : Operand} {xs : List Operand} {ts : Array TypeId} {vs first cap : List Value} {R : Ending → World → Prop} (hg : Goes P f) (hf : ev E x = some (.func (.func f) first.toArray cap.toArray)) (hx : evs E xs = some vs)
    (hc : Calls P f (first ++ (vs ++ cap)).toArray w R) (hd : Nat.blt d n.n = true)
    (k : ∀ e w', R e w' → ∃ v, e = .returned v ∧ WL P K X n ((d, v) :: E) ops rest w') :
    WL P K X n E ops (⟨some d, .call { callee := .value x, args := xs.toArray, argTypes := ts }, ty, pos, aft, none⟩ :: rest) w := by
  intro a ha
  refine both rfl (run_callV hg hf hx ha w) (fun _ h => by cases h) ?_ fun hi => ?_
  · rw [Oper.uponIn_enter]
    refine ⟨fun h => by simp [Fence.wide] at h, ?_⟩
    have h2 : CallsIn Fence.wide (0 - 1) P f (first ++ (vs ++ cap)).toArray w R := callsIn_wide.2 hc
    exact CallsIn.mono (F := Fn n) h2 fun e w' h => by
      obtain ⟨v, rfl, hk⟩ := k e w' h
      exact (hk _ (ha.put hd v)).1
  · rw [Oper.upon_enter]
    refine hc.mono fun e w' h => ?_
    obtain ⟨v, rfl, hk⟩ := k e w' h
    exact (hk _ (ha.put hd v)).2 hi
theorem l_call {f : FuncId} {xs : List Operand} {ts : Array TypeId} {vs : List Value} {R : Ending → World → Prop} (hg : Goes P f) (hx : evs E xs = some vs) (hc : Calls P f vs.toArray w R) (hd : Nat.blt d n.n = true)
    (k : ∀ e w', R e w' → ∃ v, e = .returned v ∧ WL P K X n ((d, v) :: E) ops rest w') :
    WL P K X n E ops (⟨some d, .call { callee := .value (.func f), args := xs.toArray, argTypes := ts }, ty, pos, aft, none⟩ :: rest) w :=
  l_callV (first := []) (cap := []) hg rfl hx (by simpa using hc) hd k
/-- .. in a region that only reads. -/
theorem q_call {C : World → Prop} {Rr : Act → Prop} {f : FuncId} {xs : List Operand} {ts : Array TypeId} {vs : List Value} {v : Value} (hg : Goes P f) (hx : evs E xs = some vs) (hc : ∀ w, C w → Calls P f vs.toArray w fun e w' => e = .returned v ∧ C w') (hd : Nat.blt d n.n = true)
    (k : WQ P n ((d, v) :: E) ops C Rr rest) :
    WQ P n E ops C Rr (⟨some d, .call { callee := .value (.func f), args := xs.toArray, argTypes := ts }, ty, pos, aft, none⟩ :: rest) := by
  intro a ha
  refine wpQuiet_step fun J hJ => ?_
  simp only [Region.wanted, if_true]
  refine ⟨v, fun w hw => ?_, hJ _ (k _ (ha.put hd v))⟩
  unfold Oper.quietAt
  rw [run_callV (first := []) (cap := []) hg rfl hx ha w]
  exact ⟨rfl, by simpa using hc w hw⟩

/-- A call that hands back a value and turns nothing that was there. -/
theorem l_callK {f : FuncId} {xs : List Operand} {ts : Array TypeId} {vs : List Value} {v : Value} (hg : Goes P f) (hx : evs E xs = some vs) (hS : St S w0 w L) (hc : Calls P f vs.toArray w fun e w' => e = .returned v ∧ Keep No w w') (hd : Nat.blt d n.n = true)
    (k : ∀ w', St S w0 w' L → WL P K X n ((d, v) :: E) ops rest w') :
    WL P K X n E ops (⟨some d, .call { callee := .value (.func f), args := xs.toArray, argTypes := ts }, ty, pos, aft, none⟩ :: rest) w :=
  l_call hg hx hc hd fun _ w' h => ⟨v, h.1, k w' (hS.call h.2)⟩
theorem q_callK {Rr : Act → Prop} {f : FuncId} {xs : List Operand} {ts : Array TypeId} {vs : List Value} {v : Value} (hg : Goes P f) (hx : evs E xs = some vs) (hc : ∀ w, St S w0 w L → Calls P f vs.toArray w fun e w' => e = .returned v ∧ Keep No w w') (hd : Nat.blt d n.n = true)
    (k : WQ P n ((d, v) :: E) ops (fun w' => St S w0 w' L) Rr rest) :
    WQ P n E ops (fun w' => St S w0 w' L) Rr (⟨some d, .call { callee := .value (.func f), args := xs.toArray, argTypes := ts }, ty, pos, aft, none⟩ :: rest) :=
  q_call hg hx (fun w hw => (hc w hw).mono fun _ _ h => ⟨h.1, hw.call h.2⟩) hd k
/-- A contract of a function that only draws. -/
theorem draws {f : FuncId} {vs : Array Value} {v : Value} (h : Calls P f vs w fun e w' => e = .returned v ∧ ∃ k, w' = w.drewN k) : Calls P f vs w fun e w' => e = .returned v ∧ Keep No w w' :=
  h.mono fun _ _ ⟨h1, k, h2⟩ => ⟨h1, h2 ▸ Keep.drewN w k⟩
theorem sames {f : FuncId} {vs : Array Value} {v : Value} (h : Calls P f vs w fun e w' => e = .returned v ∧ w = w') : Calls P f vs w fun e w' => e = .returned v ∧ Keep No w w' :=
  h.mono fun _ _ ⟨h1, h2⟩ => ⟨h1, h2 ▸ Keep.refl No w⟩

/-! ### Parting on a Bool that a slot holds -/

theorem look_put {E : Env} {t : Nat} {v : Value} (h : look E t = some v) {m : Nm} {a : Act} (ha : Fr m E a) : Fr m ((t, v) :: E) a := by
  refine ha.weak fun s u hs => ?_
  unfold look at hs
  cases hb : Nat.beq t s with
  | true => obtain rfl := Nat.eq_of_beq_eq_true hb; simp at hs; rw [h, hs]
  | false => rw [hb] at hs; simpa using hs
theorem l_part {p : Prop} [Decidable p] (t : Nat) {l : List Oper} (ht : look E t = some (.bool (decide p))) (h1 : p → WL P K X n ((t, .bool true) :: E) ops l w) (h2 : ¬ p → WL P K X n ((t, .bool false) :: E) ops l w) : WL P K X n E ops l w := by
  intro a ha
  by_cases hp : p
  · exact h1 hp a (look_put (by rw [ht, decide_eq_true hp]) ha)
  · exact h2 hp a (look_put (by rw [ht, decide_eq_false hp]) ha)
theorem l_partB {b : Bool} (t : Nat) {l : List Oper} (ht : look E t = some (.bool b)) (h1 : b = true → WL P K X n ((t, .bool true) :: E) ops l w) (h2 : b = false → WL P K X n ((t, .bool false) :: E) ops l w) : WL P K X n E ops l w := by
  intro a ha
  cases b with
  | true => exact h1 rfl a (look_put ht ha)
  | false => exact h2 rfl a (look_put ht ha)
theorem q_part {C : World → Prop} {Rr : Act → Prop} {p : Prop} [Decidable p] (t : Nat) {l : List Oper} (ht : look E t = some (.bool (decide p))) (h1 : p → WQ P n ((t, .bool true) :: E) ops C Rr l) (h2 : ¬ p → WQ P n ((t, .bool false) :: E) ops C Rr l) : WQ P n E ops C Rr l := by
  intro a ha
  by_cases hp : p
  · exact h1 hp a (look_put (by rw [ht, decide_eq_true hp]) ha)
  · exact h2 hp a (look_put (by rw [ht, decide_eq_false hp]) ha)
theorem q_partB {C : World → Prop} {Rr : Act → Prop} {b : Bool} (t : Nat) {l : List Oper} (ht : look E t = some (.bool b)) (h1 : b = true → WQ P n ((t, .bool true) :: E) ops C Rr l) (h2 : b = false → WQ P n ((t, .bool false) :: E) ops C Rr l) : WQ P n E ops C Rr l := by
  intro a ha
  cases b with
  | true => exact h1 rfl a (look_put ht ha)
  | false => exact h2 rfl a (look_put ht ha)

/-! ### Slices of the call's own -/

/-- What a type's row says: its zero value, of so many cells and bytes. -/
structure Elem (P : Program) (e size bytes : Nat) : Prop where
  ex : ∃ i z, P.info? e = some i ∧ i.zero = some z ∧ i.size = size ∧ i.bytes = bytes ∧ z.cells.size = size
  pos : 0 < size

theorem run_append_new {T U e size bytes : Nat} (hT : P.underlying T = some (.slice e)) (hE : Elem P e size bytes) {v : Value} {m : Nat} {xs : List Value} (hown : w.ownsRow 0 e size v m xs)
    {ad : Addr} {l c : Nat} {news : List Value} (hl : news.length = l * size) (hnews : ∀ j u, news[j]? = some u → w.cell? (ad.add j) = some u) (h1 : ∀ u ∈ news, u.oneCell' = true)
    (h63 : m + l ≤ maxLen) (hb : (m + l) * bytes ≤ 140737488355328) :
    ∃ v' w', (Builtin.append_ #[T, T] U #[v, .slice (some ad) l c]).run P w = .ok v' w' ∧ w'.ownsRow 0 e size v' (m + l) (xs ++ news) ∧ w.grownBy w' v.ownBlock ∧
      (v'.ownBlock = v.ownBlock ∨ ∃ g, v'.ownBlock = some g ∧ w.heap.size ≤ g) ∧ (v' = .slice none 0 0 ↔ v = .slice none 0 0 ∧ l = 0) := by
  obtain ⟨⟨i, z, hi, hz, rfl, rfl, hzs⟩, hpos⟩ := hE
  have h63' : m + l ≤ 9223372036854775807 := by have := h63; unfold maxLen at this; omega
  obtain ⟨v', w', hr, h2, h3, h4⟩ := run_append_own (P := P) w 0 T U e i z _ _ hT hi hz rfl rfl hzs hpos v m xs hown ad l c news hl hnews h1 h63 hb (Nat.zero_le _)
  refine ⟨v', w', hr, h2, h3, ?_, h4⟩
  rcases hown.2 with ⟨rfl, rfl⟩ | ⟨g, cap, cur, rfl, -, hg, hnc, hcm, hcs, htake⟩
  · obtain ⟨v2, w2, hr2, h5, -, -⟩ := run_append_own (P := P) w w.heap.size T U e i z _ _ hT hi hz rfl rfl hzs hpos _ 0 xs ⟨hown.1, .inl ⟨rfl, rfl⟩⟩ ad l c news hl hnews h1 h63 hb (Nat.le_refl _)
    rw [hr] at hr2
    cases hr2
    rcases h5.2 with ⟨rfl, -⟩ | ⟨g, cap, cur, rfl, hbg, -⟩
    · exact Or.inl rfl
    · exact Or.inr ⟨g, rfl, hbg⟩
  · by_cases hroom : m + l ≤ cap
    · have hfit : m * i.size + news.length ≤ cur.size := by rw [hl, hcs, ← Nat.add_mul]; exact Nat.mul_le_mul_right _ hroom
      have hr2 := run_append_room (P := P) w T U e i hT hi g m cap cur hg ad l c news hl hnews h1 hroom hfit
      rw [hr] at hr2
      cases hr2
      exact Or.inl rfl
    · have holds : ∀ j u, xs[j]? = some u → w.cell? ((⟨g, 0, none⟩ : Addr).add j) = some u := hown.cells (g := g) rfl
      have hr2 := run_append_grow (P := P) w T U e i z hT hi hz ⟨g, 0, none⟩ m cap xs hown.1 holds ad l c news hl hnews (by omega) (by omega) (growslice_fits (by omega) hb)
      rw [hr] at hr2
      cases hr2
      exact Or.inr ⟨w.heap.size, rfl, Nat.le_refl _⟩

/-- append onto a row of the call's own, of what lies anywhere. -/
theorem l_append {T e size bytes : Nat} {x y : Operand} {v : Value} {m : Nat} {xs : List Value} {ad : Addr} {l c : Nat} {news : List Value} (i : Nat) (hS : St S w0 w L) (hT : P.underlying T = some (.slice e)) (hE : Elem P e size bytes)
    (hi : L[i]? = some (.row e size v m xs)) (hx : ev E x = some v) (hy : ev E y = some (.slice (some ad) l c)) (hl : news.length = l * size) (hnews : ∀ j u, news[j]? = some u → w.cell? (ad.add j) = some u) (h1 : ∀ u ∈ news, u.oneCell' = true)
    (h63 : m + l ≤ maxLen) (hb : (m + l) * bytes ≤ 140737488355328) (hd : Nat.blt d n.n = true)
    (k : ∀ v' w', St S w0 w' (L.set i (.row e size v' (m + l) (xs ++ news))) → (v' = .slice none 0 0 ↔ v = .slice none 0 0 ∧ l = 0) → WL P K X n ((d, v') :: E) ops rest w') :
    WL P K X n E ops (⟨some d, .call { callee := .builtin .append, args := #[x, y], argTypes := #[T, T] }, ty, pos, aft, none⟩ :: rest) w := by
  obtain ⟨v', w', hr, h2, h3, h4, h5⟩ := run_append_new (U := ty) hT hE (hS.rowAt i hi) (c := c) hl hnews h1 h63 hb
  refine l_eff (w' := w') (fun a ha => ?_) hd (k v' w' (hS.replace hi ⟨h3.os, h3.tape, h3.output, h3.size, fun k hk hne => h3.block k hk fun e => hne e.symm⟩ h2 h4) h5)
  simp only [execOp, resolve, invoke, builtin, Sem.run_bind, Sem.run_pure, Result.andThen_ok, List.map_toArray, List.map_cons, List.map_nil, ha.ev hx, ha.ev hy, hr]

/-- A slice of one element, of as many cells as its type has. -/
theorem l_slice1 {T e size bytes : Nat} {x : Operand} {v : Value} {cs : Array Value} (hS : St S w0 w L) (hT : P.underlying T = some (.slice e)) (hz : ∀ w, (sizeOf e).run P w = .ok size w) {z : Value} (hze : Zero P e z) (hzs : z.cells.size = size) (hsz : size ≤ 16777216) (hpos : size ≠ 0)
    (hx : ev E x = some v) (hcs : v.cells = cs) (hn : cs.size = size) (hd : Nat.blt d n.n = true)
    (k : ∀ b w', St S w0 w' (.blk b (.cells cs e (0, 0)) :: L) → WL P K X n ((d, .slice (some ⟨b, 0, none⟩) 1 1) :: E) ops rest w') :
    WL P K X n E ops (⟨some d, .buildSlice T 1 #[(0, x)], ty, pos, aft, none⟩ :: rest) w := by
  have _ := bytes
  subst hcs
  refine l_eff (w' := w.alloc (.cells v.cells e (0, 0))) (fun a ha => ?_) hd (k w.heap.size _ (hS.alloc _))
  simp only [execOp]
  have hfill : Instr.fill (fun i => some (i * size, size)) ((Array.range (1 * size)).map (z.cells[· % z.cells.size]!)) [(0, v)] = some v.cells := by
    have key : ∀ (vs : List Value) (o : Nat) (A : Array Value), o + vs.length = A.size → (vs.zipIdx o).foldl (fun cs (p : Value × Nat) => cs.setIfInBounds (0 * size + p.2) p.1) A = (A.toList.take o ++ vs).toArray := by
      intro vs
      induction vs with
      | nil => intro o A h; simp only [List.zipIdx_nil, List.foldl_nil, List.append_nil]; rw [List.take_of_length_le (by simp at h ⊢; omega)]
      | cons u r ih =>
        intro o A h
        simp only [List.length_cons] at h
        simp only [List.zipIdx_cons, List.foldl_cons]
        rw [ih (o + 1) _ (by simp; omega)]
        congr 1
        simp only [Nat.zero_mul, Nat.zero_add, Array.toList_setIfInBounds]
        rw [List.take_succ_eq_append_getElem (by simp; omega)]
        simp only [List.getElem_set_self, List.append_assoc, List.cons_append, List.nil_append]
        rw [List.take_set_of_le (Nat.le_refl _)]
    simp only [Instr.fill, hn]
    rw [if_neg (by simp)]
    rw [← Array.foldl_toList, Array.toList_zipIdx]
    have := key v.cells.toList 0 ((Array.range (1 * size)).map (z.cells[· % z.cells.size]!)) (by simp [hn])
    simp only [List.take_zero, List.nil_append] at this
    rw [this]
  simp [Instr.buildSlice, run_underlying hT, hz w, hze w, newRow, ha.ev hx, show ¬ 16777216 < size by omega, hpos] at hfill ⊢
  rw [hfill]
  simp

/-! ### Guards: an operation that is carried out only where another one has yielded this -/

theorem guard_of {a : Act} (ha : Fr n E a) {j dj : Nat} {b : Bool} (hj : (ops[j]?).bind (·.dst) = some dj) (hv : look E dj = some (.bool b)) (hn : Nat.blt dj n.n = true) : yielded ops a.tmps j = some b := by
  have h1 := ha.get dj _ hv
  have hlt : dj < a.tmps.size := by rw [ha.size]; exact Nat.le_of_ble_eq_true hn
  simp only [yielded, hj, Option.bind_some]
  rw [Array.getD_eq_getD_getElem?, Array.getElem?_eq_getElem hlt, Option.getD_some] at h1
  rw [Array.getElem?_eq_getElem hlt, h1]

theorem l_skip {o : Op} {dst : Nat} {j dj : Nat} {b b' : Bool} (hj : (ops[j]?).bind (·.dst) = some dj) (hv : look E dj = some (.bool b)) (hn : Nat.blt dj n.n = true) (hb : (b == b') = false) (hd : Nat.blt dst n.n = true)
    (k : WL P K X n ((dst, undef) :: E) ops rest w) : WL P K X n E ops (⟨some dst, o, ty, pos, aft, some (j, b')⟩ :: rest) w := by
  intro a ha
  have hw : Region.wanted ⟨some dst, o, ty, pos, aft, some (j, b')⟩ (yielded ops a.tmps) = false := by
    simp only [Region.wanted, guard_of ha hj hv hn]
    cases b <;> cases b' <;> simp_all
  have h := k _ (ha.put hd undef)
  exact ⟨by simp only [wpListIn, hw, Bool.false_eq_true, if_false]; exact ⟨fun _ _ => trivial, h.1⟩, fun hi => wpList_skip hw (h.2 hi)⟩
theorem guard_undef {a : Act} (ha : Fr n E a) {j dj : Nat} (hj : (ops[j]?).bind (·.dst) = some dj) (hv : look E dj = some undef) (hn : Nat.blt dj n.n = true) : yielded ops a.tmps j = none := by
  have h1 := ha.get dj _ hv
  have hlt : dj < a.tmps.size := by rw [ha.size]; exact Nat.le_of_ble_eq_true hn
  simp only [yielded, hj, Option.bind_some]
  rw [Array.getD_eq_getD_getElem?, Array.getElem?_eq_getElem hlt, Option.getD_some] at h1
  rw [Array.getElem?_eq_getElem hlt, h1]
  rfl
theorem l_skipU {o : Op} {dst : Nat} {j dj : Nat} {b' : Bool} (hj : (ops[j]?).bind (·.dst) = some dj) (hv : look E dj = some undef) (hn : Nat.blt dj n.n = true) (hd : Nat.blt dst n.n = true)
    (k : WL P K X n ((dst, undef) :: E) ops rest w) : WL P K X n E ops (⟨some dst, o, ty, pos, aft, some (j, b')⟩ :: rest) w := by
  intro a ha
  have hw : Region.wanted ⟨some dst, o, ty, pos, aft, some (j, b')⟩ (yielded ops a.tmps) = false := by simp [Region.wanted, guard_undef ha hj hv hn]
  have h := k _ (ha.put hd undef)
  exact ⟨by simp only [wpListIn, hw, Bool.false_eq_true, if_false]; exact ⟨fun _ _ => trivial, h.1⟩, fun hi => wpList_skip hw (h.2 hi)⟩
theorem q_skipU {C : World → Prop} {Rr : Act → Prop} {o : Op} {dst : Nat} {j dj : Nat} {b' : Bool} (hj : (ops[j]?).bind (·.dst) = some dj) (hv : look E dj = some undef) (hn : Nat.blt dj n.n = true) (hd : Nat.blt dst n.n = true)
    (k : WQ P n ((dst, undef) :: E) ops C Rr rest) : WQ P n E ops C Rr (⟨some dst, o, ty, pos, aft, some (j, b')⟩ :: rest) := by
  intro a ha
  have hw : Region.wanted ⟨some dst, o, ty, pos, aft, some (j, b')⟩ (yielded ops a.tmps) = false := by simp [Region.wanted, guard_undef ha hj hv hn]
  refine wpQuiet_step fun J hJ => ?_
  simp only [hw, Bool.false_eq_true, if_false]
  exact hJ _ (k _ (ha.put hd undef))
theorem l_on {o : Op} {dst : Option Nat} {j dj : Nat} {b : Bool} (hj : (ops[j]?).bind (·.dst) = some dj) (hv : look E dj = some (.bool b)) (hn : Nat.blt dj n.n = true)
    (k : WL P K X n E ops (⟨dst, o, ty, pos, aft, none⟩ :: rest) w) : WL P K X n E ops (⟨dst, o, ty, pos, aft, some (j, b)⟩ :: rest) w := by
  intro a ha
  obtain ⟨h1, h2⟩ := k a ha
  have hw : Region.wanted ⟨dst, o, ty, pos, aft, some (j, b)⟩ (yielded ops a.tmps) = true := by simp [Region.wanted, guard_of ha hj hv hn]
  have hw0 : Region.wanted ⟨dst, o, ty, pos, aft, none⟩ (yielded ops a.tmps) = true := by simp [Region.wanted]
  refine ⟨?_, fun hi => ?_⟩
  · unfold wpListIn at h1 ⊢
    rw [if_pos hw0] at h1
    rw [if_pos hw]
    exact h1
  · have h := h2 hi
    unfold wpList at h ⊢
    rw [if_pos hw0] at h
    rw [if_pos hw]
    exact h
theorem q_skip {C : World → Prop} {Rr : Act → Prop} {o : Op} {dst : Nat} {j dj : Nat} {b b' : Bool} (hj : (ops[j]?).bind (·.dst) = some dj) (hv : look E dj = some (.bool b)) (hn : Nat.blt dj n.n = true) (hb : (b == b') = false) (hd : Nat.blt dst n.n = true)
    (k : WQ P n ((dst, undef) :: E) ops C Rr rest) : WQ P n E ops C Rr (⟨some dst, o, ty, pos, aft, some (j, b')⟩ :: rest) := by
  intro a ha
  have hw : Region.wanted ⟨some dst, o, ty, pos, aft, some (j, b')⟩ (yielded ops a.tmps) = false := by
    simp only [Region.wanted, guard_of ha hj hv hn]
    cases b <;> cases b' <;> simp_all
  refine wpQuiet_step fun J hJ => ?_
  simp only [hw, Bool.false_eq_true, if_false]
  exact hJ _ (k _ (ha.put hd undef))
theorem q_on {C : World → Prop} {Rr : Act → Prop} {o : Op} {dst : Option Nat} {j dj : Nat} {b : Bool} (hj : (ops[j]?).bind (·.dst) = some dj) (hv : look E dj = some (.bool b)) (hn : Nat.blt dj n.n = true)
    (k : WQ P n E ops C Rr (⟨dst, o, ty, pos, aft, none⟩ :: rest)) : WQ P n E ops C Rr (⟨dst, o, ty, pos, aft, some (j, b)⟩ :: rest) := by
  intro a ha
  have h := k a ha
  unfold wpQuiet at h ⊢
  rw [if_pos (by simp [Region.wanted])] at h
  rw [if_pos (by simp [Region.wanted, guard_of ha hj hv hn])]
  exact h

theorem q_region {id : Nat} {l : List Oper} (hS : St S w0 w L) (hm : P.follows .mixedOrders = true) (hB : Region.lexB .any l.toArray = true)
    (h : WQ P n E l.toArray (fun w' => St S w0 w' L) (fun a' => ∀ w', St S w0 w' L → K a' w') l) (hro : n.ro = none := by rfl) : WC P K X n E (.region id l.toArray true) w :=
  c_quiet hm hB (hS.drew 1) h hro

/-- A region behind which code stands. -/
theorem s_region {id : Nat} {l : List Oper} {y : Code} (h : WL P (fun a w => y.wpIn (Fn n) 0 P (Exit.then K X) a w) X n E l.toArray l w) : WC P K X n E (.seq (.region id l.toArray false) y) w := c_seq (c_region h)
theorem s_quiet {id : Nat} {l : List Oper} {y : Code} (hS : St S w0 w L) (hm : P.follows .mixedOrders = true) (hB : Region.lexB .any l.toArray = true)
    (h : WQ P n E l.toArray (fun w' => St S w0 w' L) (fun a' => ∀ w', St S w0 w' L → y.wpIn (Fn n) 0 P (Exit.then K X) a' w') l) (hro : n.ro = none := by rfl) : WC P K X n E (.seq (.region id l.toArray true) y) w :=
  c_seq (q_region hS hm hB h hro)
theorem l_end (h : ∀ a, Fr n E a → K a w) : WL P K X n E ops [] w := fun a ha => ⟨h a ha, fun _ => h a ha⟩
theorem s_end {y : Code} (h : WC P K X n E y w) : WL P (fun a w => y.wpIn (Fn n) 0 P (Exit.then K X) a w) X n E ops [] w := fun a ha => ⟨h a ha, fun _ => h a ha⟩
theorem qs_end {y : Code} (h : ∀ w', St S w0 w' L → WC P K X n E y w') : WQ P n E ops (fun w' => St S w0 w' L) (fun a' => ∀ w', St S w0 w' L → y.wpIn (Fn n) 0 P (Exit.then K X) a' w') [] := fun a ha w' hw' => h w' hw' a ha
theorem q_end (h : ∀ w', St S w0 w' L → ∀ a, Fr n E a → K a w') : WQ P n E ops (fun w' => St S w0 w' L) (fun a' => ∀ w', St S w0 w' L → K a' w') [] := fun a ha w' hw' => h w' hw' a ha
/-- Behind a piece of code stands more. -/
theorem k_code {y : Code} (h : WC P K X n E y w) : ∀ a, Fr n E a → y.wpIn (Fn n) 0 P (Exit.then K X) a w := h

/-! ### The beginning and the end of a function -/

theorem Fr.enter (vs : List Value) (m : Nat) (E : Env) (hE : ∀ t v, look E t = some v → vs[t]? = some v) : Fr ⟨vs.length + m, [], none, false⟩ E { tmps := vs.toArray ++ Array.replicate m undef, defers := [] } := by
  refine ⟨by simp, rfl, fun t v ht => ?_⟩
  have := hE t v ht
  obtain ⟨hlt, he⟩ := List.getElem?_eq_some_iff.1 this
  simp [Array.getD_eq_getD_getElem?, Array.getElem?_append, hlt, he]

def args0 : Nat → List Value → Env
  | _, [] => []
  | i, v :: r => (i, v) :: args0 (i + 1) r

theorem args0_look : ∀ (vs : List Value) (i t : Nat) (v : Value), look (args0 i vs) t = some v → i ≤ t ∧ vs[t - i]? = some v
  | [], i, t, v, h => by simp [args0, look] at h
  | u :: r, i, t, v, h => by
    simp only [args0, look] at h
    cases hb : Nat.beq i t with
    | true =>
      obtain rfl := Nat.eq_of_beq_eq_true hb
      simp at h
      exact ⟨Nat.le_refl _, by simp [h]⟩
    | false =>
      rw [hb] at h
      obtain ⟨h1, h2⟩ := args0_look r (i + 1) t v (by simpa using h)
      refine ⟨by omega, ?_⟩
      rw [show t - i = (t - (i + 1)) + 1 by omega, List.getElem?_cons_succ]
      exact h2

theorem enter {n : Nat} {f : FuncId} {fn : Func} {c : Code} {vs : List Value} {R : Ending → World → Prop} (hf : P.funcs[f]? = some fn) (hb : fn.body = some c) (hn : fn.ntmps = n) (hle : Nat.ble vs.length n = true)
    (h : WC P (bodyPost P fn R .normal) (bodyPost P fn R) ⟨n, [], none, false⟩ (args0 0 vs) c w) : Calls P f vs.toArray w R := by
  have hle' : vs.length ≤ n := Nat.le_of_ble_eq_true hle
  have := Fr.enter vs (n - vs.length) (args0 0 vs) (fun t v ht => by have := (args0_look vs 0 t v ht).2; simpa using this)
  rw [show vs.length + (n - vs.length) = n by omega] at this
  exact calls_of_wp hf hb (wp_mono (wpIn_wide.1 (h _ (by simpa [hn] using this))) fun e a w q => by cases e <;> exact q)

theorem c_ret0 {fn : Func} {R : Ending → World → Prop} [hX : Rets X P fn R] (hr : fn.results = #[]) (h : R (.returned (.tuple #[])) w) (hds : n.ds = [] := by rfl) : WC P K X n E .ret w :=
  fun a ha => wpIn_ret (hX.to a w ⟨ha.defers.trans hds, _, results_none hr a.tmps P w, h⟩)
theorem end0 {fn : Func} {R : Ending → World → Prop} (hr : fn.results = #[]) (h : R (.returned (.tuple #[])) w) (hds : n.ds = [] := by rfl) : ∀ a, Fr n E a → bodyPost P fn R .normal a w :=
  fun a ha => ⟨ha.defers.trans hds, _, results_none hr a.tmps P w, h⟩
theorem c_ret1 {fn : Func} {R : Ending → World → Prop} [hX : Rets X P fn R] {t : Nat} {v : Value} (hr : fn.results = #[.tmp t]) (hv : look E t = some v) (h : R (.returned v) w) (hds : n.ds = [] := by rfl) : WC P K X n E .ret w :=
  fun a ha => wpIn_ret (hX.to a w ⟨ha.defers.trans hds, _, by rw [results_tmp hr, ha.get t v hv], h⟩)
theorem c_ret2 {fn : Func} {R : Ending → World → Prop} [hX : Rets X P fn R] {t u : Nat} {v x : Value} (hr : fn.results = #[.tmp t, .tmp u]) (hv : look E t = some v) (hx : look E u = some x) (h : R (.returned (.tuple #[v, x])) w) (hds : n.ds = [] := by rfl) : WC P K X n E .ret w :=
  fun a ha => wpIn_ret (hX.to a w ⟨ha.defers.trans hds, _, by rw [results_tmp2 hr, ha.get t v hv, ha.get u x hx], h⟩)

/-! ### Loops -/

/-- A loop: what holds at each round's head (of a measure, a frame, a world); what a round owes. -/
theorem c_loop {c : Code} (I : Nat → Act → World → Prop) (m : Nat) (h0 : ∀ a, Fr n E a → I m a w)
    (h : ∀ m a w, I m a w → c.wpIn (Fn n) 0 P (Exit.then (fun a' w' => ∃ m', m' < m ∧ I m' a' w') X) a w) : WC P K X n E (.loop c) w := by
  intro a ha
  classical
  have hex : ∀ a w, (∃ m, I m a w) → ∃ k, I k a w ∧ ∀ j, I j a w → k ≤ j := by
    intro a w ⟨m, hm⟩
    induction m using Nat.strongRecOn with
    | _ m ih =>
      by_cases hj : ∃ j, j < m ∧ I j a w
      · obtain ⟨j, hlt, hI⟩ := hj
        exact ih j hlt hI
      · exact ⟨m, hm, fun j hI => Nat.le_of_not_lt fun hlt => hj ⟨j, hlt, hI⟩⟩
  let μ : Act → World → Nat := fun a w => if hI : ∃ m, I m a w then Classical.choose (hex a w hI) else 0
  have hμ : ∀ a w k, I k a w → I (μ a w) a w ∧ μ a w ≤ k := by
    intro a w k hI
    have hI' : ∃ m, I m a w := ⟨k, hI⟩
    simp only [μ, dif_pos hI']
    exact ⟨(Classical.choose_spec (hex a w hI')).1, (Classical.choose_spec (hex a w hI')).2 k hI⟩
  refine wpIn_loop (fun a w => ∃ m, I m a w) μ ⟨m, h0 a ha⟩ fun a w ⟨k, hI⟩ => ?_
  refine wpIn_mono (Q := Exit.then (fun a' w' => ∃ m', m' < μ a w ∧ I m' a' w') X) (h (μ a w) a w (hμ a w k hI).1) fun e a' w' q => ?_
  cases e with
  | normal =>
    obtain ⟨m', hlt, hI'⟩ := q
    exact ⟨⟨m', hI'⟩, Nat.lt_of_le_of_lt (hμ a' w' m' hI').2 hlt⟩
  | exit id => exact q
  | goto l => exact q
  | ret => exact q
  | panic ch => exact q
  | outgrown => exact q

theorem kn : knows E [] := trivial
theorem kc {t : Nat} {v : Value} {E' : Env} (h : look E t = some v) (h' : knows E E') : knows E ((t, v) :: E') := ⟨h, h'⟩
/-- Of some slots, what is known. -/
def pick (E : Env) : List Nat → Env
  | [] => []
  | t :: r => match look E t with
    | some v => (t, v) :: pick E r
    | none => pick E r

/-- A loop: x: what goes round; V: the slots that a round turns; E': slots that it reads and that stay. -/
theorem c_loopV {c : Code} {α : Type} (E' : Env) (V : α → Env) (I : α → World → Prop) (μ : α → Nat) (x0 : α) (h0 : I x0 w) (hE : knows E (V x0 ++ E'))
    (round : ∀ x w, I x w → WC P (fun a' w' => ∃ x', μ x' < μ x ∧ I x' w' ∧ Fr n (V x' ++ E') a') X n (V x ++ E') c w) : WC P K X n E (.loop c) w := by
  refine c_loop (fun m a w => ∃ x, μ x = m ∧ I x w ∧ Fr n (V x ++ E') a) (μ x0) (fun a ha => ⟨x0, rfl, h0, ha.sub hE⟩) ?_
  rintro m a w ⟨x, rfl, hI, ha⟩
  refine then_then (round x w hI a ha) ?_
  rintro a' w' ⟨x', hlt, hI', ha'⟩
  exact ⟨μ x', hlt, x', rfl, hI', ha'⟩

/-- Ways meet again: x: what may be other; V: slots that may be other; E': slots that stay and are read behind. -/
theorem c_cutV {x y : Code} {α : Type} (E' : Env) (V : α → Env) (I : α → World → Prop) (_hE : knows E E') (hx : WC P (fun a w => ∃ u, I u w ∧ Fr n (V u ++ E') a) X n E x w)
    (hy : ∀ u w, I u w → WC P K X n (V u ++ E') y w) : WC P K X n E (.seq x y) w :=
  c_seq fun a ha => then_then (hx a ha) fun a' w' ⟨u, hI, ha'⟩ => hy u w' hI a' ha'

/-- Two ways, or a piece of code, meet again: what holds there. -/
theorem c_cut {x y : Code} (J : Act → World → Prop) (hx : WC P J X n E x w) (hy : ∀ a w, J a w → y.wpIn (Fn n) 0 P (Exit.then K X) a w) : WC P K X n E (.seq x y) w :=
  c_seq fun a ha => then_then (hx a ha) hy

end
end Go.Proofs.Ytndchgmgcjebiaa.E
