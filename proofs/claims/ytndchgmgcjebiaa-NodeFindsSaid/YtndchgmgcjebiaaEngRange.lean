/- A range over a function: the statement, a round, the iterator's call of yield, the function's end with a mark among its deferred calls. -/
import Derived.Test.YtndchgmgcjebiaaEngDraw
namespace Go.Proofs.Ytndchgmgcjebiaa.E
open Go Go.RowKit
set_option linter.unusedVariables false

section
variable {P : Program} {K : Act → World → Prop} {X : Exit → Act → World → Prop} {n : Nm} {E : Env} {w w0 : World} {S : Nat → Prop} {L : List Ent} {ops : Array Oper} {rest : List Oper} {d : Nat} {ty : TypeId} {pos : String} {aft : Array Edge}

theorem keep_put {w : World} {b : Nat} {o : Obj} : Keep (· = b) w (w.putObj b o) :=
  ⟨rfl, rfl, rfl, by simp [World.putObj], fun k _ hne => World.putObj_heap_other hne⟩
theorem St.put {L : List Ent} (h : St S w0 w L) {i b : Nat} {o : Obj} (hi : L[i]? = some (.blk b o)) (o' : Obj) : St S w0 (w.putObj b o') (L.set i (.blk b o')) :=
  h.turn hi keep_put (World.putObj_heap_same (Array.getElem?_eq_some_iff.1 (h.block hi)).1)

/-- The mark of an outermost loop. -/
abbrev mark (D : Nat) : Deferred := { target := .collected D, args := #[] }

/-- The statement. -/
theorem c_range {g : Operand} {ps : Array Tmp} {assign body : Code} {gf : FuncId} {lb : List Value} (hg : ev E g = some (.func (.func gf) #[] lb.toArray)) (hgo : Goes P gf) (hro : n.ro = none) (hS : St S w0 w L)
    (h : ∀ (fn : FuncId) (tmps : Array Value) (l D : Nat) (w1 : World), Fr n E { tmps := tmps, defers := n.ds } →
      St S w0 w1 (.blk l (.loop { state := .ready, pending := none, fn := fn, tmps := tmps, params := ps, assign := assign, body := body, defers := D }) :: .blk D (.deferred (some [])) :: L) →
      Calls P gf (.func (.yield l) #[] #[] :: lb).toArray w1 fun e w2 => (∃ v, e = .returned v) ∧ ∃ (L2 : List Ent) (i : Nat) (r : Loop), St S w0 w2 L2 ∧ L2[i]? = some (.blk l (.loop r)) ∧ r.state ≠ .busy ∧ r.pending = none ∧
        ∀ w3, St S w0 w3 (L2.set i (.blk l (.loop { r with state := .exhausted }))) → ∀ a, Fr ⟨n.n, mark D :: n.ds, n.ro, n.it⟩ E a → K a w3) :
    WC P K X n E (.rangeFunc g ps assign body) w := by
  intro a ha
  refine wpIn_rangeFunc ?_
  intro fn _
  have hfr : Fr n E { tmps := a.tmps, defers := n.ds } := by rw [← ha.defers]; exact ha
  have h1 := (hS.alloc (.deferred (some []))).alloc (.loop { state := .ready, pending := none, fn := fn, tmps := a.tmps, params := ps, assign := assign, body := body, defers := w.heap.size })
  have hcall := h fn a.tmps _ w.heap.size _ hfr h1
  rw [World.size_alloc] at hcall
  clear h1
  have hent := run_enterLoop_outer (P := P) (w := w) fn a.tmps ps assign body
  rw [← hro] at hent
  generalize (w.alloc (.deferred (some []))).alloc (.loop { state := .ready, pending := none, fn := fn, tmps := a.tmps, params := ps, assign := assign, body := body, defers := w.heap.size }) = w1 at hcall hent
  refine ⟨w.heap.size + 1, [mark w.heap.size], w1, { target := .fn (.func gf) lb.toArray, args := #[.func (.yield (w.heap.size + 1)) #[] #[]] }, w1, gf, (.func (.yield (w.heap.size + 1)) #[] #[] :: lb).toArray, w1, hent, ?_, fun _ _ => trivial, ?_, fun h => by simp [Fence.wide] at h, ?_⟩
  · simp only [resolve, ha.ev hg]
    simp [go_sem]
  · simp [invoke]
    exact hgo _ _
  · rw [Fn.wide hro]
    refine callsIn_wide.2 (hcall.mono ?_)
    rintro e w2 ⟨⟨v, rfl⟩, L2, i, r, hS2, hi, hb, hp, hk⟩
    refine ⟨none, _, by rw [← hp]; exact run_endLoop (P := P) (hS2.block hi) hb, hk _ (hS2.put hi _) _ ⟨ha.size, by rw [ha.defers]; rfl, ha.get⟩⟩

/-- One round: the loop's left side, then the body. -/
theorem round_of {nr : Nm} {Er : Env} {l i : Nat} {r : Loop} {vs : List Value} {R : Ending → World → Prop} (hnr : nr.ro = some l) (hS : St S w0 w L) (hi : L[i]? = some (.blk l (.loop r))) (hrd : r.state = .ready)
    (hfr : Fr nr Er { tmps := (r.params.zip vs.toArray).foldl (fun t (p, v) => t.setIfInBounds p v) r.tmps, defers := [] })
    (ha : WC P (fun a w1 => w1 = w ∧ ∀ w2, St S w0 w2 (L.set i (.blk l (.loop { r with state := .busy }))) → r.body.wpIn (Fn nr) 0 P (Exit.then (fun _ w3 => ∃ (L3 : List Ent) (j : Nat), St S w0 w3 L3 ∧ L3[j]? = some (.blk l (.loop { r with state := .busy })) ∧
      ∀ w4, St S w0 w4 (L3.set j (.blk l (.loop { r with state := .ready, pending := none }))) → R (.returned (.bool true)) w4) (fun _ _ _ => False)) a w2) (fun _ _ _ => False) nr Er r.assign w) :
    RoundIn Fence.wide 0 P l r.fn ((r.params.zip vs.toArray).foldl (fun t (p, v) => t.setIfInBounds p v) r.tmps) r.assign r.body w R := by
  have hFn : Fn nr = Fence.wide.inRound l := by unfold Fn; rw [hnr]; rfl
  refine roundIn_of_wpIn trivial ?_
  rw [← hFn]
  refine wpIn_mono (ha _ hfr) ?_
  rintro e a1 w1 q
  cases e with
  | normal =>
    obtain ⟨rfl, hb⟩ := q
    refine ⟨_, run_beginRound (hS.block hi) hrd, ?_⟩
    refine wpIn_mono (hb _ (hS.put hi _)) ?_
    rintro e a3 w3 q
    cases e with
    | normal =>
      obtain ⟨L3, j, hS3, hj, hR⟩ := q
      exact ⟨_, _, run_endRound (P := P) none (hS3.block hj), hR _ (hS3.put hj _)⟩
    | ret => exact q.elim
    | exit id => exact q.elim
    | goto t => exact q.elim
    | panic c => exact q.elim
    | outgrown => exact q.elim
  | ret => exact q.elim
  | exit id => exact q.elim
  | goto t => exact q.elim
  | panic c => exact q.elim
  | outgrown => exact q.elim
theorem round_go {nr : Nm} {E1 : Env} {body : Code} {K : Act → World → Prop} {X : Exit → Act → World → Prop} {A : World → Prop} (h : ∀ w2, A w2 → WC P K X nr E1 body w2) : ∀ a, Fr nr E1 a → w = w ∧ ∀ w2, A w2 → body.wpIn (Fn nr) 0 P (Exit.then K X) a w2 :=
  fun a ha => ⟨rfl, fun w2 h2 => h w2 h2 a ha⟩

/-- The iterator asks for a round. -/
theorem l_yield {x : Operand} {xs : List Operand} {ts : Array TypeId} {vs : List Value} {l i : Nat} {r : Loop} {R : Ending → World → Prop} (hf : ev E x = some (.func (.yield l) #[] #[])) (hx : evs E xs = some vs) (hro : n.ro = none) (hit : n.it = true)
    (hS : St S w0 w L) (hi : L[i]? = some (.blk l (.loop r))) (hps : vs.length = r.params.size) (hd : Nat.blt d n.n = true)
    (hr : RoundIn Fence.wide 0 P l r.fn ((r.params.zip vs.toArray).foldl (fun t (p, v) => t.setIfInBounds p v) r.tmps) r.assign r.body w R)
    (k : ∀ e w', R e w' → ∃ v, e = .returned v ∧ WL P K X n ((d, v) :: E) ops rest w') :
    WL P K X n E ops (⟨some d, .call { callee := .value x, args := xs.toArray, argTypes := ts }, ty, pos, aft, none⟩ :: rest) w := by
  intro a ha
  have hm := evs_map ha hx
  have hy := run_yield (P := P) (args := vs.toArray) (hS.block hi) (by simpa using hps)
  have hrun : (execOp a.eval ⟨some d, .call { callee := .value x, args := xs.toArray, argTypes := ts }, ty, pos, aft, none⟩).run P w =
      .ok (.round l r.fn ((r.params.zip vs.toArray).foldl (fun t (p, v) => t.setIfInBounds p v) r.tmps) r.assign r.body) w := by
    simp only [execOp, resolve, ha.ev hf, Deferred.ofValue]
    simp [invoke, hm, hy]
  refine both rfl hrun (fun _ h => by cases h) ?_ (fun h => by rw [hit] at h; cases h)
  rw [Oper.uponIn_round, Fn.wide hro]
  refine ⟨fun h => by simp [Fence.wide] at h, hr.mono fun e w' h => ?_⟩
  obtain ⟨v, rfl, hk⟩ := k e w' h
  rw [← Fn.wide hro]
  exact (hk _ (ha.put hd v)).1

/-! ### A function that ranges over functions: its beginning and its end -/

/-- Where a function may end that ranges over functions: nobody panics. -/
def bodyPostN (P : Program) (fn : Func) (R : Ending → World → Prop) : Exit → Act → World → Prop
  | .normal, a, w | .ret, a, w => LeavesInM Fence.wide 0 P fn a.tmps R a.defers .returning w
  | _, _, _ => False
class RetsM (X : Exit → Act → World → Prop) (P : outParam Program) (fn : outParam Func) (R : outParam (Ending → World → Prop)) : Prop where
  to : ∀ a w, bodyPostM Fence.wide 0 P fn R .ret a w → X .ret a w
instance (P : Program) (fn : Func) (R : Ending → World → Prop) : RetsM (bodyPostN P fn R) P fn R := ⟨fun _ _ h => h⟩
instance (id : Nat) (K : Act → World → Prop) (X : Exit → Act → World → Prop) (P : Program) (fn : Func) (R : Ending → World → Prop) [h : RetsM X P fn R] : RetsM (blk id K X) P fn R := ⟨h.to⟩
instance (P : Program) (fn : Func) (R : Ending → World → Prop) : Blind (bodyPostN P fn R) := ⟨fun c a d v w h => h.elim⟩

theorem enterM {n : Nat} {f : FuncId} {fn : Func} {c : Code} {vs : List Value} {R : Ending → World → Prop} (hf : P.funcs[f]? = some fn) (hb : fn.body = some c) (hn : fn.ntmps = n) (hle : Nat.ble vs.length n = true)
    (h : WC P (bodyPostN P fn R .normal) (bodyPostN P fn R) ⟨n, [], none, false⟩ (args0 0 vs) c w) : Calls P f vs.toArray w R := by
  have hle' : vs.length ≤ n := Nat.le_of_ble_eq_true hle
  have := Fr.enter vs (n - vs.length) (args0 0 vs) (fun t v ht => by have := (args0_look vs 0 t v ht).2; simpa using this)
  rw [show vs.length + (n - vs.length) = n by omega] at this
  exact callsIn_wide.1 (callsIn_of_wp_marks (n := 0) hf hb trivial (wpIn_mono (h _ (by simpa [hn] using this)) fun e a w q => by cases e <;> first | exact q | exact q.elim))

theorem load_cell {T U k b i : Nat} {cs : Array Value} {fz : Nat × Nat} {t : Nat} {a : Act} {fn : Func} (hr : fn.results = #[.cell t T]) (hT : TyN P T k) (hS : St S w0 w L) (hi : L[i]? = some (.blk b (.cells cs U fz))) (hk : cs.size = k)
    (ht : look E t = some (.pointer (some ⟨b, 0, none⟩))) (ha : ∀ t v, look E t = some v → a.tmps.getD t undef = v) : (results fn a.tmps).run P w = .ok (.agg cs) w := by
  have h1 := load_whole hT hS hi hk
  simp only [results, hr, List.mapM_toArray, List.mapM_cons, List.mapM_nil, ha t _ ht, asAddr, Sem.run_bind, Sem.run_pure]
  simp [h1]

/-- A return ahead of the loop. -/
theorem c_retM0 {fn : Func} {R : Ending → World → Prop} [hX : RetsM X P fn R] {t T U k b : Nat} {cs : Array Value} {fz : Nat × Nat} (i : Nat) (hr : fn.results = #[.cell t T]) (hT : TyN P T k) (hS : St S w0 w L) (hi : L[i]? = some (.blk b (.cells cs U fz))) (hk : cs.size = k)
    (ht : look E t = some (.pointer (some ⟨b, 0, none⟩))) (h : R (.returned (.agg cs)) w) (hds : n.ds = [] := by rfl) : WC P K X n E .ret w :=
  fun a ha => wpIn_ret (hX.to a w (by
    show LeavesInM _ _ _ _ _ _ a.defers _ _
    rw [ha.defers, hds]
    exact ⟨_, load_cell hr hT hS hi hk ht ha.get, h⟩))
/-- A return behind the loop. -/
theorem c_retM1 {fn : Func} {R : Ending → World → Prop} [hX : RetsM X P fn R] {t T U k b D : Nat} {cs : Array Value} {fz : Nat × Nat} (i j : Nat) (hr : fn.results = #[.cell t T]) (hT : TyN P T k) (hS : St S w0 w L) (hi : L[i]? = some (.blk b (.cells cs U fz))) (hk : cs.size = k)
    (hj : L[j]? = some (.blk D (.deferred (some [])))) (hi' : (L.set j (.blk D (.deferred none)))[i]? = some (.blk b (.cells cs U fz)))
    (ht : look E t = some (.pointer (some ⟨b, 0, none⟩))) (h : ∀ w', St S w0 w' (L.set j (.blk D (.deferred none))) → R (.returned (.agg cs)) w') (hds : n.ds = [mark D] := by rfl) : WC P K X n E .ret w :=
  fun a ha => wpIn_ret (hX.to a w (by
    show LeavesInM _ _ _ _ _ _ a.defers _ _
    rw [ha.defers, hds]
    have hS' := hS.put hj (.deferred none)
    exact ⟨by simp, .inl ⟨D, _, rfl, run_takeDeferred (hS.block hj), ⟨_, load_cell hr hT hS' hi' hk ht ha.get, h _ hS'⟩⟩⟩))
/-- An iterator's beginning: it may ask for rounds. -/
theorem enterI {n : Nat} {f : FuncId} {fn : Func} {c : Code} {vs : List Value} {R : Ending → World → Prop} (hf : P.funcs[f]? = some fn) (hb : fn.body = some c) (hn : fn.ntmps = n) (hle : Nat.ble vs.length n = true)
    (h : WC P (bodyPost P fn R .normal) (bodyPost P fn R) ⟨n, [], none, true⟩ (args0 0 vs) c w) : Calls P f vs.toArray w R := by
  have hle' : vs.length ≤ n := Nat.le_of_ble_eq_true hle
  have := Fr.enter vs (n - vs.length) (args0 0 vs) (fun t v ht => by have := (args0_look vs 0 t v ht).2; simpa using this)
  rw [show vs.length + (n - vs.length) = n by omega] at this
  have h2 : Fr ⟨n, [], none, true⟩ (args0 0 vs) { tmps := vs.toArray ++ Array.replicate (n - vs.length) undef, defers := [] } := ⟨this.size, this.defers, this.get⟩
  exact calls_of_wp hf hb (wp_mono (wpIn_wide.1 (h _ (by simpa [hn] using h2))) fun e a w q => by cases e <;> exact q)

/-- A round's frame: what was known at the statement, and the round's parameter. -/
theorem Fr.round1 {n : Nm} {E : Env} {tmps : Array Value} {t : Tmp} {v : Value} {l : Nat} (h : Fr n E { tmps := tmps, defers := n.ds }) (ht : Nat.blt t n.n = true) :
    Fr ⟨n.n, [], some l, false⟩ ((t, v) :: E) { tmps := (#[t].zip [v].toArray).foldl (fun t (p, v) => t.setIfInBounds p v) tmps, defers := [] } := by
  have h2 := h.put ht v
  exact ⟨by simpa [Act.put] using h2.size, rfl, fun s u hs => by have := h2.get s u hs; simpa [Act.put] using this⟩
theorem Fr.round0 {n : Nm} {E : Env} {tmps : Array Value} {l : Nat} {vs : Array Value} (h : Fr n E { tmps := tmps, defers := n.ds }) :
    Fr ⟨n.n, [], some l, false⟩ E { tmps := ((#[] : Array Tmp).zip vs).foldl (fun t (p, v) => t.setIfInBounds p v) tmps, defers := [] } := by
  have e : (#[] : Array Tmp).zip vs = #[] := by apply Array.ext' ; simp
  rw [e]
  exact ⟨h.size, rfl, fun s u hs => h.get s u hs⟩

end
end Go.Proofs.Ytndchgmgcjebiaa.E
