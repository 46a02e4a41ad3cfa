/- Cells, nodes and questions that came in with a call, opened. -/
import Derived.Test.YtndchgmgcjebiaaLawRow
import Derived.Test.YtndchgmgcjebiaaNodeMade
namespace Go.Proofs.Ytndchgmgcjebiaa
open Go Go.ChangeShapes Go.WideShapes Go.ChangeAt Go.RowKit E Go.WideElems Go.ChangeMaps Go.Joins
set_option linter.unusedVariables false

instance : Inhabited Cel := ⟨cel0⟩
theorem op_cellsC : Try.prog.cellsOf 27 = 4 := by kernel_rfl
theorem op_cellsN : Try.prog.cellsOf 24 = 2 := by kernel_rfl
theorem op_cellsS : Try.prog.cellsOf 9 = 1 := by kernel_rfl
theorem op_cellsI : Try.prog.cellsOf 3 = 1 := by kernel_rfl
theorem four_of {α : Type} {l : List α} (h : l.length = 4) : ∃ a b c d, l = [a, b, c, d] := by
  match l, h with
  | [a, b, c, d], _ => exact ⟨a, b, c, d, rfl⟩
theorem open_cell4 {H : Type} {en : TypeId × Value → H} {w : World} {base : Nat} {sp : Nat → Bool} {hd : Bool} {fuel : Nat} {cs : List Value} {x : DataW H × List MemPlace}
    (h : DataW.trod en Try.prog w base sp hd fuel 27 cs = some x) : ∃ c : Cel, cs = enc c ∧ c.key.size ≤ 9223372036854775807 ∧ c.val.size ≤ 9223372036854775807 := by
  obtain ⟨y0, y1, y2, y3, n, -, hl, h0, h1, h2, h3⟩ := trod_struct4 Try.underlying27 h
  rw [op_cellsC] at hl
  obtain ⟨a, b, c, d, rfl⟩ := four_of hl
  simp only [op_cellsS, op_cellsI] at h0 h1 h2 h3
  obtain ⟨s, hs, -, ks⟩ := DataW.trod_string Try.underlying9 h0
  obtain ⟨v, hv, -, kv⟩ := DataW.trod_string Try.underlying9 h1
  obtain ⟨p, hp, -, -⟩ := DataW.trod_int Try.underlying3 h2
  obtain ⟨q, hq, -, -⟩ := DataW.trod_int Try.underlying3 h3
  simp at hs hv hp hq
  subst hs hv hp hq
  unfold maxLen at ks kv
  exact ⟨⟨s, v, p, q⟩, rfl, by show s.size ≤ _; omega, by show v.size ≤ _; omega⟩
theorem cells_get : ∀ {xs : List Cel} {j : Nat} {u : Value}, (cellsOf xs)[j]? = some u → ∃ q r c, j = q * 4 + r ∧ xs[q]? = some c ∧ (enc c)[r]? = some u
  | [], j, u, h => by simp [cellsOf] at h
  | c :: xs, j, u, h => by
    have e : cellsOf (c :: xs) = enc c ++ cellsOf xs := by simp [cellsOf]
    rw [e] at h
    by_cases hj : j < 4
    · rw [List.getElem?_append_left (by rw [enc_len]; exact hj)] at h
      exact ⟨0, j, c, by omega, rfl, h⟩
    · rw [List.getElem?_append_right (by rw [enc_len]; omega), enc_len] at h
      obtain ⟨q, r, d, h1, h2, h3⟩ := cells_get h
      exact ⟨q + 1, r, d, by omega, by simpa using h2, h3⟩
theorem open_cells {H : Type} {en : TypeId × Value → H} {w : World} {base : Nat} {hd : Bool} {fuel : Nat} {a0 : Option Addr} {len cap : Nat} {x : DataW H × List MemPlace}
    (h : DataW.trod en Try.prog w base (fun _ => true) hd fuel 22 [.slice a0 len cap] = some x) :
    ∃ xs : List Cel, xs.length = len ∧ xs.length ≤ cap ∧ cap ≤ 9223372036854775807 ∧ (∀ c ∈ xs, c.key.size ≤ 9223372036854775807 ∧ c.val.size ≤ 9223372036854775807) ∧ Lies w a0 (cellsOf xs) := by
  rcases Go.Deep.open_slice Try.underlying22 h with ⟨hcs, -⟩ | ⟨a, len', cap', m, n, D, Pl, hcs, -, hl, hm, hmm, -, hx⟩
  · simp at hcs
    obtain ⟨rfl, rfl, rfl⟩ := hcs
    exact ⟨[], rfl, Nat.le_refl _, by omega, fun x hx => absurd hx List.not_mem_nil, Or.inl rfl⟩
  · simp at hcs
    obtain ⟨rfl, rfl, rfl⟩ := hcs
    have hmm' : m = cap := hmm
    subst hmm'
    rw [op_cellsC] at hx
    obtain ⟨X, hX⟩ := Go.Deep.choose_lt (α := Cel) (n := m) (p := fun i y => (y.key.size ≤ 9223372036854775807 ∧ y.val.size ≤ 9223372036854775807) ∧ ∀ j v, (enc y)[j]? = some v → w.cell? ((a.add (i * 4)).add j) = some v) (fun i hi => by
      obtain ⟨cs, h1, h2⟩ := hx i hi
      obtain ⟨y, rfl, k1, k2⟩ := open_cell4 h2
      refine ⟨y, ⟨k1, k2⟩, fun j v hj => ?_⟩
      have hj' : j < 4 := (List.getElem?_eq_some_iff.1 hj).1
      rw [(World.cells?_some h1).2.2 j hj', hj])
    refine ⟨(List.range len).map X, by simp, by simpa using hl, by unfold maxLen at hm; omega, ?_, Or.inr ⟨a, rfl, ?_⟩⟩
    · intro y hy
      obtain ⟨i, hi, rfl⟩ := List.mem_map.1 hy
      exact (hX i (by have := List.mem_range.1 hi; omega)).1
    · intro j u hu
      obtain ⟨q, r, c, rfl, hq, hr⟩ := cells_get hu
      rw [List.getElem?_map] at hq
      obtain ⟨k, hk, rfl⟩ := Option.map_eq_some_iff.1 hq
      have hik : q < len := by have := (List.getElem?_eq_some_iff.1 hk).1; simpa using this
      have : k = q := by rw [List.getElem?_range hik] at hk; exact (Option.some.inj hk).symm
      subst this
      have := (hX k (by omega)).2 r u hr
      rwa [Deep.add_add] at this
/-- Cells that came in. -/
theorem open_cellsA {H : Type} {en : TypeId × Value → H} {w : World} {base : Nat} {hd : Bool} {r : Reach} {b0 : Nat} {v : Value} {d : DataW H} {p : List MemPlace}
    (hv : Value.okWide Try.prog w r b0 22 v) (h : DataW.Trod en Try.prog w base (fun _ => true) hd 22 v d p) :
    ∃ A xs c, v = .slice A xs.length c ∧ xs.length ≤ c ∧ c ≤ 9223372036854775807 ∧ (∀ x ∈ xs, x.key.size ≤ 9223372036854775807 ∧ x.val.size ≤ 9223372036854775807) ∧ Lies w A (cellsOf xs) := by
  obtain ⟨a0, len, cap, rfl⟩ := okWide_slice Try.underlying22 hv
  obtain ⟨fuel, hf⟩ := h
  obtain ⟨xs, rfl, h1, h2, h3, h4⟩ := open_cells (by simpa [Value.cells] using hf)
  exact ⟨a0, xs, cap, rfl, h1, h2, h3, h4⟩
/-- A node that came in. -/
theorem open_node {H : Type} {en : TypeId × Value → H} {w : World} {base : Nat} {hd : Bool} {r : Reach} {b0 : Nat} {v : Value} {d : DataW H} {p : List MemPlace}
    (hv : Value.okWide Try.prog w r b0 24 v) (h : DataW.Trod en Try.prog w base (fun _ => true) hd 24 v d p) :
    ∃ leaf A xs c, v = .agg #[.bool leaf, .slice A xs.length c] ∧ xs.length ≤ c ∧ c ≤ 9223372036854775807 ∧ (∀ x ∈ xs, x.key.size ≤ 9223372036854775807 ∧ x.val.size ≤ 9223372036854775807) ∧ Lies w A (cellsOf xs) := by
  obtain ⟨c0, c1, y0, y1, m, rfl, -, -, hy0, hy1⟩ := open_agg2 Try.underlying24 (by kernel_rfl) op_cellsN hv h
  obtain ⟨leaf, hb, -⟩ := DataW.trod_bool Try.underlying4 hy0
  simp only [List.cons.injEq, and_true] at hb
  subst hb
  obtain ⟨a0, len, cap, hsl⟩ := slice_form Try.underlying22 hy1
  simp only [List.cons.injEq, and_true] at hsl
  subst hsl
  obtain ⟨xs, rfl, h1, h2, h3, h4⟩ := open_cells hy1
  exact ⟨leaf, a0, xs, cap, rfl, h1, h2, h3, h4⟩
/-- A cell that came in. -/
theorem open_cellA {H : Type} {en : TypeId × Value → H} {w : World} {base : Nat} {hd : Bool} {r : Reach} {b0 : Nat} {v : Value} {d : DataW H} {p : List MemPlace}
    (hv : Value.okWide Try.prog w r b0 27 v) (h : DataW.Trod en Try.prog w base (fun _ => true) hd 27 v d p) :
    ∃ c : Cel, v = .agg (enc c).toArray ∧ c.key.size ≤ 9223372036854775807 ∧ c.val.size ≤ 9223372036854775807 := by
  obtain ⟨cs, rfl, -⟩ := okWide_struct Try.underlying27 hv
  obtain ⟨fuel, hf⟩ := h
  obtain ⟨c, e, h1, h2⟩ := open_cell4 (by simpa [Value.cells] using hf)
  exact ⟨c, by rw [← e], h1, h2⟩
end Go.Proofs.Ytndchgmgcjebiaa
