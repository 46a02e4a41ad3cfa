/- Branches, arrays of strings and of bytes that came in with a call, opened. -/
import Derived.Test.YtdlcefiandacnaaDoorLawRow
import Derived.Test.YtdlcefiandacnaaDoorMaskParts
namespace Go.Proofs.YtdlcefiandacnaaDoor
open Go Go.ChangeShapes Go.WideShapes Go.ChangeAt Go.RowKit E Go.WideElems Go.ChangeMaps Go.Joins
set_option linter.unusedVariables false

theorem op_cells32 : Tryd.prog.cellsOf 30 = 32 := by kernel_rfl
theorem op_cells8 : Tryd.prog.cellsOf 5 = 1 := by kernel_rfl
theorem op_cellsB : Tryd.prog.cellsOf 25 = 4 := by kernel_rfl
theorem u16_wf {n : Int} (h : (Lit.int .u16 n).wf = true) : 0 ≤ n ∧ n < 65536 := by
  simp only [Lit.wf, Bool.and_eq_true, IntKind.min, IntKind.max, IntKind.signed, IntKind.bits] at h
  simp at h
  omega

/-- Hashes that came in as a slice of arrays. -/
theorem open_hashes {H : Type} {enc : TypeId × Value → H} {w : World} {base : Nat} {hd : Bool} {fuel : Nat} {a0 : Option Addr} {len cap : Nat} {x : DataW H × List MemPlace}
    (h : DataW.trod enc Tryd.prog w base (fun _ => true) hd fuel 23 [.slice a0 len cap] = some x) :
    ∃ hs : List (List UInt8), hs.length = len ∧ hs.length ≤ cap ∧ cap ≤ 9223372036854775807 ∧ HsAt w a0 hs := by
  rcases Go.Deep.open_slice Tryd.underlying23 h with ⟨hcs, -⟩ | ⟨a, len', cap', m, n, D, Pl, hcs, -, hl, hm, hmm, -, hx⟩
  · simp at hcs
    obtain ⟨rfl, rfl, rfl⟩ := hcs
    exact ⟨[], rfl, Nat.le_refl _, by omega, fun x hx => absurd hx List.not_mem_nil, Or.inl rfl⟩
  · simp at hcs
    obtain ⟨rfl, rfl, rfl⟩ := hcs
    have hmm' : m = cap := hmm
    subst hmm'
    rw [op_cells32] at hx
    obtain ⟨X, hX⟩ := Go.Deep.choose_lt (α := List UInt8) (n := m) (p := fun i y => y.length = 32 ∧ ∀ j v, (y.map B)[j]? = some v → w.cell? ((a.add (i * 32)).add j) = some v) (fun i hi => by
      obtain ⟨cs, h1, h2⟩ := hx i hi
      obtain ⟨y, hy, rfl⟩ := bytes_of_array Tryd.underlying30 Tryd.underlying5 op_cells8 op_cells32 h2
      refine ⟨y, hy, fun j v hj => ?_⟩
      have hj' : j < 32 := by have := (List.getElem?_eq_some_iff.1 hj).1; rw [List.length_map, hy] at this; exact this
      rw [(World.cells?_some h1).2.2 j hj', hj])
    refine ⟨(List.range len).map X, by simp, by simpa using hl, by unfold maxLen at hm; omega, ?_, Or.inr ⟨a, rfl, ?_⟩⟩
    · intro y hy
      obtain ⟨i, hi, rfl⟩ := List.mem_map.1 hy
      exact (hX i (by have := List.mem_range.1 hi; omega)).1
    · intro i y hy
      rw [List.getElem?_map] at hy
      obtain ⟨k, hk, rfl⟩ := Option.map_eq_some_iff.1 hy
      have hik : i < len := by have := (List.getElem?_eq_some_iff.1 hk).1; simpa using this
      have : k = i := by rw [List.getElem?_range hik] at hk; exact (Option.some.inj hk).symm
      subst this
      exact (hX k (by omega)).2

/-- A branch that came in. -/
theorem open_branch {H : Type} {enc : TypeId × Value → H} {w : World} {base : Nat} {hd : Bool} {r : Reach} {b0 : Nat} {v : Value} {d : DataW H} {p : List MemPlace}
    (hv : Value.okWide Tryd.prog w r b0 25 v) (h : DataW.Trod enc Tryd.prog w base (fun _ => true) hd 25 v d p) :
    ∃ (st tr ha : Int) (A : Option Addr) (hs : List (List UInt8)) (c : Nat), v = .agg #[.int .u16 st, .int .u16 tr, .int .u16 ha, .slice A hs.length c] ∧ (0 ≤ st ∧ st < 65536) ∧ (0 ≤ tr ∧ tr < 65536) ∧ (0 ≤ ha ∧ ha < 65536) ∧
      HsAt w A hs ∧ hs.length ≤ 9223372036854775807 := by
  obtain ⟨c0, c1, c2, c3, y0, y1, y2, y3, m, rfl, -, -, hy0, hy1, hy2, hy3⟩ := open_agg4 Tryd.underlying25 (by kernel_rfl) op_cellsB hv h
  obtain ⟨st, hst, -, ws⟩ := DataW.trod_int Tryd.underlying22 hy0
  obtain ⟨tr, htr, -, wt⟩ := DataW.trod_int Tryd.underlying22 hy1
  obtain ⟨ha, hha, -, wh⟩ := DataW.trod_int Tryd.underlying22 hy2
  simp only [List.cons.injEq, and_true] at hst htr hha
  subst hst htr hha
  obtain ⟨a0, len, cap, hsl⟩ := slice_form Tryd.underlying23 hy3
  simp only [List.cons.injEq, and_true] at hsl
  subst hsl
  obtain ⟨hs, rfl, hc, hcm, hh⟩ := open_hashes hy3
  exact ⟨st, tr, ha, a0, hs, cap, rfl, u16_wf ws, u16_wf wt, u16_wf wh, hh, by omega⟩

theorem okWide_arr {P : Program} {w : World} {r : Reach} {b0 t n e : Nat} {v : Value} (ht : P.underlying t = some (.array n e)) (h : Value.okWide P w r b0 t v) : ∃ cs, v = .agg cs := by
  simp only [Value.okWide, ht] at h
  obtain ⟨cs, h1, -⟩ := h
  exact ⟨cs, h1⟩
/-- 32 bytes that came in. -/
theorem open_arr32 {H : Type} {enc : TypeId × Value → H} {w : World} {base : Nat} {hd : Bool} {r : Reach} {b0 : Nat} {v : Value} {d : DataW H} {p : List MemPlace}
    (hv : Value.okWide Tryd.prog w r b0 30 v) (h : DataW.Trod enc Tryd.prog w base (fun _ => true) hd 30 v d p) : ∃ y : List UInt8, y.length = 32 ∧ v = .agg (y.map B).toArray := by
  obtain ⟨cs, rfl⟩ := okWide_arr Tryd.underlying30 hv
  obtain ⟨fuel, hf⟩ := h
  obtain ⟨y, hy, e⟩ := bytes_of_array Tryd.underlying30 Tryd.underlying5 op_cells8 op_cells32 hf
  exact ⟨y, hy, by rw [← e]; simp [Value.cells]⟩
theorem op_cellsS : Tryd.prog.cellsOf 9 = 1 := by kernel_rfl
theorem op_cells16 : Tryd.prog.cellsOf 36 = 16 := by kernel_rfl
def strV : Value → ByteArray | .string s => s | _ => ⟨#[]⟩
/-- 16 strings that came in. -/
theorem open_arr16 {H : Type} {enc : TypeId × Value → H} {w : World} {base : Nat} {hd : Bool} {r : Reach} {b0 : Nat} {v : Value} {d : DataW H} {p : List MemPlace}
    (hv : Value.okWide Tryd.prog w r b0 36 v) (h : DataW.Trod enc Tryd.prog w base (fun _ => true) hd 36 v d p) : ∃ rs : List ByteArray, rs.length = 16 ∧ (∀ s ∈ rs, s.size ≤ 9223372036854775807) ∧ v = .agg (rs.map Value.string).toArray := by
  obtain ⟨cs, rfl⟩ := okWide_arr Tryd.underlying36 hv
  obtain ⟨fuel, hf⟩ := h
  obtain ⟨xs, m, rfl, -, hl, hn, hx⟩ := DataW.trod_array Tryd.underlying36 hf
  rw [op_cells16] at hl
  have hl' : cs.size = 16 := by simpa [Value.cells] using hl
  have key : ∀ i, i < 16 → ∃ s : ByteArray, cs[i]? = some (.string s) ∧ s.size ≤ 9223372036854775807 := by
    intro i hi
    have hxi := hx i hi
    rw [op_cellsS, Nat.mul_one, List.getElem?_eq_getElem (by omega)] at hxi
    obtain ⟨s, hs, -, hsz⟩ := DataW.trod_string Tryd.underlying9 hxi
    have := congrArg (fun l => l[0]?) hs
    exact ⟨s, by simpa [Value.cells] using this, by unfold maxLen at hsz; omega⟩
  refine ⟨cs.toList.map strV, by simp [hl'], ?_, ?_⟩
  · intro s hs
    obtain ⟨u, hu, rfl⟩ := List.mem_map.1 hs
    obtain ⟨i, hi⟩ := List.mem_iff_getElem?.1 hu
    have hlt : i < 16 := by have := (List.getElem?_eq_some_iff.1 hi).1; rw [Array.length_toList, hl'] at this; exact this
    obtain ⟨s, e, hsz⟩ := key i hlt
    rw [Array.getElem?_toList, e] at hi
    cases hi
    exact hsz
  · congr 1
    apply Array.ext'
    apply List.ext_getElem?
    intro i
    rw [List.toList_toArray, List.map_map, List.getElem?_map, Array.getElem?_toList]
    by_cases hi : i < 16
    · obtain ⟨s, e, -⟩ := key i hi
      rw [e]; rfl
    · rw [Array.getElem?_eq_none (by omega)]; rfl
end Go.Proofs.YtdlcefiandacnaaDoor
