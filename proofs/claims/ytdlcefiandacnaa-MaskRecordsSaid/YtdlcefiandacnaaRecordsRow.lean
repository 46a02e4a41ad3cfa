/- For every branch, every byte string and every slice of numbers the law MaskRecords answers true, and all three read behind the call as they read before. Conditions: none. -/
import Derived.Test.YtdlcefiandacnaaLawRow
import Derived.Test.YtdlcefiandacnaaMaskRecords
namespace Go.Proofs.Ytdlcefiandacnaa
open Go Go.ChangeShapes Go.WideShapes Go.ChangeAt Go.RowKit E Go.WideElems Go.ChangeMaps Go.Joins
set_option linter.unusedVariables false

theorem maskRecords_cells : Try.prog.cellsOf 3 = 1 := by kernel_rfl
theorem maskRecords_cells32 : Try.prog.cellsOf 44 = 32 := by kernel_rfl
theorem maskRecords_cells8 : Try.prog.cellsOf 5 = 1 := by kernel_rfl
theorem maskRecords_cellsB : Try.prog.cellsOf 31 = 4 := by kernel_rfl
theorem u16_wf {n : Int} (h : (Lit.int .u16 n).wf = true) : 0 ≤ n ∧ n < 65536 := by
  simp only [Lit.wf, Bool.and_eq_true, IntKind.min, IntKind.max, IntKind.signed, IntKind.bits] at h
  simp at h
  omega

/-- Hashes that came in as a slice of arrays. -/
theorem open_hashes {H : Type} {enc : TypeId × Value → H} {w : World} {base : Nat} {hd : Bool} {fuel : Nat} {a0 : Option Addr} {len cap : Nat} {x : DataW H × List MemPlace}
    (h : DataW.trod enc Try.prog w base (fun _ => true) hd fuel 29 [.slice a0 len cap] = some x) :
    ∃ hs : List (List UInt8), hs.length = len ∧ hs.length ≤ cap ∧ cap ≤ 9223372036854775807 ∧ HsAt w a0 hs := by
  rcases Go.Deep.open_slice Try.underlying29 h with ⟨hcs, -⟩ | ⟨a, len', cap', m, n, D, Pl, hcs, -, hl, hm, hmm, -, hx⟩
  · simp at hcs
    obtain ⟨rfl, rfl, rfl⟩ := hcs
    exact ⟨[], rfl, Nat.le_refl _, by omega, fun x hx => absurd hx List.not_mem_nil, Or.inl rfl⟩
  · simp at hcs
    obtain ⟨rfl, rfl, rfl⟩ := hcs
    have hmm' : m = cap := hmm
    subst hmm'
    rw [maskRecords_cells32] at hx
    obtain ⟨X, hX⟩ := Go.Deep.choose_lt (α := List UInt8) (n := m) (p := fun i y => y.length = 32 ∧ ∀ j v, (y.map B)[j]? = some v → w.cell? ((a.add (i * 32)).add j) = some v) (fun i hi => by
      obtain ⟨cs, h1, h2⟩ := hx i hi
      obtain ⟨y, hy, rfl⟩ := bytes_of_array Try.underlying44 Try.underlying5 maskRecords_cells8 maskRecords_cells32 h2
      refine ⟨y, hy, fun j v hj => ?_⟩
      have hj' : j < 32 := by have := (List.getElem?_eq_some_iff.1 hj).1; rw [List.length_map, hy] at this; exact this
      rw [(World.cells?_some h1).2.2 j hj', hj])
    refine ⟨(List.range len).map X, by simp, by simpa using hl, by unfold maxLen at hm; omega, ?_, Or.inr ⟨a, rfl, ?_⟩⟩
    · intro y hy
      obtain ⟨i, hi, rfl⟩ := List.mem_map.1 hy
      exact (hX i (by have := List.mem_range.1 hi; omega)).1
    · intro i y hy
      rw [List.getElem?_map] at hy
      obtain ⟨k, hk, rfl⟩ := Option.map_eq_some_iff.1 hy
      have hik : i < len := by have := (List.getElem?_eq_some_iff.1 hk).1; simpa using this
      have : k = i := by rw [List.getElem?_range hik] at hk; exact (Option.some.inj hk).symm
      subst this
      exact (hX k (by omega)).2

theorem open_numbers {H : Type} {enc : TypeId × Value → H} {w : World} {base : Nat} {hd : Bool} {fuel : Nat} {a0 : Option Addr} {len cap : Nat} {x : DataW H × List MemPlace}
    (h : DataW.trod enc Try.prog w base (fun _ => true) hd fuel 22 [.slice a0 len cap] = some x) :
    ∃ l : List Int, l.length = len ∧ l.length ≤ cap ∧ cap ≤ 9223372036854775807 ∧ IntsAt w a0 l := by
  rcases open_ints Try.underlying22 Try.underlying3 maskRecords_cells h with ⟨hcs, -⟩ | ⟨a, len', cap', zs, hcs, -, hl, hm, hz, -, hcell, hwz⟩
  · simp at hcs
    obtain ⟨rfl, rfl, rfl⟩ := hcs
    exact ⟨[], rfl, Nat.le_refl _, by omega, Or.inl rfl⟩
  · simp at hcs
    obtain ⟨rfl, rfl, rfl⟩ := hcs
    have hz' : zs.length = cap := hz
    refine ⟨zs.take len, by rw [List.length_take]; omega, by rw [List.length_take]; omega, by unfold maxLen at hm; omega, Or.inr ⟨a, rfl, fun i x hi => ?_⟩⟩
    rw [List.getElem?_take] at hi
    split at hi
    · have hi2 : i < zs.length := (List.getElem?_eq_some_iff.1 hi).1
      have := hcell i hi2
      rw [show zs.getD i 0 = x by rw [List.getD, hi]; rfl] at this
      exact this
    · cases hi

set_option maxRecDepth 100000 in
theorem maskRecords_lifted (os : Os) (started : os.Started) (H : Type) (enc : TypeId × Value → H) :
    ReturnsInHanded {} Try.checked os 4 .any (Rows.maskRecordsSpec.pre6 enc Try.prog Try.f4 Rows.maskRecordsRow.domain false) (Rows.maskRecordsSpec.post enc Try.prog Try.f4 false true false false) := by
  refine returnsInHanded_of_change (C := Try.checked) Try.own started (by kernel_rfl) Try.func4
    (ChangeSpec.witness6 (enc := enc) (C := Try.checked) false ⟨#[], #[.agg #[.int .u16 0, .int .u16 0, .int .u16 0, .slice none 0 0], .string ⟨#[]⟩, .slice none 0 0], []⟩ 8 (by kernel_rfl) (by kernel_rfl) (by kernel_rfl) (by kernel_rfl)) ?_
  intro W base args ds gs before hval0 hW hcnd _
  have hval : ∀ (j : Nat) t v, Try.f4.params[j]? = some t → args[j]? = some v → Value.okWide Try.prog W .any base t v := hval0
  have hW' := hW
  obtain ⟨p, q, hA0, hV, rfl, hfz, hnd⟩ := hW
  have hA : DataW.TrodAll enc Try.prog W 0 (fun _ => true) true Try.f4.params.toList args.toList ds p := hA0
  rw [Try.params4] at hA hval
  obtain ⟨v0, v1, v2, d0, d1, d2, p0, p1, p2, rfl, rfl, rfl, h0, h1, h2⟩ := trodAll_three hA
  obtain ⟨c0, c1, c2, c3, y0, y1, y2, y3, m, rfl, -, -, hy0, hy1, hy2, hy3⟩ := open_agg4 Try.underlying31 (by kernel_rfl) maskRecords_cellsB (hval 0 31 v0 rfl rfl) h0
  obtain ⟨st, hst, -, ws⟩ := DataW.trod_int Try.underlying23 hy0
  obtain ⟨tr, htr, -, wt⟩ := DataW.trod_int Try.underlying23 hy1
  obtain ⟨ha, hha, -, wh⟩ := DataW.trod_int Try.underlying23 hy2
  simp only [List.cons.injEq, and_true] at hst htr hha
  subst hst htr hha
  obtain ⟨a0, len, cap, hsl⟩ := slice_form Try.underlying29 hy3
  simp only [List.cons.injEq, and_true] at hsl
  subst hsl
  obtain ⟨hs, rfl, hc, hcm, hh⟩ := open_hashes hy3
  obtain ⟨s, rfl, -, -, hs1⟩ := open_string Try.underlying9 (hval 1 9 v1 rfl rfl) h1
  obtain ⟨a2, len2, cap2, rfl⟩ := okWide_slice Try.underlying22 (hval 2 22 v2 rfl rfl)
  obtain ⟨fuel, hf⟩ := h2
  obtain ⟨l, rfl, hlc, hcm2, hi⟩ := open_numbers (by simpa [Value.cells] using hf)
  clear hA0 hval0
  refine (records_any st tr ha a0 hs cap s a2 l cap2 W (u16_wf ws).1 (u16_wf ws).2 (u16_wf wt).1 (u16_wf wt).2 (u16_wf wh).1 (u16_wf wh).2 hh hi hc hlc hcm hcm2 (by unfold maxLen at hs1; omega)).mono fun e W' ⟨he, hk⟩ => ?_
  subst he
  refine ⟨_, rfl, law_post Try.laidOut rfl (by rw [Try.params4]; decide +kernel) rfl Try.underlying4 ?_ hW' hk⟩
  intro xs hx
  rw [Try.params4] at hx
  match xs, hx with
  | [x, y, z], _ => rfl

theorem maskRecords_holds : Rows.MaskRecordsSaid :=
  OpenClaim.holds_of_wide 4 Try.f4 rfl rfl rfl rfl rfl rfl rfl ⟨rfl, rfl, rfl, rfl, rfl⟩ rfl rfl rfl rfl rfl (by kernel_rfl) Try.func4 (by kernel_rfl)
    (of_decide_eq_true (by kernel_rfl)) (by unfold Func.isWrapper; first | (rw [if_pos (by decide +kernel)]; kernel_rfl) | (rw [if_neg (by decide +kernel)]; exact ⟨rfl, rfl⟩))
    (fun os started H enc _ => maskRecords_lifted os started H enc)

end Go.Proofs.Ytdlcefiandacnaa
