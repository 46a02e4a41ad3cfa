/- For every slice of numbers and every mask the law MaskBits answers true, and both read behind the call as they read before. Conditions: none. -/
import Derived.Test.YtdlcefiandacnaaLawRow
import Derived.Test.YtdlcefiandacnaaMaskBits
namespace Go.Proofs.Ytdlcefiandacnaa
open Go Go.ChangeShapes Go.WideShapes Go.ChangeAt Go.RowKit E
set_option linter.unusedVariables false

theorem maskBits_cells : Try.prog.cellsOf 3 = 1 := by kernel_rfl

set_option maxRecDepth 100000 in
theorem maskBits_lifted (os : Os) (started : os.Started) (H : Type) (enc : TypeId × Value → H) :
    ReturnsInHanded {} Try.checked os 3 .any (Rows.maskBitsSpec.pre6 enc Try.prog Try.f3 Rows.maskBitsRow.domain false) (Rows.maskBitsSpec.post enc Try.prog Try.f3 false true false false) := by
  refine returnsInHanded_of_change (C := Try.checked) Try.own started (by kernel_rfl) Try.func3
    (ChangeSpec.witness6 (enc := enc) (C := Try.checked) false ⟨#[], #[.slice none 0 0, .int .u16 0], []⟩ 8 (by kernel_rfl) (by kernel_rfl) (by kernel_rfl) (by kernel_rfl)) ?_
  intro W base args ds gs before hval0 hW hcnd _
  have hval : ∀ (j : Nat) t v, Try.f3.params[j]? = some t → args[j]? = some v → Value.okWide Try.prog W .any base t v := hval0
  have hW' := hW
  obtain ⟨p, q, hA0, hV, rfl, hfz, hnd⟩ := hW
  have hA : DataW.TrodAll enc Try.prog W 0 (fun _ => true) true Try.f3.params.toList args.toList ds p := hA0
  rw [Try.params3] at hA hval
  obtain ⟨v0, v1, d0, d1, p0, p1, rfl, rfl, rfl, h0, h1⟩ := trodAll_two hA
  obtain ⟨n, rfl, -, -, wn⟩ := open_int Try.underlying23 (hval 1 23 v1 rfl rfl) h1
  obtain ⟨a0, len, cap, rfl⟩ := okWide_slice Try.underlying22 (hval 0 22 v0 rfl rfl)
  obtain ⟨fuel, hf⟩ := h0
  have hn : 0 ≤ n ∧ n < 65536 := by
    simp only [Lit.wf, Bool.and_eq_true, IntKind.min, IntKind.max, IntKind.signed, IntKind.bits] at wn
    simp at wn
    omega
  have key : ∃ l : List Int, l.length = len ∧ l.length ≤ cap ∧ cap ≤ 9223372036854775807 ∧ IntsAt W a0 l := by
    rcases open_ints Try.underlying22 Try.underlying3 maskBits_cells hf with ⟨hcs, -⟩ | ⟨a, len', cap', zs, hcs, -, hl, hm, hz, -, hcell, hwz⟩
    · simp [Value.cells] at hcs
      obtain ⟨rfl, rfl, rfl⟩ := hcs
      exact ⟨[], rfl, Nat.le_refl _, by omega, Or.inl rfl⟩
    · simp [Value.cells] at hcs
      obtain ⟨rfl, rfl, rfl⟩ := hcs
      have hz' : zs.length = cap := hz
      refine ⟨zs.take len, by rw [List.length_take]; omega, by rw [List.length_take]; omega, by unfold maxLen at hm; omega, Or.inr ⟨a, rfl, fun i x hi => ?_⟩⟩
      rw [List.getElem?_take] at hi
      split at hi
      · have hi2 : i < zs.length := (List.getElem?_eq_some_iff.1 hi).1
        have := hcell i hi2
        rw [show zs.getD i 0 = x by rw [List.getD, hi]; rfl] at this
        exact this
      · cases hi
  obtain ⟨l, rfl, hlc, hcm, hi⟩ := key
  clear hA0 hval0
  refine (bits_any a0 l cap n W hn.1 hn.2 hi hlc hcm).mono fun e W' ⟨he, hk⟩ => ?_
  subst he
  refine ⟨_, rfl, law_post Try.laidOut rfl (by rw [Try.params3]; decide +kernel) rfl Try.underlying4 ?_ hW' hk⟩
  intro xs hx
  rw [Try.params3] at hx
  match xs, hx with
  | [x, y], _ => rfl

theorem maskBits_holds : Rows.MaskBitsSaid :=
  OpenClaim.holds_of_wide 3 Try.f3 rfl rfl rfl rfl rfl rfl rfl ⟨rfl, rfl, rfl, rfl, rfl⟩ rfl rfl rfl rfl rfl (by kernel_rfl) Try.func3 (by kernel_rfl)
    (of_decide_eq_true (by kernel_rfl)) (by unfold Func.isWrapper; first | (rw [if_pos (by decide +kernel)]; kernel_rfl) | (rw [if_neg (by decide +kernel)]; exact ⟨rfl, rfl⟩))
    (fun os started H enc _ => maskBits_lifted os started H enc)

end Go.Proofs.Ytdlcefiandacnaa
