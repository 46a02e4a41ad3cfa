/- For every kind, every slice of cells and every byte string the law NodeFinds answers true, and all three read behind the call as they read before. Conditions: none. -/
import Derived.Test.YtndchgmgcjebiaaNodeOpens
import Derived.Test.YtndchgmgcjebiaaNodeLFinds
namespace Go.Proofs.Ytndchgmgcjebiaa
open Go Go.ChangeShapes Go.WideShapes Go.ChangeAt Go.RowKit E Go.WideElems Go.ChangeMaps Go.Joins
set_option linter.unusedVariables false

set_option maxRecDepth 100000 in
theorem nodeFinds_lifted (os : Os) (started : os.Started) (H : Type) (en : TypeId × Value → H) :
    ReturnsInHanded {} Try.checked os 4 .any (Rows.nodeFindsSpec.pre6 en Try.prog Try.f4 Rows.nodeFindsRow.domain false) (Rows.nodeFindsSpec.post en Try.prog Try.f4 false true false false) := by
  refine returnsInHanded_of_change (C := Try.checked) Try.own started (by kernel_rfl) Try.func4
    (ChangeSpec.witness6 (enc := en) (C := Try.checked) false ⟨#[], #[.bool false, .slice none 0 0, .string ⟨#[]⟩], []⟩ 8 (by kernel_rfl) (by kernel_rfl) (by kernel_rfl) (by kernel_rfl)) ?_
  intro W base args ds gs before hval0 hW hcnd _
  have hval : ∀ (j : Nat) t v, Try.f4.params[j]? = some t → args[j]? = some v → Value.okWide Try.prog W .any base t v := hval0
  have hW' := hW
  obtain ⟨p, q, hA0, hV, rfl, hfz, hnd⟩ := hW
  have hA : DataW.TrodAll en Try.prog W 0 (fun _ => true) true Try.f4.params.toList args.toList ds p := hA0
  rw [Try.params4] at hA hval
  obtain ⟨v0, v1, v2, d0, d1, d2, p0, p1, p2, rfl, rfl, rfl, h0, h1, h2⟩ := trodAll_three hA
  obtain ⟨leaf, rfl⟩ := okWide_bool Try.underlying4 (hval 0 4 v0 rfl rfl)
  obtain ⟨A, xs, c, rfl, hc, hcm, -, hl⟩ := open_cellsA (hval 1 22 v1 rfl rfl) h1
  obtain ⟨s, rfl, -, -, hs1⟩ := open_string Try.underlying9 (hval 2 9 v2 rfl rfl) h2
  clear hA0 hval0
  refine (lfinds_any leaf A xs c s W hl hc hcm (by unfold maxLen at hs1; omega)).mono fun e W' ⟨he, hk⟩ => ?_
  subst he
  refine ⟨_, rfl, law_post Try.laidOut rfl (by rw [Try.params4]; decide +kernel) rfl Try.underlying4 ?_ hW' hk⟩
  intro xs hx
  rw [Try.params4] at hx
  match xs, hx with
  | [x, y, z], _ => rfl

theorem nodeFinds_holds : Rows.NodeFindsSaid :=
  OpenClaim.holds_of_wide 4 Try.f4 rfl rfl rfl rfl rfl rfl rfl ⟨rfl, rfl, rfl, rfl, rfl⟩ rfl rfl rfl rfl rfl (by kernel_rfl) Try.func4 (by kernel_rfl)
    (of_decide_eq_true (by kernel_rfl)) (by unfold Func.isWrapper; first | (rw [if_pos (by decide +kernel)]; kernel_rfl) | (rw [if_neg (by decide +kernel)]; exact ⟨rfl, rfl⟩))
    (fun os started H en _ => nodeFinds_lifted os started H en)

end Go.Proofs.Ytndchgmgcjebiaa
