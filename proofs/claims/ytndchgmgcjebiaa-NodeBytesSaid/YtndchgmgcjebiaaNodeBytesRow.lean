/- For every node and every byte string the law NodeBytes answers true, and both read behind the call as they read before. Conditions: none. -/
import Derived.Test.YtndchgmgcjebiaaNodeOpens
import Derived.Test.YtndchgmgcjebiaaNodeLBytes
namespace Go.Proofs.Ytndchgmgcjebiaa
open Go Go.ChangeShapes Go.WideShapes Go.ChangeAt Go.RowKit E Go.WideElems Go.ChangeMaps Go.Joins
set_option linter.unusedVariables false

set_option maxRecDepth 100000 in
theorem nodeBytes_lifted (os : Os) (started : os.Started) (H : Type) (en : TypeId × Value → H) :
    ReturnsInHanded {} Try.checked os 3 .any (Rows.nodeBytesSpec.pre6 en Try.prog Try.f3 Rows.nodeBytesRow.domain false) (Rows.nodeBytesSpec.post en Try.prog Try.f3 false true false false) := by
  refine returnsInHanded_of_change (C := Try.checked) Try.own started (by kernel_rfl) Try.func3
    (ChangeSpec.witness6 (enc := en) (C := Try.checked) false ⟨#[], #[.agg #[.bool false, .slice none 0 0], .string ⟨#[]⟩], []⟩ 8 (by kernel_rfl) (by kernel_rfl) (by kernel_rfl) (by kernel_rfl)) ?_
  intro W base args ds gs before hval0 hW hcnd _
  have hval : ∀ (j : Nat) t v, Try.f3.params[j]? = some t → args[j]? = some v → Value.okWide Try.prog W .any base t v := hval0
  have hW' := hW
  obtain ⟨p, q, hA0, hV, rfl, hfz, hnd⟩ := hW
  have hA : DataW.TrodAll en Try.prog W 0 (fun _ => true) true Try.f3.params.toList args.toList ds p := hA0
  rw [Try.params3] at hA hval
  obtain ⟨v0, v1, d0, d1, p0, p1, rfl, rfl, rfl, h0, h1⟩ := trodAll_two hA
  obtain ⟨leaf, A, xs, c, rfl, hc, hcm, -, hl⟩ := open_node (hval 0 24 v0 rfl rfl) h0
  obtain ⟨s, rfl, -, -, hs1⟩ := open_string Try.underlying9 (hval 1 9 v1 rfl rfl) h1
  clear hA0 hval0
  refine (lbytes_any leaf A xs c s W hl hc hcm (by unfold maxLen at hs1; omega)).mono fun e W' ⟨he, hk⟩ => ?_
  subst he
  refine ⟨_, rfl, law_post Try.laidOut rfl (by rw [Try.params3]; decide +kernel) rfl Try.underlying4 ?_ hW' hk⟩
  intro xs hx
  rw [Try.params3] at hx
  match xs, hx with
  | [x, y], _ => rfl

theorem nodeBytes_holds : Rows.NodeBytesSaid :=
  OpenClaim.holds_of_wide 3 Try.f3 rfl rfl rfl rfl rfl rfl rfl ⟨rfl, rfl, rfl, rfl, rfl⟩ rfl rfl rfl rfl rfl (by kernel_rfl) Try.func3 (by kernel_rfl)
    (of_decide_eq_true (by kernel_rfl)) (by unfold Func.isWrapper; first | (rw [if_pos (by decide +kernel)]; kernel_rfl) | (rw [if_neg (by decide +kernel)]; exact ⟨rfl, rfl⟩))
    (fun os started H en _ => nodeBytes_lifted os started H en)

end Go.Proofs.Ytndchgmgcjebiaa
