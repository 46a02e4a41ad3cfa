/- For every input the law MaskOrder answers true, and its arguments read behind the call as they read before. Conditions: the listed table of package math/bits holds what the program's text lays there. -/
import Derived.Test.YtdlcefiandacnaaDoorTied
import Derived.Test.YtdlcefiandacnaaDoorOpens
import Derived.Test.YtdlcefiandacnaaDoorMaskOrder
namespace Go.Proofs.YtdlcefiandacnaaDoor
open Go Go.ChangeShapes Go.WideShapes Go.ChangeAt Go.RowKit E Go.WideElems Go.ChangeMaps Go.Joins
set_option linter.unusedVariables false

set_option maxRecDepth 100000 in
theorem maskOrder_lifted (os : Os) (started : os.Started) (H : Type) (enc : TypeId × Value → H) :
    ReturnsInHanded {} Tryd.checked os 4 .any (fun w args => (Rows.maskOrderSpec.pre enc Tryd.prog Tryd.f4 [] false w args ∧ laidMetH Tryd.prog laidTab w) ∧ sizedMet enc Tryd.prog Tryd.f4 (OpenSpec.ofChange Rows.maskOrderSpec) false w args)
      (Rows.maskOrderSpec.post enc Tryd.prog Tryd.f4 false true false false) := by
  refine returnsInHanded_of_change_and (C := Tryd.checked) (X := fun w _ => laidMetH Tryd.prog laidTab w) (fun _ _ _ hh h => h.of_heap hh) Tryd.own started (by kernel_rfl) Tryd.func4
    (ChangeSpec.witness_shaped (enc := enc) (C := Tryd.checked) (os := os) (X := fun w _ => laidMetH Tryd.prog laidTab w) false (World.doorLaid Tryd.prog 400 os) #[.agg #[.string ⟨#[]⟩, .string ⟨#[]⟩, .string ⟨#[]⟩, .string ⟨#[]⟩, .string ⟨#[]⟩, .string ⟨#[]⟩, .string ⟨#[]⟩, .string ⟨#[]⟩, .string ⟨#[]⟩, .string ⟨#[]⟩, .string ⟨#[]⟩, .string ⟨#[]⟩, .string ⟨#[]⟩, .string ⟨#[]⟩, .string ⟨#[]⟩, .string ⟨#[]⟩], .int .u16 0] 8 rfl (World.shaped_of_RefB (by kernel_rfl) (by kernel_rfl)) (by kernel_rfl) (by kernel_rfl) (by kernel_rfl) (door_met os _)) ?_
  intro W base args ds gs before hval0 hW _ _ hL _
  have hval : ∀ (j : Nat) t v, Tryd.f4.params[j]? = some t → args[j]? = some v → Value.okWide Tryd.prog W .any base t v := hval0
  have hW' := hW
  obtain ⟨p, q, hA0, hV, rfl, hfz, hnd⟩ := hW
  have hA : DataW.TrodAll enc Tryd.prog W 0 (fun _ => true) true Tryd.f4.params.toList args.toList ds p := hA0
  rw [Tryd.params4] at hA hval
  obtain ⟨v0, v1, d0, d1, p0, p1, rfl, rfl, rfl, h0, h1⟩ := trodAll_two hA
  obtain ⟨rs, hr, hsz, rfl⟩ := open_arr16 (hval 0 36 v0 rfl rfl) h0
  obtain ⟨tr, rfl, -, wt⟩ := open_int Tryd.underlying22 (hval 1 22 v1 rfl rfl) h1

  clear hA0 hval0
  refine (order_any rs tr W hr hsz (u16_wf wt.2).1 (u16_wf wt.2).2 (laid_tab hL)).mono fun e W' ⟨he, hk⟩ => ?_
  subst he
  refine ⟨_, rfl, law_post Tryd.laidOut rfl (by rw [Tryd.params4]; decide +kernel) rfl Tryd.underlying4 ?_ hW' hk⟩
  intro xs hx
  rw [Tryd.params4] at hx
  match xs, hx with
  | [x, y], _ => rfl

theorem maskOrder_holds : Rows.MaskOrderSaid :=
  OpenClaim.holds_of_wide 4 Tryd.f4 rfl rfl rfl rfl rfl rfl rfl ⟨rfl, rfl, rfl, rfl, rfl⟩ rfl rfl rfl rfl rfl (by kernel_rfl) Tryd.func4 (by kernel_rfl)
    (of_decide_eq_true (by kernel_rfl)) (by unfold Func.isWrapper; first | (rw [if_pos (by decide +kernel)]; kernel_rfl) | (rw [if_neg (by decide +kernel)]; exact ⟨rfl, rfl⟩))
    (fun os started H enc _ => maskOrder_lifted os started H enc)

end Go.Proofs.YtdlcefiandacnaaDoor
