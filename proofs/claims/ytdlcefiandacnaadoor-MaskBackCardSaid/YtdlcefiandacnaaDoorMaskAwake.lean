/- The walk of the chapter's examples. -/
import Derived.Test.YtdlcefiandacnaaDoorMaskRRead
namespace Go.Proofs.YtdlcefiandacnaaDoor
open Go Go.RowKit E MM
set_option maxRecDepth 100000
set_option linter.unusedVariables false
set_option linter.unusedSimpArgs false

theorem hsNil (w : World) (A : Option Addr) : HsAt w A [] := ⟨fun x hx => absurd hx List.not_mem_nil, Or.inl rfl⟩
theorem awake_rec : (if chk 32770 0 0 ([] : List (List UInt8)).length then (⟨(recL 32770 0 0 []).toArray⟩ : ByteArray) else ⟨#[]⟩) = ⟨#[128, 2, 0, 0, 0, 0]⟩ := by decide +kernel
theorem awake_chk : chkI 32770 0 0 ([] : List (List UInt8)).length = 0 := by decide +kernel
theorem awake_of : ((ofL [1, 15] : Nat) : Int) = 32770 := by decide +kernel
theorem awake_cnt : cntI 32770 = 2 := by decide +kernel
theorem awake_no : chkI 1 0 0 0 = 1 := by decide +kernel
theorem awake_has : hasB 32770 15 = true := by decide +kernel

theorem awake_record (c : Nat) (w0 : World) : Calls Tryd.prog 16 [.agg #[.int .u16 32770, .int .u16 0, .int .u16 0, .slice none 0 c]].toArray w0 fun e w' =>
    e = .returned (.tuple #[.string ⟨#[128, 2, 0, 0, 0, 0]⟩, .int .i64 0]) ∧ Keep No w0 w' := by
  have := record_any 32770 0 0 none [] c w0 (by omega) (by omega) (by omega) (by omega) (by omega) (by omega) (hsNil _ _) (Nat.zero_le _)
  rw [awake_rec, awake_chk] at this
  exact this

theorem awake_any (w0 : World) : Calls Tryd.prog 6 [].toArray w0 fun e w' => e = .returned (.bool true) ∧ Keep No w0 w' := by
  refine enter (n := 31) Tryd.func6 rfl rfl rfl ?_
  have hS := St.start No w0
  refine c_seq ?_
  refine c_region ?_
  refine l_val (v_assign rfl) rfl ?_
  refine l_end ?_
  refine k_code ?_
  refine c_seq ?_
  refine c_region ?_
  refine l_val (v_build zero25 places25 rfl rfl) rfl ?_
  refine l_callK goes16 rfl hS (awake_record _ _) rfl (fun w hS => ?_)
  refine l_val (v_move rfl) rfl ?_
  refine l_val (v_extract rfl rfl) rfl ?_
  refine l_val (v_extract rfl rfl) rfl ?_
  refine l_val (v_assign rfl) rfl ?_
  refine l_val (v_assign rfl) rfl ?_
  refine l_end ?_
  refine k_code ?_
  refine c_seq ?_
  refine c_region ?_
  refine l_sliceN (xs := [.const (.int .i64 1), .const (.int .i64 15)]) hS Tryd.underlying57 ty3 zero3 rfl rfl rfl (by simp [Value.cells, B]) rfl rfl rfl rfl (fun b1 w hS => ?_)
  refine l_callK goes18 rfl hS (of_all [1, 15] _ _ _ (by decide) (Or.inr ⟨_, rfl, fun i x hi => hS.cellA 0 rfl (by rcases i with _ | _ | i <;> simp_all)⟩)) rfl (fun w hS => ?_)
  refine l_val (v_eqlT rfl rfl (awake_of)) rfl ?_
  refine l_val (v_move rfl) rfl ?_
  refine l_on rfl rfl rfl ?_
  refine l_callK goes15 rfl hS (draws (count_any _ _ (by decide) (by decide))) rfl (fun w hS => ?_)
  refine l_on rfl rfl rfl ?_
  refine l_val (v_eqlT rfl rfl (awake_cnt)) rfl ?_
  refine l_val (v_pickT rfl rfl) rfl ?_
  refine l_val (v_move rfl) rfl ?_
  refine l_on rfl rfl rfl ?_
  refine l_val (v_move rfl) rfl ?_
  refine l_on rfl rfl rfl ?_
  refine l_val (v_seqlT rfl rfl (rfl)) rfl ?_
  refine l_val (v_pickT rfl rfl) rfl ?_
  refine l_val (v_move rfl) rfl ?_
  refine l_on rfl rfl rfl ?_
  refine l_val (v_move rfl) rfl ?_
  refine l_on rfl rfl rfl ?_
  refine l_val (v_eqlT rfl rfl (rfl)) rfl ?_
  refine l_val (v_pickT rfl rfl) rfl ?_
  refine l_val (v_move rfl) rfl ?_
  refine l_on rfl rfl rfl ?_
  refine l_val (v_build zero25 places25 rfl rfl) rfl ?_
  refine l_on rfl rfl rfl ?_
  refine l_callK goes14 rfl hS (check_any 1 0 0 _ _ _ _ (by decide) (by decide) (by decide) (by decide)) rfl (fun w hS => ?_)
  refine l_on rfl rfl rfl ?_
  refine l_val (v_eqlT rfl rfl (awake_no)) rfl ?_
  refine l_val (v_pickT rfl rfl) rfl ?_
  refine l_val (v_move rfl) rfl ?_
  refine l_on rfl rfl rfl ?_
  refine l_callK goes13 rfl hS (sames (has_any _ _ _ (by decide) (by decide))) rfl (fun w hS => ?_)
  refine l_val (v_pickT rfl rfl) rfl ?_
  refine l_val (v_assign rfl) rfl ?_
  refine l_end ?_
  refine k_code ?_
  refine c_ret1 rfl rfl ?_
  exact ⟨by rw [awake_has], hS.keep⟩

end Go.Proofs.YtdlcefiandacnaaDoor
