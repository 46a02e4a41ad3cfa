/- The walks of mask.Check, and of the document's Has, Count, Of, Check. -/
import Derived.Test.YtdlcefiandacnaaDoorFacts
import Derived.Test.YtdlcefiandacnaaDoorMaskBase
namespace Go.Proofs.YtdlcefiandacnaaDoor
open Go Go.RowKit E MM
set_option maxRecDepth 100000
set_option linter.unusedVariables false

/-- May a branch be? (by its three masks and how many hashes it has) -/
def chk (st tr ha : Int) (m : Nat) : Bool :=
  decide (2 ≤ cntI st) && decide (bits .andNot .u16 (bits .or .u16 tr ha) st = 0) && decide ((m : Int) = cntI ha)

def chkI (st tr ha : Int) (m : Nat) : Int := if chk st tr ha m then 0 else 1

theorem chk0 {st tr ha : Int} {m : Nat} (h1 : ¬ cntI st < 2) (h2 : ¬ ¬ bits .andNot .u16 (bits .or .u16 tr ha) st = 0) (h3 : ¬ ¬ (m : Int) = cntI ha) : (0 : Int) = chkI st tr ha m := by
  unfold chkI chk; rw [if_pos]; simp [Decidable.not_not.1 h2, Decidable.not_not.1 h3]; omega
theorem chkA {st tr ha : Int} {m : Nat} (h1 : cntI st < 2) : (1 : Int) = chkI st tr ha m := by unfold chkI chk; rw [if_neg]; simp; omega
theorem chkB {st tr ha : Int} {m : Nat} (h2 : ¬ bits .andNot .u16 (bits .or .u16 tr ha) st = 0) : (1 : Int) = chkI st tr ha m := by unfold chkI chk; rw [if_neg]; simp [h2]
theorem chkC {st tr ha : Int} {m : Nat} (h3 : ¬ (m : Int) = cntI ha) : (1 : Int) = chkI st tr ha m := by unfold chkI chk; rw [if_neg]; simp [h3]

theorem check_any (st tr ha : Int) (A : Option Addr) (m c : Nat) (w0 : World) (s0 : 0 ≤ st) (s1 : st < 65536) (h0 : 0 ≤ ha) (h1 : ha < 65536) :
    Calls Tryd.prog 14 [.agg #[.int .u16 st, .int .u16 tr, .int .u16 ha, .slice A m c]].toArray w0 fun e w' => e = .returned (.int .i64 (chkI st tr ha m)) ∧ Keep No w0 w' := by
  refine enter (n := 27) Tryd.func14 rfl rfl rfl ?_
  have hS := St.start No w0
  refine c_seq ?_
  refine c_region ?_
  refine l_box hS rfl rfl rfl (fun b1 w hS => ?_)
  refine l_val (v_assign rfl) rfl ?_
  refine l_end ?_
  refine k_code ?_
  refine c_seq ?_
  refine c_seq ?_
  refine q_region hS mixed (by kernel_rfl) ?_
  refine q_val (v_fieldAddr field25_0 rfl) rfl ?_
  refine q_val (v_load ty22 rfl (fun _ h => h.cell 0 rfl rfl)) rfl ?_
  refine q_callK goes15 rfl (fun w hS => draws (count_any _ _ (by assumption) (by assumption))) rfl ?_
  refine q_val (v_lss rfl rfl) rfl ?_
  refine q_val (v_move rfl) rfl ?_
  refine q_part 7 rfl (fun p1 => ?_) (fun p1 => ?_)
  · skip
    refine q_skip rfl rfl rfl rfl rfl ?_
    refine q_skip rfl rfl rfl rfl rfl ?_
    refine q_skip rfl rfl rfl rfl rfl ?_
    refine q_skip rfl rfl rfl rfl rfl ?_
    refine q_skip rfl rfl rfl rfl rfl ?_
    refine q_skip rfl rfl rfl rfl rfl ?_
    refine q_skip rfl rfl rfl rfl rfl ?_
    refine q_skip rfl rfl rfl rfl rfl ?_
    refine q_skip rfl rfl rfl rfl rfl ?_
    refine q_val (v_pickT rfl rfl) rfl ?_
    refine q_val (v_move rfl) rfl ?_
    refine q_skip rfl rfl rfl rfl rfl ?_
    refine q_skip rfl rfl rfl rfl rfl ?_
    refine q_skip rfl rfl rfl rfl rfl ?_
    refine q_skip rfl rfl rfl rfl rfl ?_
    refine q_skip rfl rfl rfl rfl rfl ?_
    refine q_skip rfl rfl rfl rfl rfl ?_
    refine q_skip rfl rfl rfl rfl rfl ?_
    refine q_val (v_pickT rfl rfl) rfl ?_
    refine q_end (fun w hS => ?_)
    refine k_code ?_
    refine c_yes rfl ?_
    refine c_seq ?_
    refine c_region ?_
    refine l_val (v_assign rfl) rfl ?_
    refine l_end ?_
    refine k_code ?_
    refine c_ret1 rfl rfl ?_
    exact ⟨by rw [chkA p1], hS.keep⟩
  · skip
    refine q_on rfl rfl rfl ?_
    refine q_val (v_fieldAddr field25_1 rfl) rfl ?_
    refine q_on rfl rfl rfl ?_
    refine q_val (v_load ty22 rfl (fun _ h => h.cell 0 rfl rfl)) rfl ?_
    refine q_on rfl rfl rfl ?_
    refine q_val (v_fieldAddr field25_2 rfl) rfl ?_
    refine q_on rfl rfl rfl ?_
    refine q_val (v_load ty22 rfl (fun _ h => h.cell 0 rfl rfl)) rfl ?_
    refine q_on rfl rfl rfl ?_
    refine q_val (v_int rfl rfl rfl) rfl ?_
    refine q_on rfl rfl rfl ?_
    refine q_val (v_fieldAddr field25_0 rfl) rfl ?_
    refine q_on rfl rfl rfl ?_
    refine q_val (v_load ty22 rfl (fun _ h => h.cell 0 rfl rfl)) rfl ?_
    refine q_on rfl rfl rfl ?_
    refine q_val (v_int rfl rfl rfl) rfl ?_
    refine q_on rfl rfl rfl ?_
    refine q_val (v_neq rfl rfl) rfl ?_
    refine q_val (v_pickF rfl rfl) rfl ?_
    refine q_val (v_move rfl) rfl ?_
    refine q_part 18 rfl (fun p2 => ?_) (fun p2 => ?_)
    · skip
      refine q_skip rfl rfl rfl rfl rfl ?_
      refine q_skip rfl rfl rfl rfl rfl ?_
      refine q_skip rfl rfl rfl rfl rfl ?_
      refine q_skip rfl rfl rfl rfl rfl ?_
      refine q_skip rfl rfl rfl rfl rfl ?_
      refine q_skip rfl rfl rfl rfl rfl ?_
      refine q_skip rfl rfl rfl rfl rfl ?_
      refine q_val (v_pickT rfl rfl) rfl ?_
      refine q_end (fun w hS => ?_)
      refine k_code ?_
      refine c_yes rfl ?_
      refine c_seq ?_
      refine c_region ?_
      refine l_val (v_assign rfl) rfl ?_
      refine l_end ?_
      refine k_code ?_
      refine c_ret1 rfl rfl ?_
      exact ⟨by rw [chkB p2], hS.keep⟩
    · skip
      refine q_on rfl rfl rfl ?_
      refine q_val (v_fieldAddr field25_3 rfl) rfl ?_
      refine q_on rfl rfl rfl ?_
      refine q_val (v_load ty23 rfl (fun _ h => h.cell 0 rfl rfl)) rfl ?_
      refine q_on rfl rfl rfl ?_
      refine q_val (v_len Tryd.underlying23 rfl) rfl ?_
      refine q_on rfl rfl rfl ?_
      refine q_val (v_fieldAddr field25_2 rfl) rfl ?_
      refine q_on rfl rfl rfl ?_
      refine q_val (v_load ty22 rfl (fun _ h => h.cell 0 rfl rfl)) rfl ?_
      refine q_on rfl rfl rfl ?_
      refine q_callK goes15 rfl (fun w hS => draws (count_any _ _ (by assumption) (by assumption))) rfl ?_
      refine q_on rfl rfl rfl ?_
      refine q_val (v_neq rfl rfl) rfl ?_
      refine q_val (v_pickF rfl rfl) rfl ?_
      refine q_end (fun w hS => ?_)
      refine k_code ?_
      refine c_if rfl (fun p3 => ?_) (fun p3 => ?_)
      · skip
        refine c_seq ?_
        refine c_region ?_
        refine l_val (v_assign rfl) rfl ?_
        refine l_end ?_
        refine k_code ?_
        refine c_ret1 rfl rfl ?_
        exact ⟨by rw [chkC p3], hS.keep⟩
      · skip
        refine c_skip ?_
        refine k_code ?_
        refine c_seq ?_
        refine c_region ?_
        refine l_val (v_assign rfl) rfl ?_
        refine l_end ?_
        refine k_code ?_
        refine c_ret1 rfl rfl ?_
        exact ⟨by rw [chk0 p1 p2 p3], hS.keep⟩

/-! ### The document's answer -/

theorem rhas_any (m n : Int) (w : World) (h0 : 0 ≤ m) (h1 : m < 65536) :
    Calls Tryd.prog 21 #[.int .u16 m, .int .i64 n] w fun e w' => e = .returned (.bool (hasB m n)) ∧ w = w' := by
  by_cases a : 0 ≤ n
  · by_cases b : n < 16
    · have H := Lib.hid (u16_and1 m n h0 h1)
      go_enter Tryd.func21, Tryd.ntmps21
      go_wp2
      go_ret
      exact ⟨by simp [hasB, a, b, H.out], rfl⟩
    · go_enter Tryd.func21, Tryd.ntmps21
      go_wp2
      go_ret
      exact ⟨by simp [hasB]; omega, rfl⟩
  · go_enter Tryd.func21, Tryd.ntmps21
    go_wp2
    go_ret
    exact ⟨by simp [hasB]; omega, rfl⟩

theorem cnt_step (m : Int) (k : Nat) (hk : k < 16) : cnt m.toNat (k + 1) = cnt m.toNat k + (hasB m k).toNat := by
  simp only [cnt, hasB]
  congr 2
  rw [Int.toNat_natCast]
  simp; omega

theorem rcount_any (m : Int) (w0 : World) (h0 : 0 ≤ m) (h1 : m < 65536) :
    Calls Tryd.prog 19 [.int .u16 m].toArray w0 fun e w' => e = .returned (.int .i64 (cntI m)) ∧ Keep No w0 w' := by
  refine enter (n := 17) Tryd.func19 rfl rfl rfl ?_
  have hS := St.start No w0
  refine c_seq ?_
  refine c_region ?_
  refine l_val (v_assign rfl) rfl ?_
  refine l_end ?_
  refine k_code ?_
  refine c_seq ?_
  refine c_region ?_
  refine l_val (v_assign rfl) rfl ?_
  refine l_end ?_
  refine k_code ?_
  refine c_seq ?_
  refine c_seq ?_
  refine c_region ?_
  refine l_val (v_assign rfl) rfl ?_
  refine l_end ?_
  refine k_code ?_
  refine c_block ?_
  refine c_loopV [(0, _), (2, _)] (fun (k : Nat) => [(3, .int .i64 (cnt m.toNat k)), (4, .int .i64 k)]) (fun (k : Nat) w => St No w0 w _ ∧ k ≤ 16) (fun (k : Nat) => 16 - k) (0 : Nat) ⟨hS, Nat.zero_le _⟩ (kc rfl (kc rfl (kc rfl (kc rfl kn)))) (fun k w hI => ?_)
  obtain ⟨hS, hI⟩ := hI
  have hb := cnt_le m.toNat k
  refine c_seq ?_
  refine c_seq ?_
  refine c_region ?_
  refine l_val (v_move rfl) rfl ?_
  refine l_val (v_lss rfl rfl) rfl ?_
  refine l_end ?_
  refine k_code ?_
  refine c_if rfl (fun p1 => ?_) (fun p1 => ?_)
  · skip
    refine c_skip ?_
    refine k_code ?_
    refine c_seq ?_
    refine c_block ?_
    refine c_seq ?_
    refine c_region ?_
    refine l_val (v_move rfl) rfl ?_
    refine l_val (v_move rfl) rfl ?_
    refine l_callK goes21 rfl hS (sames (rhas_any _ _ _ h0 h1)) rfl (fun w hS => ?_)
    refine l_val (v_assign rfl) rfl ?_
    refine l_end ?_
    refine k_code ?_
    refine c_seq ?_
    refine c_region ?_
    refine l_val (v_move rfl) rfl ?_
    refine l_end ?_
    refine k_code ?_
    refine c_cond rfl (fun p2 => ?_) (fun p2 => ?_)
    · skip
      refine c_region ?_
      refine l_val (v_move rfl) rfl ?_
      refine l_val (v_add rfl rfl (by omega)) rfl ?_
      refine l_val (v_assign rfl) rfl ?_
      refine l_end ?_
      refine k_code ?_
      refine c_region ?_
      refine l_val (v_move rfl) rfl ?_
      refine l_val (v_add rfl rfl (by omega)) rfl ?_
      refine l_val (v_assign rfl) rfl ?_
      refine l_end ?_
      have e := cnt_step m k (by omega)
      refine fun _ hFr => ⟨(k + 1), (by omega), ⟨hS, by omega⟩, Fr.sub hFr (kc (by rw [e, ‹hasB m k = true›]; rfl) (kc rfl (kc rfl (kc rfl kn))))⟩
    · skip
      refine c_skip ?_
      refine k_code ?_
      refine c_region ?_
      refine l_val (v_move rfl) rfl ?_
      refine l_val (v_add rfl rfl (by omega)) rfl ?_
      refine l_val (v_assign rfl) rfl ?_
      refine l_end ?_
      have e := cnt_step m k (by omega)
      refine fun _ hFr => ⟨(k + 1), (by omega), ⟨hS, by omega⟩, Fr.sub hFr (kc (by rw [e, ‹hasB m k = false›]; rfl) (kc rfl (kc rfl (kc rfl kn))))⟩
  · skip
    refine c_exit ex_here ?_
    refine k_code ?_
    refine c_seq ?_
    refine c_region ?_
    refine l_val (v_move rfl) rfl ?_
    refine l_val (v_assign rfl) rfl ?_
    refine l_end ?_
    refine k_code ?_
    refine c_ret1 rfl rfl ?_
    exact ⟨by rw [cntI, show k = 16 by omega], hS.keep⟩

end Go.Proofs.YtdlcefiandacnaaDoor
