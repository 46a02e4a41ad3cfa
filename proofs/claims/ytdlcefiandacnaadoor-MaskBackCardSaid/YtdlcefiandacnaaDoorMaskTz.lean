/- The walk of the count of trailing zeros: the table as the program lays it; what a mask's iterator is. -/
import Derived.Test.YtdlcefiandacnaaDoorMaskAwake
import Derived.Test.YtdlcefiandacnaaDoorMaskLow
import Derived.Test.YtdlcefiandacnaaDoorEngRange
namespace Go.Proofs.YtdlcefiandacnaaDoor
open Go Go.RowKit E MM
set_option maxRecDepth 100000
set_option linter.unusedVariables false
set_option linter.unusedSimpArgs false

/-- The table lies as it is laid. -/
def Tab (w : World) : Prop := ∀ i, i < 32 → w.cell? ⟨0, i, none⟩ = some (.int .u8 (dbTab.getD i 0 : Nat))
theorem Tab.keep {w w' : World} (h : Tab w) (hk : Keep No w w') : Tab w' := fun i hi => hk.cellN (h i hi)

theorem neg16 {m : Nat} (h0 : 0 < m) (h1 : m < 65536) : IntKind.u16.wrap (-(m : Int)) = ((65536 - m : Nat) : Int) := by rw [IntKind.wrap_u16]; omega
theorem tz_and {k q : Nat} (h : 2 ^ k * (2 * q + 1) < 65536) : bits .and .u16 ((2 ^ k * (2 * q + 1) : Nat) : Int) (IntKind.u16.wrap (-((2 ^ k * (2 * q + 1) : Nat) : Int))) = ((2 ^ k : Nat) : Int) := by
  have hpos : 0 < 2 ^ k * (2 * q + 1) := Nat.mul_pos (Nat.two_pow_pos k) (by omega)
  rw [neg16 hpos h, u16_and_nat _ _ h (by omega), low_one h]
theorem tz_wrap {k : Nat} (hk : k < 16) : IntKind.u32.wrap (IntKind.u32.wrap ((2 ^ k : Nat) : Int) * 125613361) = ((2 ^ k * 125613361 % 4294967296 : Nat) : Int) := by
  have := pow_lt hk
  rw [IntKind.wrap_u32, IntKind.wrap_u32]; omega
theorem tz_shr (x : Nat) : ((x : Int)).fdiv (2 ^ min (27 : Int).toNat IntKind.u32.bits) = ((x / 134217728 : Nat) : Int) := by
  rw [show min (27 : Int).toNat IntKind.u32.bits = 27 from rfl, Int.fdiv_eq_ediv_of_nonneg _ (by decide)]; rfl

theorem tz_any (k q : Nat) (w0 : World) (hk : k < 16) (h : 2 ^ k * (2 * q + 1) < 65536) (ht : Tab w0) :
    Calls Tryd.prog 28 [.int .u16 ((2 ^ k * (2 * q + 1) : Nat) : Int)].toArray w0 fun e w' => e = .returned (.int .i64 k) ∧ Keep No w0 w' := by
  have hpos : 0 < 2 ^ k * (2 * q + 1) := Nat.mul_pos (Nat.two_pow_pos k) (by omega)
  have e1 := tz_and h
  have e2 := tz_wrap hk
  have e3 := tz_shr (2 ^ k * 125613361 % 4294967296)
  have hlt := dbTab_lt ⟨k, hk⟩
  have hat := dbTab_at ⟨k, hk⟩
  simp only at hlt hat
  have hcell := ht _ hlt
  rw [hat] at hcell
  generalize 2 ^ k * 125613361 % 4294967296 / 134217728 = j at hlt hat hcell e3
  generalize 2 ^ k * (2 * q + 1) = m at h hpos e1
  refine enter (n := 15) Tryd.func28 rfl rfl rfl ?_
  have hS := St.start No w0
  refine c_seq ?_
  refine c_region ?_
  refine l_val (v_assign rfl) rfl ?_
  refine l_end ?_
  refine k_code ?_
  refine c_seq ?_
  refine c_seq ?_
  refine c_region ?_
  refine l_val (v_move rfl) rfl ?_
  refine l_val (v_eql rfl rfl) rfl ?_
  refine l_end ?_
  refine k_code ?_
  refine c_if rfl (fun p1 => ?_) (fun p1 => ?_)
  · omega
  · skip
    refine c_skip ?_
    refine k_code ?_
    refine c_seq ?_
    refine c_region ?_
    refine l_val (v_move rfl) rfl ?_
    refine l_val (v_move rfl) rfl ?_
    refine l_val (v_neg rfl) rfl ?_
    refine l_val (v_int rfl rfl rfl) rfl ?_
    rw [e1]
    refine l_val (v_conv Tryd.underlying22 Tryd.underlying59 rfl) rfl ?_
    refine l_val (v_int rfl rfl rfl) rfl ?_
    rw [e2]
    refine l_val (v_shr rfl rfl (by decide)) rfl ?_
    rw [e3]
    refine l_val (v_indexAddrA Tryd.underlying30 ty5.size rfl rfl (by omega) (by omega)) rfl ?_
    refine l_val (v_load ty5 rfl (here ((by rw [show (({ block := 0, off := 0 } : Addr).add ((((j : Nat) : Int)).toNat * 1)) = ⟨0, j, none⟩ by rw [Int.toNat_natCast, Nat.mul_one]; unfold Addr.add; split <;> simp_all]; exact hcell)))) rfl ?_
    refine l_val (v_conv Tryd.underlying5 Tryd.underlying3 rfl) rfl ?_
    refine l_val (v_assign rfl) rfl ?_
    refine l_end ?_
    refine k_code ?_
    refine c_ret1 rfl rfl ?_
    exact ⟨by rw [IntWalk.i64_in _ (by omega)], hS.keep⟩
end Go.Proofs.YtdlcefiandacnaaDoor
