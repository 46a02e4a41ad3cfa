/- The walk of the document's word for a mask with a nibble or without. -/
import Derived.Test.YtdlcefiandacnaaDoorMaskHash
namespace Go.Proofs.YtdlcefiandacnaaDoor
open Go Go.RowKit E MM
set_option maxRecDepth 100000
set_option linter.unusedVariables false
set_option linter.unusedSimpArgs false

theorem one_shl {n : Int} (h0 : 0 ≤ n) (h1 : n < 16) : IntKind.u16.wrap (1 * 2 ^ min (IntKind.u64.wrap n).toNat IntKind.u16.bits) = ((2 ^ n.toNat : Nat) : Int) := by
  have := pow_lt (n := n.toNat) (by omega)
  rw [show IntKind.u64.wrap n = n by simp [IntKind.wrap, IntKind.bits, IntKind.signed]; omega, show min n.toNat IntKind.u16.bits = n.toNat from Nat.min_eq_left (by show n.toNat ≤ 16; omega), Int.one_mul, show (2 : Int) ^ n.toNat = ((2 ^ n.toNat : Nat) : Int) by simp]
  generalize 2 ^ n.toNat = p at this ⊢
  rw [IntKind.wrap_u16]
  omega
theorem has_le {m n : Int} (m0 : 0 ≤ m) (h : hasB m n = true) : ((2 ^ n.toNat : Nat) : Int) ≤ m := by
  have := Nat.ge_two_pow_of_testBit (by simp only [hasB, Bool.and_eq_true] at h; exact h.2 : m.toNat.testBit n.toNat = true)
  omega
/-- m = high part, the bit, low part. -/
theorem split_bit (m n : Nat) : m = 2 ^ n * (2 * (m / 2 ^ (n + 1)) + (m.testBit n).toNat) + m % 2 ^ n := by
  have h := Nat.div_add_mod m (2 ^ n)
  have e : m / 2 ^ n = 2 * (m / 2 ^ (n + 1)) + (m.testBit n).toNat := by
    rw [Nat.testBit_eq_decide_div_mod_eq, Nat.pow_succ, ← Nat.div_div_eq_div_mul]
    have := Nat.div_add_mod (m / 2 ^ n) 2
    by_cases c : m / 2 ^ n % 2 = 1
    · simp [c]; omega
    · simp [c]; omega
  rw [← e]; omega
theorem add_lt {m n : Int} (m0 : 0 ≤ m) (m1 : m < 65536) (h0 : 0 ≤ n) (h1 : n < 16) (h : hasB m n = false) : m + ((2 ^ n.toNat : Nat) : Int) < 65536 := by
  have hb : m.toNat.testBit n.toNat = false := by
    unfold hasB at h; rw [decide_eq_true h0, decide_eq_true h1] at h; simpa using h
  have hs := split_bit m.toNat n.toNat
  rw [hb] at hs
  have hr := Nat.mod_lt m.toNat (Nat.two_pow_pos n.toNat)
  have h2 : m.toNat / 2 ^ (n.toNat + 1) < 2 ^ (15 - n.toNat) := by
    rw [Nat.div_lt_iff_lt_mul (Nat.two_pow_pos _), ← Nat.pow_add, show 15 - n.toNat + (n.toNat + 1) = 16 by omega]; omega
  have h3 : 2 ^ n.toNat * (2 * (m.toNat / 2 ^ (n.toNat + 1))) ≤ 2 ^ n.toNat * (2 * (2 ^ (15 - n.toNat) - 1)) := Nat.mul_le_mul_left _ (by omega)
  have h4 : 2 ^ n.toNat * (2 * 2 ^ (15 - n.toNat)) = 65536 := by
    rw [← Nat.pow_succ', ← Nat.pow_add, show n.toNat + (15 - n.toNat + 1) = 16 by omega]
  have h5 : 2 ^ n.toNat * (2 * (2 ^ (15 - n.toNat) - 1)) + 2 * 2 ^ n.toNat = 65536 := by
    rw [← h4, Nat.mul_sub, Nat.mul_sub, Nat.mul_one]
    have : 2 ^ n.toNat * 2 ≤ 2 ^ n.toNat * (2 * 2 ^ (15 - n.toNat)) := Nat.mul_le_mul_left _ (by have := Nat.two_pow_pos (15 - n.toNat); omega)
    omega
  simp only [Bool.toNat_false, Nat.add_zero] at hs
  omega
theorem set_sub {m n : Int} (m0 : 0 ≤ m) (m1 : m < 65536) (h : hasB m n = true) : IntKind.u16.wrap (m - ((2 ^ n.toNat : Nat) : Int)) = setS m n false := by
  have := has_le m0 h
  have hp := Nat.two_pow_pos n.toNat
  unfold setS
  rw [h, if_neg (by simp), if_neg (by simp)]
  generalize 2 ^ n.toNat = p at this hp ⊢
  rw [IntKind.wrap_u16]
  omega
theorem set_add {m n : Int} (m0 : 0 ≤ m) (m1 : m < 65536) (h0 : 0 ≤ n) (h1 : n < 16) (h : hasB m n = false) : IntKind.u16.wrap (m + ((2 ^ n.toNat : Nat) : Int)) = setS m n true := by
  have := add_lt m0 m1 h0 h1 h
  unfold setS
  rw [h, if_neg (by simp), if_pos rfl]
  generalize 2 ^ n.toNat = p at this ⊢
  rw [IntKind.wrap_u16]
  omega
theorem set_keep {m n : Int} {is : Bool} (h : hasB m n = is) : setS m n is = m := by unfold setS; rw [if_pos h]

theorem set_leafA {m n : Int} {is : Bool} {w w' : World} (m0 : 0 ≤ m) (m1 : m < 65536) (p1 : hasB m n = true) (p2 : (!is) = true) (hw : w = w') : Ending.returned (.int .u16 (IntKind.u16.wrap (m - ((2 ^ n.toNat : Nat) : Int)))) = .returned (.int .u16 (setS m n is)) ∧ w = w' := by
  cases is with
  | true => cases p2
  | false => exact ⟨by rw [set_sub m0 m1 p1], hw⟩
theorem set_leafB {m n : Int} {is : Bool} {w w' : World} (m0 : 0 ≤ m) (m1 : m < 65536) (h0 : 0 ≤ n) (h1 : n < 16) (p1 : hasB m n = false) (p2 : is = true) (hw : w = w') : Ending.returned (.int .u16 (IntKind.u16.wrap (m + ((2 ^ n.toNat : Nat) : Int)))) = .returned (.int .u16 (setS m n is)) ∧ w = w' := by
  subst p2
  exact ⟨by rw [set_add m0 m1 h0 h1 p1], hw⟩
theorem set_leafK {m n : Int} {is : Bool} {w w' : World} (h : hasB m n = is) (hw : w = w') : Ending.returned (.int .u16 m) = .returned (.int .u16 (setS m n is)) ∧ w = w' := ⟨by rw [set_keep h], hw⟩

theorem rset_any (m n : Int) (is : Bool) (w0 : World) (m0 : 0 ≤ m) (m1 : m < 65536) (h0 : 0 ≤ n) (h1 : n < 16) :
    Calls Tryd.prog 24 [.int .u16 m, .int .i64 n, .bool is].toArray w0 fun e w' => e = .returned (.int .u16 (setS m n is)) ∧ w0 = w' := by
  have e1 := one_shl h0 h1
  refine enter (n := 32) Tryd.func24 rfl rfl rfl ?_
  have hS := St.start No w0
  refine c_seq ?_
  refine c_region ?_
  refine l_val (v_assign rfl) rfl ?_
  refine l_end ?_
  refine k_code ?_
  refine c_seq ?_
  refine c_region ?_
  refine l_val (v_move rfl) rfl ?_
  refine l_val (v_move rfl) rfl ?_
  refine l_call goes21 rfl (rhas_any _ _ _ m0 m1) rfl (fun e w1 hB => ?_)
  obtain ⟨rfl, rfl⟩ := hB
  refine ⟨_, rfl, ?_⟩
  refine l_val (v_assign rfl) rfl ?_
  refine l_end ?_
  refine k_code ?_
  refine c_seq ?_
  refine c_seq ?_
  refine c_region ?_
  refine l_val (v_move rfl) rfl ?_
  refine l_val (v_move rfl) rfl ?_
  refine l_partB 12 rfl (fun p1 => ?_) (fun p1 => ?_)
  · skip
    refine l_on rfl rfl rfl ?_
    refine l_val (v_move rfl) rfl ?_
    refine l_on rfl rfl rfl ?_
    refine l_val (v_not rfl) rfl ?_
    refine l_val (v_pickT rfl rfl) rfl ?_
    refine l_end ?_
    refine k_code ?_
    refine c_cond rfl (fun p2 => ?_) (fun p2 => ?_)
    · skip
      refine c_seq ?_
      refine c_region ?_
      refine l_val (v_move rfl) rfl ?_
      refine l_val (v_move rfl) rfl ?_
      refine l_val (v_conv Tryd.underlying3 Tryd.underlying55 rfl) rfl ?_
      refine l_val (v_shl rfl rfl (by rw [show IntKind.u64.wrap n = n by simp [IntKind.wrap, IntKind.bits, IntKind.signed]; omega]; omega)) rfl ?_
      rw [e1]
      refine l_val (v_int rfl rfl rfl) rfl ?_
      refine l_val (v_assign rfl) rfl ?_
      refine l_end ?_
      refine k_code ?_
      refine c_ret1 rfl rfl ?_
      exact set_leafA m0 m1 p1 p2 rfl
    · skip
      refine c_skip ?_
      refine k_code ?_
      refine c_seq ?_
      refine c_seq ?_
      refine c_region ?_
      refine l_val (v_move rfl) rfl ?_
      refine l_val (v_not rfl) rfl ?_
      refine l_val (v_move rfl) rfl ?_
      refine l_partB 23 rfl (fun p3 => ?_) (fun p3 => ?_)
      · exact absurd p3 (by rw [p1]; decide)
      · skip
        refine l_skip rfl rfl rfl rfl rfl ?_
        refine l_val (v_pickF rfl rfl) rfl ?_
        refine l_end ?_
        refine k_code ?_
        refine c_no rfl ?_
        refine c_skip ?_
        refine k_code ?_
        refine c_seq ?_
        refine c_region ?_
        refine l_val (v_move rfl) rfl ?_
        refine l_val (v_assign rfl) rfl ?_
        refine l_end ?_
        refine k_code ?_
        refine c_ret1 rfl rfl ?_
        exact set_leafK (m := m) (n := n) (is := is) (by rw [p1]; cases is <;> simp_all) rfl
  · skip
    refine l_skip rfl rfl rfl rfl rfl ?_
    refine l_skip rfl rfl rfl rfl rfl ?_
    refine l_val (v_pickF rfl rfl) rfl ?_
    refine l_end ?_
    refine k_code ?_
    refine c_no rfl ?_
    refine c_skip ?_
    refine k_code ?_
    refine c_seq ?_
    refine c_seq ?_
    refine c_region ?_
    refine l_val (v_move rfl) rfl ?_
    refine l_val (v_not rfl) rfl ?_
    refine l_val (v_move rfl) rfl ?_
    refine l_partB 23 rfl (fun p2 => ?_) (fun p2 => ?_)
    · skip
      refine l_on rfl rfl rfl ?_
      refine l_val (v_move rfl) rfl ?_
      refine l_val (v_pickT rfl rfl) rfl ?_
      refine l_end ?_
      refine k_code ?_
      refine c_cond rfl (fun p3 => ?_) (fun p3 => ?_)
      · skip
        refine c_seq ?_
        refine c_region ?_
        refine l_val (v_move rfl) rfl ?_
        refine l_val (v_move rfl) rfl ?_
        refine l_val (v_conv Tryd.underlying3 Tryd.underlying55 rfl) rfl ?_
        refine l_val (v_shl rfl rfl (by rw [show IntKind.u64.wrap n = n by simp [IntKind.wrap, IntKind.bits, IntKind.signed]; omega]; omega)) rfl ?_
        rw [e1]
        refine l_val (v_int rfl rfl rfl) rfl ?_
        refine l_val (v_assign rfl) rfl ?_
        refine l_end ?_
        refine k_code ?_
        refine c_ret1 rfl rfl ?_
        exact set_leafB m0 m1 h0 h1 p1 p3 rfl
      · skip
        refine c_skip ?_
        refine k_code ?_
        refine c_seq ?_
        refine c_region ?_
        refine l_val (v_move rfl) rfl ?_
        refine l_val (v_assign rfl) rfl ?_
        refine l_end ?_
        refine k_code ?_
        refine c_ret1 rfl rfl ?_
        exact set_leafK (m := m) (n := n) (is := is) (by rw [p1, p3]) rfl
    · exact absurd p2 (by rw [p1]; decide)
end Go.Proofs.YtdlcefiandacnaaDoor
