/- Plain facts on the lowest bit of a mask, and on a mask's upper part. No program in sight. -/
import Derived.Test.YtdlcefiandacnaaDoorMaskMath
namespace Go.Proofs.YtdlcefiandacnaaDoor.MM

/-- The mask's part from bit j on. -/
def hi (m j : Nat) : Nat := m / 2 ^ j * 2 ^ j

theorem hi_bit (m j i : Nat) : (hi m j).testBit i = (decide (j ≤ i) && m.testBit i) := by
  unfold hi
  rw [Nat.mul_comm, ← Nat.add_zero (2 ^ j * (m / 2 ^ j)), Nat.testBit_two_pow_mul_add _ (Nat.two_pow_pos j), Nat.testBit_div_two_pow]
  by_cases h : i < j
  · simp [h]; omega
  · rw [if_neg h, decide_eq_true (by omega), Nat.sub_add_cancel (by omega), Bool.true_and]
theorem hi_lt {m : Nat} (h : m < 65536) (j : Nat) : hi m j < 65536 := Nat.lt_of_le_of_lt (Nat.div_mul_le_self m (2 ^ j)) h
theorem hi_zero (m : Nat) : hi m 0 = m := by simp [hi]
theorem hi_end {m : Nat} (h : m < 65536) : hi m 16 = 0 := by unfold hi; rw [Nat.div_eq_of_lt (by simpa using h), Nat.zero_mul]

/-- A number that is not 0 has a lowest bit. -/
theorem low_ex {m : Nat} (h : m ≠ 0) : ∃ k q, m = 2 ^ k * (2 * q + 1) := by
  induction m using Nat.strongRecOn with
  | _ m ih =>
    by_cases e : m % 2 = 1
    · exact ⟨0, m / 2, by omega⟩
    · obtain ⟨k, q, hk⟩ := ih (m / 2) (by omega) (by omega)
      refine ⟨k + 1, q, ?_⟩
      rw [Nat.pow_succ, show 2 ^ k * 2 * (2 * q + 1) = 2 * (2 ^ k * (2 * q + 1)) by rw [Nat.mul_comm (2 ^ k) 2, Nat.mul_assoc], ← hk]
      omega
theorem odd_bit (q i : Nat) : (2 * q + 1).testBit i = (decide (i = 0) || (2 * q).testBit i) := by
  cases i with
  | zero => simp [Nat.testBit_zero]
  | succ i => simp only [Nat.testBit_succ]; rw [show (2 * q + 1) / 2 = 2 * q / 2 by omega]; simp
theorem low_bit (k q i : Nat) : (2 ^ k * (2 * q + 1)).testBit i = (decide (i = k) || (2 ^ k * (2 * q)).testBit i) := by
  rw [← Nat.add_zero (2 ^ k * (2 * q + 1)), ← Nat.add_zero (2 ^ k * (2 * q)), Nat.testBit_two_pow_mul_add _ (Nat.two_pow_pos k), Nat.testBit_two_pow_mul_add _ (Nat.two_pow_pos k)]
  by_cases h : i < k
  · simp [h]; omega
  · rw [if_neg h, if_neg h, odd_bit]
    congr 1
    exact decide_eq_decide.2 (by omega)
theorem low_even (k q i : Nat) (h : i ≤ k) : (2 ^ k * (2 * q)).testBit i = false := by
  rw [← Nat.add_zero (2 ^ k * (2 * q)), Nat.testBit_two_pow_mul_add _ (Nat.two_pow_pos k)]
  by_cases e : i < k
  · simp [e]
  · rw [if_neg e, show i - k = 0 by omega]; simp [Nat.testBit_zero]
theorem low_pred (k q : Nat) (i : Nat) : (2 ^ k * (2 * q + 1) - 1).testBit i = (decide (i < k) || (2 ^ k * (2 * q)).testBit i) := by
  have hp := Nat.two_pow_pos k
  rw [show 2 ^ k * (2 * q + 1) - 1 = 2 ^ k * (2 * q) + (2 ^ k - 1) by rw [Nat.mul_add, Nat.mul_one]; omega, Nat.testBit_two_pow_mul_add _ (by omega), Nat.testBit_two_pow_sub_one]
  by_cases h : i < k
  · simp [h]
  · rw [if_neg h, decide_eq_false h, ← Nat.add_zero (2 ^ k * (2 * q)), Nat.testBit_two_pow_mul_add _ hp, if_neg h]; rfl
/-- The lowest bit alone. -/
theorem low_one {k q : Nat} (h : 2 ^ k * (2 * q + 1) < 65536) : 2 ^ k * (2 * q + 1) &&& (65536 - 2 ^ k * (2 * q + 1)) = 2 ^ k := by
  have hp := Nat.two_pow_pos k
  have hpos : 0 < 2 ^ k * (2 * q + 1) := Nat.mul_pos hp (by omega)
  have hk : 2 ^ k < 65536 := Nat.lt_of_le_of_lt (by simpa using Nat.mul_le_mul_left (2 ^ k) (show 1 ≤ 2 * q + 1 by omega)) h
  apply eq_of_bits (Nat.lt_of_le_of_lt Nat.and_le_left h) hk
  intro i hi
  have e : 65536 - 2 ^ k * (2 * q + 1) = 2 ^ 16 - ((2 ^ k * (2 * q + 1) - 1) + 1) := by omega
  rw [Nat.testBit_and, e, Nat.testBit_two_pow_sub_succ (by omega), low_bit, low_pred, Nat.testBit_two_pow, decide_eq_true hi]
  by_cases a : i = k
  · subst a; simp [low_even]
  · by_cases b : i < k
    · simp [a, b, low_even k q i (by omega)]; omega
    · rw [decide_eq_false a, decide_eq_false b, decide_eq_false (by omega : ¬ k = i)]
      cases (2 ^ k * (2 * q)).testBit i <;> rfl
/-- All but the lowest bit. -/
theorem low_rest {k q : Nat} (h : 2 ^ k * (2 * q + 1) < 65536) : 2 ^ k * (2 * q + 1) &&& (2 ^ k * (2 * q + 1) - 1) = 2 ^ k * (2 * q) := by
  have hle : 2 ^ k * (2 * q) ≤ 2 ^ k * (2 * q + 1) := Nat.mul_le_mul_left _ (by omega)
  apply eq_of_bits (Nat.lt_of_le_of_lt Nat.and_le_left h) (by omega)
  intro i _
  rw [Nat.testBit_and, low_bit, low_pred]
  by_cases a : i = k
  · subst a; simp [low_even]
  · by_cases b : i < k
    · simp [a, b, low_even k q i (by omega)]
    · rw [decide_eq_false a, decide_eq_false b]; simp

/-- What stands from j on: its lowest bit t, and what stands behind. -/
theorem hi_low {m j : Nat} (hm : m < 65536) (h : hi m j ≠ 0) : ∃ t q, hi m j = 2 ^ t * (2 * q + 1) ∧ j ≤ t ∧ t < 16 ∧ m.testBit t = true ∧ (∀ i, j ≤ i → i < t → m.testBit i = false) ∧ 2 ^ t * (2 * q) = hi m (t + 1) := by
  obtain ⟨t, q, e⟩ := low_ex h
  have hlt := hi_lt hm j
  have hb : ∀ i, (decide (j ≤ i) && m.testBit i) = (decide (i = t) || (2 ^ t * (2 * q)).testBit i) := fun i => by rw [← hi_bit, e, low_bit]
  have h1 : j ≤ t ∧ m.testBit t = true := by have := hb t; simpa using this
  have ht : t < 16 := by
    by_cases c : t < 16
    · exact c
    · exfalso
      have : m.testBit t = false := Nat.testBit_lt_two_pow (Nat.lt_of_lt_of_le hm (by have := Nat.pow_le_pow_right (n := 2) (by omega) (show 16 ≤ t by omega); simpa using this))
      rw [h1.2] at this; cases this
  refine ⟨t, q, e, h1.1, ht, h1.2, fun i hij hit => ?_, ?_⟩
  · have := hb i
    rw [decide_eq_true hij, decide_eq_false (by omega), low_even t q i (by omega)] at this
    simpa using this
  · have hle : 2 ^ t * (2 * q) ≤ 2 ^ t * (2 * q + 1) := Nat.mul_le_mul_left _ (by omega)
    apply eq_of_bits (by omega) (hi_lt hm _)
    intro i _
    rw [hi_bit]
    by_cases a : i = t
    · subst a; rw [low_even i q i (Nat.le_refl _), decide_eq_false (by omega)]; rfl
    · by_cases b : i < t
      · rw [low_even t q i (by omega), decide_eq_false (by omega)]; rfl
      · have := hb i
        rw [decide_eq_true (show j ≤ i by omega), decide_eq_false a] at this
        rw [decide_eq_true (show t + 1 ≤ i by omega)]
        simpa using this.symm

def dbTab : List Nat := [0, 1, 28, 2, 29, 14, 24, 3, 30, 22, 20, 15, 25, 17, 4, 8, 31, 27, 13, 23, 21, 19, 16, 7, 26, 12, 18, 6, 11, 5, 10, 9]
theorem dbTab_at : ∀ k : Fin 16, dbTab.getD (2 ^ k.val * 125613361 % 4294967296 / 134217728) 0 = k.val := by decide +kernel
theorem dbTab_lt : ∀ k : Fin 16, 2 ^ k.val * 125613361 % 4294967296 / 134217728 < 32 := by decide +kernel
end Go.Proofs.YtdlcefiandacnaaDoor.MM
