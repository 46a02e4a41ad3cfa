/- The numbers that a mask has. -/
import Derived.Test.YtdlcefiandacnaaDoorMaskBase
namespace Go.Proofs.YtdlcefiandacnaaDoor
open Go Go.RowKit MM
set_option linter.unusedVariables false

/-- The numbers below k that a mask has. -/
def bl (m : Nat) : Nat → List Int
  | 0 => []
  | k + 1 => if m.testBit k then bl m k ++ [(k : Int)] else bl m k
theorem bl_len (m k : Nat) : (bl m k).length = cnt m k := by
  induction k with
  | zero => rfl
  | succ k ih => simp only [bl, cnt]; split
                 · rename_i h; rw [List.length_append, ih, h]; rfl
                 · rename_i h; rw [ih, Bool.eq_false_iff.2 h]; rfl
theorem bl_mem (m k i : Nat) : (i : Int) ∈ bl m k ↔ i < k ∧ m.testBit i = true := by
  induction k with
  | zero => simp [bl]
  | succ k ih =>
    simp only [bl]; split
    · rename_i h
      rw [List.mem_append, ih]
      constructor
      · rintro (⟨a, b⟩ | a)
        · exact ⟨by omega, b⟩
        · have : i = k := by have : (i : Int) = k := by simpa using a
                             omega
          subst this; exact ⟨by omega, h⟩
      · rintro ⟨a, b⟩
        by_cases e : i = k
        · right; simp [e]
        · left; exact ⟨by omega, b⟩
    · rename_i h
      rw [ih]
      constructor
      · rintro ⟨a, b⟩; exact ⟨by omega, b⟩
      · rintro ⟨a, b⟩
        refine ⟨?_, b⟩
        by_cases e : i = k
        · subst e; exact absurd b h
        · omega
theorem bl_of {m : Nat} (h : m < 65536) : ofL (bl m 16) = m := by
  apply eq_of_bits (ofL_lt _) h
  intro i hi
  rw [ofL_bit _ _ hi, Bool.eq_iff_iff, decide_eq_true_iff, bl_mem]
  simp [hi]

theorem bl_yes {m : Int} {k : Nat} (h : hasB m k = true) : bl m.toNat (k + 1) = bl m.toNat k ++ [(k : Int)] := by
  have : m.toNat.testBit k = true := by simp only [hasB, Bool.and_eq_true] at h; exact h.2
  simp only [bl]; rw [if_pos this]
theorem cnt_yes {m : Int} {k : Nat} (h : hasB m k = true) : cnt m.toNat (k + 1) = cnt m.toNat k + 1 := by
  rw [← bl_len, ← bl_len, bl_yes h, List.length_append]; rfl
theorem bl_no {m : Int} {k : Nat} (h : hasB m k = false) (hk : k < 16) : bl m.toNat (k + 1) = bl m.toNat k := by
  have : ¬ m.toNat.testBit k = true := fun e => by
    have h2 : hasB m k = true := by unfold hasB; rw [decide_eq_true (show (0 : Int) ≤ k by omega), decide_eq_true (show (k : Int) < 16 by omega)]; exact e
    rw [h] at h2; cases h2
  simp only [bl]; rw [if_neg this]
theorem cnt_no {m : Int} {k : Nat} (h : hasB m k = false) (hk : k < 16) : cnt m.toNat (k + 1) = cnt m.toNat k := by
  rw [← bl_len, ← bl_len, bl_no h hk]

end Go.Proofs.YtdlcefiandacnaaDoor
