/- Plain facts on a mask with a nibble put or struck, and on the list of its numbers. No program in sight. -/
import Derived.Test.YtdlcefiandacnaaDoorMaskRWith
namespace Go.Proofs.YtdlcefiandacnaaDoor
open Go Go.RowKit E MM
set_option linter.unusedVariables false
set_option linter.unusedSimpArgs false

theorem set_form {m n : Int} {is : Bool} (m0 : 0 ≤ m) (m1 : m < 65536) (h0 : 0 ≤ n) (h1 : n < 16) :
    setS m n is = ((2 ^ n.toNat * (2 * (m.toNat / 2 ^ (n.toNat + 1)) + is.toNat) + m.toNat % 2 ^ n.toNat : Nat) : Int) := by
  have hs := split_bit m.toNat n.toNat
  have e2 : hasB m n = m.toNat.testBit n.toNat := by unfold hasB; rw [decide_eq_true h0, decide_eq_true h1]; rfl
  rw [← e2] at hs
  unfold setS
  generalize hq : m.toNat / 2 ^ (n.toNat + 1) = q at hs ⊢
  generalize hr : m.toNat % 2 ^ n.toNat = r at hs ⊢
  have hp := Nat.two_pow_pos n.toNat
  by_cases h : hasB m n = is
  · rw [if_pos h]; rw [h] at hs; omega
  · rw [if_neg h]
    cases is with
    | true =>
      have hb : hasB m n = false := by cases hh : hasB m n <;> simp_all
      rw [hb] at hs
      rw [if_pos rfl]
      simp only [Bool.toNat_false, Bool.toNat_true, Nat.add_zero, Nat.mul_add, Nat.mul_one] at hs ⊢
      omega
    | false =>
      have hb : hasB m n = true := by cases hh : hasB m n <;> simp_all
      rw [hb] at hs
      rw [if_neg (by simp)]
      simp only [Bool.toNat_false, Bool.toNat_true, Nat.add_zero, Nat.mul_add, Nat.mul_one] at hs ⊢
      omega
theorem set_nat {m n : Int} {is : Bool} (m0 : 0 ≤ m) (m1 : m < 65536) (h0 : 0 ≤ n) (h1 : n < 16) (i : Nat) :
    (setS m n is).toNat.testBit i = if i = n.toNat then is else m.toNat.testBit i := by
  rw [set_form m0 m1 h0 h1, Int.toNat_natCast]
  have hr := Nat.mod_lt m.toNat (Nat.two_pow_pos n.toNat)
  rw [Nat.testBit_two_pow_mul_add _ hr]
  have hm := split_bit m.toNat n.toNat
  have hm2 : m.toNat.testBit i = (2 ^ n.toNat * (2 * (m.toNat / 2 ^ (n.toNat + 1)) + (m.toNat.testBit n.toNat).toNat) + m.toNat % 2 ^ n.toNat).testBit i := by rw [← hm]
  rw [Nat.testBit_two_pow_mul_add _ hr] at hm2
  rw [hm2]
  by_cases h : i < n.toNat
  · rw [if_pos h, if_pos h, if_neg (by omega)]
  · rw [if_neg h, if_neg h]
    by_cases e : i = n.toNat
    · rw [if_pos e, show i - n.toNat = 0 by omega, Nat.testBit_zero]
      cases is
      · simp
      · simp only [Bool.toNat_true, decide_eq_true_eq]; omega
    · rw [if_neg e]
      obtain ⟨j, hj⟩ : ∃ j, i - n.toNat = j + 1 := ⟨i - n.toNat - 1, by omega⟩
      rw [hj, Nat.testBit_succ, Nat.testBit_succ]
      congr 1
      cases is <;> cases m.toNat.testBit n.toNat <;> simp <;> omega

theorem not_set {m n : Int} (m0 : 0 ≤ m) (m1 : m < 65536) (h0 : 0 ≤ n) (h1 : n < 16) : bits .andNot .u16 m ((2 ^ n.toNat : Nat) : Int) = setS m n false := by
  have hp := pow_lt (n := n.toNat) (by omega)
  have hr := setS_range (is := false) m0 m1 h0 h1
  have e : ((m.toNat &&& (65535 - 2 ^ n.toNat) : Nat)) = (setS m n false).toNat := by
    apply eq_of_bits (and_lt (by omega)) (by omega)
    intro i hi
    rw [set_nat m0 m1 h0 h1, Nat.testBit_and, show 65535 - 2 ^ n.toNat = 2 ^ 16 - (2 ^ n.toNat + 1) by omega, Nat.testBit_two_pow_sub_succ (by omega), Nat.testBit_two_pow, decide_eq_true hi]
    by_cases e : i = n.toNat
    · rw [if_pos e, decide_eq_true e.symm]; simp
    · rw [if_neg e, decide_eq_false (fun h => e h.symm)]; simp
  rw [show m = ((m.toNat : Nat) : Int) by omega, u16_andNot_nat _ _ (by omega) hp, e, show ((m.toNat : Nat) : Int) = m by omega]
  omega
theorem or_set {m n : Int} (m0 : 0 ≤ m) (m1 : m < 65536) (h0 : 0 ≤ n) (h1 : n < 16) : bits .or .u16 (setS m n false) ((2 ^ n.toNat : Nat) : Int) = setS m n true := by
  have hp := pow_lt (n := n.toNat) (by omega)
  have hr := setS_range (is := false) m0 m1 h0 h1
  have hr' := setS_range (is := true) m0 m1 h0 h1
  have e : (((setS m n false).toNat ||| 2 ^ n.toNat : Nat)) = (setS m n true).toNat := by
    apply eq_of_bits (or_lt (by omega) hp) (by omega)
    intro i hi
    rw [set_nat m0 m1 h0 h1, Nat.testBit_or, set_nat m0 m1 h0 h1, Nat.testBit_two_pow]
    by_cases e : i = n.toNat
    · rw [if_pos e, if_pos e, decide_eq_true e.symm]; rfl
    · rw [if_neg e, if_neg e, decide_eq_false (fun h => e h.symm)]; simp
  rw [show setS m n false = (((setS m n false).toNat : Nat) : Int) by omega, u16_or_nat _ _ (by omega) hp, e]
  omega

/-- What stands ahead of a number, and what behind. -/
theorem bl_pre (m : Nat) {j k : Nat} (h : j ≤ k) : (bl m k).take (cnt m j) = bl m j := by
  induction k with
  | zero => obtain rfl : j = 0 := by omega
            rfl
  | succ k ih =>
    by_cases e : j = k + 1
    · subst e; rw [List.take_of_length_le (by rw [bl_len]; exact Nat.le_refl _)]
    · have hc := cnt_mono m (show j ≤ k by omega)
      simp only [bl]
      split
      · rw [List.take_append_of_le_length (by rw [bl_len]; exact hc)]; exact ih (by omega)
      · exact ih (by omega)
theorem bl_same {a b : Nat} {k : Nat} (h : ∀ i, i < k → a.testBit i = b.testBit i) : bl a k = bl b k := by
  induction k with
  | zero => rfl
  | succ k ih => simp only [bl]; rw [ih (fun i hi => h i (by omega)), h k (by omega)]
theorem bl_put {a b n : Nat} (hb : b.testBit n = true) (ha : a.testBit n = false) (h : ∀ i, i ≠ n → b.testBit i = a.testBit i) : ∀ k, n < k → bl b k = bl a n ++ [(n : Int)] ++ (bl a k).drop (cnt a n) := by
  intro k hk
  induction k with
  | zero => omega
  | succ k ih =>
    by_cases e : k = n
    · subst e
      simp only [bl]
      rw [if_pos hb, if_neg (by rw [ha]; simp), bl_same (a := b) (b := a) (fun i hi => h i (by omega)), List.drop_of_length_le (by rw [bl_len]; exact Nat.le_refl _)]
      simp
    · simp only [bl]
      rw [h k e, ih (by omega)]
      split
      · rw [List.drop_append_of_le_length (by rw [bl_len]; exact cnt_mono a (by omega)), List.append_assoc, List.append_assoc]
      · rfl
theorem bl_range {m k : Nat} {x : Int} (h : x ∈ bl m k) : ∃ i : Nat, x = i ∧ i < k ∧ m.testBit i = true := by
  induction k with
  | zero => simp [bl] at h
  | succ k ih =>
    simp only [bl] at h
    split at h
    · rename_i hb
      rcases List.mem_append.1 h with h | h
      · obtain ⟨i, e, h1, h2⟩ := ih h; exact ⟨i, e, by omega, h2⟩
      · exact ⟨k, by simpa using h, by omega, hb⟩
    · obtain ⟨i, e, h1, h2⟩ := ih h; exact ⟨i, e, by omega, h2⟩

/-- The hashes behind a put: one comes in. -/
theorem hsW_put {ha n : Int} {hs : List (List UInt8)} {s : ByteArray} (m0 : 0 ≤ ha) (m1 : ha < 65536) (h0 : 0 ≤ n) (h1 : n < 16) :
    hsW ha hs n s (bl (setS ha n true).toNat 16) = (hsW ha hs n s (bl (setS ha n false).toNat 16)).take (cnt (setS ha n false).toNat n.toNat) ++ [refH s] ++ (hsW ha hs n s (bl (setS ha n false).toNat 16)).drop (cnt (setS ha n false).toNat n.toNat) := by
  have e := bl_put (a := (setS ha n false).toNat) (b := (setS ha n true).toNat) (n := n.toNat) (by rw [set_nat m0 m1 h0 h1, if_pos rfl]) (by rw [set_nat m0 m1 h0 h1, if_pos rfl]) (fun i hi => by rw [set_nat m0 m1 h0 h1, set_nat m0 m1 h0 h1, if_neg hi, if_neg hi]) 16 (by omega)
  rw [e]
  unfold hsW
  rw [← List.map_take, bl_pre _ (by omega), ← List.map_drop, List.map_append, List.map_append]
  simp [show ((n.toNat : Nat) : Int) = n by omega]
theorem bl_noT {m k : Nat} (h : m.testBit k = false) : bl m (k + 1) = bl m k := by simp only [bl]; rw [if_neg (by rw [h]; simp)]
theorem bl_yesT {m k : Nat} (h : m.testBit k = true) : bl m (k + 1) = bl m k ++ [(k : Int)] := by simp only [bl]; rw [if_pos h]
theorem cnt_noT {m k : Nat} (h : m.testBit k = false) : cnt m (k + 1) = cnt m k := by rw [← bl_len, ← bl_len, bl_noT h]
theorem cnt_yesT {m k : Nat} (h : m.testBit k = true) : cnt m (k + 1) = cnt m k + 1 := by rw [← bl_len, ← bl_len, bl_yesT h]; simp
theorem hsW_no32 {ha n : Int} {hs : List (List UInt8)} {s : ByteArray} (m0 : 0 ≤ ha) (m1 : ha < 65536) (h0 : 0 ≤ n) (h1 : n < 16) (hh : ∀ x ∈ hs, x.length = 32) (k : Nat) : ∀ x ∈ hsW ha hs n s (bl (setS ha n false).toNat k), x.length = 32 :=
  hsW_32 hh fun hm => by
    obtain ⟨i, e, -, hb⟩ := bl_range hm
    rw [set_nat m0 m1 h0 h1, if_pos (by omega)] at hb; cases hb
theorem put_cnt {ha n : Int} {hs : List (List UInt8)} {s : ByteArray} (m0 : 0 ≤ ha) (m1 : ha < 65536) (h0 : 0 ≤ n) (h1 : n < 16) :
    cnt (setS ha n true).toNat 16 = cnt (setS ha n false).toNat n.toNat + 1 + (cnt (setS ha n false).toNat 16 - cnt (setS ha n false).toNat n.toNat) := by
  have e := congrArg List.length (hsW_put (ha := ha) (n := n) (hs := []) (s := ⟨#[]⟩) m0 m1 h0 h1)
  have hle := cnt_mono (setS ha n false).toNat (show n.toNat ≤ 16 by omega)
  rw [hsW_len, bl_len, List.length_append, List.length_append, List.length_take, List.length_drop, hsW_len, bl_len, Nat.min_eq_left hle] at e
  exact e
theorem put_cells {ha n : Int} {hs : List (List UInt8)} {s : ByteArray} (m0 : 0 ≤ ha) (m1 : ha < 65536) (h0 : 0 ≤ n) (h1 : n < 16) (hh : ∀ x ∈ hs, x.length = 32) :
    (hsW ha hs n s (bl (setS ha n true).toNat 16)).flatten.map B = ((hsW ha hs n s (bl (setS ha n false).toNat 16)).flatten.map B).take (cnt (setS ha n false).toNat n.toNat * 32) ++ (refH s).map B ++ ((hsW ha hs n s (bl (setS ha n false).toNat 16)).flatten.map B).drop (cnt (setS ha n false).toNat n.toNat * 32) := by
  have h32 := hsW_no32 (s := s) m0 m1 h0 h1 hh 16
  rw [hsW_put m0 m1 h0 h1, ← List.map_take, ← List.map_drop, flatT h32, flatD h32]
  simp
theorem row_cap {w : World} {e size m c : Nat} {A : Option Addr} {xs : List Value} (h : w.ownsRow 0 e size (.slice A m c) m xs) : m ≤ c := by
  rcases h.2 with ⟨e1, e2⟩ | ⟨g, cap, cur, e1, -, -, h2, -⟩
  · cases e1; exact Nat.le_refl _
  · cases e1; exact h2
end Go.Proofs.YtdlcefiandacnaaDoor
