/- Plain facts on masks of sixteen bits: counts, single bits, what stands below a bit. No program in sight. -/
import Derived.Laws.BitsAllLaws
namespace Go.Proofs.YtdlcefiandacnaaDoor.MM

/-- How many of the lowest k bits a number has. -/
def cnt (m : Nat) : Nat → Nat
  | 0 => 0
  | k + 1 => cnt m k + (m.testBit k).toNat

theorem cnt_le (m k : Nat) : cnt m k ≤ k := by
  induction k with
  | zero => exact Nat.le_refl _
  | succ k ih => simp only [cnt]; cases m.testBit k <;> simp <;> omega

theorem cnt_congr {m n k : Nat} (h : ∀ i, i < k → m.testBit i = n.testBit i) : cnt m k = cnt n k := by
  induction k with
  | zero => rfl
  | succ k ih => simp only [cnt]; rw [ih (fun i hi => h i (by omega)), h k (by omega)]

theorem cnt_mono (m : Nat) {j k : Nat} (h : j ≤ k) : cnt m j ≤ cnt m k := by
  induction k with
  | zero => obtain rfl : j = 0 := by omega
            exact Nat.le_refl _
  | succ k ih =>
    by_cases e : j = k + 1
    · subst e; exact Nat.le_refl _
    · simp only [cnt]; have := ih (by omega); omega

theorem cnt_add (m j k : Nat) : cnt m (j + k) = cnt m j + cnt (m / 2 ^ j) k := by
  induction k with
  | zero => rfl
  | succ k ih => rw [← Nat.add_assoc]; simp only [cnt]; rw [ih, Nat.testBit_div_two_pow, Nat.add_comm k j]; omega

theorem cnt_mod (m j : Nat) : cnt (m % 2 ^ j) j = cnt m j :=
  cnt_congr fun i hi => by rw [Nat.testBit_mod_two_pow]; simp [hi]

def tab8 : ByteArray := ⟨#[0, 1, 1, 2, 1, 2, 2, 3, 1, 2, 2, 3, 2, 3, 3, 4, 1, 2, 2, 3, 2, 3, 3, 4, 2, 3, 3, 4, 3, 4, 4, 5, 1, 2, 2, 3, 2, 3, 3, 4, 2, 3, 3, 4, 3, 4, 4, 5, 2, 3, 3, 4, 3, 4, 4, 5, 3, 4, 4, 5, 4, 5, 5, 6, 1, 2, 2, 3, 2, 3, 3, 4, 2, 3, 3, 4, 3, 4, 4, 5, 2, 3, 3, 4, 3, 4, 4, 5, 3, 4, 4, 5, 4, 5, 5, 6, 2, 3, 3, 4, 3, 4, 4, 5, 3, 4, 4, 5, 4, 5, 5, 6, 3, 4, 4, 5, 4, 5, 5, 6, 4, 5, 5, 6, 5, 6, 6, 7, 1, 2, 2, 3, 2, 3, 3, 4, 2, 3, 3, 4, 3, 4, 4, 5, 2, 3, 3, 4, 3, 4, 4, 5, 3, 4, 4, 5, 4, 5, 5, 6, 2, 3, 3, 4, 3, 4, 4, 5, 3, 4, 4, 5, 4, 5, 5, 6, 3, 4, 4, 5, 4, 5, 5, 6, 4, 5, 5, 6, 5, 6, 6, 7, 2, 3, 3, 4, 3, 4, 4, 5, 3, 4, 4, 5, 4, 5, 5, 6, 3, 4, 4, 5, 4, 5, 5, 6, 4, 5, 5, 6, 5, 6, 6, 7, 3, 4, 4, 5, 4, 5, 5, 6, 4, 5, 5, 6, 5, 6, 6, 7, 4, 5, 5, 6, 5, 6, 6, 7, 5, 6, 6, 7, 6, 7, 7, 8]⟩

theorem tab8_size : tab8.size = 256 := by decide +kernel
theorem tab8_at : ∀ i : Fin 256, (tab8.data.getD i.val 0).toNat = cnt i.val 8 := by decide +kernel
theorem tab8_get (i : Nat) (h : i < tab8.size) : (tab8[i]).toNat = cnt i 8 := by
  have h2 : i < 256 := by rw [tab8_size] at h; exact h
  have h3 : i < tab8.data.size := h
  have := tab8_at ⟨i, h2⟩
  simp only [Array.getD_eq_getD_getElem?, Array.getElem?_eq_getElem h3, Option.getD_some] at this
  exact this

theorem cnt16 (m : Nat) : cnt (m / 256) 8 + cnt (m % 256) 8 = cnt m 16 := by
  have a := cnt_add m 8 8
  have b := cnt_mod m 8
  simp only [Nat.reducePow, Nat.reduceAdd] at a b
  omega

/-- A number below 2^16 is known by its bits below sixteen. -/
theorem eq_of_bits {a b : Nat} (ha : a < 65536) (hb : b < 65536) (h : ∀ i, i < 16 → a.testBit i = b.testBit i) : a = b := by
  apply Nat.eq_of_testBit_eq
  intro i
  by_cases hi : i < 16
  · exact h i hi
  · have p : ∀ x : Nat, x < 65536 → x.testBit i = false := fun x hx => Nat.testBit_lt_two_pow (Nat.lt_of_lt_of_le hx (by
      have := Nat.pow_le_pow_right (n := 2) (by omega) (show 16 ≤ i by omega); simpa using this))
    rw [p a ha, p b hb]

theorem cnt_one {m k : Nat} (h : ∀ i, i < k → m.testBit i = false) : cnt m k = 0 := by
  induction k with
  | zero => rfl
  | succ k ih => simp only [cnt]; rw [ih (fun i hi => h i (by omega)), h k (by omega)]; rfl

theorem or_lt {a b : Nat} (ha : a < 65536) (hb : b < 65536) : a ||| b < 65536 := Nat.or_lt_two_pow (n := 16) ha hb
theorem and_lt {a b : Nat} (ha : a < 65536) : a &&& b < 65536 := Nat.lt_of_le_of_lt Nat.and_le_left ha
theorem pow_lt {n : Nat} (h : n < 16) : 2 ^ n < 65536 := by
  have := Nat.pow_lt_pow_right (a := 2) (by omega) h; simpa using this

/-- The mask of some numbers: those that are none count for nothing. -/
def ofL : List Int → Nat
  | [] => 0
  | n :: r => if 0 ≤ n ∧ n < 16 then ofL r ||| 2 ^ n.toNat else ofL r

theorem ofL_lt (l : List Int) : ofL l < 65536 := by
  induction l with
  | nil => decide
  | cons n r ih => simp only [ofL]; split
                   · exact or_lt ih (pow_lt (by omega))
                   · exact ih

theorem ofL_bit (l : List Int) (i : Nat) (hi : i < 16) : (ofL l).testBit i = decide ((i : Int) ∈ l) := by
  induction l with
  | nil => simp [ofL]
  | cons n r ih =>
    simp only [ofL]
    split
    · rename_i h
      rw [Nat.testBit_or, ih, Nat.testBit_two_pow]
      by_cases e : n.toNat = i
      · have : (i : Int) = n := by omega
        simp [e, this]
      · have : ¬ (i : Int) = n := by omega
        simp [e, this]
    · rename_i h
      have : ¬ (i : Int) = n := by omega
      rw [ih]; simp [this]

theorem ofL_append (a b : List Int) : ofL (a ++ b) = ofL a ||| ofL b := by
  apply eq_of_bits (ofL_lt _) (or_lt (ofL_lt _) (ofL_lt _))
  intro i hi
  rw [Nat.testBit_or, ofL_bit _ _ hi, ofL_bit _ _ hi, ofL_bit _ _ hi]
  simp

end Go.Proofs.YtdlcefiandacnaaDoor.MM
