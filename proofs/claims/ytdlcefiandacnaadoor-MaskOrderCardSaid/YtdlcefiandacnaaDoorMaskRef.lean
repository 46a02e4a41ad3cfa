/- The walks of the document's Check, Record, Of for masks. -/
import Derived.Test.YtdlcefiandacnaaDoorMaskRec
namespace Go.Proofs.YtdlcefiandacnaaDoor
open Go Go.RowKit E MM
set_option maxRecDepth 100000
set_option linter.unusedVariables false
set_option linter.unusedSimpArgs false

/-- A nibble is amiss: it has a tree or a hash, and no state. -/
def amiss (st tr ha : Int) (k : Nat) : Bool := !hasB st k && (hasB tr k || hasB ha k)

theorem andNot_iff {st tr ha : Int} (s0 : 0 ≤ st) (s1 : st < 65536) (t0 : 0 ≤ tr) (t1 : tr < 65536) (h0 : 0 ≤ ha) (h1 : ha < 65536) :
    bits .andNot .u16 (bits .or .u16 tr ha) st = 0 ↔ ∀ k, k < 16 → amiss st tr ha k = false := by
  obtain ⟨s, rfl⟩ := Int.eq_ofNat_of_zero_le s0
  obtain ⟨t, rfl⟩ := Int.eq_ofNat_of_zero_le t0
  obtain ⟨h, rfl⟩ := Int.eq_ofNat_of_zero_le h0
  have hs : s < 65536 := by omega
  have ht : t < 65536 := by omega
  have hh : h < 65536 := by omega
  rw [u16_or_nat _ _ ht hh, u16_andNot_nat _ _ (or_lt ht hh) hs]
  have key : ∀ i, i < 16 → ((t ||| h) &&& (65535 - s)).testBit i = amiss s t h i := by
    intro i hi
    rw [Nat.testBit_and, Nat.testBit_or, show 65535 - s = 2 ^ 16 - (s + 1) by omega, Nat.testBit_two_pow_sub_succ (by simpa using hs)]
    simp only [amiss, hasB, Int.toNat_natCast]
    have e1 : decide ((0 : Int) ≤ (i : Int)) = true := by simp
    have e2 : decide ((i : Int) < 16) = true := by simp; omega
    have e3 : decide (i < 16) = true := by simp [hi]
    simp only [e1, e2, e3, Bool.true_and]
    exact Bool.and_comm _ _
  constructor
  · intro e i hi
    rw [← key i hi]
    have : ((t ||| h) &&& (65535 - s)) = 0 := by omega
    rw [this]; exact Nat.zero_testBit i
  · intro e
    have : ((t ||| h) &&& (65535 - s)) = 0 := eq_of_bits (and_lt (or_lt ht hh)) (by omega) fun i hi => by rw [key i hi, e i hi]; exact (Nat.zero_testBit i).symm
    rw [this]; rfl

theorem all_step {p : Nat → Prop} {k : Nat} (h : ∀ i, i < k → p i) (hk : p k) : ∀ i, i < k + 1 → p i := fun i hi => by
  by_cases e : i = k
  · subst e; exact hk
  · exact h i (by omega)


theorem str_cat (a b : List UInt8) : Value.string ((⟨a.toArray⟩ : ByteArray) ++ ⟨b.toArray⟩) = .string ⟨(a ++ b).toArray⟩ := by
  congr 1
theorem size_mk (a : List UInt8) : (⟨a.toArray⟩ : ByteArray).size = a.length := by simp [ByteArray.size]
theorem take_getD {α : Type} (x : List α) (d : α) (k : Nat) (h : k < x.length) : x.take (k + 1) = x.take k ++ [x.getD k d] := by
  rw [List.take_succ_eq_append_getElem h]; simp [List.getD, h]
theorem byteOf {w : World} {a : Addr} {x : List UInt8} {k : Nat} (h : ∀ j v, (x.map B)[j]? = some v → w.cell? (a.add j) = some v) (hk : k < x.length) : w.cell? (a.add (((k : Nat) : Int).toNat * 1)) = some (B (x.getD k 0)) := by
  rw [Int.toNat_natCast, Nat.mul_one]
  exact h k _ (by simp [List.getD, hk])
theorem flat_take {hs : List (List UInt8)} (h : ∀ x ∈ hs, x.length = 32) {i : Nat} (hi : i ≤ hs.length) : (hs.take i).flatten.length = 32 * i := by
  rw [flat_len fun x hx => h x (List.mem_of_mem_take hx), List.length_take, Nat.min_eq_left hi]


end Go.Proofs.YtdlcefiandacnaaDoor
