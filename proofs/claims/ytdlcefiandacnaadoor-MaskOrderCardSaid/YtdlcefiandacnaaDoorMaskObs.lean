/- Plain facts: a branch with as many hashes as its mask has nibbles is known by what each nibble has; what With turns; a record is read as its branch. No program in sight. -/
import Derived.Test.YtdlcefiandacnaaDoorMaskParts
namespace Go.Proofs.YtdlcefiandacnaaDoor
open Go Go.RowKit E MM
set_option linter.unusedVariables false
set_option linter.unusedSimpArgs false

abbrev Br := Int × Int × Int × List (List UInt8)
def InM (m : Int) : Prop := 0 ≤ m ∧ m < 65536
def Fit (b : Br) : Prop := InM b.1 ∧ InM b.2.1 ∧ InM b.2.2.1 ∧ b.2.2.2.length = cnt b.2.2.1.toNat 16

theorem hasB_bit {m : Int} {i : Nat} (hi : i < 16) : hasB m i = m.toNat.testBit i := by
  unfold hasB; rw [decide_eq_true (show (0 : Int) ≤ i by omega), decide_eq_true (show (i : Int) < 16 by omega)]; rfl
theorem hasB_eq {m i : Int} (h0 : 0 ≤ i) (h1 : i < 16) : hasB m i = m.toNat.testBit i.toNat := by
  unfold hasB; rw [decide_eq_true h0, decide_eq_true h1]; rfl
theorem hasB_out {m i : Int} (h : ¬ (0 ≤ i ∧ i < 16)) : hasB m i = false := by
  unfold hasB
  by_cases a : 0 ≤ i
  · rw [decide_eq_false (show ¬ i < 16 by omega)]; simp
  · rw [decide_eq_false a]; simp
theorem hasB_set {m n i : Int} {is : Bool} (hm : InM m) (h0 : 0 ≤ n) (h1 : n < 16) : hasB (setS m n is) i = if i = n then is else hasB m i := by
  by_cases h : 0 ≤ i ∧ i < 16
  · rw [hasB_eq h.1 h.2, hasB_eq h.1 h.2, set_nat hm.1 hm.2 h0 h1]
    by_cases e : i = n
    · rw [if_pos e, if_pos (by rw [e])]
    · rw [if_neg e, if_neg (by omega)]
  · rw [hasB_out h, hasB_out h, if_neg (by omega)]
theorem mask_ext {a b : Int} (ha : InM a) (hb : InM b) (h : ∀ i : Nat, i < 16 → hasB a i = hasB b i) : a = b := by
  have := eq_of_bits (a := a.toNat) (b := b.toNat) (by have := ha.2; have := ha.1; omega) (by have := hb.2; have := hb.1; omega) (fun i hi => by rw [← hasB_bit hi, ← hasB_bit hi]; exact h i hi)
  have := ha.1; have := hb.1; omega

theorem cnt_lt {m i k : Nat} (h : m.testBit i = true) (hi : i < k) : cnt m i < cnt m k := by
  have := cnt_mono m (show i + 1 ≤ k by omega)
  rw [cnt_yesT h] at this
  omega
theorem bl_at {m i : Nat} (h : m.testBit i = true) (hi : i < 16) : (bl m 16)[cnt m i]? = some (i : Int) := by
  have e := bl_pre m (show i + 1 ≤ 16 by omega)
  rw [cnt_yesT h, bl_yesT h] at e
  have e2 := congrArg (fun l => l[cnt m i]?) e
  simp only [List.getElem?_take] at e2
  rw [if_pos (by omega)] at e2
  rw [e2, List.getElem?_append_right (by rw [bl_len]; exact Nat.le_refl _), bl_len]
  simp
theorem bl_ex {m : Nat} : ∀ {k j : Nat}, j < cnt m k → ∃ i, i < k ∧ m.testBit i = true ∧ cnt m i = j
  | 0, j, h => by simp [cnt] at h
  | k + 1, j, h => by
    by_cases hj : j < cnt m k
    · obtain ⟨i, h1, h2, h3⟩ := bl_ex hj; exact ⟨i, by omega, h2, h3⟩
    · cases hb : m.testBit k with
      | false => rw [cnt_noT hb] at h; exact absurd h hj
      | true => rw [cnt_yesT hb] at h; exact ⟨k, by omega, hb, by omega⟩

theorem hashS_of {ha : Int} {hs : List (List UInt8)} {i : Nat} (hi : i < 16) (hb : hasB ha i = true) (hl : hs.length = cnt ha.toNat 16) : hashS ha hs i = (hs.getD (cnt ha.toNat i) [], true) := by
  have hb2 := hb
  rw [hasB_bit hi] at hb2
  have := cnt_lt hb2 hi
  exact hashS_yes hb (by show cnt ha.toNat i < hs.length; omega)
/-- The hashes, nibble by nibble. -/
theorem fit_list {ha : Int} {hs : List (List UInt8)} (hl : hs.length = cnt ha.toNat 16) : hs = (bl ha.toNat 16).map fun i => (hashS ha hs i).1 := by
  apply List.ext_getElem?
  intro j
  by_cases hj : j < cnt ha.toNat 16
  · obtain ⟨i, hi, hb, rfl⟩ := bl_ex hj
    rw [List.getElem?_map, bl_at hb hi, Option.map_some, hashS_of hi (by rw [hasB_bit hi]; exact hb) hl]
    show _ = some (hs.getD _ _)
    rw [List.getD, List.getElem?_eq_getElem (by omega)]; rfl
  · rw [List.getElem?_eq_none (by omega), List.getElem?_eq_none (by rw [List.length_map, bl_len]; omega)]
theorem fit_ext {a b : Br} (ha : Fit a) (hb : Fit b) (h : ∀ i : Nat, i < 16 → hasB a.1 i = hasB b.1 i ∧ hasB a.2.1 i = hasB b.2.1 i ∧ hasB a.2.2.1 i = hasB b.2.2.1 i ∧ hashS a.2.2.1 a.2.2.2 i = hashS b.2.2.1 b.2.2.2 i) : a = b := by
  obtain ⟨s1, t1, h1, l1⟩ := a
  obtain ⟨s2, t2, h2, l2⟩ := b
  have e1 : s1 = s2 := mask_ext ha.1 hb.1 fun i hi => (h i hi).1
  have e2 : t1 = t2 := mask_ext ha.2.1 hb.2.1 fun i hi => (h i hi).2.1
  have e3 : h1 = h2 := mask_ext ha.2.2.1 hb.2.2.1 fun i hi => (h i hi).2.2.1
  subst e1 e2 e3
  have e4 : l1 = l2 := by
    rw [show l1 = _ from fit_list (ha := h1) ha.2.2.2, show l2 = _ from fit_list (ha := h1) hb.2.2.2]
    apply List.map_congr_left
    intro x hx
    obtain ⟨i, rfl, hi, -⟩ := bl_range hx
    rw [(h i hi).2.2.2]
  rw [e4]

theorem withS_in {b : Br} {n : Int} {tree : Bool} {s : ByteArray} (h0 : 0 ≤ n) (h1 : n < 16) :
    withS b n tree s = (setS b.1 n (full s), setS b.2.1 n (full s && tree), setS b.2.2.1 n (hashed s), hsW b.2.2.1 b.2.2.2 n s (bl (setS b.2.2.1 n (hashed s)).toNat 16)) := if_pos ⟨h0, h1⟩
theorem withS_fit {b : Br} (hb : Fit b) {n : Int} {tree : Bool} {s : ByteArray} (h0 : 0 ≤ n) (h1 : n < 16) : Fit (withS b n tree s) := by
  rw [withS_in h0 h1]
  exact ⟨setS_range hb.1.1 hb.1.2 h0 h1, setS_range hb.2.1.1 hb.2.1.2 h0 h1, setS_range hb.2.2.1.1 hb.2.2.1.2 h0 h1, by show (hsW _ _ _ _ _).length = _; rw [hsW_len, bl_len]⟩
theorem withS_hash {b : Br} (hb : Fit b) {n i : Int} {tree : Bool} {s : ByteArray} (h0 : 0 ≤ n) (h1 : n < 16) :
    hashS (withS b n tree s).2.2.1 (withS b n tree s).2.2.2 i = if i = n then (if hashed s then (refH s, true) else (List.replicate 32 0, false)) else hashS b.2.2.1 b.2.2.2 i := by
  have hf := withS_fit hb (tree := tree) (s := s) h0 h1
  rw [withS_in h0 h1] at hf ⊢
  obtain ⟨-, -, hm, hl⟩ := hf
  simp only at hm hl ⊢
  have hset := hasB_set (i := i) (is := hashed s) hb.2.2.1 h0 h1
  cases hh : hasB (setS b.2.2.1 n (hashed s)) i with
  | false =>
    rw [hashS_no hh]
    rw [hset] at hh
    by_cases e : i = n
    · rw [if_pos e] at hh ⊢; rw [hh]; rfl
    · rw [if_neg e] at hh ⊢; rw [hashS_no hh]
  | true =>
    obtain ⟨i0, i1⟩ := hasB_range hh
    obtain ⟨k, rfl⟩ := Int.eq_ofNat_of_zero_le i0
    have hk : k < 16 := by omega
    have hb2 := hh
    rw [hasB_bit hk] at hb2
    rw [hashS_of hk hh hl]
    have hg : (hsW b.2.2.1 b.2.2.2 n s (bl (setS b.2.2.1 n (hashed s)).toNat 16)).getD (cnt (setS b.2.2.1 n (hashed s)).toNat k) [] = if (k : Int) = n then refH s else (hashS b.2.2.1 b.2.2.2 k).1 := by
      unfold hsW
      rw [List.getD, List.getElem?_map, bl_at hb2 hk]; rfl
    rw [hg]
    rw [hset] at hh
    by_cases e : (k : Int) = n
    · rw [if_pos e] at hh; rw [if_pos e, if_pos e, hh]; rfl
    · rw [if_neg e] at hh; rw [if_neg e, if_neg e, hashS_of hk hh hb.2.2.2]

/-- What a nibble has. -/
abbrev Ob := Bool × Bool × Bool × List UInt8 × Bool
def obs (b : Br) (i : Int) : Ob := (hasB b.1 i, hasB b.2.1 i, hasB b.2.2.1 i, hashS b.2.2.1 b.2.2.2 i)
def obW (tree : Bool) (s : ByteArray) : Ob := (full s, full s && tree, hashed s, if hashed s then (refH s, true) else (List.replicate 32 0, false))
theorem obs_with {b : Br} (hb : Fit b) {n i : Int} {tree : Bool} {s : ByteArray} (h0 : 0 ≤ n) (h1 : n < 16) : obs (withS b n tree s) i = if i = n then obW tree s else obs b i := by
  have hw := withS_hash hb (i := i) (tree := tree) (s := s) h0 h1
  unfold obs obW
  rw [hw]
  rw [withS_in h0 h1]
  simp only [hasB_set hb.1 h0 h1, hasB_set hb.2.1 h0 h1, hasB_set hb.2.2.1 h0 h1]
  by_cases e : i = n
  · simp only [if_pos e]
  · simp only [if_neg e]
theorem obs_ext {a b : Br} (ha : Fit a) (hb : Fit b) (h : ∀ i : Nat, i < 16 → obs a i = obs b i) : a = b :=
  fit_ext ha hb fun i hi => by
    have := h i hi
    simp only [obs, Prod.mk.injEq] at this
    exact ⟨this.1, this.2.1, this.2.2.1, this.2.2.2⟩
theorem fitS_fit {st tr ha : Int} {hs : List (List UInt8)} (h1 : InM st) (h2 : InM tr) (h3 : InM ha) : Fit (st, tr, ha, fitS hs (cnt ha.toNat 16)) := ⟨h1, h2, h3, fitS_len⟩

/-! ### A record -/

theorem hiB_nat {m : Int} (h : InM m) : 256 * ((hiB m).toNat : Int) + ((loB m).toNat : Int) = m := by
  obtain ⟨h0, h1⟩ := h
  unfold hiB loB
  rw [UInt8.toNat_ofNat', UInt8.toNat_ofNat']
  omega
theorem read_rec {st tr ha : Int} {hs : List (List UInt8)} (hst : InM st) (htr : InM tr) (hha : InM ha) (h32 : ∀ x ∈ hs, x.length = 32) (hl : hs.length ≤ 16) (hc : chk st tr ha hs.length = true) : readS ⟨(recL st tr ha hs).toArray⟩ = (st, tr, ha, hs, 0) := by
  have hb : (⟨(recL st tr ha hs).toArray⟩ : ByteArray).data.toList = head6 st tr ha ++ hs.flatten := rfl
  have hlen : (head6 st tr ha ++ hs.flatten).length = 6 + 32 * hs.length := by rw [List.length_append, flat_len h32]; rfl
  have hch : chunks (head6 st tr ha ++ hs.flatten) = hs := by
    apply List.ext_getElem?
    intro k
    by_cases hk : k < hs.length
    · unfold chunks
      rw [List.getElem?_map, List.getElem?_range (by rw [hlen]; omega), Option.map_some, List.getElem?_eq_getElem hk]
      congr 1
      rw [List.drop_append, show (head6 st tr ha).length = 6 from rfl, List.drop_of_length_le (by show 6 ≤ _; omega), List.nil_append, show 6 + 32 * k - 6 = k * 32 by omega, flatD h32, List.drop_eq_getElem_cons hk, List.flatten_cons]
      rw [List.take_append_of_le_length (by rw [h32 _ (List.getElem_mem hk)]; exact Nat.le_refl _), List.take_of_length_le (by rw [h32 _ (List.getElem_mem hk)]; exact Nat.le_refl _)]
    · rw [List.getElem?_eq_none (by rw [chunks_len, hlen]; omega), List.getElem?_eq_none (by omega)]
  have w0 : wordI ⟨(recL st tr ha hs).toArray⟩ 0 = st := hiB_nat hst
  have w2 : wordI ⟨(recL st tr ha hs).toArray⟩ 2 = tr := hiB_nat htr
  have w4 : wordI ⟨(recL st tr ha hs).toArray⟩ 4 = ha := hiB_nat hha
  unfold readS
  rw [w0, w2, w4, hb, hch, hc]
  rw [if_pos]
  simp only [longOk, hlen, Bool.and_true, Bool.and_eq_true, decide_eq_true_eq]
  omega
end Go.Proofs.YtdlcefiandacnaaDoor
