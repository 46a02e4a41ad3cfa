/- The walks of the small functions of masks: one bit, the count, the mask of a list. -/
import Derived.Test.YtdlcefiandacnaaDoorProg
import Derived.Test.YtdlcefiandacnaaDoorMaskMath
import Derived.WalkKit
import Derived.WalkSpells
import Derived.WalkLawsBesides
import Derived.Deep.QuietTactic
import Derived.BigQuiet
import Derived.Lib.Hide
namespace Go.Proofs.YtdlcefiandacnaaDoor
open Go.RowKit MM

/-- Has a mask a nibble? -/
def hasB (m n : Int) : Bool := decide (0 ≤ n) && decide (n < 16) && m.toNat.testBit n.toNat

/-- How many nibbles a mask has. -/
def cntI (m : Int) : Int := cnt m.toNat 16
theorem cntI_nonneg (m : Int) : 0 ≤ cntI m := Int.natCast_nonneg _
theorem cntI_le (m : Int) : cntI m ≤ 16 := by unfold cntI; have := cnt_le m.toNat 16; omega

theorem u16_and1 (m n : Int) (h0 : 0 ≤ m) (h1 : m < 65536) : (bits .and .u16 (m / 2 ^ n.toNat) 1 == 1) = m.toNat.testBit n.toNat := by
  have e : m / 2 ^ n.toNat = ((m.toNat / 2 ^ n.toNat : Nat) : Int) := by
    obtain ⟨k, rfl⟩ := Int.eq_ofNat_of_zero_le h0
    simp
  have hlt : m.toNat / 2 ^ n.toNat < 65536 := Nat.lt_of_le_of_lt (Nat.div_le_self _ _) (by omega)
  rw [e, show (1 : Int) = ((1 : Nat) : Int) from rfl, u16_and_nat _ _ hlt (by omega), nat_mask1, Nat.testBit_eq_decide_div_mod_eq]
  rw [Bool.eq_iff_iff]
  simp only [beq_iff_eq, decide_eq_true_eq]
  omega

set_option maxHeartbeats 400000 in
theorem has_any (m n : Int) (w : World) (h0 : 0 ≤ m) (h1 : m < 65536) :
    Calls Tryd.prog 13 #[.int .u16 m, .int .i64 n] w fun e w' => e = .returned (.bool (hasB m n)) ∧ w = w' := by
  by_cases a : 0 ≤ n
  · by_cases b : n < 16
    · have H := Lib.hid (u16_and1 m n h0 h1)
      go_enter Tryd.func13, Tryd.ntmps13
      go_wp2
      go_ret
      exact ⟨by simp [hasB, a, b, H.out], rfl⟩
    · go_enter Tryd.func13, Tryd.ntmps13
      go_wp2
      go_ret
      exact ⟨by simp [hasB]; omega, rfl⟩
  · go_enter Tryd.func13, Tryd.ntmps13
    go_wp2
    go_ret
    exact ⟨by simp [hasB]; omega, rfl⟩

set_option maxHeartbeats 1000000 in
set_option maxRecDepth 100000 in
theorem ones_any (m : Int) (w : World) (h0 : 0 ≤ m) (h1 : m < 65536) :
    Calls Tryd.prog 25 #[.int .u16 m] w fun e w' => e = .returned (.int .i64 (cntI m)) ∧ ∃ n, w' = w.drewN n := by
  have e1 : bits .and .u16 m 255 = ((m.toNat % 256 : Nat) : Int) := by
    rw [show m = ((m.toNat : Nat) : Int) by omega, show (255 : Int) = ((255 : Nat) : Int) from rfl, u16_and_nat _ _ (by omega) (by omega), nat_mask8, Int.toNat_natCast]
  have q0 : 0 ≤ m / 256 := by omega
  have q1 : m / 256 < 256 := by omega
  have r0 : 0 ≤ bits .and .u16 m 255 := by rw [e1]; omega
  have r1 : bits .and .u16 m 255 < 256 := by rw [e1]; omega
  have H := Lib.hid e1
  clear e1
  go_enter Tryd.func25, Tryd.ntmps25
  go_wp2
  go_quiet (fail)
  go_wp2
  go_ret
  refine ⟨?_, _, rfl⟩
  have g1 := tab8_get (m / 256).toNat (by rw [tab8_size]; omega)
  have g2 := tab8_get (bits .and .u16 m 255).toNat (by rw [tab8_size]; omega)
  have k1 := cnt16 m.toNat
  have k2 := cnt_le (m / 256).toNat 8
  have k3 := cnt_le (m.toNat % 256) 8
  have e2 : (m / 256).toNat = m.toNat / 256 := by omega
  have e3 : (bits .and .u16 m 255).toNat = m.toNat % 256 := by rw [H.out]; exact Int.toNat_natCast _
  rw [e2] at k2
  unfold cntI
  rw [← k1]
  show Ending.returned (.int .i64 (((tab8[(m / 256).toNat]'(by rw [tab8_size]; omega)).toNat + (tab8[(bits .and .u16 m 255).toNat]'(by rw [tab8_size]; omega)).toNat : Int) % 256)) = _
  rw [g1, g2, e2, e3]
  congr 2
  omega

set_option maxHeartbeats 400000 in
theorem count_any (m : Int) (w : World) (h0 : 0 ≤ m) (h1 : m < 65536) :
    Calls Tryd.prog 15 #[.int .u16 m] w fun e w' => e = .returned (.int .i64 (cntI m)) ∧ ∃ n, w' = w.drewN n := by
  go_enter Tryd.func15, Tryd.ntmps15
  go_wp2_with (go_at_call 25; refine (ones_any _ _ (by omega) (by omega)).mono ?_; rintro e w' ⟨rfl, n, rfl⟩)
  go_ret
  exact ⟨rfl, _, rfl⟩

theorem u16_or_pow (a : Nat) (n : Int) (ha : a < 65536) (h0 : 0 ≤ n) (h1 : n < 16) : bits .or .u16 (a : Int) (IntKind.u16.wrap (2 ^ n.toNat)) = ((a ||| 2 ^ n.toNat : Nat) : Int) := by
  have hp := pow_lt (n := n.toNat) (by omega)
  have e : IntKind.u16.wrap (2 ^ n.toNat) = ((2 ^ n.toNat : Nat) : Int) := by
    have hc : ((2 ^ n.toNat : Nat) : Int) = (2 : Int) ^ n.toNat := by simp
    rw [IntKind.wrap_u16, ← hc]
    exact Int.emod_eq_of_lt (Int.natCast_nonneg _) (Int.ofNat_lt.2 hp)
  rw [e, u16_or_nat _ _ ha hp]

theorem take_snocI (l : List Int) (k : Nat) (h : k < l.length) : l.take (k + 1) = l.take k ++ [l.getD k 0] := by
  rw [List.take_succ_eq_append_getElem h]; simp [List.getD, h]

theorem ofL_snoc (l : List Int) (n : Int) : ofL (l ++ [n]) = if 0 ≤ n ∧ n < 16 then ofL l ||| 2 ^ n.toNat else ofL l := by
  rw [ofL_append]; simp only [ofL]; split <;> simp

set_option maxHeartbeats 400000 in
theorem of_any (l : List Int) (b off c : Nat) (w : World) (hl : l.length ≤ 9223372036854775807) (hc : ∀ i, i < l.length → w.cell? ⟨b, off + i, none⟩ = some (.int .i64 (l.getD i 0))) :
    Calls Tryd.prog 18 #[.slice (some ⟨b, off, none⟩) l.length c] w fun e w' => e = .returned (.int .u16 (ofL l)) ∧ w = w' := by
  have HC := Lib.hid hc
  clear hc
  go_enter Tryd.func18, Tryd.ntmps18
  go_wp2
  go_loop [3, 8] (fun m i => ∃ k : Nat, k ≤ l.length ∧ i = .int .i64 k ∧ m = .int .u16 (ofL (l.take k))) (fun _ i => l.length - (intOf i).toNat)
  case atStart => exact ⟨0, Nat.zero_le _, rfl, rfl⟩
  case round =>
    obtain ⟨k, hk, rfl, rfl⟩ := hrel
    by_cases hlt : k < l.length
    · have hcell := HC.out k hlt
      have hs := Lib.hid (take_snocI l k hlt)
      have hb := ofL_lt (l.take k)
      generalize hx : l.getD k 0 = x at *
      have Hx := Lib.hid hx
      clear hx
      have e := Lib.hid (ofL_snoc (l.take k) x)
      by_cases a : 0 ≤ x
      · by_cases b : x < 16
        · have h2 := Lib.hid (u16_or_pow (ofL (l.take k)) x hb a b)
          go_wp2
          go_round
          case rel => exact ⟨k + 1, by omega, by go_num, by rw [hs.out, e.out, if_pos ⟨a, b⟩, h2.out]⟩
          case measure => simp [intOf]; omega
        · go_wp2
          go_round
          case rel => exact ⟨k + 1, by omega, by go_num, by rw [hs.out, e.out, if_neg (by omega)]⟩
          case measure => simp [intOf]; omega
      · go_wp2
        go_round
        case rel => exact ⟨k + 1, by omega, by go_num, by rw [hs.out, e.out, if_neg (by omega)]⟩
        case measure => simp [intOf]; omega
    · go_wp2
      go_ret
      exact ⟨by rw [List.take_of_length_le (by omega)]; rfl, rfl⟩

end Go.Proofs.YtdlcefiandacnaaDoor
