/- The walk of the law of order: in whatever order the nibbles are had, it is the same branch. -/
import Derived.Test.YtdlcefiandacnaaDoorMaskBack
namespace Go.Proofs.YtdlcefiandacnaaDoor
open Go Go.RowKit E MM
set_option maxRecDepth 100000
set_option linter.unusedVariables false
set_option linter.unusedSimpArgs false

def cutS (s : ByteArray) : ByteArray := if 40 < s.size then s.extract 0 40 else s
theorem cutS_size (s : ByteArray) : (cutS s).size ≤ 40 := by
  unfold cutS; split
  · rw [ByteArray.size_extract]; omega
  · omega
def rAt (rs : List ByteArray) (i : Nat) : ByteArray := cutS (rs.getD i ⟨#[]⟩)
def cutA (rs : List ByteArray) (k : Nat) : Array Value := (((rs.map cutS).take k ++ rs.drop k).map Value.string).toArray
theorem cutA_0 {rs : List ByteArray} : cutA rs 0 = (rs.map Value.string).toArray := by simp [cutA]
theorem cutA_size {rs : List ByteArray} (h : rs.length = 16) {k : Nat} (hk : k ≤ 16) : (cutA rs k).size = 16 := by simp [cutA, h]; omega
theorem cutA_get {rs : List ByteArray} (h : rs.length = 16) {k : Nat} (hk : k < 16) : (cutA rs k)[k]? = some (.string (rs.getD k ⟨#[]⟩)) := by
  unfold cutA
  simp only [List.getElem?_toArray, List.getElem?_map]
  rw [List.getElem?_append_right (by rw [List.length_take, List.length_map]; omega), List.length_take, List.length_map, List.getElem?_drop]
  rw [show k + (k - min k rs.length) = k by omega, List.getElem?_eq_getElem (by omega), List.getD, List.getElem?_eq_getElem (by omega)]; rfl
theorem cutA_done {rs : List ByteArray} (h : rs.length = 16) {k i : Nat} (hi : i < k) (hk : k ≤ 16) : (cutA rs k)[i]? = some (.string (rAt rs i)) := by
  unfold cutA rAt
  simp only [List.getElem?_toArray, List.getElem?_map]
  rw [List.getElem?_append_left (by rw [List.length_take, List.length_map]; omega), List.getElem?_take, if_pos hi, List.getElem?_map, List.getElem?_eq_getElem (by omega), List.getD, List.getElem?_eq_getElem (by omega)]; rfl
theorem cutA_step {rs : List ByteArray} (h : rs.length = 16) {k : Nat} (hk : k < 16) : (cutA rs k).setIfInBounds k (.string (rAt rs k)) = cutA rs (k + 1) := by
  apply Array.ext'
  rw [Array.toList_setIfInBounds]
  apply List.ext_getElem?
  intro i
  rw [List.getElem?_set]
  by_cases e : k = i
  · subst e
    rw [if_pos rfl, if_pos (by rw [Array.length_toList, cutA_size h (by omega)]; exact hk)]
    have := cutA_done h (show k < k + 1 by omega) (by omega)
    rw [Array.getElem?_toList, this]
  · rw [if_neg e, Array.getElem?_toList, Array.getElem?_toList]
    unfold cutA
    simp only [List.getElem?_toArray, List.getElem?_map]
    congr 1
    by_cases h1 : i < k
    · rw [List.getElem?_append_left (by rw [List.length_take, List.length_map]; omega), List.getElem?_append_left (by rw [List.length_take, List.length_map]; omega), List.getElem?_take, List.getElem?_take, if_pos h1, if_pos (by omega)]
    · rw [List.getElem?_append_right (by rw [List.length_take, List.length_map]; omega), List.getElem?_append_right (by rw [List.length_take, List.length_map]; omega), List.getElem?_drop, List.getElem?_drop, List.length_take, List.length_take, List.length_map]
      congr 1
      omega
theorem cutA_same {rs : List ByteArray} (h : rs.length = 16) {k : Nat} (hk : k < 16) (hs : ¬ 40 < (rs.getD k ⟨#[]⟩).size) : cutA rs k = cutA rs (k + 1) := by
  rw [← cutA_step h hk]
  have e : rAt rs k = rs.getD k ⟨#[]⟩ := by unfold rAt cutS; rw [if_neg hs]
  rw [e]
  have hg := cutA_get h hk
  apply Array.ext'
  rw [Array.toList_setIfInBounds]
  apply List.ext_getElem?
  intro i
  rw [List.getElem?_set]
  by_cases e : k = i
  · subst e
    rw [if_pos rfl, if_pos (by rw [Array.length_toList, cutA_size h (by omega)]; exact hk), Array.getElem?_toList, hg]
  · rw [if_neg e]

def manyS (rs : List ByteArray) : Nat → Nat
  | 0 => 0
  | k + 1 => manyS rs k + (full (rAt rs k)).toNat
theorem manyS_le (rs : List ByteArray) (k : Nat) : manyS rs k ≤ k := by
  induction k with
  | zero => exact Nat.le_refl _
  | succ k ih => simp only [manyS]; cases full (rAt rs k) <;> simp <;> omega
def br0 : Br := (0, 0, 0, [])
def aS (rs : List ByteArray) (tr : Int) : Nat → Br
  | 0 => br0
  | k + 1 => withS (aS rs tr k) k (hasB tr k) (rAt rs k)
def bS (rs : List ByteArray) (tr : Int) : Nat → Br
  | 0 => br0
  | k + 1 => withS (bS rs tr k) (15 - (k : Int)) (hasB tr (15 - (k : Int))) (rAt rs (15 - k))
theorem br0_fit : Fit br0 := ⟨⟨by decide, by decide⟩, ⟨by decide, by decide⟩, ⟨by decide, by decide⟩, by decide +kernel⟩
theorem aS_fit {rs : List ByteArray} {tr : Int} : ∀ {k : Nat}, k ≤ 16 → Fit (aS rs tr k)
  | 0, _ => br0_fit
  | k + 1, h => withS_fit (aS_fit (by omega)) (by omega) (by omega)
theorem bS_fit {rs : List ByteArray} {tr : Int} : ∀ {k : Nat}, k ≤ 16 → Fit (bS rs tr k)
  | 0, _ => br0_fit
  | k + 1, h => withS_fit (bS_fit (by omega)) (by omega) (by omega)
theorem aS_32 {rs : List ByteArray} {tr : Int} : ∀ {k : Nat}, k ≤ 16 → ∀ x ∈ (aS rs tr k).2.2.2, x.length = 32
  | 0, _, x, h => absurd h List.not_mem_nil
  | k + 1, h, x, hx => withS_32 (st := (aS rs tr k).1) (tr := (aS rs tr k).2.1) (aS_fit (rs := rs) (tr := tr) (k := k) (by omega)).2.2.1.1 (aS_fit (rs := rs) (tr := tr) (k := k) (by omega)).2.2.1.2 (aS_32 (by omega)) x hx
theorem bS_32 {rs : List ByteArray} {tr : Int} : ∀ {k : Nat}, k ≤ 16 → ∀ x ∈ (bS rs tr k).2.2.2, x.length = 32
  | 0, _, x, h => absurd h List.not_mem_nil
  | k + 1, h, x, hx => withS_32 (st := (bS rs tr k).1) (tr := (bS rs tr k).2.1) (bS_fit (rs := rs) (tr := tr) (k := k) (by omega)).2.2.1.1 (bS_fit (rs := rs) (tr := tr) (k := k) (by omega)).2.2.1.2 (bS_32 (by omega)) x hx
theorem fit_len {b : Br} (h : Fit b) : b.2.2.2.length ≤ 16 := by rw [h.2.2.2]; exact cnt_le _ _
theorem aS_obs {rs : List ByteArray} {tr : Int} {i : Nat} (hi : i < 16) : ∀ {k : Nat}, k ≤ 16 → obs (aS rs tr k) i = if i < k then obW (hasB tr i) (rAt rs i) else obs br0 i
  | 0, _ => by rw [if_neg (by omega)]; rfl
  | k + 1, h => by
    show obs (withS _ _ _ _) _ = _
    rw [obs_with (aS_fit (by omega)) (by omega) (by omega), aS_obs hi (by omega)]
    by_cases e : i = k
    · subst e; rw [if_pos rfl, if_pos (by omega)]
    · rw [if_neg (by omega)]
      by_cases e2 : i < k
      · rw [if_pos e2, if_pos (by omega)]
      · rw [if_neg e2, if_neg (by omega)]
theorem bS_obs {rs : List ByteArray} {tr : Int} {i : Nat} (hi : i < 16) : ∀ {k : Nat}, k ≤ 16 → obs (bS rs tr k) i = if 16 ≤ i + k then obW (hasB tr i) (rAt rs i) else obs br0 i
  | 0, _ => by rw [if_neg (by omega)]; rfl
  | k + 1, h => by
    show obs (withS _ _ _ _) _ = _
    rw [obs_with (bS_fit (by omega)) (by omega) (by omega), bS_obs hi (by omega)]
    by_cases e : i = 15 - k
    · rw [if_pos (by omega), if_pos (by omega), show (15 - (k : Int)) = i by omega, ← e]
    · rw [if_neg (by omega)]
      by_cases e2 : 16 ≤ i + k
      · rw [if_pos e2, if_pos (by omega)]
      · rw [if_neg e2, if_neg (by omega)]
theorem ab_same {rs : List ByteArray} {tr : Int} : bS rs tr 16 = aS rs tr 16 :=
  obs_ext (bS_fit (Nat.le_refl _)) (aS_fit (Nat.le_refl _)) fun i hi => by rw [bS_obs hi (Nat.le_refl _), aS_obs hi (Nat.le_refl _), if_pos (by omega), if_pos hi]
theorem aS_bits {rs : List ByteArray} {tr : Int} {i : Nat} (hi : i < 16) : hasB (aS rs tr 16).1 i = full (rAt rs i) ∧ (hasB (aS rs tr 16).2.1 i = true → full (rAt rs i) = true) ∧ (hasB (aS rs tr 16).2.2.1 i = true → full (rAt rs i) = true) := by
  have := aS_obs (rs := rs) (tr := tr) hi (Nat.le_refl 16)
  rw [if_pos hi] at this
  simp only [obs, obW, Prod.mk.injEq] at this
  refine ⟨this.1, fun h => ?_, fun h => ?_⟩
  · rw [this.2.1] at h; simp only [Bool.and_eq_true] at h; exact h.1
  · rw [this.2.2.1] at h
    have hz := hashed_size h
    unfold full
    refine decide_eq_true fun e => ?_
    rw [e] at hz; cases hz
theorem cnt_many {rs : List ByteArray} {m : Nat} : ∀ {k : Nat}, (∀ i, i < k → m.testBit i = full (rAt rs i)) → cnt m k = manyS rs k
  | 0, _ => rfl
  | k + 1, h => by simp only [cnt, manyS]; rw [cnt_many fun i hi => h i (by omega), h k (by omega)]
theorem aS_cnt {rs : List ByteArray} {tr : Int} : cntI (aS rs tr 16).1 = ((manyS rs 16 : Nat) : Int) := by
  unfold cntI
  rw [cnt_many (rs := rs) fun i hi => by rw [← hasB_bit hi]; exact (aS_bits hi).1]
theorem aS_chk {rs : List ByteArray} {tr : Int} : (chkI (aS rs tr 16).1 (aS rs tr 16).2.1 (aS rs tr 16).2.2.1 (aS rs tr 16).2.2.2.length = 0) ↔ ((manyS rs 16 : Nat) : Int) ≥ 2 := by
  have hf := aS_fit (rs := rs) (tr := tr) (Nat.le_refl 16)
  have ha := (andNot_iff hf.1.1 hf.1.2 hf.2.1.1 hf.2.1.2 hf.2.2.1.1 hf.2.2.1.2).2 (fun k hk => by
    obtain ⟨b1, b2, b3⟩ := aS_bits (rs := rs) (tr := tr) hk
    unfold amiss
    rw [b1]
    cases hf : full (rAt rs k) with
    | true => rfl
    | false =>
      rw [hf] at b2 b3
      cases h2 : hasB (aS rs tr 16).2.1 k with
      | true => exact absurd (b2 h2) (by simp)
      | false =>
        cases h3 : hasB (aS rs tr 16).2.2.1 k with
        | true => exact absurd (b3 h3) (by simp)
        | false => rfl)
  have hl : ((aS rs tr 16).2.2.2.length : Int) = cntI (aS rs tr 16).2.2.1 := by unfold cntI; rw [hf.2.2.2]
  unfold chkI chk
  rw [aS_cnt, ha, hl]
  simp
theorem aS_fin {rs : List ByteArray} {tr : Int} : (decide (chkI (aS rs tr 16).1 (aS rs tr 16).2.1 (aS rs tr 16).2.2.1 (aS rs tr 16).2.2.2.length = 0) == decide (2 ≤ ((manyS rs 16 : Nat) : Int))) = true := by
  rw [beq_iff_eq]; exact decide_eq_decide.2 aS_chk
theorem lies_nil {w : World} : Lies w none [] := Or.inl rfl

set_option maxHeartbeats 4000000 in
theorem order_any (rs : List ByteArray) (tr : Int) (w0 : World) (hr : rs.length = 16) (hsz : ∀ s ∈ rs, s.size ≤ 9223372036854775807) (t0 : 0 ≤ tr) (t1 : tr < 65536) (ht : Tab w0) :
    Calls Tryd.prog 4 [.agg (rs.map Value.string).toArray, .int .u16 tr].toArray w0 fun e w' => e = .returned (.bool true) ∧ Keep No w0 w' := by
  have hget : ∀ k, k < 16 → (rs.getD k ⟨#[]⟩).size ≤ 9223372036854775807 := fun k hk => hsz _ (by rw [List.getD, List.getElem?_eq_getElem (by omega)]; exact List.getElem_mem _)
  refine enter (n := 83) Tryd.func4 rfl rfl rfl ?_
  have hS := St.start No w0
  refine c_seq ?_
  refine c_region ?_
  refine l_box hS rfl rfl rfl (fun b1 w hS => ?_)
  refine l_val (v_assign rfl) rfl ?_
  refine l_end ?_
  refine k_code ?_
  refine c_seq ?_
  refine c_region ?_
  refine l_callK goes6 rfl hS (awake_any _) rfl (fun w hS => ?_)
  refine l_val (v_assign rfl) rfl ?_
  refine l_end ?_
  refine k_code ?_
  refine c_seq ?_
  refine c_region ?_
  refine l_alloc hS zero25 rfl rfl (fun b2 w hS => ?_)
  refine l_end ?_
  refine k_code ?_
  refine c_seq ?_
  refine c_region ?_
  refine l_alloc hS zero25 rfl rfl (fun b3 w hS => ?_)
  refine l_end ?_
  refine k_code ?_
  refine c_seq ?_
  refine c_region ?_
  refine l_val (v_assign rfl) rfl ?_
  refine l_end ?_
  refine k_code ?_
  refine c_seq ?_
  refine c_seq ?_
  refine c_region ?_
  refine l_val (v_assign rfl) rfl ?_
  refine l_end ?_
  refine k_code ?_
  refine c_block ?_
  refine c_loopV [(1, _), (2, _), (4, _), (5, _), (6, _), (7, _)] (fun (k : Nat) => [(8, .int .i64 (manyS rs k : Nat)), (9, .int .i64 k)]) (fun (k : Nat) w => St No w0 w [.blk b3 (.cells #[.int .u16 0, .int .u16 0, .int .u16 0, .slice none 0 0] 25 (0, 0)), .blk b2 (.cells #[.int .u16 0, .int .u16 0, .int .u16 0, .slice none 0 0] 25 (0, 0)), .blk b1 (.cells (cutA rs k) 36 (0, 0))] ∧ k ≤ 16) (fun (k : Nat) => 16 - k) (0 : Nat) ⟨(St.cast hS (by rw [cutA_0]; rfl)), by omega⟩ (kc rfl (kc rfl (kc rfl (kc rfl (kc rfl (kc rfl (kc rfl (kc rfl kn)))))))) (fun k w hI => ?_)
  obtain ⟨hS, hI⟩ := hI
  have hmk := manyS_le rs k
  refine c_seq ?_
  refine c_seq ?_
  refine c_region ?_
  refine l_val (v_move rfl) rfl ?_
  refine l_val (v_lss rfl rfl) rfl ?_
  refine l_end ?_
  refine k_code ?_
  refine c_if rfl (fun p1 => ?_) (fun p1 => ?_)
  · skip
    refine c_skip ?_
    refine k_code ?_
    refine c_seq ?_
    refine c_block ?_
    refine c_cutV [(1, _), (2, _), (4, _), (5, _), (6, _), (7, _), (8, _), (9, _), (14, _), (15, _)] (fun (u : Unit) => []) (fun (u : Unit) w => St No w0 w [.blk b3 (.cells #[.int .u16 0, .int .u16 0, .int .u16 0, .slice none 0 0] 25 (0, 0)), .blk b2 (.cells #[.int .u16 0, .int .u16 0, .int .u16 0, .slice none 0 0] 25 (0, 0)), .blk b1 (.cells (cutA rs (k + 1)) 36 (0, 0))] ∧ True) (kc rfl (kc rfl (kc rfl (kc rfl (kc rfl (kc rfl (kc rfl (kc rfl (kc rfl (kc rfl kn)))))))))) ?_ (fun u w hI => ?_)
    · skip
      refine c_seq ?_
      refine c_region ?_
      refine l_val (v_move rfl) rfl ?_
      refine l_val (v_indexAddrA Tryd.underlying36 ty9.size rfl rfl (by omega) (by omega)) rfl ?_
      refine l_val (v_load (v := .string (rs.getD k ⟨#[]⟩)) ty9 rfl (here (hS.cellA 2 rfl (by rw [Int.toNat_natCast, Nat.mul_one]; exact cutA_get hr (by omega))))) rfl ?_
      refine l_val (v_lenS Tryd.underlying9 rfl) rfl ?_
      refine l_val (v_gtr rfl rfl) rfl ?_
      refine l_end ?_
      refine k_code ?_
      refine c_if rfl (fun p2 => ?_) (fun p2 => ?_)
      · skip
        refine c_region ?_
        refine l_val (v_move rfl) rfl ?_
        refine l_val (v_move rfl) rfl ?_
        refine l_val (v_indexAddrA Tryd.underlying36 ty9.size rfl rfl (by omega) (by omega)) rfl ?_
        refine l_val (v_load (v := .string (rs.getD k ⟨#[]⟩)) ty9 rfl (here (hS.cellA 2 rfl (by rw [Int.toNat_natCast, Nat.mul_one]; exact cutA_get hr (by omega))))) rfl ?_
        refine l_val (v_sliceSTo Tryd.underlying9 rfl rfl (by omega) (by omega) ) rfl ?_
        refine l_val (v_indexAddrA Tryd.underlying36 ty9.size rfl rfl (by omega) (by omega)) rfl ?_
        refine l_storeI 2 hS ty9 rfl (by rw [cutA_size hr (by omega)]; omega) rfl rfl rfl (fun w hS => ?_)
        refine l_end ?_
        refine fun _ hFr => ⟨(), ⟨(St.cast hS (by rw [← cutA_step hr (by omega), show rAt rs k = (rs.getD k ⟨#[]⟩).extract 0 40 from if_pos (by omega), show ((k : Int)).toNat * 1 = k by omega]; rfl)), trivial⟩, Fr.sub hFr (kc rfl (kc rfl (kc rfl (kc rfl (kc rfl (kc rfl (kc rfl (kc rfl (kc rfl (kc rfl kn))))))))))⟩
      · skip
        refine c_skip ?_
        refine fun _ hFr => ⟨(), ⟨(St.cast hS (by rw [← cutA_same hr (by omega) (by omega)])), trivial⟩, Fr.sub hFr (kc rfl (kc rfl (kc rfl (kc rfl (kc rfl (kc rfl (kc rfl (kc rfl (kc rfl (kc rfl kn))))))))))⟩
    · skip
      obtain ⟨hS, hI⟩ := hI
      have hm1 : manyS rs (k + 1) = manyS rs k + (full (rAt rs k)).toNat := rfl
      refine c_seq ?_
      refine c_region ?_
      refine l_val (v_move rfl) rfl ?_
      refine l_val (v_indexAddrA Tryd.underlying36 ty9.size rfl rfl (by omega) (by omega)) rfl ?_
      refine l_val (v_load (v := .string (rAt rs k)) ty9 rfl (here (hS.cellA 2 rfl (by rw [Int.toNat_natCast, Nat.mul_one]; exact cutA_done hr (by omega) (by omega))))) rfl ?_
      refine l_val (v_sneq rfl rfl) rfl ?_
      refine l_end ?_
      refine k_code ?_
      refine c_if rfl (fun p2 => ?_) (fun p2 => ?_)
      · skip
        refine c_region ?_
        refine l_val (v_move rfl) rfl ?_
        refine l_val (v_add rfl rfl (by omega)) rfl ?_
        refine l_val (v_assign rfl) rfl ?_
        refine l_end ?_
        refine k_code ?_
        refine c_region ?_
        refine l_val (v_move rfl) rfl ?_
        refine l_val (v_add rfl rfl (by omega)) rfl ?_
        refine l_val (v_assign rfl) rfl ?_
        refine l_end ?_
        refine fun _ hFr => ⟨(k + 1), (by omega), ⟨hS, by omega⟩, Fr.sub hFr (kc (by rw [hm1, show full (rAt rs k) = true from decide_eq_true p2]; rfl) (kc rfl (kc rfl (kc rfl (kc rfl (kc rfl (kc rfl (kc rfl kn))))))))⟩
      · skip
        refine c_skip ?_
        refine k_code ?_
        refine c_region ?_
        refine l_val (v_move rfl) rfl ?_
        refine l_val (v_add rfl rfl (by omega)) rfl ?_
        refine l_val (v_assign rfl) rfl ?_
        refine l_end ?_
        refine fun _ hFr => ⟨(k + 1), (by omega), ⟨hS, by omega⟩, Fr.sub hFr (kc (by rw [hm1, show full (rAt rs k) = false from decide_eq_false p2]; rfl) (kc rfl (kc rfl (kc rfl (kc rfl (kc rfl (kc rfl (kc rfl kn))))))))⟩
  · skip
    obtain rfl : k = 16 := by omega
    refine c_exit ex_here ?_
    refine k_code ?_
    refine c_seq ?_
    refine c_seq ?_
    refine c_region ?_
    refine l_val (v_assign rfl) rfl ?_
    refine l_end ?_
    refine k_code ?_
    refine c_block ?_
    refine c_loopV [(1, _), (2, _), (4, _), (5, _), (6, _), (7, _), (8, _)] (fun ((k, A5, c5, A6, c6) : Nat × Option Addr × Nat × Option Addr × Nat) => [(10, .int .i64 k)]) (fun ((k, A5, c5, A6, c6) : Nat × Option Addr × Nat × Option Addr × Nat) w => St No w0 w [.lies A5 ((aS rs tr k).2.2.2.flatten.map B), .lies A6 ((bS rs tr k).2.2.2.flatten.map B), .blk b3 (.cells #[.int .u16 (bS rs tr k).1, .int .u16 (bS rs tr k).2.1, .int .u16 (bS rs tr k).2.2.1, .slice A6 (bS rs tr k).2.2.2.length c6] 25 (0, 0)), .blk b2 (.cells #[.int .u16 (aS rs tr k).1, .int .u16 (aS rs tr k).2.1, .int .u16 (aS rs tr k).2.2.1, .slice A5 (aS rs tr k).2.2.2.length c5] 25 (0, 0)), .blk b1 (.cells (cutA rs 16) 36 (0, 0))] ∧ k ≤ 16) (fun ((k, A5, c5, A6, c6) : Nat × Option Addr × Nat × Option Addr × Nat) => 16 - k) ((0 : Nat), (none : Option Addr), (0 : Nat), (none : Option Addr), (0 : Nat)) ⟨((hS.gainOld lies_nil (fun _ _ h => h)).gainOld lies_nil (fun _ _ h => h)), by omega⟩ (kc rfl (kc rfl (kc rfl (kc rfl (kc rfl (kc rfl (kc rfl (kc rfl kn)))))))) (fun xx w hI => ?_)
    obtain ⟨k, A5, c5, A6, c6⟩ := xx
    obtain ⟨hS, hI⟩ := hI
    have hfa := aS_fit (rs := rs) (tr := tr) hI; have hfb := bS_fit (rs := rs) (tr := tr) hI
    refine c_seq ?_
    refine c_seq ?_
    refine c_region ?_
    refine l_val (v_move rfl) rfl ?_
    refine l_val (v_lss rfl rfl) rfl ?_
    refine l_end ?_
    refine k_code ?_
    refine c_if rfl (fun p2 => ?_) (fun p2 => ?_)
    · skip
      refine c_skip ?_
      refine k_code ?_
      refine c_seq ?_
      refine c_block ?_
      refine c_seq ?_
      refine d_region (fun w => St No w0 w [.blk b3 (.cells #[.int .u16 (bS rs tr k).1, .int .u16 (bS rs tr k).2.1, .int .u16 (bS rs tr k).2.2.1, .slice A6 (bS rs tr k).2.2.2.length c6] 25 (0, 0)), .blk b2 (.cells #[.int .u16 (aS rs tr k).1, .int .u16 (aS rs tr k).2.1, .int .u16 (aS rs tr k).2.2.1, .slice A5 (aS rs tr k).2.2.2.length c5] 25 (0, 0)), .blk b1 (.cells (cutA rs 16) 36 (0, 0))]) 9 mixed ?_
      have hS := hS.drew 1
      have hR : St No w0 _ [.blk b3 (.cells #[.int .u16 (bS rs tr k).1, .int .u16 (bS rs tr k).2.1, .int .u16 (bS rs tr k).2.2.1, .slice A6 (bS rs tr k).2.2.2.length c6] 25 (0, 0)), .blk b2 (.cells #[.int .u16 (aS rs tr k).1, .int .u16 (aS rs tr k).2.1, .int .u16 (aS rs tr k).2.2.1, .slice A5 (aS rs tr k).2.2.2.length c5] 25 (0, 0)), .blk b1 (.cells (cutA rs 16) 36 (0, 0))] := hS.less (.cons _ (.cons _ (.cons_cons _ (.cons_cons _ (.cons_cons _ (.slnil))))))
      refine d_take 0 rfl (by kernel_rfl) (by kernel_rfl) (by kernel_rfl) (by kernel_rfl) hR (v_loadN tyN25 rfl rfl (fun _ h => h.row 1 rfl)) rfl ?_
      refine d_take 1 rfl (by kernel_rfl) (by kernel_rfl) (by kernel_rfl) (by kernel_rfl) hR (v_move rfl) rfl ?_
      refine d_take 2 rfl (by kernel_rfl) (by kernel_rfl) (by kernel_rfl) (by kernel_rfl) hR (v_move rfl) rfl ?_
      refine d_take 3 rfl (by kernel_rfl) (by kernel_rfl) (by kernel_rfl) (by kernel_rfl) hR (v_move rfl) rfl ?_
      refine d_call 4 rfl (by kernel_rfl) (by kernel_rfl) (by kernel_rfl) (by kernel_rfl) hR goes13 rfl (fun w hS => has_any _ _ _ t0 t1) rfl ?_
      refine d_one 5 rfl (by kernel_rfl) ?_
      refine l_val (v_move rfl) rfl ?_
      refine l_end ?_
      have hR : St No w0 _ [.blk b3 (.cells #[.int .u16 (bS rs tr k).1, .int .u16 (bS rs tr k).2.1, .int .u16 (bS rs tr k).2.2.1, .slice A6 (bS rs tr k).2.2.2.length c6] 25 (0, 0)), .blk b2 (.cells #[.int .u16 (aS rs tr k).1, .int .u16 (aS rs tr k).2.1, .int .u16 (aS rs tr k).2.2.1, .slice A5 (aS rs tr k).2.2.2.length c5] 25 (0, 0)), .blk b1 (.cells (cutA rs 16) 36 (0, 0))] := hS.less (.cons _ (.cons _ (.cons_cons _ (.cons_cons _ (.cons_cons _ (.slnil))))))
      refine d_on (S := (fun w => St No w0 w [.blk b3 (.cells #[.int .u16 (bS rs tr k).1, .int .u16 (bS rs tr k).2.1, .int .u16 (bS rs tr k).2.2.1, .slice A6 (bS rs tr k).2.2.2.length c6] 25 (0, 0)), .blk b2 (.cells #[.int .u16 (aS rs tr k).1, .int .u16 (aS rs tr k).2.1, .int .u16 (aS rs tr k).2.2.1, .slice A5 (aS rs tr k).2.2.2.length c5] 25 (0, 0)), .blk b1 (.cells (cutA rs 16) 36 (0, 0))])) hR ?_
      refine d_one 6 rfl (by kernel_rfl) ?_
      refine l_val (v_indexAddrA Tryd.underlying36 ty9.size rfl rfl (by omega) (by omega)) rfl ?_
      refine l_end ?_
      have hR : St No w0 _ [.blk b3 (.cells #[.int .u16 (bS rs tr k).1, .int .u16 (bS rs tr k).2.1, .int .u16 (bS rs tr k).2.2.1, .slice A6 (bS rs tr k).2.2.2.length c6] 25 (0, 0)), .blk b2 (.cells #[.int .u16 (aS rs tr k).1, .int .u16 (aS rs tr k).2.1, .int .u16 (aS rs tr k).2.2.1, .slice A5 (aS rs tr k).2.2.2.length c5] 25 (0, 0)), .blk b1 (.cells (cutA rs 16) 36 (0, 0))] := hS.less (.cons _ (.cons _ (.cons_cons _ (.cons_cons _ (.cons_cons _ (.slnil))))))
      refine d_on (S := (fun w => St No w0 w [.blk b3 (.cells #[.int .u16 (bS rs tr k).1, .int .u16 (bS rs tr k).2.1, .int .u16 (bS rs tr k).2.2.1, .slice A6 (bS rs tr k).2.2.2.length c6] 25 (0, 0)), .blk b2 (.cells #[.int .u16 (aS rs tr k).1, .int .u16 (aS rs tr k).2.1, .int .u16 (aS rs tr k).2.2.1, .slice A5 (aS rs tr k).2.2.2.length c5] 25 (0, 0)), .blk b1 (.cells (cutA rs 16) 36 (0, 0))])) hR ?_
      refine d_one 7 rfl (by kernel_rfl) ?_
      refine l_val (v_load (v := .string (rAt rs k)) ty9 rfl (here (hR.cellA 2 rfl (by rw [Int.toNat_natCast, Nat.mul_one]; exact cutA_done (i := k) (k := 16) hr (by omega) (by omega))))) rfl ?_
      refine l_end ?_
      have hR : St No w0 _ [.blk b3 (.cells #[.int .u16 (bS rs tr k).1, .int .u16 (bS rs tr k).2.1, .int .u16 (bS rs tr k).2.2.1, .slice A6 (bS rs tr k).2.2.2.length c6] 25 (0, 0)), .blk b2 (.cells #[.int .u16 (aS rs tr k).1, .int .u16 (aS rs tr k).2.1, .int .u16 (aS rs tr k).2.2.1, .slice A5 (aS rs tr k).2.2.2.length c5] 25 (0, 0)), .blk b1 (.cells (cutA rs 16) 36 (0, 0))] := hS.less (.cons _ (.cons _ (.cons_cons _ (.cons_cons _ (.cons_cons _ (.slnil))))))
      refine d_on (S := (fun w => St No w0 w [.blk b3 (.cells #[.int .u16 (bS rs tr k).1, .int .u16 (bS rs tr k).2.1, .int .u16 (bS rs tr k).2.2.1, .slice A6 (bS rs tr k).2.2.2.length c6] 25 (0, 0)), .blk b2 (.cells #[.int .u16 (aS rs tr k).1, .int .u16 (aS rs tr k).2.1, .int .u16 (aS rs tr k).2.2.1, .slice A5 (aS rs tr k).2.2.2.length c5] 25 (0, 0)), .blk b1 (.cells (cutA rs 16) 36 (0, 0))])) hR ?_
      refine d_one 8 rfl (by kernel_rfl) ?_
      refine l_call goes11 rfl (with_any _ _ _ _ (aS rs tr k).2.2.2 _ _ _ _ _ hfa.1.1 hfa.1.2 hfa.2.1.1 hfa.2.1.2 hfa.2.2.1.1 hfa.2.2.1.2 (HsAt.of_lies (aS_32 hI) (hS.lies 0 rfl)) (by have := fit_len hfa; omega) (by have := cutS_size (rs.getD k ⟨#[]⟩); show (cutS _).size ≤ _; omega) (ht.keep hS.keep)) rfl (fun e w hB => ?_)
      obtain ⟨A7, c7, rfl, hh7, hk7, hf7⟩ := hB
      refine ⟨_, rfl, ?_⟩
      have hS := hS.gain hk7 hh7.lies hf7 (one_mem 0 rfl)
      refine l_end ?_
      have hR : St No w0 _ [.blk b3 (.cells #[.int .u16 (bS rs tr k).1, .int .u16 (bS rs tr k).2.1, .int .u16 (bS rs tr k).2.2.1, .slice A6 (bS rs tr k).2.2.2.length c6] 25 (0, 0)), .blk b2 (.cells #[.int .u16 (aS rs tr k).1, .int .u16 (aS rs tr k).2.1, .int .u16 (aS rs tr k).2.2.1, .slice A5 (aS rs tr k).2.2.2.length c5] 25 (0, 0)), .blk b1 (.cells (cutA rs 16) 36 (0, 0))] := hS.less (.cons _ (.cons _ (.cons _ (.cons_cons _ (.cons_cons _ (.cons_cons _ (.slnil)))))))
      refine d_on (S := (fun w => St No w0 w [.blk b3 (.cells #[.int .u16 (bS rs tr k).1, .int .u16 (bS rs tr k).2.1, .int .u16 (bS rs tr k).2.2.1, .slice A6 (bS rs tr k).2.2.2.length c6] 25 (0, 0)), .blk b2 (.cells #[.int .u16 (aS rs tr k).1, .int .u16 (aS rs tr k).2.1, .int .u16 (aS rs tr k).2.2.1, .slice A5 (aS rs tr k).2.2.2.length c5] 25 (0, 0)), .blk b1 (.cells (cutA rs 16) 36 (0, 0))])) hR ?_
      refine d_one 9 rfl (by kernel_rfl) ?_
      refine l_storeN 4 hS tyN25 rfl rfl rfl rfl rfl rfl (fun w hS => ?_)
      have hS : St No w0 w [.lies A7 ((aS rs tr (k + 1)).2.2.2.flatten.map B), .lies A5 ((aS rs tr k).2.2.2.flatten.map B), .lies A6 ((bS rs tr k).2.2.2.flatten.map B), .blk b3 (.cells #[.int .u16 (bS rs tr k).1, .int .u16 (bS rs tr k).2.1, .int .u16 (bS rs tr k).2.2.1, .slice A6 (bS rs tr k).2.2.2.length c6] 25 (0, 0)), .blk b2 (.cells #[.int .u16 (aS rs tr (k + 1)).1, .int .u16 (aS rs tr (k + 1)).2.1, .int .u16 (aS rs tr (k + 1)).2.2.1, .slice A7 (aS rs tr (k + 1)).2.2.2.length c7] 25 (0, 0)), .blk b1 (.cells (cutA rs 16) 36 (0, 0))] := hS
      refine l_end ?_
      refine d_last (S := (fun w => St No w0 w [.blk b3 (.cells #[.int .u16 (bS rs tr k).1, .int .u16 (bS rs tr k).2.1, .int .u16 (bS rs tr k).2.2.1, .slice A6 (bS rs tr k).2.2.2.length c6] 25 (0, 0)), .blk b2 (.cells #[.int .u16 (aS rs tr k).1, .int .u16 (aS rs tr k).2.1, .int .u16 (aS rs tr k).2.2.1, .slice A5 (aS rs tr k).2.2.2.length c5] 25 (0, 0)), .blk b1 (.cells (cutA rs 16) 36 (0, 0))])) ?_
      refine d_end (by kernel_rfl) ?_
      refine k_code ?_
      refine d_region (fun w => St No w0 w [.blk b3 (.cells #[.int .u16 (bS rs tr k).1, .int .u16 (bS rs tr k).2.1, .int .u16 (bS rs tr k).2.2.1, .slice A6 (bS rs tr k).2.2.2.length c6] 25 (0, 0)), .blk b2 (.cells #[.int .u16 (aS rs tr (k + 1)).1, .int .u16 (aS rs tr (k + 1)).2.1, .int .u16 (aS rs tr (k + 1)).2.2.1, .slice A7 (aS rs tr (k + 1)).2.2.2.length c7] 25 (0, 0)), .blk b1 (.cells (cutA rs 16) 36 (0, 0))]) 12 mixed ?_
      have hS := hS.drew 1
      have hR : St No w0 _ [.blk b3 (.cells #[.int .u16 (bS rs tr k).1, .int .u16 (bS rs tr k).2.1, .int .u16 (bS rs tr k).2.2.1, .slice A6 (bS rs tr k).2.2.2.length c6] 25 (0, 0)), .blk b2 (.cells #[.int .u16 (aS rs tr (k + 1)).1, .int .u16 (aS rs tr (k + 1)).2.1, .int .u16 (aS rs tr (k + 1)).2.2.1, .slice A7 (aS rs tr (k + 1)).2.2.2.length c7] 25 (0, 0)), .blk b1 (.cells (cutA rs 16) 36 (0, 0))] := hS.less (.cons _ (.cons _ (.cons _ (.cons_cons _ (.cons_cons _ (.cons_cons _ (.slnil)))))))
      refine d_take 0 rfl (by kernel_rfl) (by kernel_rfl) (by kernel_rfl) (by kernel_rfl) hR (v_loadN tyN25 rfl rfl (fun _ h => h.row 0 rfl)) rfl ?_
      refine d_take 1 rfl (by kernel_rfl) (by kernel_rfl) (by kernel_rfl) (by kernel_rfl) hR (v_move rfl) rfl ?_
      refine d_take 2 rfl (by kernel_rfl) (by kernel_rfl) (by kernel_rfl) (by kernel_rfl) hR (v_sub rfl rfl (by omega)) rfl ?_
      refine d_take 3 rfl (by kernel_rfl) (by kernel_rfl) (by kernel_rfl) (by kernel_rfl) hR (v_move rfl) rfl ?_
      refine d_take 4 rfl (by kernel_rfl) (by kernel_rfl) (by kernel_rfl) (by kernel_rfl) hR (v_move rfl) rfl ?_
      refine d_take 5 rfl (by kernel_rfl) (by kernel_rfl) (by kernel_rfl) (by kernel_rfl) hR (v_sub rfl rfl (by omega)) rfl ?_
      refine d_call 6 rfl (by kernel_rfl) (by kernel_rfl) (by kernel_rfl) (by kernel_rfl) hR goes13 rfl (fun w hS => has_any _ _ _ t0 t1) rfl ?_
      refine d_one 7 rfl (by kernel_rfl) ?_
      refine l_val (v_move rfl) rfl ?_
      refine l_end ?_
      have hR : St No w0 _ [.blk b3 (.cells #[.int .u16 (bS rs tr k).1, .int .u16 (bS rs tr k).2.1, .int .u16 (bS rs tr k).2.2.1, .slice A6 (bS rs tr k).2.2.2.length c6] 25 (0, 0)), .blk b2 (.cells #[.int .u16 (aS rs tr (k + 1)).1, .int .u16 (aS rs tr (k + 1)).2.1, .int .u16 (aS rs tr (k + 1)).2.2.1, .slice A7 (aS rs tr (k + 1)).2.2.2.length c7] 25 (0, 0)), .blk b1 (.cells (cutA rs 16) 36 (0, 0))] := hS.less (.cons _ (.cons _ (.cons _ (.cons_cons _ (.cons_cons _ (.cons_cons _ (.slnil)))))))
      refine d_on (S := (fun w => St No w0 w [.blk b3 (.cells #[.int .u16 (bS rs tr k).1, .int .u16 (bS rs tr k).2.1, .int .u16 (bS rs tr k).2.2.1, .slice A6 (bS rs tr k).2.2.2.length c6] 25 (0, 0)), .blk b2 (.cells #[.int .u16 (aS rs tr (k + 1)).1, .int .u16 (aS rs tr (k + 1)).2.1, .int .u16 (aS rs tr (k + 1)).2.2.1, .slice A7 (aS rs tr (k + 1)).2.2.2.length c7] 25 (0, 0)), .blk b1 (.cells (cutA rs 16) 36 (0, 0))])) hR ?_
      refine d_one 8 rfl (by kernel_rfl) ?_
      refine l_val (v_sub rfl rfl (by omega)) rfl ?_
      refine l_end ?_
      have hR : St No w0 _ [.blk b3 (.cells #[.int .u16 (bS rs tr k).1, .int .u16 (bS rs tr k).2.1, .int .u16 (bS rs tr k).2.2.1, .slice A6 (bS rs tr k).2.2.2.length c6] 25 (0, 0)), .blk b2 (.cells #[.int .u16 (aS rs tr (k + 1)).1, .int .u16 (aS rs tr (k + 1)).2.1, .int .u16 (aS rs tr (k + 1)).2.2.1, .slice A7 (aS rs tr (k + 1)).2.2.2.length c7] 25 (0, 0)), .blk b1 (.cells (cutA rs 16) 36 (0, 0))] := hS.less (.cons _ (.cons _ (.cons _ (.cons_cons _ (.cons_cons _ (.cons_cons _ (.slnil)))))))
      refine d_on (S := (fun w => St No w0 w [.blk b3 (.cells #[.int .u16 (bS rs tr k).1, .int .u16 (bS rs tr k).2.1, .int .u16 (bS rs tr k).2.2.1, .slice A6 (bS rs tr k).2.2.2.length c6] 25 (0, 0)), .blk b2 (.cells #[.int .u16 (aS rs tr (k + 1)).1, .int .u16 (aS rs tr (k + 1)).2.1, .int .u16 (aS rs tr (k + 1)).2.2.1, .slice A7 (aS rs tr (k + 1)).2.2.2.length c7] 25 (0, 0)), .blk b1 (.cells (cutA rs 16) 36 (0, 0))])) hR ?_
      refine d_one 9 rfl (by kernel_rfl) ?_
      refine l_val (v_indexAddrA Tryd.underlying36 ty9.size rfl rfl (by omega) (by omega)) rfl ?_
      refine l_end ?_
      have hR : St No w0 _ [.blk b3 (.cells #[.int .u16 (bS rs tr k).1, .int .u16 (bS rs tr k).2.1, .int .u16 (bS rs tr k).2.2.1, .slice A6 (bS rs tr k).2.2.2.length c6] 25 (0, 0)), .blk b2 (.cells #[.int .u16 (aS rs tr (k + 1)).1, .int .u16 (aS rs tr (k + 1)).2.1, .int .u16 (aS rs tr (k + 1)).2.2.1, .slice A7 (aS rs tr (k + 1)).2.2.2.length c7] 25 (0, 0)), .blk b1 (.cells (cutA rs 16) 36 (0, 0))] := hS.less (.cons _ (.cons _ (.cons _ (.cons_cons _ (.cons_cons _ (.cons_cons _ (.slnil)))))))
      refine d_on (S := (fun w => St No w0 w [.blk b3 (.cells #[.int .u16 (bS rs tr k).1, .int .u16 (bS rs tr k).2.1, .int .u16 (bS rs tr k).2.2.1, .slice A6 (bS rs tr k).2.2.2.length c6] 25 (0, 0)), .blk b2 (.cells #[.int .u16 (aS rs tr (k + 1)).1, .int .u16 (aS rs tr (k + 1)).2.1, .int .u16 (aS rs tr (k + 1)).2.2.1, .slice A7 (aS rs tr (k + 1)).2.2.2.length c7] 25 (0, 0)), .blk b1 (.cells (cutA rs 16) 36 (0, 0))])) hR ?_
      refine d_one 10 rfl (by kernel_rfl) ?_
      refine l_val (v_load (v := .string (rAt rs (15 - k))) ty9 rfl (here (hR.cellA 2 rfl (by rw [Nat.mul_one, show (15 - (k : Int)).toNat = 15 - k by omega]; exact cutA_done (i := 15 - k) (k := 16) hr (by omega) (by omega))))) rfl ?_
      refine l_end ?_
      have hR : St No w0 _ [.blk b3 (.cells #[.int .u16 (bS rs tr k).1, .int .u16 (bS rs tr k).2.1, .int .u16 (bS rs tr k).2.2.1, .slice A6 (bS rs tr k).2.2.2.length c6] 25 (0, 0)), .blk b2 (.cells #[.int .u16 (aS rs tr (k + 1)).1, .int .u16 (aS rs tr (k + 1)).2.1, .int .u16 (aS rs tr (k + 1)).2.2.1, .slice A7 (aS rs tr (k + 1)).2.2.2.length c7] 25 (0, 0)), .blk b1 (.cells (cutA rs 16) 36 (0, 0))] := hS.less (.cons _ (.cons _ (.cons _ (.cons_cons _ (.cons_cons _ (.cons_cons _ (.slnil)))))))
      refine d_on (S := (fun w => St No w0 w [.blk b3 (.cells #[.int .u16 (bS rs tr k).1, .int .u16 (bS rs tr k).2.1, .int .u16 (bS rs tr k).2.2.1, .slice A6 (bS rs tr k).2.2.2.length c6] 25 (0, 0)), .blk b2 (.cells #[.int .u16 (aS rs tr (k + 1)).1, .int .u16 (aS rs tr (k + 1)).2.1, .int .u16 (aS rs tr (k + 1)).2.2.1, .slice A7 (aS rs tr (k + 1)).2.2.2.length c7] 25 (0, 0)), .blk b1 (.cells (cutA rs 16) 36 (0, 0))])) hR ?_
      refine d_one 11 rfl (by kernel_rfl) ?_
      refine l_call goes11 rfl (with_any _ _ _ _ (bS rs tr k).2.2.2 _ _ _ _ _ hfb.1.1 hfb.1.2 hfb.2.1.1 hfb.2.1.2 hfb.2.2.1.1 hfb.2.2.1.2 (HsAt.of_lies (bS_32 hI) (hS.lies 2 rfl)) (by have := fit_len hfb; omega) (by have := cutS_size (rs.getD (15 - k) ⟨#[]⟩); show (cutS _).size ≤ _; omega) (ht.keep hS.keep)) rfl (fun e w hB => ?_)
      obtain ⟨A8, c8, rfl, hh8, hk8, hf8⟩ := hB
      refine ⟨_, rfl, ?_⟩
      have hS := hS.gain hk8 hh8.lies hf8 (one_mem 2 rfl)
      refine l_end ?_
      have hR : St No w0 _ [.blk b3 (.cells #[.int .u16 (bS rs tr k).1, .int .u16 (bS rs tr k).2.1, .int .u16 (bS rs tr k).2.2.1, .slice A6 (bS rs tr k).2.2.2.length c6] 25 (0, 0)), .blk b2 (.cells #[.int .u16 (aS rs tr (k + 1)).1, .int .u16 (aS rs tr (k + 1)).2.1, .int .u16 (aS rs tr (k + 1)).2.2.1, .slice A7 (aS rs tr (k + 1)).2.2.2.length c7] 25 (0, 0)), .blk b1 (.cells (cutA rs 16) 36 (0, 0))] := hS.less (.cons _ (.cons _ (.cons _ (.cons _ (.cons_cons _ (.cons_cons _ (.cons_cons _ (.slnil))))))))
      refine d_on (S := (fun w => St No w0 w [.blk b3 (.cells #[.int .u16 (bS rs tr k).1, .int .u16 (bS rs tr k).2.1, .int .u16 (bS rs tr k).2.2.1, .slice A6 (bS rs tr k).2.2.2.length c6] 25 (0, 0)), .blk b2 (.cells #[.int .u16 (aS rs tr (k + 1)).1, .int .u16 (aS rs tr (k + 1)).2.1, .int .u16 (aS rs tr (k + 1)).2.2.1, .slice A7 (aS rs tr (k + 1)).2.2.2.length c7] 25 (0, 0)), .blk b1 (.cells (cutA rs 16) 36 (0, 0))])) hR ?_
      refine d_one 12 rfl (by kernel_rfl) ?_
      refine l_storeN 4 hS tyN25 rfl rfl rfl rfl rfl rfl (fun w hS => ?_)
      refine l_end ?_
      refine d_last (S := (fun w => St No w0 w [.blk b3 (.cells #[.int .u16 (bS rs tr k).1, .int .u16 (bS rs tr k).2.1, .int .u16 (bS rs tr k).2.2.1, .slice A6 (bS rs tr k).2.2.2.length c6] 25 (0, 0)), .blk b2 (.cells #[.int .u16 (aS rs tr (k + 1)).1, .int .u16 (aS rs tr (k + 1)).2.1, .int .u16 (aS rs tr (k + 1)).2.2.1, .slice A7 (aS rs tr (k + 1)).2.2.2.length c7] 25 (0, 0)), .blk b1 (.cells (cutA rs 16) 36 (0, 0))])) ?_
      refine d_end (by kernel_rfl) ?_
      refine k_code ?_
      refine c_region ?_
      refine l_val (v_move rfl) rfl ?_
      refine l_val (v_add rfl rfl (by omega)) rfl ?_
      refine l_val (v_assign rfl) rfl ?_
      refine l_end ?_
      refine fun _ hFr => ⟨(k + 1, A7, c7, A8, c8), (by dsimp only; omega), ⟨(hS.arr [1, 0, 4, 5, 6]), by omega⟩, Fr.sub hFr (kc rfl (kc rfl (kc rfl (kc rfl (kc rfl (kc rfl (kc rfl (kc rfl kn))))))))⟩
    · skip
      obtain rfl : k = 16 := by omega
      have hab := ab_same (rs := rs) (tr := tr)
      rw [hab] at hS
      have h32 := aS_32 (rs := rs) (tr := tr) hI
      have hl := fit_len hfa
      refine c_exit ex_here ?_
      refine k_code ?_
      refine c_seq ?_
      refine c_region ?_
      refine l_val (v_loadN tyN25 rfl rfl (hereN (hS.row 3 rfl))) rfl ?_
      refine l_val (v_loadN tyN25 rfl rfl (hereN (hS.row 2 rfl))) rfl ?_
      refine l_callK goes10 rfl hS (by have := same_any (aS rs tr 16).1 (aS rs tr 16).2.1 (aS rs tr 16).2.2.1 (aS rs tr 16).1 (aS rs tr 16).2.1 (aS rs tr 16).2.2.1 A5 A6 _ _ c5 c6 _ (HsAt.of_lies h32 (hS.lies 0 rfl)) (HsAt.of_lies h32 (hS.lies 1 rfl)) (by omega) (by omega); rw [decide_eq_true ⟨rfl, rfl, rfl, rfl⟩] at this; exact this) rfl (fun w hS => ?_)
      refine l_val (v_assign rfl) rfl ?_
      refine l_end ?_
      refine k_code ?_
      refine c_seq ?_
      refine c_region ?_
      refine l_val (v_loadN tyN25 rfl rfl (hereN (hS.row 3 rfl))) rfl ?_
      refine l_callK goes14 rfl hS (check_any _ _ _ _ _ _ _ hfa.1.1 hfa.1.2 hfa.2.2.1.1 hfa.2.2.1.2) rfl (fun w hS => ?_)
      refine l_val (v_assign rfl) rfl ?_
      refine l_end ?_
      refine k_code ?_
      refine c_seq ?_
      refine c_region ?_
      refine l_val (v_move rfl) rfl ?_
      refine l_val (v_move rfl) rfl ?_
      refine l_on rfl rfl rfl ?_
      refine l_val (v_move rfl) rfl ?_
      refine l_val (v_pickT rfl rfl) rfl ?_
      refine l_val (v_move rfl) rfl ?_
      refine l_on rfl rfl rfl ?_
      refine l_val (v_fieldAddr field25_0 rfl) rfl ?_
      refine l_on rfl rfl rfl ?_
      refine l_val (v_load ty22 rfl (here (hS.cell 3 rfl rfl))) rfl ?_
      refine l_on rfl rfl rfl ?_
      refine l_callK goes15 rfl hS (draws (count_any _ _ hfa.1.1 hfa.1.2)) rfl (fun w hS => ?_)
      refine l_on rfl rfl rfl ?_
      refine l_val (v_move rfl) rfl ?_
      refine l_on rfl rfl rfl ?_
      refine l_val (v_eqlT rfl rfl (aS_cnt)) rfl ?_
      refine l_val (v_pickT rfl rfl) rfl ?_
      refine l_val (v_move rfl) rfl ?_
      refine l_on rfl rfl rfl ?_
      refine l_val (v_move rfl) rfl ?_
      refine l_on rfl rfl rfl ?_
      refine l_val (v_eql rfl rfl) rfl ?_
      refine l_on rfl rfl rfl ?_
      refine l_val (v_move rfl) rfl ?_
      refine l_on rfl rfl rfl ?_
      refine l_val (v_geq rfl rfl) rfl ?_
      refine l_on rfl rfl rfl ?_
      refine l_val (v_boolEq Tryd.underlying4 rfl rfl) rfl ?_
      refine l_val (v_pickT rfl rfl) rfl ?_
      refine l_val (v_assign rfl) rfl ?_
      refine l_end ?_
      refine k_code ?_
      refine c_ret1 rfl rfl ?_
      exact ⟨by rw [aS_fin], hS.keep⟩
end Go.Proofs.YtdlcefiandacnaaDoor
