/- The walk of the law MaskBits: whatever comes in, it answers true. -/
import Derived.Test.YtdlcefiandacnaaMaskAwake
namespace Go.Proofs.Ytdlcefiandacnaa
open Go Go.RowKit E MM
set_option maxRecDepth 100000
set_option linter.unusedVariables false
set_option linter.unusedSimpArgs false

theorem IntsAt.of_row {w : World} {e : Nat} {A : Option Addr} {m c : Nat} {l : List Int} (h : w.ownsRow 0 e 1 (.slice A m c) m (l.map (Value.int .i64))) : IntsAt w A l := by
  rcases h.2 with ⟨e1, rfl⟩ | ⟨g, cap, cur, e1, -, hg, -, -, -, -⟩
  · left
    have h1 := h.1
    rw [List.length_map] at h1
    exact List.eq_nil_of_length_eq_zero (by omega)
  · right
    cases e1
    refine ⟨_, rfl, fun i x hi => ?_⟩
    exact World.ownsRow.cells (g := g) h rfl i _ (by rw [List.getElem?_map, hi]; rfl)

/-- The numbers below k that a mask has. -/
def bl (m : Nat) : Nat → List Int
  | 0 => []
  | k + 1 => if m.testBit k then bl m k ++ [(k : Int)] else bl m k
theorem bl_len (m k : Nat) : (bl m k).length = cnt m k := by
  induction k with
  | zero => rfl
  | succ k ih => simp only [bl, cnt]; split
                 · rename_i h; rw [List.length_append, ih, h]; rfl
                 · rename_i h; rw [ih, Bool.eq_false_iff.2 h]; rfl
theorem bl_mem (m k i : Nat) : (i : Int) ∈ bl m k ↔ i < k ∧ m.testBit i = true := by
  induction k with
  | zero => simp [bl]
  | succ k ih =>
    simp only [bl]; split
    · rename_i h
      rw [List.mem_append, ih]
      constructor
      · rintro (⟨a, b⟩ | a)
        · exact ⟨by omega, b⟩
        · have : i = k := by have : (i : Int) = k := by simpa using a
                             omega
          subst this; exact ⟨by omega, h⟩
      · rintro ⟨a, b⟩
        by_cases e : i = k
        · right; simp [e]
        · left; exact ⟨by omega, b⟩
    · rename_i h
      rw [ih]
      constructor
      · rintro ⟨a, b⟩; exact ⟨by omega, b⟩
      · rintro ⟨a, b⟩
        refine ⟨?_, b⟩
        by_cases e : i = k
        · subst e; exact absurd b h
        · omega
theorem bl_of {m : Nat} (h : m < 65536) : ofL (bl m 16) = m := by
  apply eq_of_bits (ofL_lt _) h
  intro i hi
  rw [ofL_bit _ _ hi, Bool.eq_iff_iff, decide_eq_true_iff, bl_mem]
  simp [hi]

theorem bl_yes {m : Int} {k : Nat} (h : hasB m k = true) : bl m.toNat (k + 1) = bl m.toNat k ++ [(k : Int)] := by
  have : m.toNat.testBit k = true := by simp only [hasB, Bool.and_eq_true] at h; exact h.2
  simp only [bl]; rw [if_pos this]
theorem cnt_yes {m : Int} {k : Nat} (h : hasB m k = true) : cnt m.toNat (k + 1) = cnt m.toNat k + 1 := by
  rw [← bl_len, ← bl_len, bl_yes h, List.length_append]; rfl
theorem bl_no {m : Int} {k : Nat} (h : hasB m k = false) (hk : k < 16) : bl m.toNat (k + 1) = bl m.toNat k := by
  have : ¬ m.toNat.testBit k = true := fun e => by
    have h2 : hasB m k = true := by unfold hasB; rw [decide_eq_true (show (0 : Int) ≤ k by omega), decide_eq_true (show (k : Int) < 16 by omega)]; exact e
    rw [h] at h2; cases h2
  simp only [bl]; rw [if_neg this]
theorem cnt_no {m : Int} {k : Nat} (h : hasB m k = false) (hk : k < 16) : cnt m.toNat (k + 1) = cnt m.toNat k := by
  rw [← bl_len, ← bl_len, bl_no h hk]
/-- Is it one of the first k? -/
def inB (l : List Int) (i : Int) : Bool := decide (0 ≤ i ∧ i < 16 ∧ i ∈ l)
theorem inB_nil (i : Int) : inB [] i = false := by simp [inB]
theorem inB_T {l : List Int} {i : Int} (x : Int) (h : inB l i = true) : inB (l ++ [x]) i = true := by
  simp only [inB, decide_eq_true_eq] at h ⊢; exact ⟨h.1, h.2.1, List.mem_append_left _ h.2.2⟩
theorem inB_E {l : List Int} {i x : Int} (e : x = i) (h0 : 0 ≤ i) : inB (l ++ [x]) i = decide (i < 16) := by
  simp [inB, e, h0]
theorem inB_F {l : List Int} {i x : Int} (h : inB l i = false) (e : ¬ (x = i ∧ 0 ≤ i ∧ i < 16)) : inB (l ++ [x]) i = false := by
  simp only [inB, decide_eq_false_iff_not] at h
  simp only [inB, decide_eq_false_iff_not, List.mem_append, List.mem_singleton]
  rintro ⟨a, b, c | c⟩
  · exact h ⟨a, b, c⟩
  · exact e ⟨c.symm, a, b⟩
theorem inB_has (l : List Int) (i : Int) : hasB ((ofL l : Nat) : Int) i = inB l i := by
  unfold hasB inB
  by_cases a : 0 ≤ i
  · by_cases b : i < 16
    · have := ofL_bit l i.toNat (by omega)
      rw [show ((i.toNat : Nat) : Int) = i by omega] at this
      simp [a, b, this]
    · simp [a, b]
  · simp [a]
/-- How many of the first a of -3 .. are in. -/
theorem cnt3 (l : List Int) (a : Nat) : cnt (ofL l) (a + 1 - 3) = cnt (ofL l) (a - 3) + (inB l ((a : Int) - 3)).toNat := by
  rw [← inB_has]
  unfold hasB
  by_cases h : 3 ≤ a
  · rw [show a + 1 - 3 = (a - 3) + 1 by omega]
    simp only [cnt]
    rw [show ((a : Int) - 3).toNat = a - 3 by omega, Int.toNat_natCast]
    by_cases b : a - 3 < 16
    · rw [decide_eq_true (show (0 : Int) ≤ (a : Int) - 3 by omega), decide_eq_true (show (a : Int) - 3 < 16 by omega)]; rfl
    · rw [decide_eq_false (show ¬ (a : Int) - 3 < 16 by omega)]
      rw [Nat.testBit_lt_two_pow (Nat.lt_of_lt_of_le (ofL_lt l) (by have := Nat.pow_le_pow_right (n := 2) (by omega) (show 16 ≤ a - 3 by omega); simpa using this))]
      simp
  · rw [show a + 1 - 3 = 0 by omega, show a - 3 = 0 by omega, decide_eq_false (show ¬ (0 : Int) ≤ (a : Int) - 3 by omega)]; rfl
theorem cnt20 (l : List Int) : cnt (ofL l) 20 = cnt (ofL l) 16 := by
  have := cnt_add (ofL l) 16 4
  rw [show cnt (ofL l) 20 = cnt (ofL l) (16 + 4) from rfl, this, Nat.div_eq_of_lt (by have := ofL_lt l; omega)]
  rfl

set_option maxHeartbeats 4000000 in
theorem bits_any (A : Option Addr) (l : List Int) (c : Nat) (m : Int) (w0 : World) (m0 : 0 ≤ m) (m1 : m < 65536)
    (hi : IntsAt w0 A l) (hc : l.length ≤ c) (hcm : c ≤ 9223372036854775807) :
    Calls Try.prog 3 [.slice A l.length c, .int .u16 m].toArray w0 fun e w' => e = .returned (.bool true) ∧ Keep No w0 w' := by
  have hl40 : (l.take 40).length ≤ 40 := by rw [List.length_take]; omega
  have hs0 := ofL_lt (l.take 40)
  refine enter (n := 87) Try.func3 rfl rfl rfl ?_
  have hS := St.start No w0
  refine c_seq ?_
  refine c_region ?_
  refine l_val (v_assign rfl) rfl ?_
  refine l_end ?_
  refine k_code ?_
  refine c_seq ?_
  refine c_region ?_
  refine l_callK goes5 rfl hS (awake_any _) rfl (fun w hS => ?_)
  refine l_val (v_assign rfl) rfl ?_
  refine l_end ?_
  refine k_code ?_
  refine c_cutV [1, 4, 5] (fun (u : Unit) => [(0, .slice A (l.take 40).length c)]) (fun (u : Unit) w => St No w0 w (Lof hS) ∧ True) ?_ (fun u w hI => ?_)
  · skip
    refine c_seq ?_
    refine c_region ?_
    refine l_val (v_move rfl) rfl ?_
    refine l_val (v_len Try.underlying22 rfl) rfl ?_
    refine l_val (v_gtr rfl rfl) rfl ?_
    refine l_end ?_
    refine k_code ?_
    refine c_if rfl (fun p1 => ?_) (fun p1 => ?_)
    · skip
      refine c_region ?_
      refine l_val (v_move rfl) rfl ?_
      refine l_val (v_sliceTo Try.underlying22 (fun w => ⟨_, ty3.size w⟩) rfl rfl (by omega) (by omega)) rfl ?_
      refine l_val (v_assign rfl) rfl ?_
      refine l_end ?_
      refine fun _ hFr => ⟨(), ⟨hS, trivial⟩, Fr.sub hFr (kc (by rw [show (l.take 40).length = 40 by rw [List.length_take]; omega]; rfl) (kc rfl (kc rfl (kc rfl kn))))⟩
    · skip
      refine c_skip ?_
      refine fun _ hFr => ⟨(), ⟨hS, trivial⟩, Fr.sub hFr (kc (by rw [show l.take 40 = l from List.take_of_length_le (by omega)]; rfl) (kc rfl (kc rfl (kc rfl kn))))⟩
  · skip
    obtain ⟨hS, hI⟩ := hI
    refine c_seq ?_
    refine c_region ?_
    refine l_val (v_move rfl) rfl ?_
    refine l_callK goes6 rfl hS (of_all (l.take 40) _ _ _ (by omega) ((hi.keep hS.keep).take 40)) rfl (fun w hS => ?_)
    refine l_val (v_assign rfl) rfl ?_
    refine l_end ?_
    refine k_code ?_
    refine c_seq ?_
    refine c_region ?_
    refine l_val (v_assign rfl) rfl ?_
    refine l_end ?_
    refine k_code ?_
    refine c_seq ?_
    refine c_seq ?_
    refine c_region ?_
    refine l_val (v_assign rfl) rfl ?_
    refine l_end ?_
    refine k_code ?_
    refine c_block ?_
    refine c_loopV [0, 1, 5, 6] (fun (a : Nat) => [(7, .int .i64 ((cnt (ofL (l.take 40)) (a - 3) : Nat) : Int)), (8, .int .i64 ((a : Int) - 3))]) (fun (a : Nat) w => St No w0 w _ ∧ a ≤ 23) (fun (a : Nat) => 23 - a) (0 : Nat) ⟨hS, by omega⟩ (kc rfl (kc rfl (kc rfl (kc rfl (kc rfl (kc rfl kn)))))) (fun a w hI => ?_)
    obtain ⟨hS, hI⟩ := hI
    refine c_seq ?_
    refine c_seq ?_
    refine c_region ?_
    refine l_val (v_move rfl) rfl ?_
    refine l_val (v_lss rfl rfl) rfl ?_
    refine l_end ?_
    refine k_code ?_
    refine c_if rfl (fun p1 => ?_) (fun p1 => ?_)
    · skip
      refine c_skip ?_
      refine k_code ?_
      refine c_seq ?_
      refine c_block ?_
      refine c_seq ?_
      refine c_region ?_
      refine l_val (v_assign rfl) rfl ?_
      refine l_end ?_
      refine k_code ?_
      refine c_seq ?_
      refine c_seq ?_
      refine c_region ?_
      refine l_val (v_assign rfl) rfl ?_
      refine l_end ?_
      refine k_code ?_
      refine c_block ?_
      refine c_loopV [0, 1, 5, 6, 7, 8, 21, 22] (fun (k : Nat) => [(9, .bool (inB ((l.take 40).take k) ((a : Int) - 3))), (10, .int .i64 k)]) (fun (k : Nat) w => St No w0 w _ ∧ k ≤ (l.take 40).length) (fun (k : Nat) => (l.take 40).length - k) (0 : Nat) ⟨hS, Nat.zero_le _⟩ (kc (by rw [List.take_zero, inB_nil]; rfl) (kc rfl (kc rfl (kc rfl (kc rfl (kc rfl (kc rfl (kc rfl (kc rfl (kc rfl kn)))))))))) (fun k w hI => ?_)
      obtain ⟨hS, hI⟩ := hI
      refine c_seq ?_
      refine c_seq ?_
      refine c_region ?_
      refine l_val (v_move rfl) rfl ?_
      refine l_val (v_move rfl) rfl ?_
      refine l_val (v_len Try.underlying22 rfl) rfl ?_
      refine l_val (v_lss rfl rfl) rfl ?_
      refine l_end ?_
      refine k_code ?_
      refine c_if rfl (fun p2 => ?_) (fun p2 => ?_)
      · skip
        obtain ⟨ad, hA, hcell⟩ := (hi.take 40).get (k := k) (by omega)
        have hs := take_snocI (l.take 40) k (by omega)
        generalize (l.take 40).getD k 0 = x at hcell hs
        refine c_skip ?_
        refine k_code ?_
        refine c_seq ?_
        refine c_block ?_
        refine c_region ?_
        refine l_val (v_move rfl) rfl ?_
        refine l_val (v_move rfl) rfl ?_
        refine l_partB 32 rfl (fun p3 => ?_) (fun p3 => ?_)
        · skip
          refine l_skip rfl rfl rfl rfl rfl ?_
          refine l_skip rfl rfl rfl rfl rfl ?_
          refine l_skip rfl rfl rfl rfl rfl ?_
          refine l_skip rfl rfl rfl rfl rfl ?_
          refine l_skip rfl rfl rfl rfl rfl ?_
          refine l_skip rfl rfl rfl rfl rfl ?_
          refine l_skip rfl rfl rfl rfl rfl ?_
          refine l_skipU rfl rfl rfl rfl ?_
          refine l_skipU rfl rfl rfl rfl ?_
          refine l_skip rfl rfl rfl rfl rfl ?_
          refine l_skip rfl rfl rfl rfl rfl ?_
          refine l_skipU rfl rfl rfl rfl ?_
          refine l_skipU rfl rfl rfl rfl ?_
          refine l_skip rfl rfl rfl rfl rfl ?_
          refine l_val (v_pickT rfl rfl) rfl ?_
          refine l_val (v_assign rfl) rfl ?_
          refine l_end ?_
          refine k_code ?_
          refine c_region ?_
          refine l_val (v_move rfl) rfl ?_
          refine l_val (v_add rfl rfl (by omega)) rfl ?_
          refine l_val (v_assign rfl) rfl ?_
          refine l_end ?_
          refine fun _ hFr => ⟨(k + 1), (by omega), ⟨hS, by omega⟩, Fr.sub hFr (kc (by rw [hs, inB_T x p3]; rfl) (kc rfl (kc rfl (kc rfl (kc rfl (kc rfl (kc rfl (kc rfl (kc rfl (kc rfl kn))))))))))⟩
        · skip
          refine l_on rfl rfl rfl ?_
          refine l_val (v_move rfl) rfl ?_
          refine l_on rfl rfl rfl ?_
          refine l_val (v_move rfl) rfl ?_
          refine l_on rfl rfl rfl ?_
          refine l_val (v_indexAddrO hA Try.underlying22 ty3.size rfl rfl (by omega) (by omega)) rfl ?_
          refine l_on rfl rfl rfl ?_
          refine l_val (v_load ty3 rfl (here (hS.old hcell))) rfl ?_
          refine l_on rfl rfl rfl ?_
          refine l_val (v_move rfl) rfl ?_
          refine l_on rfl rfl rfl ?_
          refine l_val (v_eql rfl rfl) rfl ?_
          refine l_on rfl rfl rfl ?_
          refine l_val (v_move rfl) rfl ?_
          refine l_part 39 rfl (fun p4 => ?_) (fun p4 => ?_)
          · skip
            refine l_on rfl rfl rfl ?_
            refine l_val (v_move rfl) rfl ?_
            refine l_on rfl rfl rfl ?_
            refine l_val (v_geq rfl rfl) rfl ?_
            refine l_on rfl rfl rfl ?_
            refine l_val (v_pickT rfl rfl) rfl ?_
            refine l_on rfl rfl rfl ?_
            refine l_val (v_move rfl) rfl ?_
            refine l_part 43 rfl (fun p5 => ?_) (fun p5 => ?_)
            · skip
              refine l_on rfl rfl rfl ?_
              refine l_val (v_move rfl) rfl ?_
              refine l_on rfl rfl rfl ?_
              refine l_val (v_lss rfl rfl) rfl ?_
              refine l_on rfl rfl rfl ?_
              refine l_val (v_pickT rfl rfl) rfl ?_
              refine l_val (v_pickF rfl rfl) rfl ?_
              refine l_val (v_assign rfl) rfl ?_
              refine l_end ?_
              refine k_code ?_
              refine c_region ?_
              refine l_val (v_move rfl) rfl ?_
              refine l_val (v_add rfl rfl (by omega)) rfl ?_
              refine l_val (v_assign rfl) rfl ?_
              refine l_end ?_
              refine fun _ hFr => ⟨(k + 1), (by omega), ⟨hS, by omega⟩, Fr.sub hFr (kc (by rw [hs, inB_E p4 (by omega)]; rfl) (kc rfl (kc rfl (kc rfl (kc rfl (kc rfl (kc rfl (kc rfl (kc rfl (kc rfl kn))))))))))⟩
            · skip
              refine l_skip rfl rfl rfl rfl rfl ?_
              refine l_skip rfl rfl rfl rfl rfl ?_
              refine l_on rfl rfl rfl ?_
              refine l_val (v_pickF rfl rfl) rfl ?_
              refine l_val (v_pickF rfl rfl) rfl ?_
              refine l_val (v_assign rfl) rfl ?_
              refine l_end ?_
              refine k_code ?_
              refine c_region ?_
              refine l_val (v_move rfl) rfl ?_
              refine l_val (v_add rfl rfl (by omega)) rfl ?_
              refine l_val (v_assign rfl) rfl ?_
              refine l_end ?_
              refine fun _ hFr => ⟨(k + 1), (by omega), ⟨hS, by omega⟩, Fr.sub hFr (kc (by rw [hs, inB_F p3 (by omega)]; rfl) (kc rfl (kc rfl (kc rfl (kc rfl (kc rfl (kc rfl (kc rfl (kc rfl (kc rfl kn))))))))))⟩
          · skip
            refine l_skip rfl rfl rfl rfl rfl ?_
            refine l_skip rfl rfl rfl rfl rfl ?_
            refine l_on rfl rfl rfl ?_
            refine l_val (v_pickF rfl rfl) rfl ?_
            refine l_on rfl rfl rfl ?_
            refine l_val (v_move rfl) rfl ?_
            refine l_skip rfl rfl rfl rfl rfl ?_
            refine l_skip rfl rfl rfl rfl rfl ?_
            refine l_on rfl rfl rfl ?_
            refine l_val (v_pickF rfl rfl) rfl ?_
            refine l_val (v_pickF rfl rfl) rfl ?_
            refine l_val (v_assign rfl) rfl ?_
            refine l_end ?_
            refine k_code ?_
            refine c_region ?_
            refine l_val (v_move rfl) rfl ?_
            refine l_val (v_add rfl rfl (by omega)) rfl ?_
            refine l_val (v_assign rfl) rfl ?_
            refine l_end ?_
            refine fun _ hFr => ⟨(k + 1), (by omega), ⟨hS, by omega⟩, Fr.sub hFr (kc (by rw [hs, inB_F p3 (by omega)]; rfl) (kc rfl (kc rfl (kc rfl (kc rfl (kc rfl (kc rfl (kc rfl (kc rfl (kc rfl kn))))))))))⟩
      · skip
        have hk : (l.take 40).take k = l.take 40 := List.take_of_length_le (by omega)
        rw [hk]
        have hcl := cnt_le (ofL (l.take 40)) (a - 3)
        have hc3 := cnt3 (l.take 40) a
        refine c_exit (fun _ _ h => h) ?_
        refine k_code ?_
        refine c_seq ?_
        refine c_seq ?_
        refine c_region ?_
        refine l_val (v_move rfl) rfl ?_
        refine l_val (v_move rfl) rfl ?_
        refine l_callK goes7 rfl hS (sames (has_any _ _ _ (by omega) (by omega))) rfl (fun w hS => ?_)
        refine l_val (v_move rfl) rfl ?_
        refine l_val (v_boolNe Try.underlying4 rfl rfl) rfl ?_
        refine l_end ?_
        refine k_code ?_
        refine c_cond rfl (fun p3 => ?_) (fun p3 => ?_)
        · exact absurd p3 (by rw [inB_has]; simp)
        · skip
          refine c_skip ?_
          refine k_code ?_
          refine c_seq ?_
          refine c_region ?_
          refine l_val (v_move rfl) rfl ?_
          refine l_end ?_
          refine k_code ?_
          refine c_cond rfl (fun p4 => ?_) (fun p4 => ?_)
          · skip
            refine c_region ?_
            refine l_val (v_move rfl) rfl ?_
            refine l_val (v_add rfl rfl (by omega)) rfl ?_
            refine l_val (v_assign rfl) rfl ?_
            refine l_end ?_
            refine k_code ?_
            refine c_region ?_
            refine l_val (v_move rfl) rfl ?_
            refine l_val (v_add rfl rfl (by omega)) rfl ?_
            refine l_val (v_assign rfl) rfl ?_
            refine l_end ?_
            refine fun _ hFr => ⟨(a + 1), (by omega), ⟨hS, by omega⟩, Fr.sub hFr (kc (by rw [hc3, p4]; rfl)  (kc (by rw [show ((a + 1 : Nat) : Int) - 3 = (a : Int) - 3 + 1 by omega]; rfl) (kc rfl (kc rfl (kc rfl (kc rfl kn))))))⟩
          · skip
            refine c_skip ?_
            refine k_code ?_
            refine c_region ?_
            refine l_val (v_move rfl) rfl ?_
            refine l_val (v_add rfl rfl (by omega)) rfl ?_
            refine l_val (v_assign rfl) rfl ?_
            refine l_end ?_
            refine fun _ hFr => ⟨(a + 1), (by omega), ⟨hS, by omega⟩, Fr.sub hFr (kc (by rw [hc3, p4]; rfl)  (kc (by rw [show ((a + 1 : Nat) : Int) - 3 = (a : Int) - 3 + 1 by omega]; rfl) (kc rfl (kc rfl (kc rfl (kc rfl kn))))))⟩
    · skip
      have ha : cnt (ofL (l.take 40)) (a - 3) = cnt (ofL (l.take 40)) 16 := by rw [show a = 23 by omega]; exact cnt20 _
      rw [ha]
      refine c_exit (fun _ _ h => h) ?_
      refine k_code ?_
      refine c_seq ?_
      refine c_region ?_
      refine l_val (v_assign rfl) rfl ?_
      refine l_end ?_
      refine k_code ?_
      refine c_seq ?_
      refine c_seq ?_
      refine c_region ?_
      refine l_val (v_assign rfl) rfl ?_
      refine l_end ?_
      refine k_code ?_
      refine c_block ?_
      refine c_loopV [1, 5, 6, 7] (fun ((k, v) : Nat × Value) => [(11, v), (12, .int .i64 k)]) (fun ((k, v) : Nat × Value) w => St No w0 w [.row 3 1 v (cnt m.toNat k) ((bl m.toNat k).map (Value.int .i64))] ∧ k ≤ 16) (fun ((k, v) : Nat × Value) => 16 - k) ((0 : Nat), Value.slice none 0 0) ⟨(hS.nil _ _), by omega⟩ (kc rfl (kc rfl (kc rfl (kc rfl (kc rfl (kc rfl kn)))))) (fun xx w hI => ?_)
      obtain ⟨k, v⟩ := xx
      obtain ⟨hS, hI⟩ := hI
      refine c_seq ?_
      refine c_seq ?_
      refine c_region ?_
      refine l_val (v_move rfl) rfl ?_
      refine l_val (v_lss rfl rfl) rfl ?_
      refine l_end ?_
      refine k_code ?_
      refine c_if rfl (fun p2 => ?_) (fun p2 => ?_)
      · skip
        skip
        refine c_skip ?_
        refine k_code ?_
        refine c_seq ?_
        refine c_block ?_
        refine c_seq ?_
        refine c_region ?_
        refine l_val (v_move rfl) rfl ?_
        refine l_val (v_move rfl) rfl ?_
        refine l_callK goes7 rfl hS (sames (has_any _ _ _ (by omega) (by omega))) rfl (fun w hS => ?_)
        refine l_end ?_
        refine k_code ?_
        refine c_cond rfl (fun p3 => ?_) (fun p3 => ?_)
        · skip
          refine c_region ?_
          refine l_val (v_move rfl) rfl ?_
          refine l_val (v_move rfl) rfl ?_
          refine l_sliceN (xs := [.tmp 64]) hS Try.underlying22 ty3 zero3 rfl rfl rfl (by simp [Value.cells, B]) rfl rfl rfl rfl (fun b1 w hS => ?_)
          refine l_append 1 hS Try.underlying22 elem3 rfl rfl rfl rfl (hS.row 0 rfl) (by simp [Value.oneCell']) (by have := cnt_le m.toNat k; unfold maxLen; omega) (by have := cnt_le m.toNat k; omega) rfl (fun va6 w hS hvva6 => ?_)
          refine l_val (v_assign rfl) rfl ?_
          refine l_end ?_
          refine k_code ?_
          refine c_region ?_
          refine l_val (v_move rfl) rfl ?_
          refine l_val (v_add rfl rfl (by omega)) rfl ?_
          refine l_val (v_assign rfl) rfl ?_
          refine l_end ?_
          refine fun _ hFr => ⟨(k + 1, va6), (by dsimp only; omega), ⟨(St.cast (hS.less (.cons _ (List.Sublist.refl _))) (by rw [bl_yes p3, cnt_yes p3, List.map_append]; rfl)), by omega⟩, Fr.sub hFr (kc rfl (kc rfl (kc rfl (kc rfl (kc rfl (kc rfl kn))))))⟩
        · skip
          refine c_skip ?_
          refine k_code ?_
          refine c_region ?_
          refine l_val (v_move rfl) rfl ?_
          refine l_val (v_add rfl rfl (by omega)) rfl ?_
          refine l_val (v_assign rfl) rfl ?_
          refine l_end ?_
          refine fun _ hFr => ⟨(k + 1, v), (by dsimp only; omega), ⟨(St.cast hS (by rw [bl_no p3 (by omega), cnt_no p3 (by omega)])), by omega⟩, Fr.sub hFr (kc rfl (kc rfl (kc rfl (kc rfl (kc rfl (kc rfl kn))))))⟩
      · skip
        obtain rfl : k = 16 := by omega
        rw [← bl_len m.toNat 16] at hS
        obtain ⟨A2, c2, rfl⟩ := row_form (hS.rowAt 0 rfl)
        refine c_exit (fun _ _ h => h) ?_
        refine k_code ?_
        refine c_seq ?_
        refine c_region ?_
        refine l_val (v_move rfl) rfl ?_
        refine l_val (v_move rfl) rfl ?_
        refine l_on rfl rfl rfl ?_
        refine l_val (v_move rfl) rfl ?_
        refine l_on rfl rfl rfl ?_
        refine l_callK goes8 rfl hS (draws (count_any _ _ (by omega) (by omega))) rfl (fun w hS => ?_)
        refine l_on rfl rfl rfl ?_
        refine l_val (v_move rfl) rfl ?_
        refine l_on rfl rfl rfl ?_
        refine l_val (v_eqlT rfl rfl (rfl)) rfl ?_
        refine l_val (v_pickT rfl rfl) rfl ?_
        refine l_val (v_move rfl) rfl ?_
        refine l_on rfl rfl rfl ?_
        refine l_val (v_move rfl) rfl ?_
        refine l_on rfl rfl rfl ?_
        refine l_callK goes6 rfl hS (of_all (bl m.toNat 16) _ _ _ (by rw [bl_len]; have := cnt_le m.toNat 16; omega) (IntsAt.of_row (hS.rowAt 0 rfl))) rfl (fun w hS => ?_)
        refine l_on rfl rfl rfl ?_
        refine l_val (v_move rfl) rfl ?_
        refine l_on rfl rfl rfl ?_
        refine l_val (v_eqlT rfl rfl ((by rw [bl_of (by omega)]; omega))) rfl ?_
        refine l_val (v_pickT rfl rfl) rfl ?_
        refine l_val (v_move rfl) rfl ?_
        refine l_on rfl rfl rfl ?_
        refine l_val (v_move rfl) rfl ?_
        refine l_on rfl rfl rfl ?_
        refine l_callK goes8 rfl hS (draws (count_any _ _ (by omega) (by omega))) rfl (fun w hS => ?_)
        refine l_on rfl rfl rfl ?_
        refine l_val (v_move rfl) rfl ?_
        refine l_on rfl rfl rfl ?_
        refine l_val (v_len Try.underlying22 rfl) rfl ?_
        refine l_on rfl rfl rfl ?_
        refine l_val (v_eqlT rfl rfl ((by rw [bl_len]; rfl))) rfl ?_
        refine l_val (v_pickT rfl rfl) rfl ?_
        refine l_val (v_assign rfl) rfl ?_
        refine l_end ?_
        refine k_code ?_
        refine c_ret1 rfl rfl ?_
        exact ⟨rfl, hS.keep⟩

end Go.Proofs.Ytdlcefiandacnaa
