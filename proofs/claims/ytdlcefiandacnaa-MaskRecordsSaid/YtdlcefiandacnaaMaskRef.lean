/- The walks of the document's Check, Record, Of for masks. -/
import Derived.Test.YtdlcefiandacnaaMaskRec
namespace Go.Proofs.Ytdlcefiandacnaa
open Go Go.RowKit E MM
set_option maxRecDepth 100000
set_option linter.unusedVariables false
set_option linter.unusedSimpArgs false

/-- A nibble is amiss: it has a tree or a hash, and no state. -/
def amiss (st tr ha : Int) (k : Nat) : Bool := !hasB st k && (hasB tr k || hasB ha k)

theorem andNot_iff {st tr ha : Int} (s0 : 0 ≤ st) (s1 : st < 65536) (t0 : 0 ≤ tr) (t1 : tr < 65536) (h0 : 0 ≤ ha) (h1 : ha < 65536) :
    bits .andNot .u16 (bits .or .u16 tr ha) st = 0 ↔ ∀ k, k < 16 → amiss st tr ha k = false := by
  obtain ⟨s, rfl⟩ := Int.eq_ofNat_of_zero_le s0
  obtain ⟨t, rfl⟩ := Int.eq_ofNat_of_zero_le t0
  obtain ⟨h, rfl⟩ := Int.eq_ofNat_of_zero_le h0
  have hs : s < 65536 := by omega
  have ht : t < 65536 := by omega
  have hh : h < 65536 := by omega
  rw [u16_or_nat _ _ ht hh, u16_andNot_nat _ _ (or_lt ht hh) hs]
  have key : ∀ i, i < 16 → ((t ||| h) &&& (65535 - s)).testBit i = amiss s t h i := by
    intro i hi
    rw [Nat.testBit_and, Nat.testBit_or, show 65535 - s = 2 ^ 16 - (s + 1) by omega, Nat.testBit_two_pow_sub_succ (by simpa using hs)]
    simp only [amiss, hasB, Int.toNat_natCast]
    have e1 : decide ((0 : Int) ≤ (i : Int)) = true := by simp
    have e2 : decide ((i : Int) < 16) = true := by simp; omega
    have e3 : decide (i < 16) = true := by simp [hi]
    simp only [e1, e2, e3, Bool.true_and]
    exact Bool.and_comm _ _
  constructor
  · intro e i hi
    rw [← key i hi]
    have : ((t ||| h) &&& (65535 - s)) = 0 := by omega
    rw [this]; exact Nat.zero_testBit i
  · intro e
    have : ((t ||| h) &&& (65535 - s)) = 0 := eq_of_bits (and_lt (or_lt ht hh)) (by omega) fun i hi => by rw [key i hi, e i hi]; exact (Nat.zero_testBit i).symm
    rw [this]; rfl

theorem all_step {p : Nat → Prop} {k : Nat} (h : ∀ i, i < k → p i) (hk : p k) : ∀ i, i < k + 1 → p i := fun i hi => by
  by_cases e : i = k
  · subst e; exact hk
  · exact h i (by omega)

theorem rcheck_any (st tr ha : Int) (A : Option Addr) (m c : Nat) (w0 : World) (s0 : 0 ≤ st) (s1 : st < 65536) (t0 : 0 ≤ tr) (t1 : tr < 65536) (h0 : 0 ≤ ha) (h1 : ha < 65536) :
    Calls Try.prog 16 [.agg #[.int .u16 st, .int .u16 tr, .int .u16 ha, .slice A m c]].toArray w0 fun e w' => e = .returned (.int .i64 (chkI st tr ha m)) ∧ Keep No w0 w' := by
  have hiff := andNot_iff s0 s1 t0 t1 h0 h1
  refine enter (n := 44) Try.func16 rfl rfl rfl ?_
  have hS := St.start No w0
  refine c_seq ?_
  refine c_region ?_
  refine l_box hS rfl rfl rfl (fun b1 w hS => ?_)
  refine l_val (v_assign rfl) rfl ?_
  refine l_end ?_
  refine k_code ?_
  refine c_seq ?_
  refine c_seq ?_
  refine q_region hS mixed (by kernel_rfl) ?_
  refine q_val (v_fieldAddr field31_0 rfl) rfl ?_
  refine q_val (v_load ty23 rfl (fun _ h => h.cell 0 rfl rfl)) rfl ?_
  refine q_callK goes18 rfl (fun w hS => rcount_any _ _ (by assumption) (by assumption)) rfl ?_
  refine q_val (v_lss rfl rfl) rfl ?_
  refine q_val (v_move rfl) rfl ?_
  refine q_part 11 rfl (fun p1 => ?_) (fun p1 => ?_)
  · skip
    refine q_skip rfl rfl rfl rfl rfl ?_
    refine q_skip rfl rfl rfl rfl rfl ?_
    refine q_skip rfl rfl rfl rfl rfl ?_
    refine q_skip rfl rfl rfl rfl rfl ?_
    refine q_skip rfl rfl rfl rfl rfl ?_
    refine q_skip rfl rfl rfl rfl rfl ?_
    refine q_skip rfl rfl rfl rfl rfl ?_
    refine q_val (v_pickT rfl rfl) rfl ?_
    refine q_end (fun w hS => ?_)
    refine k_code ?_
    refine c_yes rfl ?_
    refine c_seq ?_
    refine c_region ?_
    refine l_val (v_assign rfl) rfl ?_
    refine l_end ?_
    refine k_code ?_
    refine c_ret1 rfl rfl ?_
    exact ⟨by rw [chkA p1], hS.keep⟩
  · skip
    refine q_on rfl rfl rfl ?_
    refine q_val (v_fieldAddr field31_3 rfl) rfl ?_
    refine q_on rfl rfl rfl ?_
    refine q_val (v_load ty29 rfl (fun _ h => h.cell 0 rfl rfl)) rfl ?_
    refine q_on rfl rfl rfl ?_
    refine q_val (v_len Try.underlying29 rfl) rfl ?_
    refine q_on rfl rfl rfl ?_
    refine q_val (v_fieldAddr field31_2 rfl) rfl ?_
    refine q_on rfl rfl rfl ?_
    refine q_val (v_load ty23 rfl (fun _ h => h.cell 0 rfl rfl)) rfl ?_
    refine q_on rfl rfl rfl ?_
    refine q_callK goes18 rfl (fun w hS => rcount_any _ _ (by assumption) (by assumption)) rfl ?_
    refine q_on rfl rfl rfl ?_
    refine q_val (v_neq rfl rfl) rfl ?_
    refine q_val (v_pickF rfl rfl) rfl ?_
    refine q_end (fun w hS => ?_)
    refine k_code ?_
    refine c_if rfl (fun p2 => ?_) (fun p2 => ?_)
    · skip
      refine c_seq ?_
      refine c_region ?_
      refine l_val (v_assign rfl) rfl ?_
      refine l_end ?_
      refine k_code ?_
      refine c_ret1 rfl rfl ?_
      exact ⟨by rw [chkC p2], hS.keep⟩
    · skip
      refine c_skip ?_
      refine k_code ?_
      refine c_seq ?_
      refine c_seq ?_
      refine c_region ?_
      refine l_val (v_assign rfl) rfl ?_
      refine l_end ?_
      refine k_code ?_
      refine c_block ?_
      refine c_loopV [1] (fun (k : Nat) => [(3, .int .i64 k)]) (fun (k : Nat) w => St No w0 w _ ∧ (k ≤ 16 ∧ ∀ i, i < k → amiss st tr ha i = false)) (fun (k : Nat) => 16 - k) (0 : Nat) ⟨hS, ⟨by omega, fun i hi => absurd hi (Nat.not_lt_zero i)⟩⟩ (kc rfl (kc rfl kn)) (fun k w hI => ?_)
      obtain ⟨hS, ⟨hk, hall⟩⟩ := hI
      refine c_seq ?_
      refine c_seq ?_
      refine c_region ?_
      refine l_val (v_move rfl) rfl ?_
      refine l_val (v_lss rfl rfl) rfl ?_
      refine l_end ?_
      refine k_code ?_
      refine c_if rfl (fun p3 => ?_) (fun p3 => ?_)
      · skip
        refine c_skip ?_
        refine k_code ?_
        refine c_seq ?_
        refine c_block ?_
        refine c_seq ?_
        refine c_region ?_
        refine l_val (v_fieldAddr field31_0 rfl) rfl ?_
        refine l_val (v_load ty23 rfl (here (hS.cell 0 rfl rfl))) rfl ?_
        refine l_val (v_move rfl) rfl ?_
        refine l_callK goes14 rfl hS (sames (rhas_any _ _ _ s0 s1)) rfl (fun w hS => ?_)
        refine l_val (v_assign rfl) rfl ?_
        refine l_end ?_
        refine k_code ?_
        refine c_seq ?_
        refine c_region ?_
        refine l_val (v_fieldAddr field31_1 rfl) rfl ?_
        refine l_val (v_load ty23 rfl (here (hS.cell 0 rfl rfl))) rfl ?_
        refine l_val (v_move rfl) rfl ?_
        refine l_callK goes14 rfl hS (sames (rhas_any _ _ _ t0 t1)) rfl (fun w hS => ?_)
        refine l_val (v_assign rfl) rfl ?_
        refine l_end ?_
        refine k_code ?_
        refine c_seq ?_
        refine c_region ?_
        refine l_val (v_fieldAddr field31_2 rfl) rfl ?_
        refine l_val (v_load ty23 rfl (here (hS.cell 0 rfl rfl))) rfl ?_
        refine l_val (v_move rfl) rfl ?_
        refine l_callK goes14 rfl hS (sames (rhas_any _ _ _ h0 h1)) rfl (fun w hS => ?_)
        refine l_val (v_assign rfl) rfl ?_
        refine l_end ?_
        refine k_code ?_
        refine c_seq ?_
        refine c_region ?_
        refine l_val (v_move rfl) rfl ?_
        refine l_val (v_not rfl) rfl ?_
        refine l_val (v_move rfl) rfl ?_
        refine l_partB 38 rfl (fun p4 => ?_) (fun p4 => ?_)
        · skip
          refine l_on rfl rfl rfl ?_
          refine l_val (v_move rfl) rfl ?_
          refine l_on rfl rfl rfl ?_
          refine l_val (v_move rfl) rfl ?_
          refine l_partB 40 rfl (fun p5 => ?_) (fun p5 => ?_)
          · skip
            refine l_skip rfl rfl rfl rfl rfl ?_
            refine l_on rfl rfl rfl ?_
            refine l_val (v_pickT rfl rfl) rfl ?_
            refine l_val (v_pickT rfl rfl) rfl ?_
            refine l_end ?_
            refine k_code ?_
            refine c_yes rfl ?_
            refine c_seq ?_
            refine c_region ?_
            refine l_val (v_assign rfl) rfl ?_
            refine l_end ?_
            refine k_code ?_
            refine c_ret1 rfl rfl ?_
            exact ⟨by rw [chkB (fun h => by have := (hiff.1 h) k (by omega); simp [amiss, p4, p5] at this)], hS.keep⟩
          · skip
            refine l_on rfl rfl rfl ?_
            refine l_val (v_move rfl) rfl ?_
            refine l_on rfl rfl rfl ?_
            refine l_val (v_pickF rfl rfl) rfl ?_
            refine l_val (v_pickT rfl rfl) rfl ?_
            refine l_end ?_
            refine k_code ?_
            refine c_cond rfl (fun p6 => ?_) (fun p6 => ?_)
            · skip
              refine c_seq ?_
              refine c_region ?_
              refine l_val (v_assign rfl) rfl ?_
              refine l_end ?_
              refine k_code ?_
              refine c_ret1 rfl rfl ?_
              exact ⟨by rw [chkB (fun h => by have := (hiff.1 h) k (by omega); simp [amiss, p4, p6] at this)], hS.keep⟩
            · skip
              refine c_skip ?_
              refine k_code ?_
              refine c_region ?_
              refine l_val (v_move rfl) rfl ?_
              refine l_val (v_add rfl rfl (by omega)) rfl ?_
              refine l_val (v_assign rfl) rfl ?_
              refine l_end ?_
              refine fun _ hFr => ⟨(k + 1), (by omega), ⟨hS, ⟨by omega, all_step hall (by simp [amiss, p5, p6])⟩⟩, Fr.sub hFr (kc rfl (kc rfl kn))⟩
        · skip
          refine l_skip rfl rfl rfl rfl rfl ?_
          refine l_skip rfl rfl rfl rfl rfl ?_
          refine l_skipU rfl rfl rfl rfl ?_
          refine l_skip rfl rfl rfl rfl rfl ?_
          refine l_val (v_pickF rfl rfl) rfl ?_
          refine l_end ?_
          refine k_code ?_
          refine c_no rfl ?_
          refine c_skip ?_
          refine k_code ?_
          refine c_region ?_
          refine l_val (v_move rfl) rfl ?_
          refine l_val (v_add rfl rfl (by omega)) rfl ?_
          refine l_val (v_assign rfl) rfl ?_
          refine l_end ?_
          refine fun _ hFr => ⟨(k + 1), (by omega), ⟨hS, ⟨by omega, all_step hall (by simp [amiss, p4])⟩⟩, Fr.sub hFr (kc rfl (kc rfl kn))⟩
      · skip
        refine c_exit (fun _ _ h => h) ?_
        refine k_code ?_
        refine c_seq ?_
        refine c_region ?_
        refine l_val (v_assign rfl) rfl ?_
        refine l_end ?_
        refine k_code ?_
        refine c_ret1 rfl rfl ?_
        exact ⟨by rw [chk0 p1 (fun h => h (hiff.2 (by rw [show k = 16 by omega] at hall; exact hall))) p2], hS.keep⟩

theorem str_cat (a b : List UInt8) : Value.string ((⟨a.toArray⟩ : ByteArray) ++ ⟨b.toArray⟩) = .string ⟨(a ++ b).toArray⟩ := by
  congr 1
theorem size_mk (a : List UInt8) : (⟨a.toArray⟩ : ByteArray).size = a.length := by simp [ByteArray.size]
theorem take_getD {α : Type} (x : List α) (d : α) (k : Nat) (h : k < x.length) : x.take (k + 1) = x.take k ++ [x.getD k d] := by
  rw [List.take_succ_eq_append_getElem h]; simp [List.getD, h]
theorem byteOf {w : World} {a : Addr} {x : List UInt8} {k : Nat} (h : ∀ j v, (x.map B)[j]? = some v → w.cell? (a.add j) = some v) (hk : k < x.length) : w.cell? (a.add (((k : Nat) : Int).toNat * 1)) = some (B (x.getD k 0)) := by
  rw [Int.toNat_natCast, Nat.mul_one]
  exact h k _ (by simp [List.getD, hk])
theorem flat_take {hs : List (List UInt8)} (h : ∀ x ∈ hs, x.length = 32) {i : Nat} (hi : i ≤ hs.length) : (hs.take i).flatten.length = 32 * i := by
  rw [flat_len fun x hx => h x (List.mem_of_mem_take hx), List.length_take, Nat.min_eq_left hi]

set_option maxHeartbeats 1000000 in
theorem rrecord_any (st tr ha : Int) (A : Option Addr) (hs : List (List UInt8)) (c : Nat) (w0 : World) (s0 : 0 ≤ st) (s1 : st < 65536) (t0 : 0 ≤ tr) (t1 : tr < 65536) (h0 : 0 ≤ ha) (h1 : ha < 65536) (hh : HsAt w0 A hs) (hn : hs.length ≤ 65536) :
    Calls Try.prog 10 [.agg #[.int .u16 st, .int .u16 tr, .int .u16 ha, .slice A hs.length c]].toArray w0 fun e w' =>
      e = .returned (.tuple #[.string (if chk st tr ha hs.length then ⟨(recL st tr ha hs).toArray⟩ else ⟨#[]⟩), .int .i64 (chkI st tr ha hs.length)]) ∧ Keep No w0 w' := by
  refine enter (n := 62) Try.func10 rfl rfl rfl ?_
  have hS := St.start No w0
  refine c_seq ?_
  refine c_region ?_
  refine l_box hS rfl rfl rfl (fun b1 w hS => ?_)
  refine l_val (v_assign rfl) rfl ?_
  refine l_val (v_assign rfl) rfl ?_
  refine l_end ?_
  refine k_code ?_
  refine c_seq ?_
  refine c_region ?_
  refine l_val (v_loadN tyN31 rfl rfl (hereN (hS.row 0 rfl))) rfl ?_
  refine l_callK goes16 rfl hS (rcheck_any _ _ _ _ _ _ _ s0 s1 t0 t1 h0 h1) rfl (fun w hS => ?_)
  refine l_val (v_assign rfl) rfl ?_
  refine l_end ?_
  refine k_code ?_
  refine c_seq ?_
  refine c_seq ?_
  refine c_region ?_
  refine l_val (v_move rfl) rfl ?_
  refine l_val (v_neq rfl rfl) rfl ?_
  refine l_end ?_
  refine k_code ?_
  refine c_if rfl (fun p1 => ?_) (fun p1 => ?_)
  · skip
    refine c_seq ?_
    refine c_region ?_
    refine l_val (v_move rfl) rfl ?_
    refine l_val (v_assign rfl) rfl ?_
    refine l_val (v_assign rfl) rfl ?_
    refine l_end ?_
    refine k_code ?_
    refine c_ret2 rfl rfl rfl ?_
    exact ⟨by rw [if_neg (by unfold chkI at p1; intro hc; rw [if_pos hc] at p1; exact p1 rfl)], hS.keep⟩
  · skip
    refine c_skip ?_
    refine k_code ?_
    refine c_seq ?_
    refine c_region ?_
    refine l_val (v_fieldAddr field31_0 rfl) rfl ?_
    refine l_val (v_load ty23 rfl (here (hS.cell 0 rfl rfl))) rfl ?_
    refine l_val (v_shr rfl rfl (by decide)) rfl ?_
    refine l_val (v_conv Try.underlying23 Try.underlying5 rfl) rfl ?_
    refine l_val (v_fieldAddr field31_0 rfl) rfl ?_
    refine l_val (v_load ty23 rfl (here (hS.cell 0 rfl rfl))) rfl ?_
    refine l_val (v_int rfl rfl rfl) rfl ?_
    refine l_val (v_conv Try.underlying23 Try.underlying5 rfl) rfl ?_
    refine l_val (v_fieldAddr field31_1 rfl) rfl ?_
    refine l_val (v_load ty23 rfl (here (hS.cell 0 rfl rfl))) rfl ?_
    refine l_val (v_shr rfl rfl (by decide)) rfl ?_
    refine l_val (v_conv Try.underlying23 Try.underlying5 rfl) rfl ?_
    refine l_val (v_fieldAddr field31_1 rfl) rfl ?_
    refine l_val (v_load ty23 rfl (here (hS.cell 0 rfl rfl))) rfl ?_
    refine l_val (v_int rfl rfl rfl) rfl ?_
    refine l_val (v_conv Try.underlying23 Try.underlying5 rfl) rfl ?_
    refine l_val (v_fieldAddr field31_2 rfl) rfl ?_
    refine l_val (v_load ty23 rfl (here (hS.cell 0 rfl rfl))) rfl ?_
    refine l_val (v_shr rfl rfl (by decide)) rfl ?_
    refine l_val (v_conv Try.underlying23 Try.underlying5 rfl) rfl ?_
    refine l_val (v_fieldAddr field31_2 rfl) rfl ?_
    refine l_val (v_load ty23 rfl (here (hS.cell 0 rfl rfl))) rfl ?_
    refine l_val (v_int rfl rfl rfl) rfl ?_
    refine l_val (v_conv Try.underlying23 Try.underlying5 rfl) rfl ?_
    refine l_sliceN (xs := [.tmp 16, .tmp 20, .tmp 24, .tmp 28, .tmp 32, .tmp 36]) hS Try.underlying41 ty5 zero5 rfl rfl rfl (by simp [Value.cells, B]) rfl rfl rfl rfl (fun b2 w hS => ?_)
    refine l_val (v_b2s (bs := head6 st tr ha) Try.underlying41 Try.underlying5 Try.underlying9 rfl rfl (hereN ((by simp only [head6, List.map_cons, List.map_nil]; rw [hiB_raw s0, hiB_raw t0, hiB_raw h0, loB_raw2 s0 s1, loB_raw2 t0 t1, loB_raw2 h0 h1]; exact hS.row 0 rfl)))) rfl ?_
    refine l_val (v_assign rfl) rfl ?_
    refine l_end ?_
    refine k_code ?_
    refine c_seq ?_
    refine c_seq ?_
    refine c_region ?_
    refine l_val (v_assign rfl) rfl ?_
    refine l_end ?_
    refine k_code ?_
    refine c_block ?_
    refine c_loopV [1, 2, 3] (fun (i : Nat) => [(5, .string ⟨(head6 st tr ha ++ (hs.take i).flatten).toArray⟩), (6, .int .i64 i)]) (fun (i : Nat) w => St No w0 w [.blk b1 (.cells #[.int .u16 st, .int .u16 tr, .int .u16 ha, .slice A hs.length c] 31 (0, 0))] ∧ i ≤ hs.length) (fun (i : Nat) => hs.length - i) (0 : Nat) ⟨(hS.less (List.sublist_cons_self _ _)), Nat.zero_le _⟩ (kc rfl (kc rfl (kc rfl (kc rfl (kc rfl kn))))) (fun i w hI => ?_)
    obtain ⟨hS, hI⟩ := hI
    refine c_seq ?_
    refine c_seq ?_
    refine c_region ?_
    refine l_val (v_move rfl) rfl ?_
    refine l_val (v_fieldAddr field31_3 rfl) rfl ?_
    refine l_val (v_load ty29 rfl (here (hS.cell 0 rfl rfl))) rfl ?_
    refine l_val (v_len Try.underlying29 rfl) rfl ?_
    refine l_val (v_lss rfl rfl) rfl ?_
    refine l_end ?_
    refine k_code ?_
    refine c_if rfl (fun p2 => ?_) (fun p2 => ?_)
    · skip
      obtain ⟨ad, x, hA, -, hx, hf, hcell⟩ := hh.get (k := i) (by omega)
      have hfl := flat_take hh.1 (i := i) (by omega)
      refine c_skip ?_
      refine k_code ?_
      refine c_seq ?_
      refine c_block ?_
      refine c_seq ?_
      refine c_region ?_
      refine l_val (v_assign rfl) rfl ?_
      refine l_end ?_
      refine k_code ?_
      refine c_block ?_
      refine c_loopV [1, 2, 3, 6, 39, 40, 41, 42, 43] (fun (k : Nat) => [(5, .string ⟨(head6 st tr ha ++ (hs.take i).flatten ++ x.take k).toArray⟩), (7, .int .i64 k)]) (fun (k : Nat) w => St No w0 w _ ∧ k ≤ 32) (fun (k : Nat) => 32 - k) (0 : Nat) ⟨hS, Nat.zero_le _⟩ (kc (by rw [List.take_zero, List.append_nil]; rfl) (kc rfl (kc rfl (kc rfl (kc rfl (kc rfl (kc rfl (kc rfl (kc rfl (kc rfl (kc rfl kn))))))))))) (fun k w hI => ?_)
      obtain ⟨hS, hI⟩ := hI
      refine c_seq ?_
      refine c_seq ?_
      refine c_region ?_
      refine l_val (v_move rfl) rfl ?_
      refine l_val (v_lss rfl rfl) rfl ?_
      refine l_end ?_
      refine k_code ?_
      refine c_if rfl (fun p3 => ?_) (fun p3 => ?_)
      · skip
        refine c_skip ?_
        refine k_code ?_
        refine c_seq ?_
        refine c_block ?_
        refine c_region ?_
        refine l_val (v_move rfl) rfl ?_
        refine l_val (v_fieldAddr field31_3 rfl) rfl ?_
        refine l_val (v_load ty29 rfl (here (hS.cell 0 rfl rfl))) rfl ?_
        refine l_val (v_move rfl) rfl ?_
        refine l_val (v_move rfl) rfl ?_
        refine l_val (v_indexAddrO hA Try.underlying29 tyN44.size rfl rfl (by omega) (by omega)) rfl ?_
        refine l_val (v_indexAddrA Try.underlying44 ty5.size rfl rfl (by omega) (by omega)) rfl ?_
        refine l_val (v_load ty5 rfl (here (hS.old (byteOf hcell (k := k) (by omega))))) rfl ?_
        refine l_sliceN (xs := [.tmp 57]) hS Try.underlying41 ty5 zero5 rfl rfl rfl (by simp [Value.cells, B]) rfl rfl rfl rfl (fun b3 w hS => ?_)
        refine l_val (v_b2s (bs := [x.getD k 0]) Try.underlying41 Try.underlying5 Try.underlying9 rfl rfl (hereN ((hS.row 0 rfl)))) rfl ?_
        refine l_val (v_cat rfl rfl (by rw [size_mk, size_mk]; simp [head6, hfl]; omega)) rfl ?_
        refine l_val (v_assign rfl) rfl ?_
        refine l_end ?_
        refine k_code ?_
        refine c_region ?_
        refine l_val (v_move rfl) rfl ?_
        refine l_val (v_add rfl rfl (by omega)) rfl ?_
        refine l_val (v_assign rfl) rfl ?_
        refine l_end ?_
        refine fun _ hFr => ⟨(k + 1), (by omega), ⟨(hS.less (List.sublist_cons_self _ _)), by omega⟩, Fr.sub hFr (kc (congrArg some ((str_cat _ _).trans (by rw [List.append_assoc, ← take_getD x 0 k (by omega)]))) (kc rfl (kc rfl (kc rfl (kc rfl (kc rfl (kc rfl (kc rfl (kc rfl (kc rfl (kc rfl kn)))))))))))⟩
      · skip
        refine c_exit (fun _ _ h => h) ?_
        refine k_code ?_
        refine c_region ?_
        refine l_val (v_move rfl) rfl ?_
        refine l_val (v_add rfl rfl (by omega)) rfl ?_
        refine l_val (v_assign rfl) rfl ?_
        refine l_end ?_
        refine fun _ hFr => ⟨(i + 1), (by omega), ⟨hS, by omega⟩, Fr.sub hFr (kc (by rw [hf, ← List.append_assoc, ← (show x.take k = x from List.take_of_length_le (by omega)), List.take_take, Nat.min_self]; rfl) (kc rfl (kc rfl (kc rfl (kc rfl kn)))))⟩
    · skip
      refine c_exit (fun _ _ h => h) ?_
      refine k_code ?_
      refine c_seq ?_
      refine c_region ?_
      refine l_val (v_move rfl) rfl ?_
      refine l_val (v_assign rfl) rfl ?_
      refine l_val (v_assign rfl) rfl ?_
      refine l_end ?_
      refine k_code ?_
      refine c_ret2 rfl rfl rfl ?_
      exact ⟨by rw [rec_leaf p1, show hs.take i = hs from List.take_of_length_le (by omega)], hS.keep⟩

end Go.Proofs.Ytdlcefiandacnaa
