/- The walks of Check, Size, Fits, of both sides; of the comparison of nodes. -/
import Derived.Test.YtndchgmgcjebiaaNodeBase
import Derived.Laws.StructEq
namespace Go.Proofs.Ytndchgmgcjebiaa
open Go Go.RowKit E
set_option maxRecDepth 100000
set_option linter.unusedVariables false
set_option linter.unusedSimpArgs false

def cel0 : Cel := ⟨⟨#[]⟩, ⟨#[]⟩, 0, 0⟩
def cAt (cs : List Cel) (i : Nat) : Cel := cs.getD i cel0
theorem cAt_some {cs : List Cel} {k : Nat} (h : k < cs.length) : cs[k]? = some (cAt cs k) := by unfold cAt; rw [List.getD, List.getElem?_eq_getElem h]; rfl
theorem cAt_get {cs : List Cel} {k : Nat} (h : k < cs.length) : cAt cs k = cs[k] := by have := cAt_some h; rw [List.getElem?_eq_getElem h] at this; exact (Option.some.inj this).symm
theorem cAt_mem {cs : List Cel} {k : Nat} (h : k < cs.length) : cAt cs k ∈ cs := List.mem_of_getElem? (cAt_some h)
theorem cell_k {w : World} {A : Option Addr} {cs : List Cel} (h : Lies w A (cellsOf cs)) {k : Nat} (hk : k < cs.length) :
    ∃ ad, A = some ad ∧ ∀ j v, (enc (cAt cs k))[j]? = some v → w.cell? ((ad.add (((k : Nat) : Int).toNat * 4)).add j) = some v := by
  obtain ⟨ad, h1, h2⟩ := cell_at h (cAt_some hk)
  exact ⟨ad, h1, by rw [Int.toNat_natCast]; exact h2⟩
theorem cell_p {w : World} {A : Option Addr} {cs : List Cel} (h : Lies w A (cellsOf cs)) {k : Nat} (hk : k < cs.length) (h0 : 0 < k) :
    ∃ ad, A = some ad ∧ ∀ j v, (enc (cAt cs (k - 1)))[j]? = some v → w.cell? ((ad.add ((((k : Nat) : Int) - 1).toNat * 4)).add j) = some v := by
  obtain ⟨ad, h1, h2⟩ := cell_at h (cAt_some (show k - 1 < cs.length by omega))
  exact ⟨ad, h1, by rw [show (((k : Nat) : Int) - 1).toNat = k - 1 by omega]; exact h2⟩

def okAt (leaf : Bool) (cs : List Cel) (i : Nat) : Bool := mayS leaf (cAt cs i) && (decide (i = 0) || decide (slt (cAt cs (i - 1)).key (cAt cs i).key))
def Good (leaf : Bool) (cs : List Cel) : Prop := ∀ i, i < cs.length → okAt leaf cs i = true
instance (leaf : Bool) (cs : List Cel) : Decidable (Good leaf cs) := inferInstanceAs (Decidable (∀ i, i < cs.length → okAt leaf cs i = true))
def chkI (leaf : Bool) (cs : List Cel) : Int := if Good leaf cs then 0 else 1
theorem chk_bad {leaf : Bool} {cs : List Cel} {k : Nat} (hk : k < cs.length) (h : okAt leaf cs k = false) : (1 : Int) = chkI leaf cs := by
  unfold chkI; rw [if_neg fun g => by rw [g k hk] at h; cases h]
theorem chk_good {leaf : Bool} {cs : List Cel} (h : ∀ i, i < cs.length → okAt leaf cs i = true) : (0 : Int) = chkI leaf cs := by
  exact (if_pos h : chkI leaf cs = 0).symm
theorem ok_step {leaf : Bool} {cs : List Cel} {k : Nat} (h : ∀ i, i < k → okAt leaf cs i = true) (hk : okAt leaf cs k = true) : ∀ i, i < k + 1 → okAt leaf cs i = true := by
  intro i hi
  by_cases e : i = k
  · rw [e]; exact hk
  · exact h i (by omega)
theorem ok_no {leaf : Bool} {cs : List Cel} {k : Nat} (h : mayS leaf (cAt cs k) = false) : okAt leaf cs k = false := by unfold okAt; rw [h]; rfl
theorem ok_zero {leaf : Bool} {cs : List Cel} {k : Nat} (h : mayS leaf (cAt cs k) = true) (h0 : k = 0) : okAt leaf cs k = true := by unfold okAt; rw [h, decide_eq_true h0]; rfl
theorem ok_lt {leaf : Bool} {cs : List Cel} {k : Nat} (h : mayS leaf (cAt cs k) = true) (h0 : slt (cAt cs (k - 1)).key (cAt cs k).key) : okAt leaf cs k = true := by unfold okAt; rw [h, decide_eq_true h0]; simp
theorem ok_ge {leaf : Bool} {cs : List Cel} {k : Nat} (h0 : ¬ k = 0) (h : ¬ slt (cAt cs (k - 1)).key (cAt cs k).key) : okAt leaf cs k = false := by unfold okAt; rw [decide_eq_false h0, decide_eq_false h]; simp
theorem notnot {b : Bool} (h : (!b) = false) : b = true := by cases b <;> simp_all
theorem not_tt {b : Bool} (h : (!b) = true) : b = false := by cases b <;> simp_all

set_option maxHeartbeats 1000000 in
theorem check_any (leaf : Bool) (A : Option Addr) (cs : List Cel) (c : Nat) (w0 : World) (hl : Lies w0 A (cellsOf cs)) (hn : cs.length ≤ 4611686018427387904) :
    Calls Try.prog 12 [.agg #[.bool leaf, .slice A cs.length c]].toArray w0 fun e w' => e = .returned (.int .i64 (chkI leaf cs)) ∧ Keep No w0 w' := by
  refine enter (n := 35) Try.func12 rfl rfl rfl ?_
  have hS := St.start No w0
  refine c_seq ?_
  refine c_region ?_
  refine l_box (cs := #[_, _]) hS rfl rfl rfl (fun b1 w hS => ?_)
  refine l_val (v_assign rfl) rfl ?_
  refine l_end ?_
  refine k_code ?_
  refine c_seq ?_
  refine c_seq ?_
  refine c_region ?_
  refine l_val (v_fieldX (o' := 1) field24_1 rfl rfl) rfl ?_
  refine l_val (v_load ty22 rfl (here (hS.cellX 0 (k := 1) rfl rfl))) rfl ?_
  refine l_val (v_len Try.underlying22 rfl) rfl ?_
  refine l_val (v_move rfl) rfl ?_
  refine l_end ?_
  refine k_code ?_
  refine c_block ?_
  refine c_loopV [(1, _), (6, _), (7, _)] (fun (k : Nat) => [(8, .int .i64 k)]) (fun (k : Nat) w => St No w0 w [.blk b1 (.cells #[.bool leaf, .slice A cs.length c] 24 (0, 0))] ∧ (k ≤ cs.length ∧ ∀ i, i < k → okAt leaf cs i = true)) (fun (k : Nat) => cs.length - k) (0 : Nat) ⟨hS, ⟨Nat.zero_le _, fun i h => absurd h (Nat.not_lt_zero _)⟩⟩ (kc rfl (kc rfl (kc rfl (kc rfl kn)))) (fun k w hI => ?_)
  obtain ⟨hS, ⟨hk, hI⟩⟩ := hI
  refine c_seq ?_
  refine c_region ?_
  refine l_val (v_lss rfl rfl) rfl ?_
  refine l_end ?_
  refine k_code ?_
  refine c_seq ?_
  refine c_if rfl (fun p1 => ?_) (fun p1 => ?_)
  · skip
    obtain ⟨ad, hA, hcell⟩ := cell_k hl (k := k) (by omega)
    refine c_skip ?_
    refine k_code ?_
    refine c_seq ?_
    refine c_block ?_
    refine c_seq ?_
    refine c_region ?_
    refine l_val (v_move rfl) rfl ?_
    refine l_val (v_indexAddrO hA Try.underlying22 tyN27.size rfl rfl (by omega) (by omega)) rfl ?_
    refine l_val (v_loadN (cs := enc (cAt cs k)) tyN27 rfl rfl (hereN (fun j v hj => hS.old (hcell j v hj)))) rfl ?_
    refine l_alloc (cs := #[_, _, _, _]) hS zero27 rfl rfl (fun b2 w hS => ?_)
    refine l_val (v_assign rfl) rfl ?_
    refine l_storeNX (cs' := #[_, _, _, _]) (L' := (_ :: _)) 0 hS tyN27 rfl rfl rfl rfl rfl rfl rfl rfl (fun w hS => ?_)
    refine l_end ?_
    refine k_code ?_
    refine c_seq ?_
    refine q_region hS mixed (by kernel_rfl) ?_
    refine q_val (v_fieldX (o' := 0) field24_0 rfl rfl) rfl ?_
    refine q_val (v_load ty4 rfl (fun _ h => h.cellX 1 (k := 0) rfl rfl)) rfl ?_
    refine q_val (v_loadW tyN27 rfl rfl (fun _ h => h.rowX 0 rfl)) rfl ?_
    refine q_callK goes34 rfl (fun w hS => may_any _ _ _) rfl ?_
    refine q_val (v_not rfl) rfl ?_
    refine q_val (v_move rfl) rfl ?_
    refine q_partB 18 rfl (fun p2 => ?_) (fun p2 => ?_)
    · skip
      refine q_skip rfl rfl rfl rfl rfl ?_
      refine q_skip rfl rfl rfl rfl rfl ?_
      refine q_skip rfl rfl rfl rfl rfl ?_
      refine q_skipU rfl rfl rfl rfl ?_
      refine q_skipU rfl rfl rfl rfl ?_
      refine q_skipU rfl rfl rfl rfl ?_
      refine q_skipU rfl rfl rfl rfl ?_
      refine q_skipU rfl rfl rfl rfl ?_
      refine q_skipU rfl rfl rfl rfl ?_
      refine q_skipU rfl rfl rfl rfl ?_
      refine q_skipU rfl rfl rfl rfl ?_
      refine q_skipU rfl rfl rfl rfl ?_
      refine q_skipU rfl rfl rfl rfl ?_
      refine q_skip rfl rfl rfl rfl rfl ?_
      refine q_val (v_pickT rfl rfl) rfl ?_
      refine q_end (fun w hS => ?_)
      refine k_code ?_
      refine c_yes rfl ?_
      refine c_seq ?_
      refine c_region ?_
      refine l_val (v_assign rfl) rfl ?_
      refine l_end ?_
      refine k_code ?_
      refine c_ret1 rfl rfl ?_
      exact ⟨ri (chk_bad (by omega) (ok_no (not_tt p2))), hS.keep⟩
    · skip
      refine q_on rfl rfl rfl ?_
      refine q_val (v_move rfl) rfl ?_
      refine q_on rfl rfl rfl ?_
      refine q_val (v_gtr rfl rfl) rfl ?_
      refine q_on rfl rfl rfl ?_
      refine q_val (v_move rfl) rfl ?_
      refine q_part 21 rfl (fun p3 => ?_) (fun p3 => ?_)
      · skip
        obtain ⟨ad2, hA2, hcell2⟩ := cell_p hl (k := k) (by omega) (by omega)
        refine q_on rfl rfl rfl ?_
        refine q_val (v_fieldX (o' := 0) field27_0 rfl rfl) rfl ?_
        refine q_on rfl rfl rfl ?_
        refine q_val (v_load ty9 rfl (fun _ h => h.cellX 0 (k := 0) rfl rfl)) rfl ?_
        refine q_on rfl rfl rfl ?_
        refine q_val (v_fieldX (o' := 1) field24_1 rfl rfl) rfl ?_
        refine q_on rfl rfl rfl ?_
        refine q_val (v_load ty22 rfl (fun _ h => h.cellX 1 (k := 1) rfl rfl)) rfl ?_
        refine q_on rfl rfl rfl ?_
        refine q_val (v_move rfl) rfl ?_
        refine q_on rfl rfl rfl ?_
        refine q_val (v_sub rfl rfl (by omega)) rfl ?_
        refine q_on rfl rfl rfl ?_
        refine q_val (v_indexAddrO hA2 Try.underlying22 tyN27.size rfl rfl (by omega) (by omega)) rfl ?_
        refine q_on rfl rfl rfl ?_
        refine q_val (v_fieldAddr field27_0 rfl) rfl ?_
        refine q_on rfl rfl rfl ?_
        refine q_val (v_load ty9 rfl (fun _ h => h.old (hcell2 0 _ rfl))) rfl ?_
        refine q_on rfl rfl rfl ?_
        refine q_val (v_sleq rfl rfl) rfl ?_
        refine q_on rfl rfl rfl ?_
        refine q_val (v_pickT rfl rfl) rfl ?_
        refine q_val (v_pickF rfl rfl) rfl ?_
        refine q_end (fun w hS => ?_)
        refine k_code ?_
        refine c_if rfl (fun p4 => ?_) (fun p4 => ?_)
        · skip
          refine c_seq ?_
          refine c_region ?_
          refine l_val (v_assign rfl) rfl ?_
          refine l_end ?_
          refine k_code ?_
          refine c_ret1 rfl rfl ?_
          exact ⟨ri (chk_bad (by omega) (ok_ge (by omega) p4)), hS.keep⟩
        · skip
          refine c_skip ?_
          refine k_code ?_
          refine c_region ?_
          refine l_val (v_add rfl rfl (by omega)) rfl ?_
          refine l_val (v_move rfl) rfl ?_
          refine l_end ?_
          refine fun _ hFr => ⟨(k + 1), (by omega), ⟨(hS.less (.cons _ (List.Sublist.refl _))), ⟨by omega, ok_step hI (ok_lt (notnot p2) (Decidable.not_not.1 p4))⟩⟩, Fr.sub hFr (kc rfl (kc rfl (kc rfl (kc rfl kn))))⟩
      · skip
        refine q_skip rfl rfl rfl rfl rfl ?_
        refine q_skip rfl rfl rfl rfl rfl ?_
        refine q_skip rfl rfl rfl rfl rfl ?_
        refine q_skip rfl rfl rfl rfl rfl ?_
        refine q_skip rfl rfl rfl rfl rfl ?_
        refine q_skip rfl rfl rfl rfl rfl ?_
        refine q_skip rfl rfl rfl rfl rfl ?_
        refine q_skip rfl rfl rfl rfl rfl ?_
        refine q_skip rfl rfl rfl rfl rfl ?_
        refine q_skip rfl rfl rfl rfl rfl ?_
        refine q_on rfl rfl rfl ?_
        refine q_val (v_pickF rfl rfl) rfl ?_
        refine q_val (v_pickF rfl rfl) rfl ?_
        refine q_end (fun w hS => ?_)
        refine k_code ?_
        refine c_no rfl ?_
        refine c_skip ?_
        refine k_code ?_
        refine c_region ?_
        refine l_val (v_add rfl rfl (by omega)) rfl ?_
        refine l_val (v_move rfl) rfl ?_
        refine l_end ?_
        refine fun _ hFr => ⟨(k + 1), (by omega), ⟨(hS.less (.cons _ (List.Sublist.refl _))), ⟨by omega, ok_step hI (ok_zero (notnot p2) (by omega))⟩⟩, Fr.sub hFr (kc rfl (kc rfl (kc rfl (kc rfl kn))))⟩
  · skip
    refine c_exit ex_here ?_
    refine k_code ?_
    refine c_seq ?_
    refine c_region ?_
    refine l_val (v_assign rfl) rfl ?_
    refine l_end ?_
    refine k_code ?_
    refine c_ret1 rfl rfl ?_
    exact ⟨ri (chk_good (fun i hi => hI i (by omega))), hS.keep⟩

set_option maxHeartbeats 1000000 in
theorem rcheck_any (leaf : Bool) (A : Option Addr) (cs : List Cel) (c : Nat) (w0 : World) (hl : Lies w0 A (cellsOf cs)) (hn : cs.length ≤ 4611686018427387904) :
    Calls Try.prog 13 [.agg #[.bool leaf, .slice A cs.length c]].toArray w0 fun e w' => e = .returned (.int .i64 (chkI leaf cs)) ∧ Keep No w0 w' := by
  refine enter (n := 42) Try.func13 rfl rfl rfl ?_
  have hS := St.start No w0
  refine c_seq ?_
  refine c_region ?_
  refine l_box (cs := #[_, _]) hS rfl rfl rfl (fun b1 w hS => ?_)
  refine l_val (v_assign rfl) rfl ?_
  refine l_end ?_
  refine k_code ?_
  refine c_seq ?_
  refine c_seq ?_
  refine c_region ?_
  refine l_val (v_assign rfl) rfl ?_
  refine l_end ?_
  refine k_code ?_
  refine c_block ?_
  refine c_loopV [(1, _)] (fun (k : Nat) => [(3, .int .i64 k)]) (fun (k : Nat) w => St No w0 w [.blk b1 (.cells #[.bool leaf, .slice A cs.length c] 24 (0, 0))] ∧ (k ≤ cs.length ∧ ∀ i, i < k → okAt leaf cs i = true)) (fun (k : Nat) => cs.length - k) (0 : Nat) ⟨hS, ⟨Nat.zero_le _, fun i h => absurd h (Nat.not_lt_zero _)⟩⟩ (kc rfl (kc rfl kn)) (fun k w hI => ?_)
  obtain ⟨hS, ⟨hk, hI⟩⟩ := hI
  refine c_seq ?_
  refine c_seq ?_
  refine c_region ?_
  refine l_val (v_move rfl) rfl ?_
  refine l_val (v_fieldX (o' := 1) field24_1 rfl rfl) rfl ?_
  refine l_val (v_load ty22 rfl (here (hS.cellX 0 (k := 1) rfl rfl))) rfl ?_
  refine l_val (v_len Try.underlying22 rfl) rfl ?_
  refine l_val (v_lss rfl rfl) rfl ?_
  refine l_end ?_
  refine k_code ?_
  refine c_if rfl (fun p1 => ?_) (fun p1 => ?_)
  · skip
    obtain ⟨ad, hA, hcell⟩ := cell_k hl (k := k) (by omega)
    refine c_skip ?_
    refine k_code ?_
    refine c_seq ?_
    refine c_block ?_
    refine c_seq ?_
    refine q_region hS mixed (by kernel_rfl) ?_
    refine q_val (v_fieldX (o' := 0) field24_0 rfl rfl) rfl ?_
    refine q_val (v_load ty4 rfl (fun _ h => h.cellX 0 (k := 0) rfl rfl)) rfl ?_
    refine q_val (v_fieldX (o' := 1) field24_1 rfl rfl) rfl ?_
    refine q_val (v_load ty22 rfl (fun _ h => h.cellX 0 (k := 1) rfl rfl)) rfl ?_
    refine q_val (v_move rfl) rfl ?_
    refine q_val (v_indexAddrO hA Try.underlying22 tyN27.size rfl rfl (by omega) (by omega)) rfl ?_
    refine q_val (v_loadN (cs := enc (cAt cs k)) tyN27 rfl rfl (fun _ h => fun j v hj => h.old (hcell j v hj))) rfl ?_
    refine q_callK goes35 rfl (fun w hS => rmay_any _ _ _) rfl ?_
    refine q_val (v_assign rfl) rfl ?_
    refine q_end (fun w hS => ?_)
    refine k_code ?_
    refine c_seq ?_
    refine q_region hS mixed (by kernel_rfl) ?_
    refine q_val (v_move rfl) rfl ?_
    refine q_val (v_not rfl) rfl ?_
    refine q_val (v_move rfl) rfl ?_
    refine q_partB 22 rfl (fun p2 => ?_) (fun p2 => ?_)
    · skip
      refine q_skip rfl rfl rfl rfl rfl ?_
      refine q_skip rfl rfl rfl rfl rfl ?_
      refine q_skip rfl rfl rfl rfl rfl ?_
      refine q_skipU rfl rfl rfl rfl ?_
      refine q_skipU rfl rfl rfl rfl ?_
      refine q_skipU rfl rfl rfl rfl ?_
      refine q_skipU rfl rfl rfl rfl ?_
      refine q_skipU rfl rfl rfl rfl ?_
      refine q_skipU rfl rfl rfl rfl ?_
      refine q_skipU rfl rfl rfl rfl ?_
      refine q_skipU rfl rfl rfl rfl ?_
      refine q_skipU rfl rfl rfl rfl ?_
      refine q_skipU rfl rfl rfl rfl ?_
      refine q_skipU rfl rfl rfl rfl ?_
      refine q_skipU rfl rfl rfl rfl ?_
      refine q_skipU rfl rfl rfl rfl ?_
      refine q_skipU rfl rfl rfl rfl ?_
      refine q_skip rfl rfl rfl rfl rfl ?_
      refine q_val (v_pickT rfl rfl) rfl ?_
      refine q_end (fun w hS => ?_)
      refine k_code ?_
      refine c_yes rfl ?_
      refine c_seq ?_
      refine c_region ?_
      refine l_val (v_assign rfl) rfl ?_
      refine l_end ?_
      refine k_code ?_
      refine c_ret1 rfl rfl ?_
      exact ⟨ri (chk_bad (by omega) (ok_no (not_tt p2))), hS.keep⟩
    · skip
      refine q_on rfl rfl rfl ?_
      refine q_val (v_move rfl) rfl ?_
      refine q_on rfl rfl rfl ?_
      refine q_val (v_gtr rfl rfl) rfl ?_
      refine q_on rfl rfl rfl ?_
      refine q_val (v_move rfl) rfl ?_
      refine q_part 25 rfl (fun p3 => ?_) (fun p3 => ?_)
      · skip
        obtain ⟨ad2, hA2, hcell2⟩ := cell_p hl (k := k) (by omega) (by omega)
        refine q_on rfl rfl rfl ?_
        refine q_val (v_fieldX (o' := 1) field24_1 rfl rfl) rfl ?_
        refine q_on rfl rfl rfl ?_
        refine q_val (v_load ty22 rfl (fun _ h => h.cellX 0 (k := 1) rfl rfl)) rfl ?_
        refine q_on rfl rfl rfl ?_
        refine q_val (v_move rfl) rfl ?_
        refine q_on rfl rfl rfl ?_
        refine q_val (v_indexAddrO hA Try.underlying22 tyN27.size rfl rfl (by omega) (by omega)) rfl ?_
        refine q_on rfl rfl rfl ?_
        refine q_val (v_fieldAddr field27_0 rfl) rfl ?_
        refine q_on rfl rfl rfl ?_
        refine q_val (v_load ty9 rfl (fun _ h => h.old (hcell 0 _ rfl))) rfl ?_
        refine q_on rfl rfl rfl ?_
        refine q_val (v_fieldX (o' := 1) field24_1 rfl rfl) rfl ?_
        refine q_on rfl rfl rfl ?_
        refine q_val (v_load ty22 rfl (fun _ h => h.cellX 0 (k := 1) rfl rfl)) rfl ?_
        refine q_on rfl rfl rfl ?_
        refine q_val (v_move rfl) rfl ?_
        refine q_on rfl rfl rfl ?_
        refine q_val (v_sub rfl rfl (by omega)) rfl ?_
        refine q_on rfl rfl rfl ?_
        refine q_val (v_indexAddrO hA2 Try.underlying22 tyN27.size rfl rfl (by omega) (by omega)) rfl ?_
        refine q_on rfl rfl rfl ?_
        refine q_val (v_fieldAddr field27_0 rfl) rfl ?_
        refine q_on rfl rfl rfl ?_
        refine q_val (v_load ty9 rfl (fun _ h => h.old (hcell2 0 _ rfl))) rfl ?_
        refine q_on rfl rfl rfl ?_
        refine q_val (v_sleq rfl rfl) rfl ?_
        refine q_on rfl rfl rfl ?_
        refine q_val (v_pickT rfl rfl) rfl ?_
        refine q_val (v_pickF rfl rfl) rfl ?_
        refine q_end (fun w hS => ?_)
        refine k_code ?_
        refine c_if rfl (fun p4 => ?_) (fun p4 => ?_)
        · skip
          refine c_seq ?_
          refine c_region ?_
          refine l_val (v_assign rfl) rfl ?_
          refine l_end ?_
          refine k_code ?_
          refine c_ret1 rfl rfl ?_
          exact ⟨ri (chk_bad (by omega) (ok_ge (by omega) p4)), hS.keep⟩
        · skip
          refine c_skip ?_
          refine k_code ?_
          refine c_region ?_
          refine l_val (v_move rfl) rfl ?_
          refine l_val (v_add rfl rfl (by omega)) rfl ?_
          refine l_val (v_assign rfl) rfl ?_
          refine l_end ?_
          refine fun _ hFr => ⟨(k + 1), (by omega), ⟨hS, ⟨by omega, ok_step hI (ok_lt (notnot p2) (Decidable.not_not.1 p4))⟩⟩, Fr.sub hFr (kc rfl (kc rfl kn))⟩
      · skip
        refine q_skip rfl rfl rfl rfl rfl ?_
        refine q_skip rfl rfl rfl rfl rfl ?_
        refine q_skip rfl rfl rfl rfl rfl ?_
        refine q_skip rfl rfl rfl rfl rfl ?_
        refine q_skip rfl rfl rfl rfl rfl ?_
        refine q_skip rfl rfl rfl rfl rfl ?_
        refine q_skip rfl rfl rfl rfl rfl ?_
        refine q_skip rfl rfl rfl rfl rfl ?_
        refine q_skip rfl rfl rfl rfl rfl ?_
        refine q_skip rfl rfl rfl rfl rfl ?_
        refine q_skip rfl rfl rfl rfl rfl ?_
        refine q_skip rfl rfl rfl rfl rfl ?_
        refine q_skip rfl rfl rfl rfl rfl ?_
        refine q_skip rfl rfl rfl rfl rfl ?_
        refine q_on rfl rfl rfl ?_
        refine q_val (v_pickF rfl rfl) rfl ?_
        refine q_val (v_pickF rfl rfl) rfl ?_
        refine q_end (fun w hS => ?_)
        refine k_code ?_
        refine c_no rfl ?_
        refine c_skip ?_
        refine k_code ?_
        refine c_region ?_
        refine l_val (v_move rfl) rfl ?_
        refine l_val (v_add rfl rfl (by omega)) rfl ?_
        refine l_val (v_assign rfl) rfl ?_
        refine l_end ?_
        refine fun _ hFr => ⟨(k + 1), (by omega), ⟨hS, ⟨by omega, ok_step hI (ok_zero (notnot p2) (by omega))⟩⟩, Fr.sub hFr (kc rfl (kc rfl kn))⟩
  · skip
    refine c_exit ex_here ?_
    refine k_code ?_
    refine c_seq ?_
    refine c_region ?_
    refine l_val (v_assign rfl) rfl ?_
    refine l_end ?_
    refine k_code ?_
    refine c_ret1 rfl rfl ?_
    exact ⟨ri (chk_good (fun i hi => hI i (by omega))), hS.keep⟩

/-- How many bytes the first k cells have. -/
def sizeTo (leaf : Bool) (cs : List Cel) : Nat → Nat
  | 0 => 2
  | k + 1 => sizeTo leaf cs k + bytesS leaf (cAt cs k)
def sizeS (leaf : Bool) (cs : List Cel) : Nat := sizeTo leaf cs cs.length
theorem sizeTo_le {leaf : Bool} {cs : List Cel} (h : Smalls cs) : ∀ {k : Nat}, k ≤ cs.length → sizeTo leaf cs k ≤ 2 + k * 200000
  | 0, _ => Nat.le_refl _
  | k + 1, hk => by
    have := sizeTo_le (leaf := leaf) h (show k ≤ cs.length by omega)
    have h2 := bytesS_le (leaf := leaf) (h.2 _ (cAt_mem (show k < cs.length by omega)))
    simp only [sizeTo]; omega

set_option maxHeartbeats 1000000 in
theorem size_any (leaf : Bool) (A : Option Addr) (cs : List Cel) (c : Nat) (w0 : World) (hl : Lies w0 A (cellsOf cs)) (hs : Smalls cs) :
    Calls Try.prog 14 [.agg #[.bool leaf, .slice A cs.length c]].toArray w0 fun e w' => e = .returned (.int .i64 (sizeS leaf cs : Nat)) ∧ Keep No w0 w' := by
  have hn := hs.1
  refine enter (n := 21) Try.func14 rfl rfl rfl ?_
  have hS := St.start No w0
  refine c_seq ?_
  refine c_region ?_
  refine l_box (cs := #[_, _]) hS rfl rfl rfl (fun b1 w hS => ?_)
  refine l_val (v_assign rfl) rfl ?_
  refine l_end ?_
  refine k_code ?_
  refine c_seq ?_
  refine c_region ?_
  refine l_val (v_assign rfl) rfl ?_
  refine l_end ?_
  refine k_code ?_
  refine c_seq ?_
  refine c_seq ?_
  refine c_region ?_
  refine l_val (v_fieldX (o' := 1) field24_1 rfl rfl) rfl ?_
  refine l_val (v_load ty22 rfl (here (hS.cellX 0 (k := 1) rfl rfl))) rfl ?_
  refine l_val (v_len Try.underlying22 rfl) rfl ?_
  refine l_val (v_move rfl) rfl ?_
  refine l_end ?_
  refine k_code ?_
  refine c_block ?_
  refine c_loopV [(1, _), (2, _), (7, _), (8, _)] (fun (k : Nat) => [(3, .int .i64 (sizeTo leaf cs k : Nat)), (9, .int .i64 k)]) (fun (k : Nat) w => St No w0 w [.blk b1 (.cells #[.bool leaf, .slice A cs.length c] 24 (0, 0))] ∧ k ≤ cs.length) (fun (k : Nat) => cs.length - k) (0 : Nat) ⟨hS, Nat.zero_le _⟩ (kc rfl (kc rfl (kc rfl (kc rfl (kc rfl (kc rfl kn)))))) (fun k w hI => ?_)
  obtain ⟨hS, hI⟩ := hI
  have hsz := sizeTo_le (leaf := leaf) hs hI
  refine c_seq ?_
  refine c_region ?_
  refine l_val (v_lss rfl rfl) rfl ?_
  refine l_end ?_
  refine k_code ?_
  refine c_seq ?_
  refine c_if rfl (fun p1 => ?_) (fun p1 => ?_)
  · skip
    obtain ⟨ad, hA, hcell⟩ := cell_k hl (k := k) (by omega)
    have hb := bytesS_le (leaf := leaf) (hs.2 _ (cAt_mem (show k < cs.length by omega)))
    refine c_skip ?_
    refine k_code ?_
    refine c_seq ?_
    refine c_block ?_
    refine c_seq ?_
    refine c_region ?_
    refine l_val (v_indexAddrO hA Try.underlying22 tyN27.size rfl rfl (by omega) (by omega)) rfl ?_
    refine l_val (v_loadN (cs := enc (cAt cs k)) tyN27 rfl rfl (hereN (fun j v hj => hS.old (hcell j v hj)))) rfl ?_
    refine l_alloc (cs := #[_, _, _, _]) hS zero27 rfl rfl (fun b2 w hS => ?_)
    refine l_storeNX (cs' := #[_, _, _, _]) (L' := (_ :: _)) 0 hS tyN27 rfl rfl rfl rfl rfl rfl rfl rfl (fun w hS => ?_)
    refine l_end ?_
    refine k_code ?_
    refine c_region ?_
    refine l_val (v_move rfl) rfl ?_
    refine l_val (v_fieldX (o' := 0) field24_0 rfl rfl) rfl ?_
    refine l_val (v_load ty4 rfl (here (hS.cellX 1 (k := 0) rfl rfl))) rfl ?_
    refine l_val (v_loadW tyN27 rfl rfl (hereN (hS.rowX 0 rfl))) rfl ?_
    refine l_callK goes36 rfl hS (bytes_any _ _ _ (hs.2 _ (cAt_mem (show k < cs.length by omega)))) rfl (fun w hS => ?_)
    refine l_val (v_add rfl rfl (by omega)) rfl ?_
    refine l_val (v_assign rfl) rfl ?_
    refine l_end ?_
    refine k_code ?_
    refine c_region ?_
    refine l_val (v_add rfl rfl (by omega)) rfl ?_
    refine l_val (v_move rfl) rfl ?_
    refine l_end ?_
    refine fun _ hFr => ⟨(k + 1), (by omega), ⟨(hS.less (.cons _ (List.Sublist.refl _))), by omega⟩, Fr.sub hFr (kc rfl (kc rfl (kc rfl (kc rfl (kc rfl (kc rfl kn))))))⟩
  · skip
    refine c_exit ex_here ?_
    refine k_code ?_
    refine c_seq ?_
    refine c_region ?_
    refine l_val (v_move rfl) rfl ?_
    refine l_val (v_assign rfl) rfl ?_
    refine l_end ?_
    refine k_code ?_
    refine c_ret1 rfl rfl ?_
    exact ⟨ri (by unfold sizeS; rw [show k = cs.length by omega]), hS.keep⟩
set_option maxHeartbeats 1000000 in
theorem rsize_any (leaf : Bool) (A : Option Addr) (cs : List Cel) (c : Nat) (w0 : World) (hl : Lies w0 A (cellsOf cs)) (hs : Smalls cs) :
    Calls Try.prog 15 [.agg #[.bool leaf, .slice A cs.length c]].toArray w0 fun e w' => e = .returned (.int .i64 (sizeS leaf cs : Nat)) ∧ Keep No w0 w' := by
  have hn := hs.1
  refine enter (n := 23) Try.func15 rfl rfl rfl ?_
  have hS := St.start No w0
  refine c_seq ?_
  refine c_region ?_
  refine l_box (cs := #[_, _]) hS rfl rfl rfl (fun b1 w hS => ?_)
  refine l_val (v_assign rfl) rfl ?_
  refine l_end ?_
  refine k_code ?_
  refine c_seq ?_
  refine c_region ?_
  refine l_val (v_assign rfl) rfl ?_
  refine l_end ?_
  refine k_code ?_
  refine c_seq ?_
  refine c_seq ?_
  refine c_region ?_
  refine l_val (v_assign rfl) rfl ?_
  refine l_end ?_
  refine k_code ?_
  refine c_block ?_
  refine c_loopV [(1, _), (2, _)] (fun (k : Nat) => [(3, .int .i64 (sizeTo leaf cs k : Nat)), (4, .int .i64 k)]) (fun (k : Nat) w => St No w0 w [.blk b1 (.cells #[.bool leaf, .slice A cs.length c] 24 (0, 0))] ∧ k ≤ cs.length) (fun (k : Nat) => cs.length - k) (0 : Nat) ⟨hS, Nat.zero_le _⟩ (kc rfl (kc rfl (kc rfl (kc rfl kn)))) (fun k w hI => ?_)
  obtain ⟨hS, hI⟩ := hI
  have hsz := sizeTo_le (leaf := leaf) hs hI
  refine c_seq ?_
  refine c_seq ?_
  refine c_region ?_
  refine l_val (v_move rfl) rfl ?_
  refine l_val (v_fieldX (o' := 1) field24_1 rfl rfl) rfl ?_
  refine l_val (v_load ty22 rfl (here (hS.cellX 0 (k := 1) rfl rfl))) rfl ?_
  refine l_val (v_len Try.underlying22 rfl) rfl ?_
  refine l_val (v_lss rfl rfl) rfl ?_
  refine l_end ?_
  refine k_code ?_
  refine c_if rfl (fun p1 => ?_) (fun p1 => ?_)
  · skip
    obtain ⟨ad, hA, hcell⟩ := cell_k hl (k := k) (by omega)
    have hb := bytesS_le (leaf := leaf) (hs.2 _ (cAt_mem (show k < cs.length by omega)))
    refine c_skip ?_
    refine k_code ?_
    refine c_seq ?_
    refine c_block ?_
    refine q_region hS mixed (by kernel_rfl) ?_
    refine q_val (v_move rfl) rfl ?_
    refine q_val (v_fieldX (o' := 0) field24_0 rfl rfl) rfl ?_
    refine q_val (v_load ty4 rfl (fun _ h => h.cellX 0 (k := 0) rfl rfl)) rfl ?_
    refine q_val (v_fieldX (o' := 1) field24_1 rfl rfl) rfl ?_
    refine q_val (v_load ty22 rfl (fun _ h => h.cellX 0 (k := 1) rfl rfl)) rfl ?_
    refine q_val (v_move rfl) rfl ?_
    refine q_val (v_indexAddrO hA Try.underlying22 tyN27.size rfl rfl (by omega) (by omega)) rfl ?_
    refine q_val (v_loadN (cs := enc (cAt cs k)) tyN27 rfl rfl (fun _ h => fun j v hj => h.old (hcell j v hj))) rfl ?_
    refine q_callK goes37 rfl (fun w hS => rcell_any _ _ _ (hs.2 _ (cAt_mem (show k < cs.length by omega)))) rfl ?_
    refine q_val (v_add rfl rfl (by omega)) rfl ?_
    refine q_val (v_assign rfl) rfl ?_
    refine q_end (fun w hS => ?_)
    refine k_code ?_
    refine c_region ?_
    refine l_val (v_move rfl) rfl ?_
    refine l_val (v_add rfl rfl (by omega)) rfl ?_
    refine l_val (v_assign rfl) rfl ?_
    refine l_end ?_
    refine fun _ hFr => ⟨(k + 1), (by omega), ⟨hS, by omega⟩, Fr.sub hFr (kc rfl (kc rfl (kc rfl (kc rfl kn))))⟩
  · skip
    refine c_exit ex_here ?_
    refine k_code ?_
    refine c_seq ?_
    refine c_region ?_
    refine l_val (v_move rfl) rfl ?_
    refine l_val (v_assign rfl) rfl ?_
    refine l_end ?_
    refine k_code ?_
    refine c_ret1 rfl rfl ?_
    exact ⟨ri (by unfold sizeS; rw [show k = cs.length by omega]), hS.keep⟩
theorem fits_any (leaf : Bool) (A : Option Addr) (cs : List Cel) (c : Nat) (w0 : World) (hl : Lies w0 A (cellsOf cs)) (hs : Smalls cs) :
    Calls Try.prog 16 [.agg #[.bool leaf, .slice A cs.length c]].toArray w0 fun e w' => e = .returned (.bool (decide (sizeS leaf cs ≤ 1013))) ∧ Keep No w0 w' := by
  refine enter (n := 6) Try.func16 rfl rfl rfl ?_
  have hS := St.start No w0
  refine c_seq ?_
  refine c_region ?_
  refine l_box (cs := #[_, _]) hS rfl rfl rfl (fun b1 w hS => ?_)
  refine l_val (v_assign rfl) rfl ?_
  refine l_end ?_
  refine k_code ?_
  refine c_seq ?_
  refine c_region ?_
  refine l_val (v_loadW tyN24 rfl rfl (hereN (hS.rowX 0 rfl))) rfl ?_
  refine l_callK goes14 rfl hS (size_any _ _ _ _ _ (hl.keep hS.keep) hs) rfl (fun w hS => ?_)
  refine l_val (v_leq rfl rfl) rfl ?_
  refine l_val (v_assign rfl) rfl ?_
  refine l_end ?_
  refine k_code ?_
  refine c_ret1 rfl rfl ?_
  exact ⟨rb (decide_eq_decide.2 (by omega)), hS.keep⟩

/-! ### The comparison of cells -/

theorem run_eqStr {T : TypeId} (hT : Try.prog.underlying T = some .string) (a b : ByteArray) (dd : Nat) (w : World) : (Op.equalIn (dd + 1) T (.string a) (.string b)).run Try.prog w = .ok (decide (a = b)) w := by
  simp only [Op.equalIn, Sem.run_bind, run_underlying hT, Result.andThen_ok, Sem.run_pure]
  congr 1
  rw [beq_toListBytes, str_beq]
theorem run_eqInt {T : TypeId} (hT : Try.prog.underlying T = some (.int .i64)) (a b : Int) (dd : Nat) (w : World) : (Op.equalIn (dd + 1) T (.int .i64 a) (.int .i64 b)).run Try.prog w = .ok (decide (a = b)) w := by
  rw [run_equalIn_int w dd T .i64 .i64 _ _ hT]; rfl
theorem run_eqCel (a b : Cel) (dd : Nat) (w : World) : (Op.equalIn (dd + 2) 27 (.agg (enc a).toArray) (.agg (enc b).toArray)).run Try.prog w = .ok (decide (a = b)) w := by
  rw [run_equalIn_struct w (dd + 1) _ _ _ (by kernel_rfl) (by kernel_rfl)]
  unfold Program.fieldsOf
  rw [Try.underlying27]
  simp only [Op.eqFields, part, Sem.run_bind, Sem.run_ite, Result.andThen_ok, ty9.agg, ty3.agg, run_eqStr Try.underlying9, run_eqInt Try.underlying3, enc]
  obtain ⟨k1, v1, p1, s1⟩ := a
  obtain ⟨k2, v2, p2, s2⟩ := b
  by_cases h1 : k1 = k2
  · by_cases h2 : v1 = v2
    · by_cases h3 : p1 = p2
      · by_cases h4 : s1 = s2
        · simp [h1, h2, h3, h4, run_eqStr Try.underlying9, run_eqInt Try.underlying3]
        · simp [h1, h2, h3, h4, run_eqStr Try.underlying9, run_eqInt Try.underlying3]
      · simp [h1, h2, h3, run_eqStr Try.underlying9, run_eqInt Try.underlying3]
    · simp [h1, h2, run_eqStr Try.underlying9, run_eqInt Try.underlying3]
  · simp [h1, run_eqStr Try.underlying9, run_eqInt Try.underlying3]
section
variable {n : Nm} {E : Env} {C : World → Prop} {d : Option Nat} {ty : TypeId} {pos : String} {aft : Array Edge} {g : Option (Nat × Bool)}
theorem v_ceql {U : TypeId} {x y : Operand} {a b : Cel} (hx : ev E x = some (.agg (enc a).toArray)) (hy : ev E y = some (.agg (enc b).toArray)) :
    Val Try.prog n E ⟨d, .binOp .eql 27 x y U, ty, pos, aft, g⟩ C (.bool (decide (a = b))) := by
  have hq : Try.prog.eqGuardType Try.prog.depth 27 = false := by kernel_rfl
  intro f w ha _
  simp only [execOp, ha.ev hx, ha.ev hy]
  simp only [Sem.run_bind, run_guard_agg hq, Result.andThen_ok]
  have := run_eqCel a b 9998 w
  simp [binOp, Op.equal, Op.maxDepth, this]
theorem v_cneq {U : TypeId} {x y : Operand} {a b : Cel} (hx : ev E x = some (.agg (enc a).toArray)) (hy : ev E y = some (.agg (enc b).toArray)) :
    Val Try.prog n E ⟨d, .binOp .neq 27 x y U, ty, pos, aft, g⟩ C (.bool (decide (¬ a = b))) := by
  have hq : Try.prog.eqGuardType Try.prog.depth 27 = false := by kernel_rfl
  intro f w ha _
  simp only [execOp, ha.ev hx, ha.ev hy]
  simp only [Sem.run_bind, run_guard_agg hq, Result.andThen_ok]
  have := run_eqCel a b 9998 w
  simp [binOp, Op.equal, Op.maxDepth, this]
end

theorem step_eq {a b : List Cel} {k : Nat} (h : ∀ i, i < k → cAt a i = cAt b i) (hk : cAt a k = cAt b k) : ∀ i, i < k + 1 → cAt a i = cAt b i := by
  intro i hi
  by_cases e : i = k
  · rw [e]; exact hk
  · exact h i (by omega)
theorem same_all {a b : List Cel} (hl : a.length = b.length) (h : ∀ i, i < a.length → cAt a i = cAt b i) : a = b := by
  apply List.ext_getElem hl
  intro i h1 h2
  have := h i h1
  rwa [cAt_get h1, cAt_get h2] at this
theorem same_leafA {l l' : Bool} {cs cs' : List Cel} (h : (l != l') = true) : decide (l = l' ∧ cs = cs') = false := decide_eq_false fun e => by rw [e.1] at h; simp at h
set_option maxHeartbeats 1000000 in
theorem same_any (l l' : Bool) (A A' : Option Addr) (cs cs' : List Cel) (c c' : Nat) (w0 : World) (hl : Lies w0 A (cellsOf cs)) (hl' : Lies w0 A' (cellsOf cs')) (hn : cs.length ≤ 4611686018427387904) (hn' : cs'.length ≤ 4611686018427387904) :
    Calls Try.prog 19 [.agg #[.bool l, .slice A cs.length c], .agg #[.bool l', .slice A' cs'.length c']].toArray w0 fun e w' => e = .returned (.bool (decide (l = l' ∧ cs = cs'))) ∧ Keep No w0 w' := by
  refine enter (n := 38) Try.func19 rfl rfl rfl ?_
  have hS := St.start No w0
  refine c_seq ?_
  refine c_region ?_
  refine l_box (cs := #[_, _]) hS rfl rfl rfl (fun b1 w hS => ?_)
  refine l_box (cs := #[_, _]) hS rfl rfl rfl (fun b2 w hS => ?_)
  refine l_val (v_assign rfl) rfl ?_
  refine l_end ?_
  refine k_code ?_
  refine c_seq ?_
  refine c_seq ?_
  refine c_region ?_
  refine l_val (v_fieldX (o' := 0) field24_0 rfl rfl) rfl ?_
  refine l_val (v_load ty4 rfl (here (hS.cellX 1 (k := 0) rfl rfl))) rfl ?_
  refine l_val (v_fieldX (o' := 0) field24_0 rfl rfl) rfl ?_
  refine l_val (v_load ty4 rfl (here (hS.cellX 0 (k := 0) rfl rfl))) rfl ?_
  refine l_val (v_boolNe Try.underlying4 rfl rfl) rfl ?_
  refine l_val (v_move rfl) rfl ?_
  refine l_partB 11 rfl (fun p1 => ?_) (fun p1 => ?_)
  · skip
    refine l_skip rfl rfl rfl rfl rfl ?_
    refine l_skip rfl rfl rfl rfl rfl ?_
    refine l_skip rfl rfl rfl rfl rfl ?_
    refine l_skip rfl rfl rfl rfl rfl ?_
    refine l_skip rfl rfl rfl rfl rfl ?_
    refine l_skip rfl rfl rfl rfl rfl ?_
    refine l_skip rfl rfl rfl rfl rfl ?_
    refine l_val (v_pickT rfl rfl) rfl ?_
    refine l_end ?_
    refine k_code ?_
    refine c_yes rfl ?_
    refine c_seq ?_
    refine c_region ?_
    refine l_val (v_assign rfl) rfl ?_
    refine l_end ?_
    refine k_code ?_
    refine c_ret1 rfl rfl ?_
    exact ⟨rb (same_leafA p1).symm, hS.keep⟩
  · skip
    refine l_on rfl rfl rfl ?_
    refine l_val (v_fieldX (o' := 1) field24_1 rfl rfl) rfl ?_
    refine l_on rfl rfl rfl ?_
    refine l_val (v_load ty22 rfl (here (hS.cellX 1 (k := 1) rfl rfl))) rfl ?_
    refine l_on rfl rfl rfl ?_
    refine l_val (v_len Try.underlying22 rfl) rfl ?_
    refine l_on rfl rfl rfl ?_
    refine l_val (v_fieldX (o' := 1) field24_1 rfl rfl) rfl ?_
    refine l_on rfl rfl rfl ?_
    refine l_val (v_load ty22 rfl (here (hS.cellX 0 (k := 1) rfl rfl))) rfl ?_
    refine l_on rfl rfl rfl ?_
    refine l_val (v_len Try.underlying22 rfl) rfl ?_
    refine l_on rfl rfl rfl ?_
    refine l_val (v_neq rfl rfl) rfl ?_
    refine l_val (v_pickF rfl rfl) rfl ?_
    refine l_end ?_
    refine k_code ?_
    refine c_if rfl (fun p2 => ?_) (fun p2 => ?_)
    · skip
      refine c_seq ?_
      refine c_region ?_
      refine l_val (v_assign rfl) rfl ?_
      refine l_end ?_
      refine k_code ?_
      refine c_ret1 rfl rfl ?_
      exact ⟨rb (decide_eq_false (fun e => p2 (by rw [e.2]))).symm, hS.keep⟩
    · skip
      refine c_skip ?_
      refine k_code ?_
      refine c_seq ?_
      refine c_seq ?_
      refine c_region ?_
      refine l_val (v_assign rfl) rfl ?_
      refine l_end ?_
      refine k_code ?_
      refine c_block ?_
      refine c_loopV [(2, _), (3, _)] (fun (k : Nat) => [(5, .int .i64 k)]) (fun (k : Nat) w => St No w0 w [.blk b2 (.cells #[.bool l', .slice A' cs'.length c'] 24 (0, 0)), .blk b1 (.cells #[.bool l, .slice A cs.length c] 24 (0, 0))] ∧ (k ≤ cs.length ∧ ∀ i, i < k → cAt cs i = cAt cs' i)) (fun (k : Nat) => cs.length - k) (0 : Nat) ⟨hS, ⟨Nat.zero_le _, fun i h => absurd h (Nat.not_lt_zero _)⟩⟩ (kc rfl (kc rfl (kc rfl kn))) (fun k w hI => ?_)
      obtain ⟨hS, ⟨hk, hI⟩⟩ := hI
      refine c_seq ?_
      refine c_seq ?_
      refine c_region ?_
      refine l_val (v_move rfl) rfl ?_
      refine l_val (v_fieldX (o' := 1) field24_1 rfl rfl) rfl ?_
      refine l_val (v_load ty22 rfl (here (hS.cellX 1 (k := 1) rfl rfl))) rfl ?_
      refine l_val (v_len Try.underlying22 rfl) rfl ?_
      refine l_val (v_lss rfl rfl) rfl ?_
      refine l_end ?_
      refine k_code ?_
      refine c_if rfl (fun p3 => ?_) (fun p3 => ?_)
      · skip
        obtain ⟨ad, hA, hcell⟩ := cell_k hl (k := k) (by omega)
        obtain ⟨ad2, hA2, hcell2⟩ := cell_k hl' (k := k) (by omega)
        refine c_skip ?_
        refine k_code ?_
        refine c_seq ?_
        refine c_block ?_
        refine c_seq ?_
        refine q_region hS mixed (by kernel_rfl) ?_
        refine q_val (v_fieldX (o' := 1) field24_1 rfl rfl) rfl ?_
        refine q_val (v_load ty22 rfl (fun _ h => h.cellX 1 (k := 1) rfl rfl)) rfl ?_
        refine q_val (v_move rfl) rfl ?_
        refine q_val (v_indexAddrO hA Try.underlying22 tyN27.size rfl rfl (by omega) (by omega)) rfl ?_
        refine q_val (v_loadN (cs := enc (cAt cs k)) tyN27 rfl rfl (fun _ h => fun j v hj => h.old (hcell j v hj))) rfl ?_
        refine q_val (v_fieldX (o' := 1) field24_1 rfl rfl) rfl ?_
        refine q_val (v_load ty22 rfl (fun _ h => h.cellX 0 (k := 1) rfl rfl)) rfl ?_
        refine q_val (v_move rfl) rfl ?_
        refine q_val (v_indexAddrO hA2 Try.underlying22 tyN27.size rfl rfl (by omega) (by omega)) rfl ?_
        refine q_val (v_loadN (cs := enc (cAt cs' k)) tyN27 rfl rfl (fun _ h => fun j v hj => h.old (hcell2 j v hj))) rfl ?_
        refine q_val (v_cneq rfl rfl) rfl ?_
        refine q_end (fun w hS => ?_)
        refine k_code ?_
        refine c_if rfl (fun p4 => ?_) (fun p4 => ?_)
        · skip
          refine c_seq ?_
          refine c_region ?_
          refine l_val (v_assign rfl) rfl ?_
          refine l_end ?_
          refine k_code ?_
          refine c_ret1 rfl rfl ?_
          exact ⟨rb (decide_eq_false (fun e => p4 (by rw [e.2]))).symm, hS.keep⟩
        · skip
          refine c_skip ?_
          refine k_code ?_
          refine c_region ?_
          refine l_val (v_move rfl) rfl ?_
          refine l_val (v_add rfl rfl (by omega)) rfl ?_
          refine l_val (v_assign rfl) rfl ?_
          refine l_end ?_
          refine fun _ hFr => ⟨(k + 1), (by omega), ⟨hS, ⟨by omega, step_eq hI (Decidable.not_not.1 p4)⟩⟩, Fr.sub hFr (kc rfl (kc rfl (kc rfl kn)))⟩
      · skip
        refine c_exit ex_here ?_
        refine k_code ?_
        refine c_seq ?_
        refine c_region ?_
        refine l_val (v_assign rfl) rfl ?_
        refine l_end ?_
        refine k_code ?_
        refine c_ret1 rfl rfl ?_
        exact ⟨rb (decide_eq_true ⟨by simpa using p1, same_all (by omega) (fun i hi => hI i (by omega))⟩).symm, hS.keep⟩
end Go.Proofs.Ytndchgmgcjebiaa
