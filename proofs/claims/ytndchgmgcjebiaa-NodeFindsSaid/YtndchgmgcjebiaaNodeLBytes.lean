/- The walk of the law NodeBytes. -/
import Derived.Test.YtndchgmgcjebiaaNodeMade
namespace Go.Proofs.Ytndchgmgcjebiaa
open Go Go.RowKit E
set_option maxRecDepth 100000
set_option linter.unusedVariables false
set_option linter.unusedSimpArgs false

theorem pread_any (leaf : Bool) (l0 : List UInt8) (w0 : World) (hl : l0.length ≤ 1048576) : Calls Try.prog 17 [.bool leaf, .string (S l0)].toArray w0 (GivesRd w0 leaf (preadS leaf l0)) := by
  cases leaf
  · exact preadF_any l0 w0 hl
  · exact preadT_any l0 w0 hl
theorem rread_any' (leaf : Bool) (l0 : List UInt8) (w0 : World) (hl : l0.length ≤ 1048576) : Calls Try.prog 18 [.bool leaf, .string (S l0)].toArray w0 (GivesRd w0 leaf (preadS leaf l0)) := by
  have := rread_any leaf l0 w0 hl
  rwa [reads_eq] at this
theorem pread_len (leaf : Bool) (l : List UInt8) : ((preadS leaf l).getD []).length ≤ 337 := by
  cases h : preadS leaf l with
  | none => exact Nat.zero_le _
  | some cs => exact (preadS_inv h).len
theorem same_self (l : Bool) (A A' : Option Addr) (cs : List Cel) (c c' : Nat) (w0 : World) (hl : Lies w0 A (cellsOf cs)) (hl' : Lies w0 A' (cellsOf cs)) (hn : cs.length ≤ 4611686018427387904) :
    Calls Try.prog 19 [.agg #[.bool l, .slice A cs.length c], .agg #[.bool l, .slice A' cs.length c']].toArray w0 fun e w' => e = .returned (.bool true) ∧ Keep No w0 w' := by
  have := same_any l l A A' cs cs c c' w0 hl hl' hn hn
  rwa [decide_eq_true ⟨rfl, rfl⟩] at this
theorem cut_str (s : ByteArray) (n : Nat) : s.extract 0 n = S (s.data.toList.take n) := by
  have := S_ext s.data.toList 0 n
  rw [S_str] at this
  rw [this, Nat.sub_zero, List.drop_zero]
theorem keep_str {s : ByteArray} {n : Nat} (h : s.size ≤ n) : s = S (s.data.toList.take n) := by
  rw [List.take_of_length_le (by rw [str_len]; exact h), S_str]
def Small4 (cs : List Cel) (k : Nat) : Prop := ∀ i, i < k → (cAt cs i).key.size ≤ 400 ∧ (cAt cs i).val.size ≤ 400
theorem Small4.step {cs : List Cel} {k : Nat} (h : Small4 cs k) (h1 : (cAt cs k).key.size ≤ 400) (h2 : (cAt cs k).val.size ≤ 400) : Small4 cs (k + 1) := fun i hi => by
  by_cases e : i = k
  · subst e; exact ⟨h1, h2⟩
  · exact h i (by omega)
theorem Small4.smalls {cs : List Cel} {k : Nat} (h : Small4 cs k) (hk : cs.length ≤ k) (hn : cs.length ≤ 200) : Smalls cs := ⟨by omega, fun c hc => by
  obtain ⟨i, hi, rfl⟩ := List.getElem_of_mem hc
  have := h i (by omega)
  rw [cAt_get hi] at this
  exact ⟨by omega, by omega⟩⟩

set_option maxHeartbeats 4000000 in
theorem lbytes_any (leaf : Bool) (A : Option Addr) (xs : List Cel) (c : Nat) (s0 : ByteArray) (w0 : World) (hl0 : Lies w0 A (cellsOf xs)) (hc : xs.length ≤ c) (hcm : c ≤ 9223372036854775807) (hsm : s0.size ≤ 9223372036854775807) :
    Calls Try.prog 3 [.agg #[.bool leaf, .slice A xs.length c], .string s0].toArray w0 fun e w' => e = .returned (.bool true) ∧ Keep No w0 w' := by
  have hl : Lies w0 A (cellsOf (xs.take 200)) := by have := hl0.take (200 * 4); rwa [cells_take] at this
  have hn : (xs.take 200).length ≤ 200 := by rw [List.length_take]; omega
  have hcc : (xs.take 200).length ≤ c := by rw [List.length_take]; omega
  have hlt : xs.length ≤ 200 → xs.length = (xs.take 200).length := fun h => by rw [List.length_take]; omega
  have hgt : 200 < xs.length → 200 = (xs.take 200).length := fun h => by rw [List.length_take]; omega
  have hls : (s0.data.toList.take 1100).length ≤ 1048576 := by rw [List.length_take]; omega
  have hsx : s0.extract 0 (Int.toNat 1100) = S (s0.data.toList.take 1100) := cut_str s0 1100
  have hsy := keep_str (s := s0) (n := 1100)
  generalize s0.data.toList.take 1100 = ls at hls hsx hsy
  generalize xs.take 200 = cs at hl hn hcc hlt hgt
  refine enter (n := 126) Try.func3 rfl rfl rfl ?_
  have hS := St.start No w0
  refine c_seq ?_
  refine c_region ?_
  refine l_box (cs := #[_, _]) hS rfl rfl rfl (fun b1 w hS => ?_)
  refine l_val (v_assign rfl) rfl ?_
  refine l_end ?_
  refine k_code ?_
  refine c_seq ?_
  refine c_region ?_
  refine l_callK goes9 rfl hS (awake_any _) rfl (fun w hS => ?_)
  refine l_val (v_assign rfl) rfl ?_
  refine l_end ?_
  refine k_code ?_
  refine c_cutV [(1, _), (2, _), (4, _), (5, _)] (fun (u : Unit) => []) (fun (u : Unit) w => St No w0 w [.blk b1 (.cells #[.bool leaf, .slice A cs.length c] 24 (0, 0))] ∧ True) (kc rfl (kc rfl (kc rfl (kc rfl kn)))) ?_ (fun u w hI => ?_)
  · skip
    refine c_seq ?_
    refine c_region ?_
    refine l_val (v_fieldX (o' := 1) field24_1 rfl rfl) rfl ?_
    refine l_val (v_load ty22 rfl (here (hS.cellX 0 (k := 1) rfl rfl))) rfl ?_
    refine l_val (v_len Try.underlying22 rfl) rfl ?_
    refine l_val (v_gtr rfl rfl) rfl ?_
    refine l_end ?_
    refine k_code ?_
    refine c_if rfl (fun p1 => ?_) (fun p1 => ?_)
    · skip
      refine c_region ?_
      refine l_val (v_fieldX (o' := 1) field24_1 rfl rfl) rfl ?_
      refine l_val (v_load ty22 rfl (here (hS.cellX 0 (k := 1) rfl rfl))) rfl ?_
      refine l_val (v_sliceTo Try.underlying22 (fun w => ⟨_, tyN27.size w⟩) rfl rfl (by omega) (by omega)) rfl ?_
      refine l_val (v_fieldX (o' := 1) field24_1 rfl rfl) rfl ?_
      refine l_storeX (cs' := #[_, _]) (L' := (_ :: _)) 0 hS ty22 rfl rfl rfl rfl rfl rfl rfl (fun w hS => ?_)
      refine l_end ?_
      refine fun _ hFr => ⟨(), ⟨(St.cast hS (by rw [← hgt (by omega)]; rfl)), trivial⟩, Fr.sub hFr (kc rfl (kc rfl (kc rfl (kc rfl kn))))⟩
    · skip
      refine c_skip ?_
      refine fun _ hFr => ⟨(), ⟨(St.cast hS (by rw [← hlt (by omega)])), trivial⟩, Fr.sub hFr (kc rfl (kc rfl (kc rfl (kc rfl kn))))⟩
  · skip
    obtain ⟨hS, hI⟩ := hI
    refine c_seq ?_
    refine c_seq ?_
    refine c_region ?_
    refine l_val (v_assign rfl) rfl ?_
    refine l_end ?_
    refine k_code ?_
    refine c_block ?_
    refine c_loopV [(1, _), (2, _), (5, _)] (fun (k : Nat) => [(6, .int .i64 k)]) (fun (k : Nat) w => St No w0 w [.blk b1 (.cells #[.bool leaf, .slice A cs.length c] 24 (0, 0))] ∧ k ≤ cs.length ∧ Small4 cs k) (fun (k : Nat) => cs.length - k) (0 : Nat) ⟨hS, ⟨Nat.zero_le _, fun i hi => absurd hi (by omega)⟩⟩ (kc rfl (kc rfl (kc rfl (kc rfl kn)))) (fun k w hI => ?_)
    obtain ⟨hS, ⟨hk, hsm4⟩⟩ := hI
    refine c_seq ?_
    refine c_seq ?_
    refine c_region ?_
    refine l_val (v_move rfl) rfl ?_
    refine l_val (v_fieldX (o' := 1) field24_1 rfl rfl) rfl ?_
    refine l_val (v_load ty22 rfl (here (hS.cellX 0 (k := 1) rfl rfl))) rfl ?_
    refine l_val (v_len Try.underlying22 rfl) rfl ?_
    refine l_val (v_lss rfl rfl) rfl ?_
    refine l_end ?_
    refine k_code ?_
    refine c_if rfl (fun p1 => ?_) (fun p1 => ?_)
    · skip
      obtain ⟨ad, hA, hcell⟩ := cell_k hl (k := k) (by omega)
      refine c_skip ?_
      refine k_code ?_
      refine c_seq ?_
      refine c_block ?_
      refine c_seq ?_
      refine c_region ?_
      refine l_val (v_fieldX (o' := 1) field24_1 rfl rfl) rfl ?_
      refine l_val (v_load ty22 rfl (here (hS.cellX 0 (k := 1) rfl rfl))) rfl ?_
      refine l_val (v_move rfl) rfl ?_
      refine l_val (v_indexAddrO hA Try.underlying22 tyN27.size rfl rfl (by omega) (by omega)) rfl ?_
      refine l_val (v_fieldAddr field27_0 rfl) rfl ?_
      refine l_val (v_load (v := .string (cAt cs k).key) ty9 rfl (here (hS.old (hcell 0 _ rfl)))) rfl ?_
      refine l_val (v_lenS Try.underlying9 rfl) rfl ?_
      refine l_val (v_gtr rfl rfl) rfl ?_
      refine l_val (v_move rfl) rfl ?_
      refine l_part 41 rfl (fun p2 => ?_) (fun p2 => ?_)
      · skip
        refine l_skip rfl rfl rfl rfl rfl ?_
        refine l_skip rfl rfl rfl rfl rfl ?_
        refine l_skip rfl rfl rfl rfl rfl ?_
        refine l_skip rfl rfl rfl rfl rfl ?_
        refine l_skip rfl rfl rfl rfl rfl ?_
        refine l_skip rfl rfl rfl rfl rfl ?_
        refine l_skip rfl rfl rfl rfl rfl ?_
        refine l_skip rfl rfl rfl rfl rfl ?_
        refine l_val (v_pickT rfl rfl) rfl ?_
        refine l_end ?_
        refine k_code ?_
        refine c_yes rfl ?_
        refine c_seq ?_
        refine c_region ?_
        refine l_val (v_move rfl) rfl ?_
        refine l_val (v_assign rfl) rfl ?_
        refine l_end ?_
        refine k_code ?_
        refine c_ret1 rfl rfl ?_
        exact ⟨rfl, hS.keep⟩
      · skip
        refine l_on rfl rfl rfl ?_
        refine l_val (v_fieldX (o' := 1) field24_1 rfl rfl) rfl ?_
        refine l_on rfl rfl rfl ?_
        refine l_val (v_load ty22 rfl (here (hS.cellX 0 (k := 1) rfl rfl))) rfl ?_
        refine l_on rfl rfl rfl ?_
        refine l_val (v_move rfl) rfl ?_
        refine l_on rfl rfl rfl ?_
        refine l_val (v_indexAddrO hA Try.underlying22 tyN27.size rfl rfl (by omega) (by omega)) rfl ?_
        refine l_on rfl rfl rfl ?_
        refine l_val (v_fieldAddr field27_1 rfl) rfl ?_
        refine l_on rfl rfl rfl ?_
        refine l_val (v_load (v := .string (cAt cs k).val) ty9 rfl (here (hS.old (hcell 1 _ rfl)))) rfl ?_
        refine l_on rfl rfl rfl ?_
        refine l_val (v_lenS Try.underlying9 rfl) rfl ?_
        refine l_on rfl rfl rfl ?_
        refine l_val (v_gtr rfl rfl) rfl ?_
        refine l_val (v_pickF rfl rfl) rfl ?_
        refine l_end ?_
        refine k_code ?_
        refine c_if rfl (fun p3 => ?_) (fun p3 => ?_)
        · skip
          refine c_seq ?_
          refine c_region ?_
          refine l_val (v_move rfl) rfl ?_
          refine l_val (v_assign rfl) rfl ?_
          refine l_end ?_
          refine k_code ?_
          refine c_ret1 rfl rfl ?_
          exact ⟨rfl, hS.keep⟩
        · skip
          refine c_skip ?_
          refine k_code ?_
          refine c_region ?_
          refine l_val (v_move rfl) rfl ?_
          refine l_val (v_add rfl rfl (by omega)) rfl ?_
          refine l_val (v_assign rfl) rfl ?_
          refine l_end ?_
          refine fun _ hFr => ⟨(k + 1), (by omega), ⟨hS, ⟨by omega, hsm4.step (by omega) (by omega)⟩⟩, Fr.sub hFr (kc rfl (kc rfl (kc rfl (kc rfl kn))))⟩
    · skip
      refine c_exit ex_here ?_
      refine k_code ?_
      refine c_cutV [(2, _), (5, _)] (fun (u : Unit) => [(1, .string (S ls))]) (fun (u : Unit) w => St No w0 w [.blk b1 (.cells #[.bool leaf, .slice A cs.length c] 24 (0, 0))] ∧ True) (kc rfl (kc rfl kn)) ?_ (fun u w hI => ?_)
      · skip
        refine c_seq ?_
        refine c_region ?_
        refine l_val (v_move rfl) rfl ?_
        refine l_val (v_lenS Try.underlying9 rfl) rfl ?_
        refine l_val (v_gtr rfl rfl) rfl ?_
        refine l_end ?_
        refine k_code ?_
        refine c_if rfl (fun p2 => ?_) (fun p2 => ?_)
        · skip
          refine c_region ?_
          refine l_val (v_move rfl) rfl ?_
          refine l_val (v_sliceSTo Try.underlying9 rfl rfl (by omega) (by omega) ) rfl ?_
          rw [hsx]
          refine l_val (v_assign rfl) rfl ?_
          refine l_end ?_
          refine fun _ hFr => ⟨(), ⟨hS, trivial⟩, Fr.sub hFr (kc rfl (kc rfl (kc rfl kn)))⟩
        · skip
          refine c_skip ?_
          refine fun _ hFr => ⟨(), ⟨hS, trivial⟩, Fr.sub hFr (kc (by rw [← hsy (by omega)]; rfl) (kc rfl (kc rfl kn)))⟩
      · skip
        obtain ⟨hS, hI⟩ := hI
        have hss := hsm4.smalls (by omega) hn
        refine c_seq ?_
        refine c_region ?_
        refine l_val (v_loadW tyN24 rfl rfl (hereN (hS.rowX 0 rfl))) rfl ?_
        refine l_callK goes10 rfl hS (nbytes_any _ _ _ _ _ (hl.keep hS.keep) hss) rfl (fun w hS => ?_)
        refine l_val (v_move rfl) rfl ?_
        refine l_val (v_extractX rfl rfl) rfl ?_
        refine l_val (v_extractX rfl rfl) rfl ?_
        refine l_val (v_assign rfl) rfl ?_
        refine l_val (v_assign rfl) rfl ?_
        refine l_end ?_
        refine k_code ?_
        refine c_seq ?_
        refine c_region ?_
        refine l_val (v_loadW tyN24 rfl rfl (hereN (hS.rowX 0 rfl))) rfl ?_
        refine l_callK goes11 rfl hS (rbytes_any _ _ _ _ _ (hl.keep hS.keep) hss) rfl (fun w hS => ?_)
        refine l_val (v_move rfl) rfl ?_
        refine l_val (v_extractX rfl rfl) rfl ?_
        refine l_val (v_extractX rfl rfl) rfl ?_
        refine l_val (v_assign rfl) rfl ?_
        refine l_val (v_assign rfl) rfl ?_
        refine l_end ?_
        refine k_code ?_
        refine c_seq ?_
        refine c_seq ?_
        refine q_region hS mixed (by kernel_rfl) ?_
        refine q_val (v_move rfl) rfl ?_
        refine q_val (v_move rfl) rfl ?_
        refine q_val (v_sneq rfl rfl) rfl ?_
        refine q_val (v_move rfl) rfl ?_
        refine q_part 70 rfl (fun p2 => ?_) (fun p2 => ?_)
        · exact absurd rfl p2
        · skip
          refine q_on rfl rfl rfl ?_
          refine q_val (v_move rfl) rfl ?_
          refine q_on rfl rfl rfl ?_
          refine q_val (v_move rfl) rfl ?_
          refine q_on rfl rfl rfl ?_
          refine q_val (v_neq rfl rfl) rfl ?_
          refine q_val (v_pickF rfl rfl) rfl ?_
          refine q_val (v_move rfl) rfl ?_
          refine q_part 75 rfl (fun p3 => ?_) (fun p3 => ?_)
          · exact absurd rfl p3
          · skip
            refine q_on rfl rfl rfl ?_
            refine q_val (v_loadW tyN24 rfl rfl (fun _ h => h.rowX 0 rfl)) rfl ?_
            refine q_on rfl rfl rfl ?_
            refine q_callK goes12 rfl (fun w hS => check_any _ _ _ _ _ (hl.keep hS.keep) (by omega)) rfl ?_
            refine q_on rfl rfl rfl ?_
            refine q_val (v_loadW tyN24 rfl rfl (fun _ h => h.rowX 0 rfl)) rfl ?_
            refine q_on rfl rfl rfl ?_
            refine q_callK goes13 rfl (fun w hS => rcheck_any _ _ _ _ _ (hl.keep hS.keep) (by omega)) rfl ?_
            refine q_on rfl rfl rfl ?_
            refine q_val (v_neq rfl rfl) rfl ?_
            refine q_val (v_pickF rfl rfl) rfl ?_
            refine q_val (v_move rfl) rfl ?_
            refine q_part 82 rfl (fun p4 => ?_) (fun p4 => ?_)
            · exact absurd rfl p4
            · skip
              refine q_on rfl rfl rfl ?_
              refine q_val (v_loadW tyN24 rfl rfl (fun _ h => h.rowX 0 rfl)) rfl ?_
              refine q_on rfl rfl rfl ?_
              refine q_callK goes14 rfl (fun w hS => size_any _ _ _ _ _ (hl.keep hS.keep) hss) rfl ?_
              refine q_on rfl rfl rfl ?_
              refine q_val (v_loadW tyN24 rfl rfl (fun _ h => h.rowX 0 rfl)) rfl ?_
              refine q_on rfl rfl rfl ?_
              refine q_callK goes15 rfl (fun w hS => rsize_any _ _ _ _ _ (hl.keep hS.keep) hss) rfl ?_
              refine q_on rfl rfl rfl ?_
              refine q_val (v_neq rfl rfl) rfl ?_
              refine q_val (v_pickF rfl rfl) rfl ?_
              refine q_val (v_move rfl) rfl ?_
              refine q_part 89 rfl (fun p5 => ?_) (fun p5 => ?_)
              · exact absurd rfl p5
              · skip
                refine q_on rfl rfl rfl ?_
                refine q_val (v_loadW tyN24 rfl rfl (fun _ h => h.rowX 0 rfl)) rfl ?_
                refine q_on rfl rfl rfl ?_
                refine q_callK goes16 rfl (fun w hS => fits_any _ _ _ _ _ (hl.keep hS.keep) hss) rfl ?_
                refine q_on rfl rfl rfl ?_
                refine q_val (v_loadW tyN24 rfl rfl (fun _ h => h.rowX 0 rfl)) rfl ?_
                refine q_on rfl rfl rfl ?_
                refine q_callK goes15 rfl (fun w hS => rsize_any _ _ _ _ _ (hl.keep hS.keep) hss) rfl ?_
                refine q_on rfl rfl rfl ?_
                refine q_val (v_leq rfl rfl) rfl ?_
                refine q_on rfl rfl rfl ?_
                refine q_val (v_boolNe Try.underlying4 rfl rfl) rfl ?_
                refine q_val (v_pickF rfl rfl) rfl ?_
                refine q_end (fun w hS => ?_)
                refine k_code ?_
                refine c_cond rfl (fun p6 => ?_) (fun p6 => ?_)
                · exact absurd p6 (by rw [show decide (((sizeS leaf cs : Nat) : Int) ≤ 1013) = decide (sizeS leaf cs ≤ 1013) from decide_eq_decide.2 (by omega)]; simp)
                · skip
                  refine c_skip ?_
                  refine k_code ?_
                  refine c_seq ?_
                  refine c_seq ?_
                  refine c_region ?_
                  refine l_val (v_assign rfl) rfl ?_
                  refine l_end ?_
                  refine k_code ?_
                  refine c_block ?_
                  refine c_loopV [(1, _), (5, _)] (fun (k : Nat) => [(11, .int .i64 k)]) (fun (k : Nat) w => St No w0 w [.blk b1 (.cells #[.bool leaf, .slice A cs.length c] 24 (0, 0))] ∧ k ≤ 2) (fun (k : Nat) => 2 - k) (0 : Nat) ⟨hS, by omega⟩ (kc rfl (kc rfl (kc rfl kn))) (fun k w hI => ?_)
                  obtain ⟨hS, hI⟩ := hI
                  refine c_seq ?_
                  refine c_seq ?_
                  refine c_region ?_
                  refine l_val (v_move rfl) rfl ?_
                  refine l_val (v_lss rfl rfl) rfl ?_
                  refine l_end ?_
                  refine k_code ?_
                  refine c_if rfl (fun p7 => ?_) (fun p7 => ?_)
                  · skip
                    refine c_skip ?_
                    refine k_code ?_
                    refine c_seq ?_
                    refine c_block ?_
                    refine c_seq ?_
                    refine c_region ?_
                    refine l_val (v_move rfl) rfl ?_
                    refine l_val (v_eql rfl rfl) rfl ?_
                    refine l_val (v_move rfl) rfl ?_
                    refine l_call goes17 rfl (pread_any _ ls _ hls) rfl (fun e w hB => ?_)
                    obtain ⟨A1, c1, rfl, hc1, hl1, hk1, hf1⟩ := hB
                    have hS := hS.gain hk1 hl1 hf1 (fun _ h => absurd h List.not_mem_nil)
                    refine ⟨_, rfl, ?_⟩
                    refine l_val (v_move rfl) rfl ?_
                    refine l_val (v_extractX rfl rfl) rfl ?_
                    refine l_val (v_extractX rfl rfl) rfl ?_
                    refine l_alloc (cs := #[_, _]) hS zero24 rfl rfl (fun b2 w hS => ?_)
                    refine l_storeNX (cs' := #[_, _]) (L' := (_ :: _)) 0 hS tyN24 rfl rfl rfl rfl rfl rfl rfl rfl (fun w hS => ?_)
                    refine l_val (v_assign rfl) rfl ?_
                    refine l_end ?_
                    refine k_code ?_
                    refine c_seq ?_
                    refine c_region ?_
                    refine l_val (v_move rfl) rfl ?_
                    refine l_val (v_eql rfl rfl) rfl ?_
                    refine l_val (v_move rfl) rfl ?_
                    refine l_call goes18 rfl (rread_any' _ ls _ hls) rfl (fun e w hB => ?_)
                    obtain ⟨A2, c2, rfl, hc2, hl2, hk2, hf2⟩ := hB
                    have hS := hS.gain hk2 hl2 hf2 (fun _ h => absurd h List.not_mem_nil)
                    refine ⟨_, rfl, ?_⟩
                    refine l_val (v_move rfl) rfl ?_
                    refine l_val (v_extractX rfl rfl) rfl ?_
                    refine l_val (v_extractX rfl rfl) rfl ?_
                    refine l_alloc (cs := #[_, _]) hS zero24 rfl rfl (fun b3 w hS => ?_)
                    refine l_storeNX (cs' := #[_, _]) (L' := (_ :: _)) 0 hS tyN24 rfl rfl rfl rfl rfl rfl rfl rfl (fun w hS => ?_)
                    refine l_val (v_assign rfl) rfl ?_
                    refine l_end ?_
                    refine k_code ?_
                    refine c_seq ?_
                    refine c_region ?_
                    refine l_val (v_loadW tyN24 rfl rfl (hereN (hS.rowX 2 rfl))) rfl ?_
                    refine l_val (v_loadW tyN24 rfl rfl (hereN (hS.rowX 0 rfl))) rfl ?_
                    refine l_callK goes19 rfl hS (same_self _ A1 A2 _ c1 c2 _ (hS.lies 3 rfl) (hS.lies 1 rfl) (Nat.le_trans (pread_len _ _) (by decide))) rfl (fun w hS => ?_)
                    refine l_val (v_assign rfl) rfl ?_
                    refine l_end ?_
                    refine k_code ?_
                    refine c_seq ?_
                    refine c_region ?_
                    refine l_val (v_move rfl) rfl ?_
                    refine l_val (v_not rfl) rfl ?_
                    refine l_val (v_move rfl) rfl ?_
                    refine l_on rfl rfl rfl ?_
                    refine l_val (v_move rfl) rfl ?_
                    refine l_on rfl rfl rfl ?_
                    refine l_val (v_move rfl) rfl ?_
                    refine l_on rfl rfl rfl ?_
                    refine l_val (v_neq rfl rfl) rfl ?_
                    refine l_val (v_pickF rfl rfl) rfl ?_
                    refine l_end ?_
                    refine k_code ?_
                    refine c_if rfl (fun p8 => ?_) (fun p8 => ?_)
                    · exact absurd rfl p8
                    · skip
                      refine c_skip ?_
                      refine k_code ?_
                      refine c_region ?_
                      refine l_val (v_move rfl) rfl ?_
                      refine l_val (v_add rfl rfl (by omega)) rfl ?_
                      refine l_val (v_assign rfl) rfl ?_
                      refine l_end ?_
                      refine fun _ hFr => ⟨(k + 1), (by omega), ⟨(hS.arr [4]), by omega⟩, Fr.sub hFr (kc rfl (kc rfl (kc rfl kn)))⟩
                  · skip
                    refine c_exit ex_here ?_
                    refine k_code ?_
                    refine c_seq ?_
                    refine c_region ?_
                    refine l_val (v_move rfl) rfl ?_
                    refine l_val (v_assign rfl) rfl ?_
                    refine l_end ?_
                    refine k_code ?_
                    refine c_ret1 rfl rfl ?_
                    exact ⟨rfl, hS.keep⟩
end Go.Proofs.Ytndchgmgcjebiaa
