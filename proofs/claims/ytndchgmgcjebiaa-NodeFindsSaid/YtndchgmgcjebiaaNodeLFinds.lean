/- The walk of the law NodeFinds. -/
import Derived.Test.YtndchgmgcjebiaaNodeLBytes
namespace Go.Proofs.Ytndchgmgcjebiaa
open Go Go.RowKit E
set_option maxRecDepth 100000
set_option linter.unusedVariables false
set_option linter.unusedSimpArgs false

section
variable {cs : List Cel} {k : Nat} {q : ByteArray}
theorem lb_self (hs : Sorted cs) (hk : k < cs.length) : lbnd cs (cAt cs k).key = k :=
  lbnd_unique (by omega) (fun m hm => hs m k hm hk) (fun _ => slt_irrefl _)
theorem has_self (hs : Sorted cs) (hk : k < cs.length) : hasK cs (cAt cs k).key = true := hasK_iff.2 (by rw [lb_self hs hk]; exact ⟨hk, rfl⟩)
theorem child_self (hs : Sorted cs) (hk : k < cs.length) : childS cs (cAt cs k).key = k := by unfold childS; rw [if_pos (has_self hs hk), lb_self hs hk]
theorem lb_iff (hs : Sorted cs) (hk : k < cs.length) : (k < lbnd cs q) ↔ slt (cAt cs k).key q := by
  refine ⟨lbnd_lt, fun h => ?_⟩
  refine Decidable.byContradiction fun h1 => ?_
  have hlt : lbnd cs q < cs.length := by omega
  refine lbnd_ge hlt ?_
  by_cases e : lbnd cs q = k
  · rw [e]; exact h
  · exact slt_trans (hs _ _ (by omega) hk) h
theorem child_has (h : hasK cs q = true) : childS cs q = lbnd cs q := by unfold childS; rw [if_pos h]
theorem child_not (h : hasK cs q = false) : childS cs q = lbnd cs q - 1 := by unfold childS; rw [if_neg (by rw [h]; simp)]
theorem bne_dec {a b : Prop} [Decidable a] [Decidable b] (h : a ↔ b) : ¬ ((decide a != decide b) = true) := by
  have : decide a = decide b := decide_eq_decide.2 h
  rw [this]; simp
theorem has_T (h : lbnd cs q < cs.length) : (hasK cs q == decide ((cAt cs (lbnd cs q)).key = q)) = true := by unfold hasK; simp [h]
theorem has_F (h : ¬ lbnd cs q < cs.length) : (hasK cs q == false) = true := by unfold hasK; simp [h]
theorem lies_cell {w : World} {A : Option Addr} {ad : Addr} (h : Lies w A (cellsOf cs)) (hA : A = some ad) (hk : k < cs.length) : ∀ j v, (enc (cAt cs k))[j]? = some v → w.cell? ((ad.add (((k : Nat) : Int).toNat * 4)).add j) = some v := by
  obtain ⟨ad', h1, h2⟩ := cell_k h hk
  rw [hA] at h1; cases h1
  exact h2
end

set_option maxHeartbeats 4000000 in
theorem lfinds_any (leaf : Bool) (A0 : Option Addr) (xs : List Cel) (c0 : Nat) (q0 : ByteArray) (w0 : World) (hl : Lies w0 A0 (cellsOf xs)) (hc : xs.length ≤ c0) (hcm : c0 ≤ 9223372036854775807) (hsm : q0.size ≤ 9223372036854775807) :
    Calls Try.prog 4 [.bool leaf, .slice A0 xs.length c0, .string q0].toArray w0 fun e w' => e = .returned (.bool true) ∧ Keep No w0 w' := by
  have hgood : Good leaf (madeS leaf xs) := made_good
  have hlen : (madeS leaf xs).length ≤ 60 := made_le
  have hmade := fun w => made_any leaf A0 xs c0 w
  have hsx : q0.extract 0 (Int.toNat 300) = S (q0.data.toList.take 300) := cut_str q0 300
  have hsy := keep_str (s := q0) (n := 300)
  generalize S (q0.data.toList.take 300) = q at hsx hsy
  generalize madeS leaf xs = cs at hgood hlen hmade
  have hsrt := hgood.sorted
  have hlb := lbnd_le cs q
  refine enter (n := 123) Try.func4 rfl rfl rfl ?_
  have hS := St.start No w0
  refine c_seq ?_
  refine c_region ?_
  refine l_val (v_assign rfl) rfl ?_
  refine l_end ?_
  refine k_code ?_
  refine c_seq ?_
  refine c_region ?_
  refine l_callK goes9 rfl hS (awake_any _) rfl (fun w hS => ?_)
  refine l_val (v_assign rfl) rfl ?_
  refine l_end ?_
  refine k_code ?_
  refine c_seq ?_
  refine c_region ?_
  refine l_val (v_move rfl) rfl ?_
  refine l_val (v_move rfl) rfl ?_
  refine l_call goes20 rfl (hmade _ (hl.keep hS.keep) (by omega)) rfl (fun e w hB => ?_)
  obtain ⟨A, c, rfl, hc1, hl1, hk1, hf1⟩ := hB
  have hS := hS.gain hk1 hl1 hf1 (fun _ h => absurd h List.not_mem_nil)
  refine ⟨_, rfl, ?_⟩
  refine l_alloc (cs := #[_, _]) hS zero24 rfl rfl (fun b1 w hS => ?_)
  refine l_storeNX (cs' := #[_, _]) (L' := (_ :: _)) 0 hS tyN24 rfl rfl rfl rfl rfl rfl rfl rfl (fun w hS => ?_)
  refine l_end ?_
  refine k_code ?_
  refine c_cutV [(6, _), (7, _), (8, _)] (fun (u : Unit) => [(2, .string q)]) (fun (u : Unit) w => St No w0 w [.blk b1 (.cells #[.bool leaf, .slice A cs.length c] 24 (0, 0)), .lies A (cellsOf cs)] ∧ True) (kc rfl (kc rfl (kc rfl kn))) ?_ (fun u w hI => ?_)
  · skip
    refine c_seq ?_
    refine c_region ?_
    refine l_val (v_move rfl) rfl ?_
    refine l_val (v_lenS Try.underlying9 rfl) rfl ?_
    refine l_val (v_gtr rfl rfl) rfl ?_
    refine l_end ?_
    refine k_code ?_
    refine c_if rfl (fun p1 => ?_) (fun p1 => ?_)
    · skip
      refine c_region ?_
      refine l_val (v_move rfl) rfl ?_
      refine l_val (v_sliceSTo Try.underlying9 rfl rfl (by omega) (by omega) ) rfl ?_
      rw [hsx]
      refine l_val (v_assign rfl) rfl ?_
      refine l_end ?_
      refine fun _ hFr => ⟨(), ⟨hS, trivial⟩, Fr.sub hFr (kc rfl (kc rfl (kc rfl (kc rfl kn))))⟩
    · skip
      refine c_skip ?_
      refine fun _ hFr => ⟨(), ⟨hS, trivial⟩, Fr.sub hFr (kc (by rw [← hsy (by omega)]; rfl) (kc rfl (kc rfl (kc rfl kn))))⟩
  · skip
    obtain ⟨hS, hI⟩ := hI
    refine c_seq ?_
    refine c_seq ?_
    refine c_region ?_
    refine l_val (v_assign rfl) rfl ?_
    refine l_end ?_
    refine k_code ?_
    refine c_block ?_
    refine c_loopV [(2, _), (7, _), (8, _)] (fun (k : Nat) => [(9, .int .i64 k)]) (fun (k : Nat) w => St No w0 w [.blk b1 (.cells #[.bool leaf, .slice A cs.length c] 24 (0, 0)), .lies A (cellsOf cs)] ∧ k ≤ cs.length) (fun (k : Nat) => cs.length - k) (0 : Nat) ⟨hS, Nat.zero_le _⟩ (kc rfl (kc rfl (kc rfl (kc rfl kn)))) (fun k w hI => ?_)
    obtain ⟨hS, hI⟩ := hI
    refine c_seq ?_
    refine c_seq ?_
    refine c_region ?_
    refine l_val (v_move rfl) rfl ?_
    refine l_val (v_fieldX (o' := 1) field24_1 rfl rfl) rfl ?_
    refine l_val (v_load ty22 rfl (here (hS.cellX 0 (k := 1) rfl rfl))) rfl ?_
    refine l_val (v_len Try.underlying22 rfl) rfl ?_
    refine l_val (v_lss rfl rfl) rfl ?_
    refine l_end ?_
    refine k_code ?_
    refine c_if rfl (fun p1 => ?_) (fun p1 => ?_)
    · skip
      obtain ⟨ad, hA, hcell⟩ := cell_k (hS.lies 1 rfl) (k := k) (by omega)
      have hkl : k < cs.length := by omega
      refine c_skip ?_
      refine k_code ?_
      refine c_seq ?_
      refine c_block ?_
      refine c_seq ?_
      refine q_region hS mixed (by kernel_rfl) ?_
      refine q_val (v_loadW tyN24 rfl rfl (fun _ h => h.rowX 0 rfl)) rfl ?_
      refine q_val (v_fieldX (o' := 1) field24_1 rfl rfl) rfl ?_
      refine q_val (v_load ty22 rfl (fun _ h => h.cellX 0 (k := 1) rfl rfl)) rfl ?_
      refine q_val (v_move rfl) rfl ?_
      refine q_val (v_indexAddrO hA Try.underlying22 tyN27.size rfl rfl (by omega) (by omega)) rfl ?_
      refine q_val (v_fieldAddr field27_0 rfl) rfl ?_
      refine q_val (v_load (v := .string (cAt cs k).key) ty9 rfl (fun _ h => lies_cell (h.lies 1 rfl) hA hkl 0 _ rfl)) rfl ?_
      refine q_callK goes21 rfl (fun w hS => by have := find_any leaf A cs c (cAt cs k).key _ (hS.lies 1 rfl) (by omega) hsrt; rwa [lb_self hsrt hkl, has_self hsrt hkl] at this) rfl ?_
      refine q_val (v_move rfl) rfl ?_
      refine q_val (v_extractX rfl rfl) rfl ?_
      refine q_val (v_extractX rfl rfl) rfl ?_
      refine q_val (v_assign rfl) rfl ?_
      refine q_val (v_assign rfl) rfl ?_
      refine q_end (fun w hS => ?_)
      refine k_code ?_
      refine c_seq ?_
      refine q_region hS mixed (by kernel_rfl) ?_
      refine q_val (v_move rfl) rfl ?_
      refine q_val (v_move rfl) rfl ?_
      refine q_val (v_neq rfl rfl) rfl ?_
      refine q_val (v_move rfl) rfl ?_
      refine q_part 47 rfl (fun p2 => ?_) (fun p2 => ?_)
      · exact absurd rfl p2
      · skip
        refine q_on rfl rfl rfl ?_
        refine q_val (v_move rfl) rfl ?_
        refine q_on rfl rfl rfl ?_
        refine q_val (v_not rfl) rfl ?_
        refine q_val (v_pickF rfl rfl) rfl ?_
        refine q_val (v_move rfl) rfl ?_
        refine q_partB 51 rfl (fun p3 => ?_) (fun p3 => ?_)
        · exact absurd p3 (by decide)
        · skip
          refine q_on rfl rfl rfl ?_
          refine q_val (v_loadW tyN24 rfl rfl (fun _ h => h.rowX 0 rfl)) rfl ?_
          refine q_on rfl rfl rfl ?_
          refine q_val (v_fieldX (o' := 1) field24_1 rfl rfl) rfl ?_
          refine q_on rfl rfl rfl ?_
          refine q_val (v_load ty22 rfl (fun _ h => h.cellX 0 (k := 1) rfl rfl)) rfl ?_
          refine q_on rfl rfl rfl ?_
          refine q_val (v_move rfl) rfl ?_
          refine q_on rfl rfl rfl ?_
          refine q_val (v_indexAddrO hA Try.underlying22 tyN27.size rfl rfl (by omega) (by omega)) rfl ?_
          refine q_on rfl rfl rfl ?_
          refine q_val (v_fieldAddr field27_0 rfl) rfl ?_
          refine q_on rfl rfl rfl ?_
          refine q_val (v_load (v := .string (cAt cs k).key) ty9 rfl (fun _ h => lies_cell (h.lies 1 rfl) hA hkl 0 _ rfl)) rfl ?_
          refine q_on rfl rfl rfl ?_
          refine q_callK goes22 rfl (fun w hS => by have := child_any leaf A cs c (cAt cs k).key _ (hS.lies 1 rfl) (by omega) hsrt; rwa [child_self hsrt hkl] at this) rfl ?_
          refine q_on rfl rfl rfl ?_
          refine q_val (v_move rfl) rfl ?_
          refine q_on rfl rfl rfl ?_
          refine q_val (v_neq rfl rfl) rfl ?_
          refine q_val (v_pickF rfl rfl) rfl ?_
          refine q_end (fun w hS => ?_)
          refine k_code ?_
          refine c_if rfl (fun p4 => ?_) (fun p4 => ?_)
          · exact absurd rfl p4
          · skip
            refine c_skip ?_
            refine k_code ?_
            refine c_region ?_
            refine l_val (v_move rfl) rfl ?_
            refine l_val (v_add rfl rfl (by omega)) rfl ?_
            refine l_val (v_assign rfl) rfl ?_
            refine l_end ?_
            refine fun _ hFr => ⟨(k + 1), (by omega), ⟨hS, by omega⟩, Fr.sub hFr (kc rfl (kc rfl (kc rfl (kc rfl kn))))⟩
    · skip
      refine c_exit ex_here ?_
      refine k_code ?_
      refine c_seq ?_
      refine c_region ?_
      refine l_val (v_loadW tyN24 rfl rfl (hereN (hS.rowX 0 rfl))) rfl ?_
      refine l_val (v_move rfl) rfl ?_
      refine l_callK goes21 rfl hS (find_any leaf A cs c q _ (hS.lies 1 rfl) (by omega) hsrt) rfl (fun w hS => ?_)
      refine l_val (v_move rfl) rfl ?_
      refine l_val (v_extractX rfl rfl) rfl ?_
      refine l_val (v_extractX rfl rfl) rfl ?_
      refine l_val (v_assign rfl) rfl ?_
      refine l_val (v_assign rfl) rfl ?_
      refine l_end ?_
      refine k_code ?_
      refine c_seq ?_
      refine c_region ?_
      refine l_val (v_loadW tyN24 rfl rfl (hereN (hS.rowX 0 rfl))) rfl ?_
      refine l_val (v_move rfl) rfl ?_
      refine l_callK goes22 rfl hS (child_any leaf A cs c q _ (hS.lies 1 rfl) (by omega) hsrt) rfl (fun w hS => ?_)
      refine l_val (v_assign rfl) rfl ?_
      refine l_end ?_
      refine k_code ?_
      refine c_seq ?_
      refine c_seq ?_
      refine c_region ?_
      refine l_val (v_assign rfl) rfl ?_
      refine l_end ?_
      refine k_code ?_
      refine c_block ?_
      refine c_loopV [(2, _), (7, _), (8, _), (12, _), (13, _), (14, _)] (fun (k : Nat) => [(15, .int .i64 k)]) (fun (k : Nat) w => St No w0 w [.blk b1 (.cells #[.bool leaf, .slice A cs.length c] 24 (0, 0)), .lies A (cellsOf cs)] ∧ k ≤ cs.length) (fun (k : Nat) => cs.length - k) (0 : Nat) ⟨hS, Nat.zero_le _⟩ (kc rfl (kc rfl (kc rfl (kc rfl (kc rfl (kc rfl (kc rfl kn))))))) (fun k w hI => ?_)
      obtain ⟨hS, hI⟩ := hI
      refine c_seq ?_
      refine c_seq ?_
      refine c_region ?_
      refine l_val (v_move rfl) rfl ?_
      refine l_val (v_fieldX (o' := 1) field24_1 rfl rfl) rfl ?_
      refine l_val (v_load ty22 rfl (here (hS.cellX 0 (k := 1) rfl rfl))) rfl ?_
      refine l_val (v_len Try.underlying22 rfl) rfl ?_
      refine l_val (v_lss rfl rfl) rfl ?_
      refine l_end ?_
      refine k_code ?_
      refine c_if rfl (fun p2 => ?_) (fun p2 => ?_)
      · skip
        obtain ⟨ad, hA, hcell⟩ := cell_k (hS.lies 1 rfl) (k := k) (by omega)
        have hkl : k < cs.length := by omega
        refine c_skip ?_
        refine k_code ?_
        refine c_seq ?_
        refine c_block ?_
        refine c_seq ?_
        refine c_region ?_
        refine l_val (v_move rfl) rfl ?_
        refine l_val (v_move rfl) rfl ?_
        refine l_val (v_lss rfl rfl) rfl ?_
        refine l_val (v_fieldX (o' := 1) field24_1 rfl rfl) rfl ?_
        refine l_val (v_load ty22 rfl (here (hS.cellX 0 (k := 1) rfl rfl))) rfl ?_
        refine l_val (v_move rfl) rfl ?_
        refine l_val (v_indexAddrO hA Try.underlying22 tyN27.size rfl rfl (by omega) (by omega)) rfl ?_
        refine l_val (v_fieldAddr field27_0 rfl) rfl ?_
        refine l_val (v_load (v := .string (cAt cs k).key) ty9 rfl (here (lies_cell (hS.lies 1 rfl) hA hkl 0 _ rfl))) rfl ?_
        refine l_val (v_move rfl) rfl ?_
        refine l_val (v_slss rfl rfl) rfl ?_
        refine l_val (v_boolNe Try.underlying4 rfl rfl) rfl ?_
        refine l_end ?_
        refine k_code ?_
        refine c_cond rfl (fun p3 => ?_) (fun p3 => ?_)
        · exact absurd p3 (bne_dec (Iff.trans (show ((k : Nat) : Int) < ((lbnd cs q : Nat) : Int) ↔ k < lbnd cs q by omega) (lb_iff hsrt (by omega))))
        · skip
          refine c_skip ?_
          refine k_code ?_
          refine c_region ?_
          refine l_val (v_move rfl) rfl ?_
          refine l_val (v_add rfl rfl (by omega)) rfl ?_
          refine l_val (v_assign rfl) rfl ?_
          refine l_end ?_
          refine fun _ hFr => ⟨(k + 1), (by omega), ⟨hS, by omega⟩, Fr.sub hFr (kc rfl (kc rfl (kc rfl (kc rfl (kc rfl (kc rfl (kc rfl kn)))))))⟩
      · skip
        refine c_exit ex_here ?_
        refine k_code ?_
        refine c_seq ?_
        refine c_region ?_
        refine l_val (v_move rfl) rfl ?_
        refine l_val (v_assign rfl) rfl ?_
        refine l_end ?_
        refine k_code ?_
        refine c_seq ?_
        refine c_seq ?_
        refine c_region ?_
        refine l_val (v_move rfl) rfl ?_
        refine l_val (v_not rfl) rfl ?_
        refine l_end ?_
        refine k_code ?_
        refine c_cond rfl (fun p3 => ?_) (fun p3 => ?_)
        · skip
          refine c_region ?_
          refine l_val (v_move rfl) rfl ?_
          refine l_val (v_sub rfl rfl (by omega)) rfl ?_
          refine l_val (v_assign rfl) rfl ?_
          refine l_end ?_
          refine k_code ?_
          refine c_seq ?_
          refine c_seq ?_
          refine c_region ?_
          refine l_val (v_move rfl) rfl ?_
          refine l_val (v_lss rfl rfl) rfl ?_
          refine l_end ?_
          refine k_code ?_
          refine c_if rfl (fun p4 => ?_) (fun p4 => ?_)
          · skip
            refine c_region ?_
            refine l_val (v_assign rfl) rfl ?_
            refine l_end ?_
            refine k_code ?_
            refine c_seq ?_
            refine c_region ?_
            refine l_val (v_move rfl) rfl ?_
            refine l_val (v_move rfl) rfl ?_
            refine l_on rfl rfl rfl ?_
            refine l_val (v_move rfl) rfl ?_
            refine l_on rfl rfl rfl ?_
            refine l_val (v_move rfl) rfl ?_
            refine l_on rfl rfl rfl ?_
            refine l_val (v_eql rfl rfl) rfl ?_
            refine l_val (v_pickT rfl rfl) rfl ?_
            refine l_val (v_move rfl) rfl ?_
            refine l_part 104 rfl (fun p5 => ?_) (fun p5 => ?_)
            · skip
              refine l_on rfl rfl rfl ?_
              refine l_val (v_move rfl) rfl ?_
              refine l_on rfl rfl rfl ?_
              refine l_val (v_move rfl) rfl ?_
              refine l_on rfl rfl rfl ?_
              refine l_val (v_fieldX (o' := 1) field24_1 rfl rfl) rfl ?_
              refine l_on rfl rfl rfl ?_
              refine l_val (v_load ty22 rfl (here (hS.cellX 0 (k := 1) rfl rfl))) rfl ?_
              refine l_on rfl rfl rfl ?_
              refine l_val (v_len Try.underlying22 rfl) rfl ?_
              refine l_on rfl rfl rfl ?_
              refine l_val (v_lss rfl rfl) rfl ?_
              refine l_on rfl rfl rfl ?_
              refine l_val (v_move rfl) rfl ?_
              refine l_part 111 rfl (fun p6 => ?_) (fun p6 => ?_)
              · skip
                obtain ⟨ad, hA, hcell⟩ := cell_k (hS.lies 1 rfl) (k := lbnd cs q) (by omega); have hkl : lbnd cs q < cs.length := (by omega)
                refine l_on rfl rfl rfl ?_
                refine l_val (v_fieldX (o' := 1) field24_1 rfl rfl) rfl ?_
                refine l_on rfl rfl rfl ?_
                refine l_val (v_load ty22 rfl (here (hS.cellX 0 (k := 1) rfl rfl))) rfl ?_
                refine l_on rfl rfl rfl ?_
                refine l_val (v_move rfl) rfl ?_
                refine l_on rfl rfl rfl ?_
                refine l_val (v_indexAddrO hA Try.underlying22 tyN27.size rfl rfl (by omega) (by omega)) rfl ?_
                refine l_on rfl rfl rfl ?_
                refine l_val (v_fieldAddr field27_0 rfl) rfl ?_
                refine l_on rfl rfl rfl ?_
                refine l_val (v_load (v := .string (cAt cs (lbnd cs q)).key) ty9 rfl (here (lies_cell (hS.lies 1 rfl) hA hkl 0 _ rfl))) rfl ?_
                refine l_on rfl rfl rfl ?_
                refine l_val (v_move rfl) rfl ?_
                refine l_on rfl rfl rfl ?_
                refine l_val (v_seql rfl rfl) rfl ?_
                refine l_on rfl rfl rfl ?_
                refine l_val (v_pickT rfl rfl) rfl ?_
                refine l_on rfl rfl rfl ?_
                refine l_val (v_boolEq Try.underlying4 rfl rfl) rfl ?_
                refine l_val (v_pickT rfl rfl) rfl ?_
                refine l_val (v_assign rfl) rfl ?_
                refine l_end ?_
                refine k_code ?_
                refine c_ret1 rfl rfl ?_
                exact ⟨rb (has_T (by omega)), hS.keep⟩
              · skip
                refine l_skip rfl rfl rfl rfl rfl ?_
                refine l_skip rfl rfl rfl rfl rfl ?_
                refine l_skip rfl rfl rfl rfl rfl ?_
                refine l_skip rfl rfl rfl rfl rfl ?_
                refine l_skip rfl rfl rfl rfl rfl ?_
                refine l_skip rfl rfl rfl rfl rfl ?_
                refine l_skip rfl rfl rfl rfl rfl ?_
                refine l_skip rfl rfl rfl rfl rfl ?_
                refine l_on rfl rfl rfl ?_
                refine l_val (v_pickF rfl rfl) rfl ?_
                refine l_on rfl rfl rfl ?_
                refine l_val (v_boolEq Try.underlying4 rfl rfl) rfl ?_
                refine l_val (v_pickT rfl rfl) rfl ?_
                refine l_val (v_assign rfl) rfl ?_
                refine l_end ?_
                refine k_code ?_
                refine c_ret1 rfl rfl ?_
                exact ⟨rb (has_F (by omega)), hS.keep⟩
            · exact absurd (by rw [child_not (not_tt p3)]; omega) p5
          · skip
            refine c_skip ?_
            refine k_code ?_
            refine c_seq ?_
            refine c_region ?_
            refine l_val (v_move rfl) rfl ?_
            refine l_val (v_move rfl) rfl ?_
            refine l_on rfl rfl rfl ?_
            refine l_val (v_move rfl) rfl ?_
            refine l_on rfl rfl rfl ?_
            refine l_val (v_move rfl) rfl ?_
            refine l_on rfl rfl rfl ?_
            refine l_val (v_eql rfl rfl) rfl ?_
            refine l_val (v_pickT rfl rfl) rfl ?_
            refine l_val (v_move rfl) rfl ?_
            refine l_part 104 rfl (fun p5 => ?_) (fun p5 => ?_)
            · skip
              refine l_on rfl rfl rfl ?_
              refine l_val (v_move rfl) rfl ?_
              refine l_on rfl rfl rfl ?_
              refine l_val (v_move rfl) rfl ?_
              refine l_on rfl rfl rfl ?_
              refine l_val (v_fieldX (o' := 1) field24_1 rfl rfl) rfl ?_
              refine l_on rfl rfl rfl ?_
              refine l_val (v_load ty22 rfl (here (hS.cellX 0 (k := 1) rfl rfl))) rfl ?_
              refine l_on rfl rfl rfl ?_
              refine l_val (v_len Try.underlying22 rfl) rfl ?_
              refine l_on rfl rfl rfl ?_
              refine l_val (v_lss rfl rfl) rfl ?_
              refine l_on rfl rfl rfl ?_
              refine l_val (v_move rfl) rfl ?_
              refine l_part 111 rfl (fun p6 => ?_) (fun p6 => ?_)
              · skip
                obtain ⟨ad, hA, hcell⟩ := cell_k (hS.lies 1 rfl) (k := lbnd cs q) (by omega); have hkl : lbnd cs q < cs.length := (by omega)
                refine l_on rfl rfl rfl ?_
                refine l_val (v_fieldX (o' := 1) field24_1 rfl rfl) rfl ?_
                refine l_on rfl rfl rfl ?_
                refine l_val (v_load ty22 rfl (here (hS.cellX 0 (k := 1) rfl rfl))) rfl ?_
                refine l_on rfl rfl rfl ?_
                refine l_val (v_move rfl) rfl ?_
                refine l_on rfl rfl rfl ?_
                refine l_val (v_indexAddrO hA Try.underlying22 tyN27.size rfl rfl (by omega) (by omega)) rfl ?_
                refine l_on rfl rfl rfl ?_
                refine l_val (v_fieldAddr field27_0 rfl) rfl ?_
                refine l_on rfl rfl rfl ?_
                refine l_val (v_load (v := .string (cAt cs (lbnd cs q)).key) ty9 rfl (here (lies_cell (hS.lies 1 rfl) hA hkl 0 _ rfl))) rfl ?_
                refine l_on rfl rfl rfl ?_
                refine l_val (v_move rfl) rfl ?_
                refine l_on rfl rfl rfl ?_
                refine l_val (v_seql rfl rfl) rfl ?_
                refine l_on rfl rfl rfl ?_
                refine l_val (v_pickT rfl rfl) rfl ?_
                refine l_on rfl rfl rfl ?_
                refine l_val (v_boolEq Try.underlying4 rfl rfl) rfl ?_
                refine l_val (v_pickT rfl rfl) rfl ?_
                refine l_val (v_assign rfl) rfl ?_
                refine l_end ?_
                refine k_code ?_
                refine c_ret1 rfl rfl ?_
                exact ⟨rb (has_T (by omega)), hS.keep⟩
              · skip
                refine l_skip rfl rfl rfl rfl rfl ?_
                refine l_skip rfl rfl rfl rfl rfl ?_
                refine l_skip rfl rfl rfl rfl rfl ?_
                refine l_skip rfl rfl rfl rfl rfl ?_
                refine l_skip rfl rfl rfl rfl rfl ?_
                refine l_skip rfl rfl rfl rfl rfl ?_
                refine l_skip rfl rfl rfl rfl rfl ?_
                refine l_skip rfl rfl rfl rfl rfl ?_
                refine l_on rfl rfl rfl ?_
                refine l_val (v_pickF rfl rfl) rfl ?_
                refine l_on rfl rfl rfl ?_
                refine l_val (v_boolEq Try.underlying4 rfl rfl) rfl ?_
                refine l_val (v_pickT rfl rfl) rfl ?_
                refine l_val (v_assign rfl) rfl ?_
                refine l_end ?_
                refine k_code ?_
                refine c_ret1 rfl rfl ?_
                exact ⟨rb (has_F (by omega)), hS.keep⟩
            · exact absurd (by rw [child_not (not_tt p3)]; omega) p5
        · skip
          refine c_skip ?_
          refine k_code ?_
          refine c_seq ?_
          refine c_seq ?_
          refine c_region ?_
          refine l_val (v_move rfl) rfl ?_
          refine l_val (v_lss rfl rfl) rfl ?_
          refine l_end ?_
          refine k_code ?_
          refine c_if rfl (fun p4 => ?_) (fun p4 => ?_)
          · exfalso; omega
          · skip
            refine c_skip ?_
            refine k_code ?_
            refine c_seq ?_
            refine c_region ?_
            refine l_val (v_move rfl) rfl ?_
            refine l_val (v_move rfl) rfl ?_
            refine l_on rfl rfl rfl ?_
            refine l_val (v_move rfl) rfl ?_
            refine l_on rfl rfl rfl ?_
            refine l_val (v_move rfl) rfl ?_
            refine l_on rfl rfl rfl ?_
            refine l_val (v_eql rfl rfl) rfl ?_
            refine l_val (v_pickT rfl rfl) rfl ?_
            refine l_val (v_move rfl) rfl ?_
            refine l_part 104 rfl (fun p5 => ?_) (fun p5 => ?_)
            · skip
              refine l_on rfl rfl rfl ?_
              refine l_val (v_move rfl) rfl ?_
              refine l_on rfl rfl rfl ?_
              refine l_val (v_move rfl) rfl ?_
              refine l_on rfl rfl rfl ?_
              refine l_val (v_fieldX (o' := 1) field24_1 rfl rfl) rfl ?_
              refine l_on rfl rfl rfl ?_
              refine l_val (v_load ty22 rfl (here (hS.cellX 0 (k := 1) rfl rfl))) rfl ?_
              refine l_on rfl rfl rfl ?_
              refine l_val (v_len Try.underlying22 rfl) rfl ?_
              refine l_on rfl rfl rfl ?_
              refine l_val (v_lss rfl rfl) rfl ?_
              refine l_on rfl rfl rfl ?_
              refine l_val (v_move rfl) rfl ?_
              refine l_part 111 rfl (fun p6 => ?_) (fun p6 => ?_)
              · skip
                obtain ⟨ad, hA, hcell⟩ := cell_k (hS.lies 1 rfl) (k := lbnd cs q) (by omega); have hkl : lbnd cs q < cs.length := (by omega)
                refine l_on rfl rfl rfl ?_
                refine l_val (v_fieldX (o' := 1) field24_1 rfl rfl) rfl ?_
                refine l_on rfl rfl rfl ?_
                refine l_val (v_load ty22 rfl (here (hS.cellX 0 (k := 1) rfl rfl))) rfl ?_
                refine l_on rfl rfl rfl ?_
                refine l_val (v_move rfl) rfl ?_
                refine l_on rfl rfl rfl ?_
                refine l_val (v_indexAddrO hA Try.underlying22 tyN27.size rfl rfl (by omega) (by omega)) rfl ?_
                refine l_on rfl rfl rfl ?_
                refine l_val (v_fieldAddr field27_0 rfl) rfl ?_
                refine l_on rfl rfl rfl ?_
                refine l_val (v_load (v := .string (cAt cs (lbnd cs q)).key) ty9 rfl (here (lies_cell (hS.lies 1 rfl) hA hkl 0 _ rfl))) rfl ?_
                refine l_on rfl rfl rfl ?_
                refine l_val (v_move rfl) rfl ?_
                refine l_on rfl rfl rfl ?_
                refine l_val (v_seql rfl rfl) rfl ?_
                refine l_on rfl rfl rfl ?_
                refine l_val (v_pickT rfl rfl) rfl ?_
                refine l_on rfl rfl rfl ?_
                refine l_val (v_boolEq Try.underlying4 rfl rfl) rfl ?_
                refine l_val (v_pickT rfl rfl) rfl ?_
                refine l_val (v_assign rfl) rfl ?_
                refine l_end ?_
                refine k_code ?_
                refine c_ret1 rfl rfl ?_
                exact ⟨rb (has_T (by omega)), hS.keep⟩
              · skip
                refine l_skip rfl rfl rfl rfl rfl ?_
                refine l_skip rfl rfl rfl rfl rfl ?_
                refine l_skip rfl rfl rfl rfl rfl ?_
                refine l_skip rfl rfl rfl rfl rfl ?_
                refine l_skip rfl rfl rfl rfl rfl ?_
                refine l_skip rfl rfl rfl rfl rfl ?_
                refine l_skip rfl rfl rfl rfl rfl ?_
                refine l_skip rfl rfl rfl rfl rfl ?_
                refine l_on rfl rfl rfl ?_
                refine l_val (v_pickF rfl rfl) rfl ?_
                refine l_on rfl rfl rfl ?_
                refine l_val (v_boolEq Try.underlying4 rfl rfl) rfl ?_
                refine l_val (v_pickT rfl rfl) rfl ?_
                refine l_val (v_assign rfl) rfl ?_
                refine l_end ?_
                refine k_code ?_
                refine c_ret1 rfl rfl ?_
                exact ⟨rb (has_F (by omega)), hS.keep⟩
            · exact absurd (by rw [child_has (notnot p3)]) p5
end Go.Proofs.Ytndchgmgcjebiaa
