/- The walks of Split, of both sides. -/
import Derived.Test.YtndchgmgcjebiaaNodeEdit
namespace Go.Proofs.Ytndchgmgcjebiaa
open Go Go.RowKit E
set_option maxRecDepth 100000
set_option linter.unusedVariables false
set_option linter.unusedSimpArgs false

/-- Where a node is cut. -/
structure SplitAt (leaf : Bool) (cs : List Cel) (k : Nat) : Prop where
  pos : 1 ≤ k
  le : k + 1 ≤ cs.length
  below : ∀ j, 1 ≤ j → j < k → 2 * sizeTo leaf cs j < sizeS leaf cs
  stop : k + 1 = cs.length ∨ ¬ 2 * sizeTo leaf cs k < sizeS leaf cs
theorem SplitAt.unique {leaf : Bool} {cs : List Cel} {j k : Nat} (hj : SplitAt leaf cs j) (hk : SplitAt leaf cs k) : j = k := by
  have h1 := hj.le; have h2 := hk.le
  rcases Nat.lt_trichotomy j k with h | h | h
  · rcases hj.stop with e | e
    · omega
    · exact absurd (hk.below j hj.pos h) e
  · exact h
  · rcases hk.stop with e | e
    · omega
    · exact absurd (hj.below k hk.pos h) e
/-- A node, or two, handed back. -/
def GivesSplit (w0 : World) (A : Option Addr) (leaf : Bool) (cs : List Cel) (e : Ending) (w' : World) : Prop :=
  ((sizeS leaf cs ≤ 1013 ∨ cs.length < 2) ∧ ∃ b c, e = .returned (.slice (some ⟨b, 0, none⟩) 1 1) ∧ cs.length ≤ c ∧ St No w0 w' [.blk b (.cells #[.bool leaf, .slice A cs.length c] 24 (0, 0))]) ∨
  (¬ (sizeS leaf cs ≤ 1013 ∨ cs.length < 2) ∧ ∃ k b A1 A2 c1 c2, SplitAt leaf cs k ∧ e = .returned (.slice (some ⟨b, 0, none⟩) 2 2) ∧ k ≤ c1 ∧ cs.length - k ≤ c2 ∧
    Lies w' A1 (cellsOf (cs.take k)) ∧ Lies w' A2 (cellsOf (cs.drop k)) ∧ (∀ b, liesF A1 (cellsOf (cs.take k)) b → liesF A (cellsOf cs) b) ∧ (∀ b, liesF A2 (cellsOf (cs.drop k)) b → liesF A (cellsOf cs) b) ∧
    St No w0 w' [.blk b (.cells #[.bool leaf, .slice A1 k c1, .bool leaf, .slice A2 (cs.length - k) c2] 24 (0, 0))])

theorem sizeTo_take {leaf : Bool} {cs : List Cel} {k : Nat} : ∀ {j : Nat}, j ≤ k → sizeTo leaf (cs.take k) j = sizeTo leaf cs j
  | 0, _ => rfl
  | j + 1, h => by
    simp only [sizeTo]
    rw [sizeTo_take (show j ≤ k by omega)]
    congr 2
    unfold cAt
    rw [List.getD, List.getElem?_take, if_pos (by omega)]; rfl
theorem smalls_take {cs : List Cel} (h : Smalls cs) (k : Nat) : Smalls (cs.take k) := ⟨by rw [List.length_take]; have := h.1; omega, fun c hc => h.2 c (List.mem_of_mem_take hc)⟩
theorem smalls_drop {cs : List Cel} (h : Smalls cs) (k : Nat) : Smalls (cs.drop k) := ⟨by rw [List.length_drop]; have := h.1; omega, fun c hc => h.2 c (List.mem_of_mem_drop hc)⟩

set_option maxHeartbeats 2000000 in
theorem split_any (leaf : Bool) (A : Option Addr) (cs : List Cel) (c : Nat) (w0 : World) (hl : Lies w0 A (cellsOf cs)) (hc : cs.length ≤ c) (hs : Smalls cs) :
    Calls Try.prog 29 [.agg #[.bool leaf, .slice A cs.length c]].toArray w0 (GivesSplit w0 A leaf cs) := by
  have hn := hs.1
  have htot : sizeS leaf cs ≤ 2 + cs.length * 200000 := sizeTo_le hs (Nat.le_refl _)
  refine enter (n := 56) Try.func29 rfl rfl rfl ?_
  have hS := St.start No w0
  refine c_seq ?_
  refine c_region ?_
  refine l_box (cs := #[_, _]) hS rfl rfl rfl (fun b1 w hS => ?_)
  refine l_val (v_assign rfl) rfl ?_
  refine l_end ?_
  refine k_code ?_
  refine c_seq ?_
  refine c_seq ?_
  refine c_region ?_
  refine l_val (v_loadW tyN24 rfl rfl (hereN (hS.rowX 0 rfl))) rfl ?_
  refine l_callK goes16 rfl hS (fits_any _ _ _ _ _ (hl.keep hS.keep) hs) rfl (fun w hS => ?_)
  refine l_val (v_move rfl) rfl ?_
  refine l_part 8 rfl (fun p1 => ?_) (fun p1 => ?_)
  · skip
    refine l_skip rfl rfl rfl rfl rfl ?_
    refine l_skip rfl rfl rfl rfl rfl ?_
    refine l_skip rfl rfl rfl rfl rfl ?_
    refine l_skip rfl rfl rfl rfl rfl ?_
    refine l_val (v_pickT rfl rfl) rfl ?_
    refine l_end ?_
    refine k_code ?_
    refine c_yes rfl ?_
    refine c_seq ?_
    refine c_region ?_
    refine l_val (v_loadW tyN24 rfl rfl (hereN (hS.rowX 0 rfl))) rfl ?_
    refine l_slice1 (bytes := 0) hS Try.underlying48 tyN24.size zero24 rfl (by decide) (by decide) rfl rfl rfl rfl (fun b2 w hS => ?_)
    refine l_val (v_assign rfl) rfl ?_
    refine l_end ?_
    refine k_code ?_
    refine c_ret1 rfl rfl ?_
    exact Or.inl ⟨Or.inl p1, b2, c, rfl, hc, hS.less (.cons_cons _ (List.nil_sublist _))⟩
  · skip
    refine l_on rfl rfl rfl ?_
    refine l_val (v_fieldX (o' := 1) field24_1 rfl rfl) rfl ?_
    refine l_on rfl rfl rfl ?_
    refine l_val (v_load ty22 rfl (here (hS.cellX 0 (k := 1) rfl rfl))) rfl ?_
    refine l_on rfl rfl rfl ?_
    refine l_val (v_len Try.underlying22 rfl) rfl ?_
    refine l_on rfl rfl rfl ?_
    refine l_val (v_lss rfl rfl) rfl ?_
    refine l_val (v_pickF rfl rfl) rfl ?_
    refine l_end ?_
    refine k_code ?_
    refine c_if rfl (fun p2 => ?_) (fun p2 => ?_)
    · skip
      refine c_seq ?_
      refine c_region ?_
      refine l_val (v_loadW tyN24 rfl rfl (hereN (hS.rowX 0 rfl))) rfl ?_
      refine l_slice1 (bytes := 0) hS Try.underlying48 tyN24.size zero24 rfl (by decide) (by decide) rfl rfl rfl rfl (fun b2 w hS => ?_)
      refine l_val (v_assign rfl) rfl ?_
      refine l_end ?_
      refine k_code ?_
      refine c_ret1 rfl rfl ?_
      exact Or.inl ⟨Or.inr (by omega), b2, c, rfl, hc, hS.less (.cons_cons _ (List.nil_sublist _))⟩
    · skip
      refine c_skip ?_
      refine k_code ?_
      refine c_seq ?_
      refine c_region ?_
      refine l_val (v_loadW tyN24 rfl rfl (hereN (hS.rowX 0 rfl))) rfl ?_
      refine l_callK goes14 rfl hS (size_any _ _ _ _ _ (hl.keep hS.keep) hs) rfl (fun w hS => ?_)
      refine l_val (v_assign rfl) rfl ?_
      refine l_val (v_assign rfl) rfl ?_
      refine l_val (v_assign rfl) rfl ?_
      refine l_end ?_
      refine k_code ?_
      refine c_cutV [(1, _), (2, _)] (fun (k : Nat) => [(5, .int .i64 k)]) (fun (k : Nat) w => St No w0 w [.blk b1 (.cells #[.bool leaf, .slice A cs.length c] 24 (0, 0))] ∧ SplitAt leaf cs k) (kc rfl (kc rfl kn)) ?_ (fun k w hI => ?_)
      · skip
        refine c_block ?_
        refine c_loopV [(1, _), (2, _), (3, _)] (fun (k : Nat) => [(4, .int .i64 (sizeTo leaf cs k : Nat)), (5, .int .i64 k)]) (fun (k : Nat) w => St No w0 w [.blk b1 (.cells #[.bool leaf, .slice A cs.length c] 24 (0, 0))] ∧ (k + 1 ≤ cs.length ∧ ∀ j, 1 ≤ j → j < k → 2 * sizeTo leaf cs j < sizeS leaf cs)) (fun (k : Nat) => cs.length - k) (0 : Nat) ⟨hS, ⟨by omega, fun j h1 h2 => by omega⟩⟩ (kc rfl (kc rfl (kc rfl (kc rfl (kc rfl kn))))) (fun k w hI => ?_)
        obtain ⟨hS, ⟨hk, hbel⟩⟩ := hI
        have hsz := sizeTo_le (leaf := leaf) hs (show k ≤ cs.length by omega)
        refine c_seq ?_
        refine c_seq ?_
        refine c_region ?_
        refine l_val (v_move rfl) rfl ?_
        refine l_val (v_fieldX (o' := 1) field24_1 rfl rfl) rfl ?_
        refine l_val (v_load ty22 rfl (here (hS.cellX 0 (k := 1) rfl rfl))) rfl ?_
        refine l_val (v_len Try.underlying22 rfl) rfl ?_
        refine l_val (v_sub rfl rfl (by omega)) rfl ?_
        refine l_val (v_lss rfl rfl) rfl ?_
        refine l_val (v_move rfl) rfl ?_
        refine l_part 24 rfl (fun p3 => ?_) (fun p3 => ?_)
        · skip
          obtain ⟨ad, hA, hcell⟩ := cell_k hl (k := k) (by omega)
          have hb := bytesS_le (leaf := leaf) (hs.2 _ (cAt_mem (show k < cs.length by omega)))
          refine l_on rfl rfl rfl ?_
          refine l_val (v_move rfl) rfl ?_
          refine l_on rfl rfl rfl ?_
          refine l_val (v_eql rfl rfl) rfl ?_
          refine l_on rfl rfl rfl ?_
          refine l_val (v_move rfl) rfl ?_
          refine l_part 27 rfl (fun p4 => ?_) (fun p4 => ?_)
          · skip
            refine l_skip rfl rfl rfl rfl rfl ?_
            refine l_skip rfl rfl rfl rfl rfl ?_
            refine l_skip rfl rfl rfl rfl rfl ?_
            refine l_skip rfl rfl rfl rfl rfl ?_
            refine l_on rfl rfl rfl ?_
            refine l_val (v_pickT rfl rfl) rfl ?_
            refine l_val (v_pickT rfl rfl) rfl ?_
            refine l_end ?_
            refine k_code ?_
            refine c_yes rfl ?_
            refine c_skip ?_
            refine k_code ?_
            refine c_block ?_
            refine c_seq ?_
            refine q_region hS mixed (by kernel_rfl) ?_
            refine q_val (v_move rfl) rfl ?_
            refine q_val (v_fieldX (o' := 0) field24_0 rfl rfl) rfl ?_
            refine q_val (v_load ty4 rfl (fun _ h => h.cellX 0 (k := 0) rfl rfl)) rfl ?_
            refine q_val (v_fieldX (o' := 1) field24_1 rfl rfl) rfl ?_
            refine q_val (v_load ty22 rfl (fun _ h => h.cellX 0 (k := 1) rfl rfl)) rfl ?_
            refine q_val (v_move rfl) rfl ?_
            refine q_val (v_indexAddrO hA Try.underlying22 tyN27.size rfl rfl (by omega) (by omega)) rfl ?_
            refine q_val (v_loadN (cs := enc (cAt cs k)) tyN27 rfl rfl (fun _ h => fun j v hj => h.old (hcell j v hj))) rfl ?_
            refine q_callK goes36 rfl (fun w hS => bytes_any _ _ _ (hs.2 _ (cAt_mem (show k < cs.length by omega)))) rfl ?_
            refine q_val (v_add rfl rfl (by omega)) rfl ?_
            refine q_val (v_assign rfl) rfl ?_
            refine q_end (fun w hS => ?_)
            refine k_code ?_
            refine c_region ?_
            refine l_val (v_move rfl) rfl ?_
            refine l_val (v_add rfl rfl (by omega)) rfl ?_
            refine l_val (v_assign rfl) rfl ?_
            refine l_end ?_
            refine fun _ hFr => ⟨(k + 1), (by omega), ⟨hS, ⟨by omega, fun j h1 h2 => by omega⟩⟩, Fr.sub hFr (kc rfl (kc rfl (kc rfl (kc rfl (kc rfl kn)))))⟩
          · skip
            refine l_on rfl rfl rfl ?_
            refine l_val (v_move rfl) rfl ?_
            refine l_on rfl rfl rfl ?_
            refine l_val (v_mul rfl rfl (by omega)) rfl ?_
            refine l_on rfl rfl rfl ?_
            refine l_val (v_move rfl) rfl ?_
            refine l_on rfl rfl rfl ?_
            refine l_val (v_lss rfl rfl) rfl ?_
            refine l_on rfl rfl rfl ?_
            refine l_val (v_pickF rfl rfl) rfl ?_
            refine l_val (v_pickT rfl rfl) rfl ?_
            refine l_end ?_
            refine k_code ?_
            refine c_if rfl (fun p5 => ?_) (fun p5 => ?_)
            · skip
              refine c_skip ?_
              refine k_code ?_
              refine c_block ?_
              refine c_seq ?_
              refine q_region hS mixed (by kernel_rfl) ?_
              refine q_val (v_move rfl) rfl ?_
              refine q_val (v_fieldX (o' := 0) field24_0 rfl rfl) rfl ?_
              refine q_val (v_load ty4 rfl (fun _ h => h.cellX 0 (k := 0) rfl rfl)) rfl ?_
              refine q_val (v_fieldX (o' := 1) field24_1 rfl rfl) rfl ?_
              refine q_val (v_load ty22 rfl (fun _ h => h.cellX 0 (k := 1) rfl rfl)) rfl ?_
              refine q_val (v_move rfl) rfl ?_
              refine q_val (v_indexAddrO hA Try.underlying22 tyN27.size rfl rfl (by omega) (by omega)) rfl ?_
              refine q_val (v_loadN (cs := enc (cAt cs k)) tyN27 rfl rfl (fun _ h => fun j v hj => h.old (hcell j v hj))) rfl ?_
              refine q_callK goes36 rfl (fun w hS => bytes_any _ _ _ (hs.2 _ (cAt_mem (show k < cs.length by omega)))) rfl ?_
              refine q_val (v_add rfl rfl (by omega)) rfl ?_
              refine q_val (v_assign rfl) rfl ?_
              refine q_end (fun w hS => ?_)
              refine k_code ?_
              refine c_region ?_
              refine l_val (v_move rfl) rfl ?_
              refine l_val (v_add rfl rfl (by omega)) rfl ?_
              refine l_val (v_assign rfl) rfl ?_
              refine l_end ?_
              refine fun _ hFr => ⟨(k + 1), (by omega), ⟨hS, ⟨by omega, fun j h1 h2 => (if e : j = k then e ▸ (by omega : 2 * sizeTo leaf cs k < sizeS leaf cs) else hbel j h1 (by omega))⟩⟩, Fr.sub hFr (kc rfl (kc rfl (kc rfl (kc rfl (kc rfl kn)))))⟩
            · skip
              refine c_exit ex_here ?_
              refine fun _ hFr => ⟨k, ⟨hS, ⟨by omega, hk, hbel, Or.inr (by omega)⟩⟩, Fr.sub hFr (kc rfl (kc rfl (kc rfl kn)))⟩
        · skip
          refine l_skip rfl rfl rfl rfl rfl ?_
          refine l_skip rfl rfl rfl rfl rfl ?_
          refine l_skip rfl rfl rfl rfl rfl ?_
          refine l_skipU rfl rfl rfl rfl ?_
          refine l_skipU rfl rfl rfl rfl ?_
          refine l_skipU rfl rfl rfl rfl ?_
          refine l_skipU rfl rfl rfl rfl ?_
          refine l_skip rfl rfl rfl rfl rfl ?_
          refine l_val (v_pickF rfl rfl) rfl ?_
          refine l_end ?_
          refine k_code ?_
          refine c_no rfl ?_
          refine c_exit ex_here ?_
          refine fun _ hFr => ⟨k, ⟨hS, ⟨by omega, hk, hbel, Or.inl (by omega)⟩⟩, Fr.sub hFr (kc rfl (kc rfl (kc rfl kn)))⟩
      · skip
        obtain ⟨hS, hsp⟩ := hI
        have hsp1 := hsp.pos; have hsp2 := hsp.le
        refine c_seq ?_
        refine d_region (fun w => St No w0 w [.blk b1 (.cells #[.bool leaf, .slice A cs.length c] 24 (0, 0))]) 11 mixed ?_
        have hS := hS.drew 1
        have hR : St No w0 _ [.blk b1 (.cells #[.bool leaf, .slice A cs.length c] 24 (0, 0))] := hS.less (.cons_cons _ (.slnil))
        refine d_take 0 rfl (by kernel_rfl) (by kernel_rfl) (by kernel_rfl) (by kernel_rfl) hR (v_loadW tyN24 rfl rfl (fun _ h => h.rowX 0 rfl)) rfl ?_
        refine d_take 1 rfl (by kernel_rfl) (by kernel_rfl) (by kernel_rfl) (by kernel_rfl) hR (v_move rfl) rfl ?_
        refine d_take 3 rfl (by kernel_rfl) (by kernel_rfl) (by kernel_rfl) (by kernel_rfl) hR (v_loadW tyN24 rfl rfl (fun _ h => h.rowX 0 rfl)) rfl ?_
        refine d_take 4 rfl (by kernel_rfl) (by kernel_rfl) (by kernel_rfl) (by kernel_rfl) hR (v_move rfl) rfl ?_
        refine d_take 5 rfl (by kernel_rfl) (by kernel_rfl) (by kernel_rfl) (by kernel_rfl) hR (v_fieldX (o' := 1) field24_1 rfl rfl) rfl ?_
        refine d_take 6 rfl (by kernel_rfl) (by kernel_rfl) (by kernel_rfl) (by kernel_rfl) hR (v_load ty22 rfl (fun _ h => h.cellX 0 (k := 1) rfl rfl)) rfl ?_
        refine d_take 7 rfl (by kernel_rfl) (by kernel_rfl) (by kernel_rfl) (by kernel_rfl) hR (v_len Try.underlying22 rfl) rfl ?_
        refine d_one 2 rfl (by kernel_rfl) ?_
        refine l_callK goes44 rfl hS (part_any _ _ _ _ 0 k _ (Nat.zero_le _) (by omega) hc) rfl (fun w hS => ?_)
        refine l_end ?_
        have hR : St No w0 _ [.blk b1 (.cells #[.bool leaf, .slice A cs.length c] 24 (0, 0))] := hS.less (.cons_cons _ (.slnil))
        refine d_on (S := (fun w => St No w0 w [.blk b1 (.cells #[.bool leaf, .slice A cs.length c] 24 (0, 0))])) hR ?_
        refine d_one 8 rfl (by kernel_rfl) ?_
        refine l_callK goes44 rfl hS (part_any _ _ _ _ k cs.length _ (by omega) (Nat.le_refl _) hc) rfl (fun w hS => ?_)
        refine l_end ?_
        have hR : St No w0 _ [.blk b1 (.cells #[.bool leaf, .slice A cs.length c] 24 (0, 0))] := hS.less (.cons_cons _ (.slnil))
        refine d_on (S := (fun w => St No w0 w [.blk b1 (.cells #[.bool leaf, .slice A cs.length c] 24 (0, 0))])) hR ?_
        refine d_one 9 rfl (by kernel_rfl) ?_
        refine l_sliceM (cs := #[_, _, _, _]) (xs := [.tmp 48, .tmp 54]) hS Try.underlying48 tyN24.size zero24 rfl rfl rfl rfl rfl rfl rfl rfl (fun b2 w hS => ?_)
        refine l_end ?_
        have hR : St No w0 _ [.blk b1 (.cells #[.bool leaf, .slice A cs.length c] 24 (0, 0))] := hS.less (.cons _ (.cons_cons _ (.slnil)))
        refine d_on (S := (fun w => St No w0 w [.blk b1 (.cells #[.bool leaf, .slice A cs.length c] 24 (0, 0))])) hR ?_
        refine d_one 10 rfl (by kernel_rfl) ?_
        refine l_val (v_assign rfl) rfl ?_
        refine l_end ?_
        have hR : St No w0 _ [.blk b1 (.cells #[.bool leaf, .slice A cs.length c] 24 (0, 0))] := hS.less (.cons _ (.cons_cons _ (.slnil)))
        refine d_on (S := (fun w => St No w0 w [.blk b1 (.cells #[.bool leaf, .slice A cs.length c] 24 (0, 0))])) hR ?_
        refine d_end (by kernel_rfl) ?_
        refine k_code ?_
        refine c_ret1 rfl rfl ?_
        exact Or.inr ⟨by omega, k, b2, _, _, _, _, hsp, rfl, Nat.le_refl _, Nat.le_refl _, by have := lies_part (hl.keep hS.keep) (Nat.zero_le _) (show k ≤ cs.length by omega); rwa [List.drop_zero] at this, by have := lies_part (hl.keep hS.keep) (show k ≤ cs.length by omega) (Nat.le_refl _); rwa [List.take_length] at this, fun b hb => liesF_from hb (sub_ne take_ne), fun b hb => liesF_from hb (sub_ne drop_ne), hS.less (.cons_cons _ (List.nil_sublist _))⟩

set_option maxHeartbeats 2000000 in
theorem rsplit_any (leaf : Bool) (A : Option Addr) (cs : List Cel) (c : Nat) (w0 : World) (hl : Lies w0 A (cellsOf cs)) (hc : cs.length ≤ c) (hs : Smalls cs) :
    Calls Try.prog 30 [.agg #[.bool leaf, .slice A cs.length c]].toArray w0 (GivesSplit w0 A leaf cs) := by
  have hn := hs.1
  have htot : sizeS leaf cs ≤ 2 + cs.length * 200000 := sizeTo_le hs (Nat.le_refl _)
  refine enter (n := 52) Try.func30 rfl rfl rfl ?_
  have hS := St.start No w0
  refine c_seq ?_
  refine c_region ?_
  refine l_box (cs := #[_, _]) hS rfl rfl rfl (fun b1 w hS => ?_)
  refine l_val (v_assign rfl) rfl ?_
  refine l_end ?_
  refine k_code ?_
  refine c_seq ?_
  refine c_seq ?_
  refine c_region ?_
  refine l_val (v_loadW tyN24 rfl rfl (hereN (hS.rowX 0 rfl))) rfl ?_
  refine l_callK goes15 rfl hS (rsize_any _ _ _ _ _ (hl.keep hS.keep) hs) rfl (fun w hS => ?_)
  refine l_val (v_leq rfl rfl) rfl ?_
  refine l_val (v_move rfl) rfl ?_
  refine l_part 7 rfl (fun p1 => ?_) (fun p1 => ?_)
  · skip
    refine l_skip rfl rfl rfl rfl rfl ?_
    refine l_skip rfl rfl rfl rfl rfl ?_
    refine l_skip rfl rfl rfl rfl rfl ?_
    refine l_skip rfl rfl rfl rfl rfl ?_
    refine l_val (v_pickT rfl rfl) rfl ?_
    refine l_end ?_
    refine k_code ?_
    refine c_yes rfl ?_
    refine c_seq ?_
    refine c_region ?_
    refine l_val (v_loadW tyN24 rfl rfl (hereN (hS.rowX 0 rfl))) rfl ?_
    refine l_slice1 (bytes := 0) hS Try.underlying48 tyN24.size zero24 rfl (by decide) (by decide) rfl rfl rfl rfl (fun b2 w hS => ?_)
    refine l_val (v_assign rfl) rfl ?_
    refine l_end ?_
    refine k_code ?_
    refine c_ret1 rfl rfl ?_
    exact Or.inl ⟨Or.inl (by omega), b2, c, rfl, hc, hS.less (.cons_cons _ (List.nil_sublist _))⟩
  · skip
    refine l_on rfl rfl rfl ?_
    refine l_val (v_fieldX (o' := 1) field24_1 rfl rfl) rfl ?_
    refine l_on rfl rfl rfl ?_
    refine l_val (v_load ty22 rfl (here (hS.cellX 0 (k := 1) rfl rfl))) rfl ?_
    refine l_on rfl rfl rfl ?_
    refine l_val (v_len Try.underlying22 rfl) rfl ?_
    refine l_on rfl rfl rfl ?_
    refine l_val (v_lss rfl rfl) rfl ?_
    refine l_val (v_pickF rfl rfl) rfl ?_
    refine l_end ?_
    refine k_code ?_
    refine c_if rfl (fun p2 => ?_) (fun p2 => ?_)
    · skip
      refine c_seq ?_
      refine c_region ?_
      refine l_val (v_loadW tyN24 rfl rfl (hereN (hS.rowX 0 rfl))) rfl ?_
      refine l_slice1 (bytes := 0) hS Try.underlying48 tyN24.size zero24 rfl (by decide) (by decide) rfl rfl rfl rfl (fun b2 w hS => ?_)
      refine l_val (v_assign rfl) rfl ?_
      refine l_end ?_
      refine k_code ?_
      refine c_ret1 rfl rfl ?_
      exact Or.inl ⟨Or.inr (by omega), b2, c, rfl, hc, hS.less (.cons_cons _ (List.nil_sublist _))⟩
    · skip
      refine c_skip ?_
      refine k_code ?_
      refine c_seq ?_
      refine c_region ?_
      refine l_val (v_assign rfl) rfl ?_
      refine l_end ?_
      refine k_code ?_
      refine c_cutV [(1, _), (2, _)] (fun (k : Nat) => [(3, .int .i64 k)]) (fun (k : Nat) w => St No w0 w [.blk b1 (.cells #[.bool leaf, .slice A cs.length c] 24 (0, 0))] ∧ SplitAt leaf cs k) (kc rfl (kc rfl kn)) ?_ (fun k w hI => ?_)
      · skip
        refine c_block ?_
        refine c_loopV [(1, _), (2, _)] (fun (k : Nat) => [(3, .int .i64 k)]) (fun (k : Nat) w => St No w0 w [.blk b1 (.cells #[.bool leaf, .slice A cs.length c] 24 (0, 0))] ∧ (1 ≤ k ∧ k + 1 ≤ cs.length ∧ ∀ j, 1 ≤ j → j < k → 2 * sizeTo leaf cs j < sizeS leaf cs)) (fun (k : Nat) => cs.length - k) (1 : Nat) ⟨hS, ⟨by omega, by omega, fun j h1 h2 => by omega⟩⟩ (kc rfl (kc rfl (kc rfl kn))) (fun k w hI => ?_)
        obtain ⟨hS, ⟨hk1, hk, hbel⟩⟩ := hI
        have hsz := sizeTo_le (leaf := leaf) hs (show k ≤ cs.length by omega); have htk : sizeS leaf (cs.take k) = sizeTo leaf cs k := (by unfold sizeS; rw [List.length_take, Nat.min_eq_left (by omega), sizeTo_take (Nat.le_refl _)])
        refine c_seq ?_
        refine c_seq ?_
        refine q_region hS mixed (by kernel_rfl) ?_
        refine q_val (v_move rfl) rfl ?_
        refine q_val (v_fieldX (o' := 1) field24_1 rfl rfl) rfl ?_
        refine q_val (v_load ty22 rfl (fun _ h => h.cellX 0 (k := 1) rfl rfl)) rfl ?_
        refine q_val (v_len Try.underlying22 rfl) rfl ?_
        refine q_val (v_sub rfl rfl (by omega)) rfl ?_
        refine q_val (v_lss rfl rfl) rfl ?_
        refine q_val (v_move rfl) rfl ?_
        refine q_part 21 rfl (fun p3 => ?_) (fun p3 => ?_)
        · skip
          refine q_on rfl rfl rfl ?_
          refine q_val (v_fieldX (o' := 0) field24_0 rfl rfl) rfl ?_
          refine q_on rfl rfl rfl ?_
          refine q_val (v_load ty4 rfl (fun _ h => h.cellX 0 (k := 0) rfl rfl)) rfl ?_
          refine q_on rfl rfl rfl ?_
          refine q_val (v_fieldX (o' := 1) field24_1 rfl rfl) rfl ?_
          refine q_on rfl rfl rfl ?_
          refine q_val (v_load ty22 rfl (fun _ h => h.cellX 0 (k := 1) rfl rfl)) rfl ?_
          refine q_on rfl rfl rfl ?_
          refine q_val (v_move rfl) rfl ?_
          refine q_on rfl rfl rfl ?_
          refine q_val (v_sliceTo Try.underlying22 (fun w => ⟨_, tyN27.size w⟩) rfl rfl (by omega) (by omega)) rfl ?_
          refine q_on rfl rfl rfl ?_
          refine q_val (v_build (cells := #[_, _]) zero24 places24 rfl rfl) rfl ?_
          refine q_on rfl rfl rfl ?_
          refine q_callK goes15 rfl (fun w hS => by have := rsize_any leaf A (cs.take k) c _ (by have := (hl.keep hS.keep).take (k * 4); rwa [cells_take] at this) (smalls_take hs k); rw [List.length_take, Nat.min_eq_left (show k ≤ cs.length by omega), htk] at this; exact this) rfl ?_
          refine q_on rfl rfl rfl ?_
          refine q_val (v_mul rfl rfl (by omega)) rfl ?_
          refine q_on rfl rfl rfl ?_
          refine q_val (v_loadW tyN24 rfl rfl (fun _ h => h.rowX 0 rfl)) rfl ?_
          refine q_on rfl rfl rfl ?_
          refine q_callK goes15 rfl (fun w hS => rsize_any _ _ _ _ _ (hl.keep hS.keep) hs) rfl ?_
          refine q_on rfl rfl rfl ?_
          refine q_val (v_lss rfl rfl) rfl ?_
          refine q_val (v_pickT rfl rfl) rfl ?_
          refine q_end (fun w hS => ?_)
          refine k_code ?_
          refine c_if rfl (fun p4 => ?_) (fun p4 => ?_)
          · skip
            refine c_skip ?_
            refine k_code ?_
            refine c_block ?_
            refine c_region ?_
            refine l_val (v_move rfl) rfl ?_
            refine l_val (v_add rfl rfl (by omega)) rfl ?_
            refine l_val (v_assign rfl) rfl ?_
            refine l_end ?_
            refine fun _ hFr => ⟨(k + 1), (by omega), ⟨hS, ⟨by omega, by omega, fun j h1 h2 => (if e : j = k then e ▸ (by omega : 2 * sizeTo leaf cs k < sizeS leaf cs) else hbel j h1 (by omega))⟩⟩, Fr.sub hFr (kc rfl (kc rfl (kc rfl kn)))⟩
          · skip
            refine c_exit ex_here ?_
            refine fun _ hFr => ⟨k, ⟨hS, ⟨by omega, hk, hbel, Or.inr (by omega)⟩⟩, Fr.sub hFr (kc rfl (kc rfl (kc rfl kn)))⟩
        · skip
          refine q_skip rfl rfl rfl rfl rfl ?_
          refine q_skip rfl rfl rfl rfl rfl ?_
          refine q_skip rfl rfl rfl rfl rfl ?_
          refine q_skip rfl rfl rfl rfl rfl ?_
          refine q_skip rfl rfl rfl rfl rfl ?_
          refine q_skip rfl rfl rfl rfl rfl ?_
          refine q_skip rfl rfl rfl rfl rfl ?_
          refine q_skip rfl rfl rfl rfl rfl ?_
          refine q_skip rfl rfl rfl rfl rfl ?_
          refine q_skip rfl rfl rfl rfl rfl ?_
          refine q_skip rfl rfl rfl rfl rfl ?_
          refine q_skip rfl rfl rfl rfl rfl ?_
          refine q_val (v_pickF rfl rfl) rfl ?_
          refine q_end (fun w hS => ?_)
          refine k_code ?_
          refine c_no rfl ?_
          refine c_exit ex_here ?_
          refine fun _ hFr => ⟨k, ⟨hS, ⟨by omega, hk, hbel, Or.inl (by omega)⟩⟩, Fr.sub hFr (kc rfl (kc rfl (kc rfl kn)))⟩
      · skip
        obtain ⟨hS, hsp⟩ := hI
        have hsp1 := hsp.pos; have hsp2 := hsp.le
        refine c_seq ?_
        refine d_region (fun w => St No w0 w [.blk b1 (.cells #[.bool leaf, .slice A cs.length c] 24 (0, 0))]) 16 mixed ?_
        have hS := hS.drew 1
        have hR : St No w0 _ [.blk b1 (.cells #[.bool leaf, .slice A cs.length c] 24 (0, 0))] := hS.less (.cons_cons _ (.slnil))
        refine d_take 0 rfl (by kernel_rfl) (by kernel_rfl) (by kernel_rfl) (by kernel_rfl) hR (v_fieldX (o' := 0) field24_0 rfl rfl) rfl ?_
        refine d_take 1 rfl (by kernel_rfl) (by kernel_rfl) (by kernel_rfl) (by kernel_rfl) hR (v_load ty4 rfl (fun _ h => h.cellX 0 (k := 0) rfl rfl)) rfl ?_
        refine d_take 2 rfl (by kernel_rfl) (by kernel_rfl) (by kernel_rfl) (by kernel_rfl) hR (v_fieldX (o' := 1) field24_1 rfl rfl) rfl ?_
        refine d_take 3 rfl (by kernel_rfl) (by kernel_rfl) (by kernel_rfl) (by kernel_rfl) hR (v_load ty22 rfl (fun _ h => h.cellX 0 (k := 1) rfl rfl)) rfl ?_
        refine d_take 4 rfl (by kernel_rfl) (by kernel_rfl) (by kernel_rfl) (by kernel_rfl) hR (v_move rfl) rfl ?_
        refine d_take 5 rfl (by kernel_rfl) (by kernel_rfl) (by kernel_rfl) (by kernel_rfl) hR (v_sliceTo Try.underlying22 (fun w => ⟨_, tyN27.size w⟩) rfl rfl (by omega) (by omega)) rfl ?_
        refine d_take 6 rfl (by kernel_rfl) (by kernel_rfl) (by kernel_rfl) (by kernel_rfl) hR (v_build (cells := #[_, _]) zero24 places24 rfl rfl) rfl ?_
        refine d_take 7 rfl (by kernel_rfl) (by kernel_rfl) (by kernel_rfl) (by kernel_rfl) hR (v_fieldX (o' := 0) field24_0 rfl rfl) rfl ?_
        refine d_take 8 rfl (by kernel_rfl) (by kernel_rfl) (by kernel_rfl) (by kernel_rfl) hR (v_load ty4 rfl (fun _ h => h.cellX 0 (k := 0) rfl rfl)) rfl ?_
        refine d_take 9 rfl (by kernel_rfl) (by kernel_rfl) (by kernel_rfl) (by kernel_rfl) hR (v_fieldX (o' := 1) field24_1 rfl rfl) rfl ?_
        refine d_take 10 rfl (by kernel_rfl) (by kernel_rfl) (by kernel_rfl) (by kernel_rfl) hR (v_load ty22 rfl (fun _ h => h.cellX 0 (k := 1) rfl rfl)) rfl ?_
        refine d_one 11 rfl (by kernel_rfl) ?_
        refine l_val (v_move rfl) rfl ?_
        refine l_end ?_
        have hR : St No w0 _ [.blk b1 (.cells #[.bool leaf, .slice A cs.length c] 24 (0, 0))] := hS.less (.cons_cons _ (.slnil))
        refine d_on (S := (fun w => St No w0 w [.blk b1 (.cells #[.bool leaf, .slice A cs.length c] 24 (0, 0))])) hR ?_
        refine d_one 12 rfl (by kernel_rfl) ?_
        refine l_val (v_sliceFrom Try.underlying22 tyN27.size rfl rfl (by omega) (by omega) (by omega) ) rfl ?_
        refine l_end ?_
        have hR : St No w0 _ [.blk b1 (.cells #[.bool leaf, .slice A cs.length c] 24 (0, 0))] := hS.less (.cons_cons _ (.slnil))
        refine d_on (S := (fun w => St No w0 w [.blk b1 (.cells #[.bool leaf, .slice A cs.length c] 24 (0, 0))])) hR ?_
        refine d_one 13 rfl (by kernel_rfl) ?_
        refine l_val (v_build (cells := #[_, _]) zero24 places24 rfl rfl) rfl ?_
        refine l_end ?_
        have hR : St No w0 _ [.blk b1 (.cells #[.bool leaf, .slice A cs.length c] 24 (0, 0))] := hS.less (.cons_cons _ (.slnil))
        refine d_on (S := (fun w => St No w0 w [.blk b1 (.cells #[.bool leaf, .slice A cs.length c] 24 (0, 0))])) hR ?_
        refine d_one 14 rfl (by kernel_rfl) ?_
        refine l_sliceM (cs := #[_, _, _, _]) (xs := [.tmp 43, .tmp 50]) hS Try.underlying48 tyN24.size zero24 rfl rfl rfl rfl rfl rfl rfl rfl (fun b2 w hS => ?_)
        refine l_end ?_
        have hR : St No w0 _ [.blk b1 (.cells #[.bool leaf, .slice A cs.length c] 24 (0, 0))] := hS.less (.cons _ (.cons_cons _ (.slnil)))
        refine d_on (S := (fun w => St No w0 w [.blk b1 (.cells #[.bool leaf, .slice A cs.length c] 24 (0, 0))])) hR ?_
        refine d_one 15 rfl (by kernel_rfl) ?_
        refine l_val (v_assign rfl) rfl ?_
        refine l_end ?_
        have hR : St No w0 _ [.blk b1 (.cells #[.bool leaf, .slice A cs.length c] 24 (0, 0))] := hS.less (.cons _ (.cons_cons _ (.slnil)))
        refine d_on (S := (fun w => St No w0 w [.blk b1 (.cells #[.bool leaf, .slice A cs.length c] 24 (0, 0))])) hR ?_
        refine d_end (by kernel_rfl) ?_
        refine k_code ?_
        refine c_ret1 rfl rfl ?_
        exact Or.inr ⟨by omega, k, b2, _, _, _, _, hsp, rfl, show k ≤ c by omega, show cs.length - k ≤ c - k by omega, by have := (hl.keep hS.keep).take (k * 4); rwa [cells_take] at this, lies_rest (hl.keep hS.keep) hc (by omega), fun b hb => ⟨sub_ne take_ne hb.1, hb.2⟩, fun b hb => liesF_from hb (sub_ne drop_ne), hS.less (.cons_cons _ (List.nil_sublist _))⟩
end Go.Proofs.Ytndchgmgcjebiaa
