/- The walk of a branch made with as many hashes as there should be; the law of parts. -/
import Derived.Test.YtdlcefiandacnaaDoorMaskWith
namespace Go.Proofs.YtdlcefiandacnaaDoor
open Go Go.RowKit E MM
set_option maxRecDepth 100000
set_option linter.unusedVariables false
set_option linter.unusedSimpArgs false

/-- So many hashes: those that there are, and zeros. -/
def fitS (hs : List (List UInt8)) (n : Nat) : List (List UInt8) := (List.range n).map fun i => hs.getD i (List.replicate 32 0)
theorem fitS_len {hs : List (List UInt8)} {n : Nat} : (fitS hs n).length = n := by simp [fitS]
theorem fitS_32 {hs : List (List UInt8)} (h : ∀ x ∈ hs, x.length = 32) {n : Nat} : ∀ x ∈ fitS hs n, x.length = 32 := by
  intro x hx
  obtain ⟨i, -, rfl⟩ := List.mem_map.1 hx
  show (hs.getD i _).length = 32
  by_cases e : i < hs.length
  · rw [List.getD, List.getElem?_eq_getElem e]; exact h _ (List.getElem_mem e)
  · rw [List.getD, List.getElem?_eq_none (by omega)]; exact List.length_replicate
theorem fitS_snoc {hs : List (List UInt8)} {n : Nat} : fitS hs (n + 1) = fitS hs n ++ [hs.getD n (List.replicate 32 0)] := by simp [fitS, List.range_succ]
theorem fit_elem {hs : List (List UInt8)} (h : ∀ x ∈ hs, x.length = 32) {n : Nat} : (hs.getD n (List.replicate 32 0)).length = 32 := fitS_32 h (n := n + 1) _ (by rw [fitS_snoc]; simp)

set_option maxHeartbeats 2000000 in
theorem fit_any (st tr ha : Int) (A : Option Addr) (hs : List (List UInt8)) (c : Nat) (w0 : World) (h0 : 0 ≤ ha) (h1 : ha < 65536) (hh : HsAt w0 A hs) (hn : hs.length ≤ 9223372036854775807) :
    Calls Tryd.prog 7 [.agg #[.int .u16 st, .int .u16 tr, .int .u16 ha, .slice A hs.length c]].toArray w0 fun e w' => ∃ A' c', e = .returned (.agg #[.int .u16 st, .int .u16 tr, .int .u16 ha, .slice A' (fitS hs (cnt ha.toNat 16)).length c']) ∧
      HsAt w' A' (fitS hs (cnt ha.toNat 16)) ∧ Keep No w0 w' ∧ From w0 [] A' ((fitS hs (cnt ha.toNat 16)).flatten.map B) := by
  have hcI : cntI ha = ((cnt ha.toNat 16 : Nat) : Int) := rfl
  refine enter (n := 39) Tryd.func7 rfl rfl rfl ?_
  have hS := St.start No w0
  refine c_seq ?_
  refine c_region ?_
  refine l_box hS rfl rfl rfl (fun b1 w hS => ?_)
  refine l_alloc hS zero25 rfl rfl (fun b2 w hS => ?_)
  refine l_end ?_
  refine k_code ?_
  refine c_seq ?_
  refine c_region ?_
  refine l_val (v_fieldAddr field25_2 rfl) rfl ?_
  refine l_val (v_load ty22 rfl (here (hS.cell 1 rfl rfl))) rfl ?_
  refine l_callK goes19 rfl hS (rcount_any _ _ h0 h1) rfl (fun w hS => ?_)
  refine l_val (v_assign rfl) rfl ?_
  refine l_end ?_
  refine k_code ?_
  refine c_seq ?_
  refine c_region ?_
  refine l_val (v_fieldAddr field25_0 rfl) rfl ?_
  refine l_val (v_load ty22 rfl (here (hS.cell 1 rfl rfl))) rfl ?_
  refine l_val (v_fieldAddr field25_1 rfl) rfl ?_
  refine l_val (v_load ty22 rfl (here (hS.cell 1 rfl rfl))) rfl ?_
  refine l_val (v_fieldAddr field25_2 rfl) rfl ?_
  refine l_val (v_load ty22 rfl (here (hS.cell 1 rfl rfl))) rfl ?_
  refine l_val (v_build zero25 places25 rfl rfl) rfl ?_
  refine l_alloc hS zero25 rfl rfl (fun b3 w hS => ?_)
  refine l_storeN 0 hS tyN25 rfl rfl rfl rfl rfl rfl (fun w hS => ?_)
  refine l_end ?_
  refine k_code ?_
  refine c_seq ?_
  refine c_seq ?_
  refine c_region ?_
  refine l_val (v_assign rfl) rfl ?_
  refine l_end ?_
  refine k_code ?_
  refine c_block ?_
  refine c_loopV [(1, _), (2, _), (3, _), (4, _)] (fun ((k, v) : Nat × Value) => [(5, .int .i64 k)]) (fun ((k, v) : Nat × Value) w => St No w0 w [.row 30 32 v k ((fitS hs k).flatten.map B), .blk b3 (.cells #[.int .u16 st, .int .u16 tr, .int .u16 ha, v] 25 (0, 0)), .blk b2 (.cells #[.int .u16 0, .int .u16 0, .int .u16 0, .slice none 0 0] 25 (0, 0)), .blk b1 (.cells #[.int .u16 st, .int .u16 tr, .int .u16 ha, .slice A hs.length c] 25 (0, 0))] ∧ k ≤ cnt ha.toNat 16) (fun ((k, v) : Nat × Value) => cnt ha.toNat 16 - k) ((0 : Nat), Value.slice none 0 0) ⟨(hS.nil _ _), Nat.zero_le _⟩ (kc rfl (kc rfl (kc rfl (kc rfl (kc rfl kn))))) (fun xx w hI => ?_)
  obtain ⟨k, v⟩ := xx
  obtain ⟨hS, hI⟩ := hI
  have hc16 := cnt_le ha.toNat 16
  refine c_seq ?_
  refine c_seq ?_
  refine c_region ?_
  refine l_val (v_move rfl) rfl ?_
  refine l_val (v_move rfl) rfl ?_
  refine l_val (v_lss rfl rfl) rfl ?_
  refine l_end ?_
  refine k_code ?_
  refine c_if rfl (fun p1 => ?_) (fun p1 => ?_)
  · skip
    refine c_skip ?_
    refine k_code ?_
    refine c_seq ?_
    refine c_block ?_
    refine c_seq ?_
    refine c_region ?_
    refine l_alloc hS zero30 rfl rfl (fun b4 w hS => ?_)
    refine l_end ?_
    refine k_code ?_
    refine c_cutV [(1, _), (2, _), (3, _), (4, _), (5, _), (6, _), (17, _), (18, _), (19, _)] (fun (u : Unit) => []) (fun (u : Unit) w => St No w0 w [.blk b4 (.cells ((hs.getD k (List.replicate 32 0)).map B).toArray 30 (0, 0)), .row 30 32 v k ((fitS hs k).flatten.map B), .blk b3 (.cells #[.int .u16 st, .int .u16 tr, .int .u16 ha, v] 25 (0, 0)), .blk b2 (.cells #[.int .u16 0, .int .u16 0, .int .u16 0, .slice none 0 0] 25 (0, 0)), .blk b1 (.cells #[.int .u16 st, .int .u16 tr, .int .u16 ha, .slice A hs.length c] 25 (0, 0))] ∧ True) (kc rfl (kc rfl (kc rfl (kc rfl (kc rfl (kc rfl (kc rfl (kc rfl (kc rfl kn))))))))) ?_ (fun u w hI => ?_)
    · skip
      refine c_seq ?_
      refine c_region ?_
      refine l_val (v_move rfl) rfl ?_
      refine l_val (v_fieldAddr field25_3 rfl) rfl ?_
      refine l_val (v_load ty23 rfl (here (hS.cell 4 rfl rfl))) rfl ?_
      refine l_val (v_len Tryd.underlying23 rfl) rfl ?_
      refine l_val (v_lss rfl rfl) rfl ?_
      refine l_end ?_
      refine k_code ?_
      refine c_if rfl (fun p2 => ?_) (fun p2 => ?_)
      · skip
        obtain ⟨ad, x, hA, hax, hx, hcell⟩ := hh.get2 (k := k) (by omega)
        refine c_region ?_
        refine l_val (v_fieldAddr field25_3 rfl) rfl ?_
        refine l_val (v_load ty23 rfl (here (hS.cell 4 rfl rfl))) rfl ?_
        refine l_val (v_move rfl) rfl ?_
        refine l_val (v_indexAddrO hA Tryd.underlying23 tyN30.size rfl rfl (by omega) (by omega)) rfl ?_
        refine l_val (v_loadN (cs := x.map B) tyN30 (by simp [hx]) rfl (hereN (fun j v hj => hS.old (hcell j v hj)))) rfl ?_
        refine l_storeW 0 hS tyN30 rfl (by rw [List.length_map, hx]; rfl) rfl rfl (by rw [List.length_map, hx]) (B_one _) (fun w hS => ?_)
        refine l_end ?_
        refine fun _ hFr => ⟨(), ⟨(St.cast hS (by rw [List.getD, hax]; rfl)), trivial⟩, Fr.sub hFr (kc rfl (kc rfl (kc rfl (kc rfl (kc rfl (kc rfl (kc rfl (kc rfl (kc rfl kn)))))))))⟩
      · skip
        refine c_skip ?_
        refine fun _ hFr => ⟨(), ⟨(St.cast hS (by rw [List.getD, List.getElem?_eq_none (by omega)]; rfl)), trivial⟩, Fr.sub hFr (kc rfl (kc rfl (kc rfl (kc rfl (kc rfl (kc rfl (kc rfl (kc rfl (kc rfl kn)))))))))⟩
    · skip
      obtain ⟨hS, hI⟩ := hI
      have hx := fit_elem hh.1 (n := k)
      refine c_region ?_
      refine l_val (v_fieldAddr field25_3 rfl) rfl ?_
      refine l_val (v_load ty23 rfl (here (hS.cell 2 rfl rfl))) rfl ?_
      refine l_val (v_loadN (cs := (hs.getD k (List.replicate 32 0)).map B) tyN30 (by rw [List.length_map, hx]) rfl (hereN (hS.row 0 rfl))) rfl ?_
      refine l_slice1 (bytes := 0) hS Tryd.underlying23 tyN30.size zero30 rfl (by decide) (by decide) rfl rfl (by show ((hs.getD k (List.replicate 32 0)).map B).length = 32; rw [List.length_map, hx]) rfl (fun b5 w hS => ?_)
      refine l_append (news := (hs.getD k (List.replicate 32 0)).map B) 2 hS Tryd.underlying23 elem30 rfl rfl rfl (by rw [List.length_map, hx]) (hS.row 0 rfl) (B_one _) (by unfold maxLen; omega) (by omega) rfl (fun va2 w hS hvva2 => ?_)
      refine l_val (v_fieldAddr field25_3 rfl) rfl ?_
      refine l_store 3 hS ty23 rfl rfl rfl rfl (row_one (hS.rowAt 2 rfl)) (fun w hS => ?_)
      refine l_end ?_
      refine k_code ?_
      refine c_region ?_
      refine l_val (v_move rfl) rfl ?_
      refine l_val (v_add rfl rfl (by omega)) rfl ?_
      refine l_val (v_assign rfl) rfl ?_
      refine l_end ?_
      refine fun _ hFr => ⟨(k + 1, va2), (by dsimp only; omega), ⟨(St.cast (hS.less (.cons _ (.cons _ (List.Sublist.refl _)))) (by rw [fitS_snoc, List.flatten_append, List.map_append]; simp)), by omega⟩, Fr.sub hFr (kc rfl (kc rfl (kc rfl (kc rfl (kc rfl kn)))))⟩
  · skip
    obtain ⟨A', c', rfl⟩ := row_form (hS.rowAt 0 rfl)
    obtain rfl : k = cnt ha.toNat 16 := by omega
    refine c_exit ex_here ?_
    refine k_code ?_
    refine c_seq ?_
    refine c_region ?_
    refine l_val (v_loadN tyN25 rfl rfl (hereN (hS.row 1 rfl))) rfl ?_
    refine l_storeN 2 hS tyN25 rfl rfl rfl rfl rfl (by simp [ones, Value.oneCell']) (fun w hS => ?_)
    refine l_end ?_
    refine k_code ?_
    refine c_retC 2 rfl tyN25 hS rfl rfl rfl ?_
    exact ⟨A', c', by rw [fitS_len]; rfl, HsAt.of_row (fitS_32 hh.1) (hS.rowAt 0 rfl), hS.keep, hS.fromRow 0 rfl _⟩
end Go.Proofs.YtdlcefiandacnaaDoor
