/- The walk of the law MaskRecords: whatever comes in, it answers true. -/
import Derived.Test.YtdlcefiandacnaaMaskAwake
namespace Go.Proofs.Ytdlcefiandacnaa
open Go Go.RowKit E MM
set_option maxRecDepth 100000
set_option linter.unusedVariables false
set_option linter.unusedSimpArgs false

theorem HsAt.take {w : World} {A : Option Addr} {hs : List (List UInt8)} (h : HsAt w A hs) (m : Nat) : HsAt w A (hs.take m) := by
  refine ⟨fun x hx => h.1 x (List.mem_of_mem_take hx), ?_⟩
  rcases h.2 with rfl | ⟨ad, hA, hc⟩
  · exact Or.inl (by simp)
  · refine Or.inr ⟨ad, hA, fun i x hi => hc i x ?_⟩
    rw [List.getElem?_take] at hi
    split at hi
    · exact hi
    · cases hi
def cutS (s : ByteArray) : ByteArray := if s.size > 700 then s.extract 0 700 else s
theorem cutS_size (s : ByteArray) : (cutS s).size ≤ 700 := by
  unfold cutS; split
  · rw [ByteArray.size_extract]; omega
  · omega
theorem same_eq (st tr ha : Int) (A A' : Option Addr) (hs : List (List UInt8)) (c c' : Nat) (w0 : World) (hh : HsAt w0 A hs) (hh' : HsAt w0 A' hs) (hn : hs.length ≤ 4611686018427387904) :
    Calls Try.prog 13 [.agg #[.int .u16 st, .int .u16 tr, .int .u16 ha, .slice A hs.length c], .agg #[.int .u16 st, .int .u16 tr, .int .u16 ha, .slice A' hs.length c']].toArray w0 fun e w' =>
      e = .returned (.bool true) ∧ Keep No w0 w' := by
  have := same_any st tr ha st tr ha A A' hs hs c c' w0 hh hh' hn hn
  rwa [decide_eq_true ⟨rfl, rfl, rfl, rfl⟩] at this

set_option maxHeartbeats 4000000 in
theorem records_any (st tr ha : Int) (A : Option Addr) (hs : List (List UInt8)) (c : Nat) (s : ByteArray) (A2 : Option Addr) (l : List Int) (c2 : Nat) (w0 : World) (s0 : 0 ≤ st) (s1 : st < 65536) (t0 : 0 ≤ tr) (t1 : tr < 65536) (h0 : 0 ≤ ha) (h1 : ha < 65536)
    (hh : HsAt w0 A hs) (hi : IntsAt w0 A2 l) (hc : hs.length ≤ c) (hc2 : l.length ≤ c2) (hcm : c ≤ 9223372036854775807) (hcm2 : c2 ≤ 9223372036854775807) (hsm : s.size ≤ 9223372036854775807) :
    Calls Try.prog 4 [.agg #[.int .u16 st, .int .u16 tr, .int .u16 ha, .slice A hs.length c], .string s, .slice A2 l.length c2].toArray w0 fun e w' => e = .returned (.bool true) ∧ Keep No w0 w' := by
  have hn40 : (hs.take 40).length ≤ 40 := by rw [List.length_take]; omega
  have hl40 : (l.take 40).length ≤ 40 := by rw [List.length_take]; omega
  have hcs := cutS_size s
  refine enter (n := 123) Try.func4 rfl rfl rfl ?_
  have hS := St.start No w0
  refine c_seq ?_
  refine c_region ?_
  refine l_box hS rfl rfl rfl (fun b1 w hS => ?_)
  refine l_val (v_assign rfl) rfl ?_
  refine l_end ?_
  refine k_code ?_
  refine c_seq ?_
  refine c_region ?_
  refine l_callK goes5 rfl hS (awake_any _) rfl (fun w hS => ?_)
  refine l_val (v_assign rfl) rfl ?_
  refine l_end ?_
  refine k_code ?_
  refine c_cutV [1, 2, 3, 6, 7] (fun (u : Unit) => []) (fun (u : Unit) w => St No w0 w [.blk b1 (.cells #[.int .u16 st, .int .u16 tr, .int .u16 ha, .slice A (hs.take 40).length c] 31 (0, 0))] ∧ True) ?_ (fun u w hI => ?_)
  · skip
    refine c_seq ?_
    refine c_region ?_
    refine l_val (v_fieldAddr field31_3 rfl) rfl ?_
    refine l_val (v_load ty29 rfl (here (hS.cell 0 rfl rfl))) rfl ?_
    refine l_val (v_len Try.underlying29 rfl) rfl ?_
    refine l_val (v_gtr rfl rfl) rfl ?_
    refine l_end ?_
    refine k_code ?_
    refine c_if rfl (fun p1 => ?_) (fun p1 => ?_)
    · skip
      refine c_region ?_
      refine l_val (v_fieldAddr field31_3 rfl) rfl ?_
      refine l_val (v_load ty29 rfl (here (hS.cell 0 rfl rfl))) rfl ?_
      refine l_val (v_sliceTo Try.underlying29 (fun w => ⟨_, tyN44.size w⟩) rfl rfl (by omega) (by omega)) rfl ?_
      refine l_val (v_fieldAddr field31_3 rfl) rfl ?_
      refine l_store 0 hS ty29 rfl rfl rfl rfl rfl (fun w hS => ?_)
      refine l_end ?_
      refine fun _ hFr => ⟨(), ⟨(St.cast hS (by rw [show (hs.take 40).length = 40 by rw [List.length_take]; omega]; rfl)), trivial⟩, Fr.sub hFr (kc rfl (kc rfl (kc rfl (kc rfl (kc rfl kn)))))⟩
    · skip
      refine c_skip ?_
      refine fun _ hFr => ⟨(), ⟨(St.cast hS (by rw [show hs.take 40 = hs from List.take_of_length_le (by omega)]; rfl)), trivial⟩, Fr.sub hFr (kc rfl (kc rfl (kc rfl (kc rfl (kc rfl kn)))))⟩
  · skip
    obtain ⟨hS, hI⟩ := hI
    refine c_cutV [2, 3, 6, 7] (fun (u : Unit) => [(1, .string (cutS s))]) (fun (u : Unit) w => St No w0 w (Lof hS) ∧ True) ?_ (fun u w hI => ?_)
    · skip
      refine c_seq ?_
      refine c_region ?_
      refine l_val (v_move rfl) rfl ?_
      refine l_val (v_lenS Try.underlying9 rfl) rfl ?_
      refine l_val (v_gtr rfl rfl) rfl ?_
      refine l_end ?_
      refine k_code ?_
      refine c_if rfl (fun p1 => ?_) (fun p1 => ?_)
      · skip
        refine c_region ?_
        refine l_val (v_move rfl) rfl ?_
        refine l_val (v_sliceSTo Try.underlying9 rfl rfl (by omega) (by omega) ) rfl ?_
        refine l_val (v_assign rfl) rfl ?_
        refine l_end ?_
        refine fun _ hFr => ⟨(), ⟨hS, trivial⟩, Fr.sub hFr (kc (by unfold cutS; rw [if_pos (by omega)]; rfl) (kc rfl (kc rfl (kc rfl (kc rfl kn)))))⟩
      · skip
        refine c_skip ?_
        refine fun _ hFr => ⟨(), ⟨hS, trivial⟩, Fr.sub hFr (kc (by unfold cutS; rw [if_neg (by omega)]; rfl) (kc rfl (kc rfl (kc rfl (kc rfl kn)))))⟩
    · skip
      obtain ⟨hS, hI⟩ := hI
      refine c_cutV [1, 3, 6, 7] (fun (u : Unit) => [(2, .slice A2 (l.take 40).length c2)]) (fun (u : Unit) w => St No w0 w (Lof hS) ∧ True) ?_ (fun u w hI => ?_)
      · skip
        refine c_seq ?_
        refine c_region ?_
        refine l_val (v_move rfl) rfl ?_
        refine l_val (v_len Try.underlying22 rfl) rfl ?_
        refine l_val (v_gtr rfl rfl) rfl ?_
        refine l_end ?_
        refine k_code ?_
        refine c_if rfl (fun p1 => ?_) (fun p1 => ?_)
        · skip
          refine c_region ?_
          refine l_val (v_move rfl) rfl ?_
          refine l_val (v_sliceTo Try.underlying22 (fun w => ⟨_, ty3.size w⟩) rfl rfl (by omega) (by omega)) rfl ?_
          refine l_val (v_assign rfl) rfl ?_
          refine l_end ?_
          refine fun _ hFr => ⟨(), ⟨hS, trivial⟩, Fr.sub hFr (kc (by rw [show (l.take 40).length = 40 by rw [List.length_take]; omega]; rfl) (kc rfl (kc rfl (kc rfl (kc rfl kn)))))⟩
        · skip
          refine c_skip ?_
          refine fun _ hFr => ⟨(), ⟨hS, trivial⟩, Fr.sub hFr (kc (by rw [show l.take 40 = l from List.take_of_length_le (by omega)]; rfl) (kc rfl (kc rfl (kc rfl (kc rfl kn)))))⟩
      · skip
        obtain ⟨hS, hI⟩ := hI
        refine c_seq ?_
        refine c_region ?_
        refine l_val (v_loadN tyN31 rfl rfl (hereN (hS.row 0 rfl))) rfl ?_
        refine l_callK goes9 rfl hS (record_any _ _ _ _ (hs.take 40) _ _ s0 s1 t0 t1 h0 h1 ((hh.keep hS.keep).take 40) (by omega)) rfl (fun w hS => ?_)
        refine l_val (v_move rfl) rfl ?_
        refine l_val (v_extract rfl rfl) rfl ?_
        refine l_val (v_extract rfl rfl) rfl ?_
        refine l_val (v_assign rfl) rfl ?_
        refine l_val (v_assign rfl) rfl ?_
        refine l_end ?_
        refine k_code ?_
        refine c_seq ?_
        refine c_region ?_
        refine l_val (v_loadN tyN31 rfl rfl (hereN (hS.row 0 rfl))) rfl ?_
        refine l_callK goes10 rfl hS (rrecord_any _ _ _ _ (hs.take 40) _ _ s0 s1 t0 t1 h0 h1 ((hh.keep hS.keep).take 40) (by omega)) rfl (fun w hS => ?_)
        refine l_val (v_move rfl) rfl ?_
        refine l_val (v_extract rfl rfl) rfl ?_
        refine l_val (v_extract rfl rfl) rfl ?_
        refine l_val (v_assign rfl) rfl ?_
        refine l_val (v_assign rfl) rfl ?_
        refine l_end ?_
        refine k_code ?_
        refine c_seq ?_
        refine c_region ?_
        refine l_val (v_move rfl) rfl ?_
        refine l_call goes11 rfl (read_any _ _ (by omega)) rfl (fun e w1 hB => ?_)
        obtain ⟨A3, c3, rfl, hM⟩ := hB
        refine ⟨_, rfl, ?_⟩
        have hS := hS.merge hM
        clear hM
        refine l_val (v_move rfl) rfl ?_
        refine l_val (v_extract rfl rfl) rfl ?_
        refine l_val (v_extract rfl rfl) rfl ?_
        refine l_alloc hS zero31 rfl rfl (fun b2 w hS => ?_)
        refine l_storeN 0 hS tyN31 rfl rfl rfl rfl rfl rfl (fun w hS => ?_)
        refine l_val (v_assign rfl) rfl ?_
        refine l_end ?_
        refine k_code ?_
        refine c_seq ?_
        refine c_region ?_
        refine l_val (v_move rfl) rfl ?_
        refine l_call goes12 rfl (rread_any _ _ (by omega)) rfl (fun e w1 hB => ?_)
        obtain ⟨A4, c4, rfl, hM⟩ := hB
        refine ⟨_, rfl, ?_⟩
        have hS := hS.merge hM
        clear hM
        refine l_val (v_move rfl) rfl ?_
        refine l_val (v_extract rfl rfl) rfl ?_
        refine l_val (v_extract rfl rfl) rfl ?_
        refine l_alloc hS zero31 rfl rfl (fun b3 w hS => ?_)
        refine l_storeN 0 hS tyN31 rfl rfl rfl rfl rfl rfl (fun w hS => ?_)
        refine l_val (v_assign rfl) rfl ?_
        refine l_end ?_
        refine k_code ?_
        refine c_seq ?_
        refine c_region ?_
        refine l_val (v_loadN tyN31 rfl rfl (hereN (hS.row 2 rfl))) rfl ?_
        refine l_val (v_loadN tyN31 rfl rfl (hereN (hS.row 0 rfl))) rfl ?_
        refine l_callK goes13 rfl hS (same_eq _ _ _ _ _ (readS (cutS s)).2.2.2.1 _ _ _ (HsAt.of_row (read_32 (cutS s)) (hS.rowAt 3 rfl)) (HsAt.of_row (read_32 (cutS s)) (hS.rowAt 1 rfl)) (Nat.le_trans (read_len _) (by decide))) rfl (fun w hS => ?_)
        refine l_val (v_assign rfl) rfl ?_
        refine l_end ?_
        refine k_code ?_
        refine c_seq ?_
        refine c_seq ?_
        refine c_region ?_
        refine l_val (v_assign rfl) rfl ?_
        refine l_end ?_
        refine k_code ?_
        refine c_block ?_
        refine c_loopV [2, 3, 7, 8, 9, 10, 11, 13, 15, 16] (fun (k : Nat) => [(17, .int .i64 k)]) (fun (k : Nat) w => St No w0 w _ ∧ k ≤ (l.take 40).length) (fun (k : Nat) => (l.take 40).length - k) (0 : Nat) ⟨hS, Nat.zero_le _⟩ (kc rfl (kc rfl (kc rfl (kc rfl (kc rfl (kc rfl (kc rfl (kc rfl (kc rfl (kc rfl (kc rfl kn))))))))))) (fun k w hI => ?_)
        obtain ⟨hS, hI⟩ := hI
        refine c_seq ?_
        refine c_seq ?_
        refine c_region ?_
        refine l_val (v_move rfl) rfl ?_
        refine l_val (v_move rfl) rfl ?_
        refine l_val (v_len Try.underlying22 rfl) rfl ?_
        refine l_val (v_lss rfl rfl) rfl ?_
        refine l_end ?_
        refine k_code ?_
        refine c_if rfl (fun p1 => ?_) (fun p1 => ?_)
        · skip
          obtain ⟨ad, hA, hcell⟩ := (hi.take 40).get (k := k) (by omega)
          refine c_skip ?_
          refine k_code ?_
          refine c_seq ?_
          refine c_block ?_
          refine c_seq ?_
          refine q_region hS mixed (by kernel_rfl) ?_
          refine q_val (v_fieldAddr field31_0 rfl) rfl ?_
          refine q_val (v_load ty23 rfl (fun _ h => h.cell 4 rfl rfl)) rfl ?_
          refine q_val (v_move rfl) rfl ?_
          refine q_val (v_move rfl) rfl ?_
          refine q_val (v_indexAddrO hA Try.underlying22 ty3.size rfl rfl (by omega) (by omega)) rfl ?_
          refine q_val (v_load ty3 rfl (fun _ h => h.old hcell)) rfl ?_
          refine q_callK goes7 rfl (fun w hS => sames (has_any _ _ _ s0 s1)) rfl ?_
          refine q_val (v_fieldAddr field31_0 rfl) rfl ?_
          refine q_val (v_load ty23 rfl (fun _ h => h.cell 4 rfl rfl)) rfl ?_
          refine q_val (v_move rfl) rfl ?_
          refine q_val (v_move rfl) rfl ?_
          refine q_val (v_indexAddrO hA Try.underlying22 ty3.size rfl rfl (by omega) (by omega)) rfl ?_
          refine q_val (v_load ty3 rfl (fun _ h => h.old hcell)) rfl ?_
          refine q_callK goes14 rfl (fun w hS => sames (rhas_any _ _ _ s0 s1)) rfl ?_
          refine q_val (v_boolNe Try.underlying4 rfl rfl) rfl ?_
          refine q_end (fun w hS => ?_)
          refine k_code ?_
          refine c_cond rfl (fun p2 => ?_) (fun p2 => ?_)
          · exact absurd p2 (by simp)
          · skip
            refine c_skip ?_
            refine k_code ?_
            refine c_region ?_
            refine l_val (v_move rfl) rfl ?_
            refine l_val (v_add rfl rfl (by omega)) rfl ?_
            refine l_val (v_assign rfl) rfl ?_
            refine l_end ?_
            refine fun _ hFr => ⟨(k + 1), (by omega), ⟨hS, by omega⟩, Fr.sub hFr (kc rfl (kc rfl (kc rfl (kc rfl (kc rfl (kc rfl (kc rfl (kc rfl (kc rfl (kc rfl (kc rfl kn)))))))))))⟩
        · skip
          refine c_exit (fun _ _ h => h) ?_
          refine k_code ?_
          refine c_seq ?_
          refine q_region hS mixed (by kernel_rfl) ?_
          refine q_val (v_move rfl) rfl ?_
          refine q_val (v_move rfl) rfl ?_
          refine q_on rfl rfl rfl ?_
          refine q_val (v_move rfl) rfl ?_
          refine q_on rfl rfl rfl ?_
          refine q_val (v_move rfl) rfl ?_
          refine q_on rfl rfl rfl ?_
          refine q_val (v_seqlT rfl rfl (rfl)) rfl ?_
          refine q_val (v_pickT rfl rfl) rfl ?_
          refine q_val (v_move rfl) rfl ?_
          refine q_on rfl rfl rfl ?_
          refine q_val (v_move rfl) rfl ?_
          refine q_on rfl rfl rfl ?_
          refine q_val (v_move rfl) rfl ?_
          refine q_on rfl rfl rfl ?_
          refine q_val (v_eqlT rfl rfl (rfl)) rfl ?_
          refine q_val (v_pickT rfl rfl) rfl ?_
          refine q_val (v_move rfl) rfl ?_
          refine q_on rfl rfl rfl ?_
          refine q_val (v_move rfl) rfl ?_
          refine q_val (v_pickT rfl rfl) rfl ?_
          refine q_val (v_move rfl) rfl ?_
          refine q_on rfl rfl rfl ?_
          refine q_val (v_move rfl) rfl ?_
          refine q_on rfl rfl rfl ?_
          refine q_val (v_move rfl) rfl ?_
          refine q_on rfl rfl rfl ?_
          refine q_val (v_eqlT rfl rfl (rfl)) rfl ?_
          refine q_val (v_pickT rfl rfl) rfl ?_
          refine q_val (v_move rfl) rfl ?_
          refine q_on rfl rfl rfl ?_
          refine q_val (v_loadN tyN31 rfl rfl (fun _ h => h.row 4 rfl)) rfl ?_
          refine q_on rfl rfl rfl ?_
          refine q_callK goes15 rfl (fun w hS => check_any _ _ _ _ _ _ _ s0 s1 h0 h1) rfl ?_
          refine q_on rfl rfl rfl ?_
          refine q_val (v_loadN tyN31 rfl rfl (fun _ h => h.row 4 rfl)) rfl ?_
          refine q_on rfl rfl rfl ?_
          refine q_callK goes16 rfl (fun w hS => rcheck_any _ _ _ _ _ _ _ s0 s1 t0 t1 h0 h1) rfl ?_
          refine q_on rfl rfl rfl ?_
          refine q_val (v_eqlT rfl rfl (rfl)) rfl ?_
          refine q_val (v_pickT rfl rfl) rfl ?_
          refine q_val (v_move rfl) rfl ?_
          refine q_on rfl rfl rfl ?_
          refine q_val (v_move rfl) rfl ?_
          refine q_on rfl rfl rfl ?_
          refine q_callK goes6 rfl (fun w hS => of_all (l.take 40) _ _ _ (by omega) ((hi.keep hS.keep).take 40)) rfl ?_
          refine q_on rfl rfl rfl ?_
          refine q_val (v_move rfl) rfl ?_
          refine q_on rfl rfl rfl ?_
          refine q_callK goes17 rfl (fun w hS => rof_all (l.take 40) _ _ _ (by omega) ((hi.keep hS.keep).take 40)) rfl ?_
          refine q_on rfl rfl rfl ?_
          refine q_val (v_eqlT rfl rfl (rfl)) rfl ?_
          refine q_val (v_pickT rfl rfl) rfl ?_
          refine q_val (v_move rfl) rfl ?_
          refine q_on rfl rfl rfl ?_
          refine q_val (v_fieldAddr field31_0 rfl) rfl ?_
          refine q_on rfl rfl rfl ?_
          refine q_val (v_load ty23 rfl (fun _ h => h.cell 4 rfl rfl)) rfl ?_
          refine q_on rfl rfl rfl ?_
          refine q_callK goes8 rfl (fun w hS => draws (count_any _ _ s0 s1)) rfl ?_
          refine q_on rfl rfl rfl ?_
          refine q_val (v_fieldAddr field31_0 rfl) rfl ?_
          refine q_on rfl rfl rfl ?_
          refine q_val (v_load ty23 rfl (fun _ h => h.cell 4 rfl rfl)) rfl ?_
          refine q_on rfl rfl rfl ?_
          refine q_callK goes18 rfl (fun w hS => rcount_any _ _ s0 s1) rfl ?_
          refine q_on rfl rfl rfl ?_
          refine q_val (v_eqlT rfl rfl (rfl)) rfl ?_
          refine q_val (v_pickT rfl rfl) rfl ?_
          refine q_val (v_assign rfl) rfl ?_
          refine q_end (fun w hS => ?_)
          refine k_code ?_
          refine c_ret1 rfl rfl ?_
          exact ⟨rfl, hS.keep⟩

end Go.Proofs.Ytdlcefiandacnaa
