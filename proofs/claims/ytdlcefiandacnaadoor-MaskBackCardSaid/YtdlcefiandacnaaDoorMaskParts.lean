/- The walk of the law of parts. -/
import Derived.Test.YtdlcefiandacnaaDoorMaskFit
namespace Go.Proofs.YtdlcefiandacnaaDoor
open Go Go.RowKit E MM
set_option maxRecDepth 100000
set_option linter.unusedVariables false
set_option linter.unusedSimpArgs false

theorem one_mem {A : Option Addr} {xs : List Value} {L : List Ent} (i : Nat) (h : L[i]? = some (.lies A xs)) : ∀ p ∈ [(A, xs)], Ent.lies p.1 p.2 ∈ L := fun p hp => by
  rw [List.mem_singleton.1 hp]; exact List.mem_of_getElem? h
theorem beq_dead {b : Bool} (h : (b == b) = false) : False := by simp at h
theorem withS_32 {st tr ha n : Int} {hs : List (List UInt8)} {tree : Bool} {s : ByteArray} (m0 : 0 ≤ ha) (m1 : ha < 65536) (h : ∀ x ∈ hs, x.length = 32) : ∀ x ∈ (withS (st, tr, ha, hs) n tree s).2.2.2, x.length = 32 := by
  unfold withS
  split
  · rename_i hn
    refine hsW_32 h fun hm => hashed_size ((has_set (n := n) (is := hashed s) m0 m1 hn.1 hn.2).symm.trans ?_)
    have hb : ((n.toNat : Nat) : Int) ∈ bl (setS ha n (hashed s)).toNat 16 := by rw [show ((n.toNat : Nat) : Int) = n by omega]; exact hm
    have h2 := (bl_mem _ _ _).1 hb
    unfold hasB; rw [decide_eq_true hn.1, decide_eq_true hn.2]; exact h2.2
  · exact h
theorem withS_len {st tr ha n : Int} {hs : List (List UInt8)} {tree : Bool} {s : ByteArray} (h : hs.length ≤ 16) : (withS (st, tr, ha, hs) n tree s).2.2.2.length ≤ 16 := by
  unfold withS
  split
  · show (hsW _ _ _ _ _).length ≤ 16
    rw [hsW_len, bl_len]; exact cnt_le _ _
  · exact h
theorem withS_range {st tr ha n : Int} {hs : List (List UInt8)} {tree : Bool} {s : ByteArray} (s0 : 0 ≤ st) (s1 : st < 65536) (t0 : 0 ≤ tr) (t1 : tr < 65536) (h0 : 0 ≤ ha) (h1 : ha < 65536) :
    (0 ≤ (withS (st, tr, ha, hs) n tree s).1 ∧ (withS (st, tr, ha, hs) n tree s).1 < 65536) ∧ (0 ≤ (withS (st, tr, ha, hs) n tree s).2.1 ∧ (withS (st, tr, ha, hs) n tree s).2.1 < 65536) ∧ (0 ≤ (withS (st, tr, ha, hs) n tree s).2.2.1 ∧ (withS (st, tr, ha, hs) n tree s).2.2.1 < 65536) := by
  unfold withS
  split
  · rename_i hn
    exact ⟨setS_range s0 s1 hn.1 hn.2, setS_range t0 t1 hn.1 hn.2, setS_range h0 h1 hn.1 hn.2⟩
  · exact ⟨⟨s0, s1⟩, ⟨t0, t1⟩, ⟨h0, h1⟩⟩

set_option maxHeartbeats 2000000 in
theorem parts_any (st tr ha : Int) (A : Option Addr) (hs : List (List UInt8)) (c : Nat) (n : Int) (tree : Bool) (s : ByteArray) (w0 : World) (s0 : 0 ≤ st) (s1 : st < 65536) (t0 : 0 ≤ tr) (t1 : tr < 65536) (h0 : 0 ≤ ha) (h1 : ha < 65536)
    (hh : HsAt w0 A hs) (hn : hs.length ≤ 9223372036854775807) (hsz : s.size ≤ 9223372036854775807) (ht : Tab w0) :
    Calls Tryd.prog 3 [.agg #[.int .u16 st, .int .u16 tr, .int .u16 ha, .slice A hs.length c], .int .i64 n, .agg #[.bool tree, .string s]].toArray w0 fun e w' => e = .returned (.bool true) ∧ Keep No w0 w' := by
  have hf32 := fitS_32 hh.1 (n := cnt ha.toNat 16)
  have hfl : (fitS hs (cnt ha.toNat 16)).length ≤ 16 := by rw [fitS_len]; exact cnt_le _ _
  generalize hfs : fitS hs (cnt ha.toNat 16) = fs at hf32 hfl
  refine enter (n := 66) Tryd.func3 rfl rfl rfl ?_
  have hS := St.start No w0
  refine c_seq ?_
  refine c_region ?_
  refine l_box hS rfl rfl rfl (fun b1 w hS => ?_)
  refine l_box hS rfl rfl rfl (fun b2 w hS => ?_)
  refine l_val (v_assign rfl) rfl ?_
  refine l_end ?_
  refine k_code ?_
  refine c_seq ?_
  refine c_region ?_
  refine l_callK goes6 rfl hS (awake_any _) rfl (fun w hS => ?_)
  refine l_val (v_assign rfl) rfl ?_
  refine l_end ?_
  refine k_code ?_
  refine c_seq ?_
  refine c_region ?_
  refine l_val (v_loadN tyN25 rfl rfl (hereN (hS.row 1 rfl))) rfl ?_
  refine l_call goes7 rfl (fit_any _ _ _ _ _ _ _ h0 h1 (hh.keep hS.keep) hn) rfl (fun e w hB => ?_)
  rw [hfs] at hB
  obtain ⟨A1, c1, rfl, hh1, hk1, hf1⟩ := hB
  refine ⟨_, rfl, ?_⟩
  have hS := hS.gain hk1 hh1.lies hf1 (fun _ h => absurd h List.not_mem_nil)
  refine l_alloc hS zero25 rfl rfl (fun b3 w hS => ?_)
  refine l_storeN 0 hS tyN25 rfl rfl rfl rfl rfl rfl (fun w hS => ?_)
  refine l_end ?_
  refine k_code ?_
  refine c_cutV [(1, _), (5, _), (6, _), (7, _), (8, _)] (fun (s : ByteArray) => []) (fun (s : ByteArray) w => St No w0 w [.blk b3 (.cells #[.int .u16 st, .int .u16 tr, .int .u16 ha, .slice A1 fs.length c1] 25 (0, 0)), .lies A1 (fs.flatten.map B), .blk b2 (.cells #[.bool tree, .string s] 27 (0, 0)), .blk b1 (.cells #[.int .u16 st, .int .u16 tr, .int .u16 ha, .slice A hs.length c] 25 (0, 0))] ∧ s.size ≤ 40) (kc rfl (kc rfl (kc rfl (kc rfl (kc rfl kn))))) ?_ (fun s w hI => ?_)
  · skip
    refine c_seq ?_
    refine c_region ?_
    refine l_val (v_fieldAddr field27_1 rfl) rfl ?_
    refine l_val (v_load ty9 rfl (here (hS.cell 2 rfl rfl))) rfl ?_
    refine l_val (v_lenS Tryd.underlying9 rfl) rfl ?_
    refine l_val (v_gtr rfl rfl) rfl ?_
    refine l_end ?_
    refine k_code ?_
    refine c_if rfl (fun p1 => ?_) (fun p1 => ?_)
    · skip
      refine c_region ?_
      refine l_val (v_fieldAddr field27_1 rfl) rfl ?_
      refine l_val (v_load ty9 rfl (here (hS.cell 2 rfl rfl))) rfl ?_
      refine l_val (v_sliceSTo Tryd.underlying9 rfl rfl (by omega) (by omega) ) rfl ?_
      refine l_val (v_fieldAddr field27_1 rfl) rfl ?_
      refine l_store 2 hS ty9 rfl rfl rfl rfl rfl (fun w hS => ?_)
      refine l_end ?_
      refine fun _ hFr => ⟨(s.extract 0 40), ⟨hS, (by rw [ByteArray.size_extract]; omega)⟩, Fr.sub hFr (kc rfl (kc rfl (kc rfl (kc rfl (kc rfl kn)))))⟩
    · skip
      refine c_skip ?_
      refine fun _ hFr => ⟨s, ⟨hS, by omega⟩, Fr.sub hFr (kc rfl (kc rfl (kc rfl (kc rfl (kc rfl kn)))))⟩
  · skip
    obtain ⟨hS, hI⟩ := hI
    refine c_seq ?_
    refine c_region ?_
    refine l_val (v_loadN tyN25 rfl rfl (hereN (hS.row 0 rfl))) rfl ?_
    refine l_val (v_move rfl) rfl ?_
    refine l_callK goes8 rfl hS (hash_any _ _ _ _ fs _ _ _ h0 h1 (HsAt.of_lies hf32 (hS.lies 1 rfl))) rfl (fun w hS => ?_)
    refine l_val (v_move rfl) rfl ?_
    refine l_val (v_extract rfl rfl) rfl ?_
    refine l_val (v_extract rfl rfl) rfl ?_
    refine l_alloc hS zero30 rfl rfl (fun b4 w hS => ?_)
    have hx := hashS_32 (ha := ha) (n := n) hf32
    refine l_storeW 0 hS tyN30 rfl (by rw [List.length_map, hx]; rfl) rfl rfl (by rw [List.length_map, hx]) (B_one _) (fun w hS => ?_)
    refine l_val (v_assign rfl) rfl ?_
    refine l_end ?_
    refine k_code ?_
    refine c_seq ?_
    refine c_region ?_
    refine l_val (v_loadN tyN25 rfl rfl (hereN (hS.row 1 rfl))) rfl ?_
    refine l_val (v_move rfl) rfl ?_
    refine l_callK goes9 rfl hS (rhash_any _ _ _ _ fs _ _ _ h0 h1 (HsAt.of_lies hf32 (hS.lies 2 rfl)) (by omega)) rfl (fun w hS => ?_)
    refine l_val (v_move rfl) rfl ?_
    refine l_val (v_extract rfl rfl) rfl ?_
    refine l_val (v_extract rfl rfl) rfl ?_
    refine l_alloc hS zero30 rfl rfl (fun b5 w hS => ?_)
    refine l_storeW 0 hS tyN30 rfl (by rw [List.length_map, hx]; rfl) rfl rfl (by rw [List.length_map, hx]) (B_one _) (fun w hS => ?_)
    refine l_val (v_assign rfl) rfl ?_
    refine l_end ?_
    refine k_code ?_
    refine c_seq ?_
    refine d_region (fun w => St No w0 w [.blk b3 (.cells #[.int .u16 st, .int .u16 tr, .int .u16 ha, .slice A1 fs.length c1] 25 (0, 0)), .blk b2 (.cells #[.bool tree, .string s] 27 (0, 0))]) 16 mixed ?_
    have hS := hS.drew 1
    have hR : St No w0 _ [.blk b3 (.cells #[.int .u16 st, .int .u16 tr, .int .u16 ha, .slice A1 fs.length c1] 25 (0, 0)), .blk b2 (.cells #[.bool tree, .string s] 27 (0, 0))] := hS.less (.cons _ (.cons _ (.cons_cons _ (.cons _ (.cons_cons _ (.cons _ (.slnil)))))))
    refine d_take 0 rfl (by kernel_rfl) (by kernel_rfl) (by kernel_rfl) (by kernel_rfl) hR (v_loadN tyN25 rfl rfl (fun _ h => h.row 0 rfl)) rfl ?_
    refine d_take 1 rfl (by kernel_rfl) (by kernel_rfl) (by kernel_rfl) (by kernel_rfl) hR (v_move rfl) rfl ?_
    refine d_take 2 rfl (by kernel_rfl) (by kernel_rfl) (by kernel_rfl) (by kernel_rfl) hR (v_fieldAddr field27_0 rfl) rfl ?_
    refine d_take 3 rfl (by kernel_rfl) (by kernel_rfl) (by kernel_rfl) (by kernel_rfl) hR (v_load ty4 rfl (fun _ h => h.cell 1 rfl rfl)) rfl ?_
    refine d_take 4 rfl (by kernel_rfl) (by kernel_rfl) (by kernel_rfl) (by kernel_rfl) hR (v_fieldAddr field27_1 rfl) rfl ?_
    refine d_take 5 rfl (by kernel_rfl) (by kernel_rfl) (by kernel_rfl) (by kernel_rfl) hR (v_load ty9 rfl (fun _ h => h.cell 1 rfl rfl)) rfl ?_
    refine d_take 7 rfl (by kernel_rfl) (by kernel_rfl) (by kernel_rfl) (by kernel_rfl) hR (v_loadN tyN25 rfl rfl (fun _ h => h.row 0 rfl)) rfl ?_
    refine d_take 8 rfl (by kernel_rfl) (by kernel_rfl) (by kernel_rfl) (by kernel_rfl) hR (v_move rfl) rfl ?_
    refine d_take 9 rfl (by kernel_rfl) (by kernel_rfl) (by kernel_rfl) (by kernel_rfl) hR (v_fieldAddr field27_0 rfl) rfl ?_
    refine d_take 10 rfl (by kernel_rfl) (by kernel_rfl) (by kernel_rfl) (by kernel_rfl) hR (v_load ty4 rfl (fun _ h => h.cell 1 rfl rfl)) rfl ?_
    refine d_take 11 rfl (by kernel_rfl) (by kernel_rfl) (by kernel_rfl) (by kernel_rfl) hR (v_fieldAddr field27_1 rfl) rfl ?_
    refine d_take 12 rfl (by kernel_rfl) (by kernel_rfl) (by kernel_rfl) (by kernel_rfl) hR (v_load ty9 rfl (fun _ h => h.cell 1 rfl rfl)) rfl ?_
    refine d_one 6 rfl (by kernel_rfl) ?_
    refine l_call goes11 rfl (with_any _ _ _ _ fs _ _ _ _ _ s0 s1 t0 t1 h0 h1 (HsAt.of_lies hf32 (hS.lies 3 rfl)) (by omega) (by omega) (ht.keep hS.keep)) rfl (fun e w hB => ?_)
    obtain ⟨A2, c2, rfl, hh2, hk2, hf2⟩ := hB
    refine ⟨_, rfl, ?_⟩
    have hS := hS.gain hk2 hh2.lies hf2 (one_mem 3 rfl)
    refine l_end ?_
    have hR : St No w0 _ [.blk b3 (.cells #[.int .u16 st, .int .u16 tr, .int .u16 ha, .slice A1 fs.length c1] 25 (0, 0)), .blk b2 (.cells #[.bool tree, .string s] 27 (0, 0))] := hS.less (.cons _ (.cons _ (.cons _ (.cons_cons _ (.cons _ (.cons_cons _ (.cons _ (.slnil))))))))
    refine d_on (S := (fun w => St No w0 w [.blk b3 (.cells #[.int .u16 st, .int .u16 tr, .int .u16 ha, .slice A1 fs.length c1] 25 (0, 0)), .blk b2 (.cells #[.bool tree, .string s] 27 (0, 0))])) hR ?_
    refine d_one 13 rfl (by kernel_rfl) ?_
    refine l_call goes12 rfl (rwith_any _ _ _ _ fs _ _ _ _ _ s0 s1 t0 t1 h0 h1 (HsAt.of_lies hf32 (hS.lies 4 rfl)) (by omega) (by omega)) rfl (fun e w hB => ?_)
    obtain ⟨A3, c3, rfl, hh3, hk3, hf3⟩ := hB
    refine ⟨_, rfl, ?_⟩
    have hS := hS.gain hk3 hh3.lies hf3 (one_mem 4 rfl)
    have hw32 := withS_32 (st := st) (tr := tr) (n := n) (tree := tree) (s := s) h0 h1 hf32
    have hwl := withS_len (st := st) (tr := tr) (ha := ha) (n := n) (tree := tree) (s := s) hfl
    refine l_end ?_
    have hR : St No w0 _ [.blk b3 (.cells #[.int .u16 st, .int .u16 tr, .int .u16 ha, .slice A1 fs.length c1] 25 (0, 0)), .blk b2 (.cells #[.bool tree, .string s] 27 (0, 0))] := hS.less (.cons _ (.cons _ (.cons _ (.cons _ (.cons_cons _ (.cons _ (.cons_cons _ (.cons _ (.slnil)))))))))
    refine d_on (S := (fun w => St No w0 w [.blk b3 (.cells #[.int .u16 st, .int .u16 tr, .int .u16 ha, .slice A1 fs.length c1] 25 (0, 0)), .blk b2 (.cells #[.bool tree, .string s] 27 (0, 0))])) hR ?_
    refine d_one 14 rfl (by kernel_rfl) ?_
    refine l_callK goes10 rfl hS (by have := same_any (withS (st, tr, ha, fs) n tree s).1 (withS (st, tr, ha, fs) n tree s).2.1 (withS (st, tr, ha, fs) n tree s).2.2.1 (withS (st, tr, ha, fs) n tree s).1 (withS (st, tr, ha, fs) n tree s).2.1 (withS (st, tr, ha, fs) n tree s).2.2.1 A2 A3 _ _ c2 c3 _ (HsAt.of_lies hw32 (hS.lies 1 rfl)) (HsAt.of_lies hw32 (hS.lies 0 rfl)) (by omega) (by omega); rw [decide_eq_true ⟨rfl, rfl, rfl, rfl⟩] at this; exact this) rfl (fun w hS => ?_)
    refine l_end ?_
    have hR : St No w0 _ [.blk b3 (.cells #[.int .u16 st, .int .u16 tr, .int .u16 ha, .slice A1 fs.length c1] 25 (0, 0)), .blk b2 (.cells #[.bool tree, .string s] 27 (0, 0))] := hS.less (.cons _ (.cons _ (.cons _ (.cons _ (.cons_cons _ (.cons _ (.cons_cons _ (.cons _ (.slnil)))))))))
    refine d_on (S := (fun w => St No w0 w [.blk b3 (.cells #[.int .u16 st, .int .u16 tr, .int .u16 ha, .slice A1 fs.length c1] 25 (0, 0)), .blk b2 (.cells #[.bool tree, .string s] 27 (0, 0))])) hR ?_
    refine d_one 15 rfl (by kernel_rfl) ?_
    refine l_val (v_assign rfl) rfl ?_
    refine l_end ?_
    have hR : St No w0 _ [.blk b3 (.cells #[.int .u16 st, .int .u16 tr, .int .u16 ha, .slice A1 fs.length c1] 25 (0, 0)), .blk b2 (.cells #[.bool tree, .string s] 27 (0, 0))] := hS.less (.cons _ (.cons _ (.cons _ (.cons _ (.cons_cons _ (.cons _ (.cons_cons _ (.cons _ (.slnil)))))))))
    refine d_on (S := (fun w => St No w0 w [.blk b3 (.cells #[.int .u16 st, .int .u16 tr, .int .u16 ha, .slice A1 fs.length c1] 25 (0, 0)), .blk b2 (.cells #[.bool tree, .string s] 27 (0, 0))])) hR ?_
    refine d_end (by kernel_rfl) ?_
    refine k_code ?_
    refine c_seq ?_
    refine c_region ?_
    refine l_val (v_move rfl) rfl ?_
    refine l_val (v_move rfl) rfl ?_
    refine l_on rfl rfl rfl ?_
    refine l_val (v_loadN (cs := (hashS ha fs n).1.map B) tyN30 (by rw [List.length_map, hx]) rfl (hereN (hS.row 3 rfl))) rfl ?_
    refine l_on rfl rfl rfl ?_
    refine l_val (v_loadN (cs := (hashS ha fs n).1.map B) tyN30 (by rw [List.length_map, hx]) rfl (hereN (hS.row 2 rfl))) rfl ?_
    refine l_on rfl rfl rfl ?_
    have eqg : Tryd.prog.eqGuardType Tryd.prog.depth 30 = false := by kernel_rfl
    refine l_val (v_aeql Tryd.underlying30 Tryd.underlying5 ty5 eqg rfl rfl hx hx) rfl ?_
    refine l_val (v_pickT rfl rfl) rfl ?_
    refine l_val (v_move rfl) rfl ?_
    refine l_part 58 rfl (fun p1 => ?_) (fun p1 => ?_)
    · skip
      refine l_on rfl rfl rfl ?_
      refine l_val (v_move rfl) rfl ?_
      refine l_on rfl rfl rfl ?_
      refine l_val (v_move rfl) rfl ?_
      refine l_on rfl rfl rfl ?_
      refine l_val (v_boolEq Tryd.underlying4 rfl rfl) rfl ?_
      refine l_val (v_pickT rfl rfl) rfl ?_
      refine l_val (v_move rfl) rfl ?_
      refine l_partB 63 rfl (fun p2 => ?_) (fun p2 => ?_)
      · skip
        refine l_on rfl rfl rfl ?_
        refine l_val (v_move rfl) rfl ?_
        refine l_val (v_pickT rfl rfl) rfl ?_
        refine l_val (v_assign rfl) rfl ?_
        refine l_end ?_
        refine k_code ?_
        refine c_ret1 rfl rfl ?_
        exact ⟨rfl, hS.keep⟩
      · exact (beq_dead p2).elim
    · exact absurd rfl p1
end Go.Proofs.YtdlcefiandacnaaDoor
