/- The walks of what a nibble's hash is, by both; of a mask with a nibble or without. -/
import Derived.Test.YtdlcefiandacnaaDoorMaskTz
namespace Go.Proofs.YtdlcefiandacnaaDoor
open Go Go.RowKit E MM
set_option maxRecDepth 100000
set_option linter.unusedVariables false
set_option linter.unusedSimpArgs false

theorem shl_one {n : Int} (h0 : 0 ≤ n) (h1 : n < 16) : IntKind.u16.wrap (IntKind.u16.wrap (1 * 2 ^ min n.toNat IntKind.u16.bits) - 1) = ((2 ^ n.toNat - 1 : Nat) : Int) := by
  have := pow_lt (n := n.toNat) (by omega)
  have hp := Nat.two_pow_pos n.toNat
  rw [show min n.toNat IntKind.u16.bits = n.toNat from Nat.min_eq_left (by show n.toNat ≤ 16; omega), Int.one_mul, show (2 : Int) ^ n.toNat = ((2 ^ n.toNat : Nat) : Int) by simp, IntKind.wrap_u16, IntKind.wrap_u16]
  omega
theorem below_and {m n : Int} (m0 : 0 ≤ m) (m1 : m < 65536) (h0 : 0 ≤ n) (h1 : n < 16) : bits .and .u16 m ((2 ^ n.toNat - 1 : Nat) : Int) = ((m.toNat % 2 ^ n.toNat : Nat) : Int) := by
  have := pow_lt (n := n.toNat) (by omega)
  rw [show m = ((m.toNat : Nat) : Int) by omega, u16_and_nat _ _ (by omega) (by omega), Nat.and_two_pow_sub_one_eq_mod, Int.toNat_natCast]
theorem cnt_below {m n : Nat} (h : n ≤ 16) : cnt (m % 2 ^ n) 16 = cnt m n := by
  rw [show (16 : Nat) = n + (16 - n) by omega, cnt_add, cnt_mod, Nat.div_eq_of_lt (Nat.mod_lt _ (Nat.two_pow_pos n)), cnt_one (fun i _ => Nat.zero_testBit i)]; rfl

/-- How many nibbles stand ahead of one. -/
theorem below_any (m n : Int) (w0 : World) (m0 : 0 ≤ m) (m1 : m < 65536) (h0 : 0 ≤ n) (h1 : n < 16) :
    Calls Tryd.prog 20 [.int .u16 m, .int .i64 n].toArray w0 fun e w' => e = .returned (.int .i64 (cnt m.toNat n.toNat : Nat)) ∧ Keep No w0 w' := by
  have e1 := shl_one h0 h1
  have e2 := below_and m0 m1 h0 h1
  have e3 : cntI ((m.toNat % 2 ^ n.toNat : Nat) : Int) = (cnt m.toNat n.toNat : Nat) := by unfold cntI; rw [Int.toNat_natCast, cnt_below (by omega)]
  have hlt : m.toNat % 2 ^ n.toNat < 65536 := Nat.lt_of_le_of_lt (Nat.mod_le _ _) (by omega)
  refine enter (n := 11) Tryd.func20 rfl rfl rfl ?_
  have hS := St.start No w0
  refine c_seq ?_
  refine c_region ?_
  refine l_val (v_assign rfl) rfl ?_
  refine l_end ?_
  refine k_code ?_
  refine c_seq ?_
  refine c_region ?_
  refine l_val (v_move rfl) rfl ?_
  refine l_val (v_move rfl) rfl ?_
  refine l_val (v_shl rfl rfl (by omega)) rfl ?_
  refine l_val (v_int rfl rfl rfl) rfl ?_
  rw [e1]
  refine l_val (v_int rfl rfl rfl) rfl ?_
  rw [e2]
  refine l_callK goes15 rfl hS (draws (count_any _ _ (by omega) (by omega))) rfl (fun w hS => ?_)
  refine l_val (v_assign rfl) rfl ?_
  refine l_end ?_
  refine k_code ?_
  refine c_ret1 rfl rfl ?_
  exact ⟨by rw [e3], hS.keep⟩

/-- A nibble's hash. -/
def hashS (ha : Int) (hs : List (List UInt8)) (n : Int) : List UInt8 × Bool :=
  if hasB ha n && decide (cnt ha.toNat n.toNat < hs.length) then (hs.getD (cnt ha.toNat n.toNat) [], true) else (List.replicate 32 0, false)
theorem hashS_32 {ha : Int} {hs : List (List UInt8)} {n : Int} (h : ∀ x ∈ hs, x.length = 32) : (hashS ha hs n).1.length = 32 := by
  unfold hashS; split
  · rename_i hc
    simp only [Bool.and_eq_true, decide_eq_true_eq] at hc
    show (hs.getD _ []).length = 32
    rw [List.getD, List.getElem?_eq_getElem hc.2]; exact h _ (List.getElem_mem hc.2)
  · exact List.length_replicate

theorem hashS_no {ha : Int} {hs : List (List UInt8)} {n : Int} (h : hasB ha n = false) : hashS ha hs n = (List.replicate 32 0, false) := by unfold hashS; rw [h]; rfl
theorem hashS_out {ha : Int} {hs : List (List UInt8)} {n : Int} (h : ¬ cnt ha.toNat n.toNat < hs.length) : hashS ha hs n = (List.replicate 32 0, false) := by unfold hashS; rw [decide_eq_false h, Bool.and_false]; rfl
theorem hashS_yes {ha : Int} {hs : List (List UInt8)} {n : Int} (h : hasB ha n = true) (h1 : cnt ha.toNat n.toNat < hs.length) : hashS ha hs n = (hs.getD (cnt ha.toNat n.toNat) [], true) := by unfold hashS; rw [h, decide_eq_true h1]; rfl
theorem hasB_range {m n : Int} (h : hasB m n = true) : 0 ≤ n ∧ n < 16 := by
  simp only [hasB, Bool.and_eq_true, decide_eq_true_eq] at h; exact h.1
theorem zeros_32 : (#[.int .u8 0, .int .u8 0, .int .u8 0, .int .u8 0, .int .u8 0, .int .u8 0, .int .u8 0, .int .u8 0, .int .u8 0, .int .u8 0, .int .u8 0, .int .u8 0, .int .u8 0, .int .u8 0, .int .u8 0, .int .u8 0, .int .u8 0, .int .u8 0, .int .u8 0, .int .u8 0, .int .u8 0, .int .u8 0, .int .u8 0, .int .u8 0, .int .u8 0, .int .u8 0, .int .u8 0, .int .u8 0, .int .u8 0, .int .u8 0, .int .u8 0, .int .u8 0] : Array Value) = ((List.replicate 32 0).map B).toArray := rfl

set_option maxHeartbeats 1000000 in
theorem hash_any (st tr ha : Int) (A : Option Addr) (hs : List (List UInt8)) (c : Nat) (n : Int) (w0 : World) (h0 : 0 ≤ ha) (h1 : ha < 65536) (hh : HsAt w0 A hs) :
    Calls Tryd.prog 8 [.agg #[.int .u16 st, .int .u16 tr, .int .u16 ha, .slice A hs.length c], .int .i64 n].toArray w0 fun e w' =>
      e = .returned (.tuple #[.agg ((hashS ha hs n).1.map B).toArray, .bool (hashS ha hs n).2]) ∧ Keep No w0 w' := by
  refine enter (n := 30) Tryd.func8 rfl rfl rfl ?_
  have hS := St.start No w0
  refine c_seq ?_
  refine c_region ?_
  refine l_box hS rfl rfl rfl (fun b1 w hS => ?_)
  refine l_alloc hS zero30 rfl rfl (fun b2 w hS => ?_)
  refine l_val (v_assign rfl) rfl ?_
  refine l_end ?_
  refine k_code ?_
  refine c_seq ?_
  refine c_seq ?_
  refine q_region hS mixed (by kernel_rfl) ?_
  refine q_val (v_fieldAddr field25_2 rfl) rfl ?_
  refine q_val (v_load ty22 rfl (fun _ h => h.cell 1 rfl rfl)) rfl ?_
  refine q_val (v_move rfl) rfl ?_
  refine q_callK goes13 rfl (fun w hS => sames (has_any _ _ _ h0 h1)) rfl ?_
  refine q_val (v_not rfl) rfl ?_
  refine q_val (v_move rfl) rfl ?_
  refine q_partB 11 rfl (fun p1 => ?_) (fun p1 => ?_)
  · skip
    refine q_skip rfl rfl rfl rfl rfl ?_
    refine q_skip rfl rfl rfl rfl rfl ?_
    refine q_skip rfl rfl rfl rfl rfl ?_
    refine q_skip rfl rfl rfl rfl rfl ?_
    refine q_skip rfl rfl rfl rfl rfl ?_
    refine q_skip rfl rfl rfl rfl rfl ?_
    refine q_skip rfl rfl rfl rfl rfl ?_
    refine q_skip rfl rfl rfl rfl rfl ?_
    refine q_val (v_pickT rfl rfl) rfl ?_
    refine q_end (fun w hS => ?_)
    refine k_code ?_
    refine c_yes rfl ?_
    refine c_seq ?_
    refine c_region ?_
    refine l_val (v_buildA zero30 Tryd.underlying30 ty5 rfl rfl) rfl ?_
    refine l_storeN 0 hS tyN30 rfl rfl rfl rfl rfl rfl (fun w hS => ?_)
    refine l_val (v_assign rfl) rfl ?_
    refine l_end ?_
    refine k_code ?_
    refine c_retCT 0 rfl tyN30 hS rfl rfl rfl rfl ?_
    exact ⟨by rw [hashS_no (by simpa using p1)]; rfl, hS.keep⟩
  · skip
    have hb : hasB ha n = true := by simpa using p1
    refine q_on rfl rfl rfl ?_
    refine q_val (v_fieldAddr field25_2 rfl) rfl ?_
    refine q_on rfl rfl rfl ?_
    refine q_val (v_load ty22 rfl (fun _ h => h.cell 1 rfl rfl)) rfl ?_
    refine q_on rfl rfl rfl ?_
    refine q_val (v_move rfl) rfl ?_
    refine q_on rfl rfl rfl ?_
    refine q_callK goes20 rfl (fun w hS => below_any _ _ _ h0 h1 (hasB_range hb).1 (hasB_range hb).2) rfl ?_
    refine q_on rfl rfl rfl ?_
    refine q_val (v_fieldAddr field25_3 rfl) rfl ?_
    refine q_on rfl rfl rfl ?_
    refine q_val (v_load ty23 rfl (fun _ h => h.cell 1 rfl rfl)) rfl ?_
    refine q_on rfl rfl rfl ?_
    refine q_val (v_len Tryd.underlying23 rfl) rfl ?_
    refine q_on rfl rfl rfl ?_
    refine q_val (v_geq rfl rfl) rfl ?_
    refine q_val (v_pickF rfl rfl) rfl ?_
    refine q_end (fun w hS => ?_)
    refine k_code ?_
    refine c_if rfl (fun p2 => ?_) (fun p2 => ?_)
    · skip
      refine c_seq ?_
      refine c_region ?_
      refine l_val (v_buildA zero30 Tryd.underlying30 ty5 rfl rfl) rfl ?_
      refine l_storeN 0 hS tyN30 rfl rfl rfl rfl rfl rfl (fun w hS => ?_)
      refine l_val (v_assign rfl) rfl ?_
      refine l_end ?_
      refine k_code ?_
      refine c_retCT 0 rfl tyN30 hS rfl rfl rfl rfl ?_
      exact ⟨by rw [hashS_out (by omega)]; rfl, hS.keep⟩
    · skip
      obtain ⟨ad, x, hA, hax, hx, hcell⟩ := hh.get2 (k := cnt ha.toNat n.toNat) (by omega)
      refine c_skip ?_
      refine k_code ?_
      refine c_seq ?_
      refine d_region (fun w => St No w0 w [.blk b1 (.cells #[.int .u16 st, .int .u16 tr, .int .u16 ha, .slice A hs.length c] 25 (0, 0))]) 8 mixed ?_
      have hS := hS.drew 1
      have hR : St No w0 _ [.blk b1 (.cells #[.int .u16 st, .int .u16 tr, .int .u16 ha, .slice A hs.length c] 25 (0, 0))] := hS.less (.cons _ (.cons_cons _ (.slnil)))
      refine d_take 0 rfl (by kernel_rfl) (by kernel_rfl) (by kernel_rfl) (by kernel_rfl) hR (v_fieldAddr field25_3 rfl) rfl ?_
      refine d_take 1 rfl (by kernel_rfl) (by kernel_rfl) (by kernel_rfl) (by kernel_rfl) hR (v_load ty23 rfl (fun _ h => h.cell 0 rfl rfl)) rfl ?_
      refine d_take 2 rfl (by kernel_rfl) (by kernel_rfl) (by kernel_rfl) (by kernel_rfl) hR (v_fieldAddr field25_2 rfl) rfl ?_
      refine d_take 3 rfl (by kernel_rfl) (by kernel_rfl) (by kernel_rfl) (by kernel_rfl) hR (v_load ty22 rfl (fun _ h => h.cell 0 rfl rfl)) rfl ?_
      refine d_one 4 rfl (by kernel_rfl) ?_
      refine l_val (v_move rfl) rfl ?_
      refine l_end ?_
      have hR : St No w0 _ [.blk b1 (.cells #[.int .u16 st, .int .u16 tr, .int .u16 ha, .slice A hs.length c] 25 (0, 0))] := hS.less (.cons _ (.cons_cons _ (.slnil)))
      refine d_on (S := (fun w => St No w0 w [.blk b1 (.cells #[.int .u16 st, .int .u16 tr, .int .u16 ha, .slice A hs.length c] 25 (0, 0))])) hR ?_
      refine d_one 5 rfl (by kernel_rfl) ?_
      refine l_callK goes20 rfl hS (below_any _ _ _ h0 h1 (hasB_range hb).1 (hasB_range hb).2) rfl (fun w hS => ?_)
      refine l_end ?_
      have hR : St No w0 _ [.blk b1 (.cells #[.int .u16 st, .int .u16 tr, .int .u16 ha, .slice A hs.length c] 25 (0, 0))] := hS.less (.cons _ (.cons_cons _ (.slnil)))
      refine d_on (S := (fun w => St No w0 w [.blk b1 (.cells #[.int .u16 st, .int .u16 tr, .int .u16 ha, .slice A hs.length c] 25 (0, 0))])) hR ?_
      refine d_one 6 rfl (by kernel_rfl) ?_
      refine l_val (v_indexAddrO hA Tryd.underlying23 tyN30.size rfl rfl (by omega) (by omega)) rfl ?_
      refine l_end ?_
      have hR : St No w0 _ [.blk b1 (.cells #[.int .u16 st, .int .u16 tr, .int .u16 ha, .slice A hs.length c] 25 (0, 0))] := hS.less (.cons _ (.cons_cons _ (.slnil)))
      refine d_on (S := (fun w => St No w0 w [.blk b1 (.cells #[.int .u16 st, .int .u16 tr, .int .u16 ha, .slice A hs.length c] 25 (0, 0))])) hR ?_
      refine d_one 7 rfl (by kernel_rfl) ?_
      refine l_val (v_loadN (cs := x.map B) tyN30 (by simp [hx]) rfl (hereN (fun j v hj => hS.old (hcell j v hj)))) rfl ?_
      refine l_end ?_
      have hR : St No w0 _ [.blk b1 (.cells #[.int .u16 st, .int .u16 tr, .int .u16 ha, .slice A hs.length c] 25 (0, 0))] := hS.less (.cons _ (.cons_cons _ (.slnil)))
      refine d_on (S := (fun w => St No w0 w [.blk b1 (.cells #[.int .u16 st, .int .u16 tr, .int .u16 ha, .slice A hs.length c] 25 (0, 0))])) hR ?_
      refine d_one 8 rfl (by kernel_rfl) ?_
      refine l_storeW 0 hS tyN30 rfl (by rw [List.length_map, hx]; rfl) rfl rfl (by rw [List.length_map, hx]) (B_one _) (fun w hS => ?_)
      refine l_end ?_
      refine d_last (S := (fun w => St No w0 w [.blk b1 (.cells #[.int .u16 st, .int .u16 tr, .int .u16 ha, .slice A hs.length c] 25 (0, 0))])) ?_
      refine d_one 9 rfl (by kernel_rfl) ?_
      refine l_val (v_assign rfl) rfl ?_
      refine l_end ?_
      have hR : St No w0 _ [.blk b1 (.cells #[.int .u16 st, .int .u16 tr, .int .u16 ha, .slice A hs.length c] 25 (0, 0))] := hS.less (.cons _ (.cons_cons _ (.slnil)))
      refine d_on (S := (fun w => St No w0 w [.blk b1 (.cells #[.int .u16 st, .int .u16 tr, .int .u16 ha, .slice A hs.length c] 25 (0, 0))])) hR ?_
      refine d_end (by kernel_rfl) ?_
      refine k_code ?_
      refine c_retCT 0 rfl tyN30 hS rfl (by simp [hx]) rfl rfl ?_
      exact ⟨by rw [hashS_yes hb (by omega), List.getD, hax]; rfl, hS.keep⟩

set_option maxHeartbeats 1000000 in
theorem rhash_any (st tr ha : Int) (A : Option Addr) (hs : List (List UInt8)) (c : Nat) (n : Int) (w0 : World) (h0 : 0 ≤ ha) (h1 : ha < 65536) (hh : HsAt w0 A hs) (hn : hs.length ≤ 4611686018427387904) :
    Calls Tryd.prog 9 [.agg #[.int .u16 st, .int .u16 tr, .int .u16 ha, .slice A hs.length c], .int .i64 n].toArray w0 fun e w' =>
      e = .returned (.tuple #[.agg ((hashS ha hs n).1.map B).toArray, .bool (hashS ha hs n).2]) ∧ Keep No w0 w' := by
  refine enter (n := 40) Tryd.func9 rfl rfl rfl ?_
  have hS := St.start No w0
  refine c_seq ?_
  refine c_region ?_
  refine l_box hS rfl rfl rfl (fun b1 w hS => ?_)
  refine l_alloc hS zero30 rfl rfl (fun b2 w hS => ?_)
  refine l_val (v_assign rfl) rfl ?_
  refine l_end ?_
  refine k_code ?_
  refine c_seq ?_
  refine c_region ?_
  refine l_val (v_fieldAddr field25_2 rfl) rfl ?_
  refine l_val (v_load ty22 rfl (here (hS.cell 1 rfl rfl))) rfl ?_
  refine l_val (v_move rfl) rfl ?_
  refine l_callK goes21 rfl hS (sames (rhas_any _ _ _ h0 h1)) rfl (fun w hS => ?_)
  refine l_val (v_assign rfl) rfl ?_
  refine l_end ?_
  refine k_code ?_
  refine c_seq ?_
  refine c_seq ?_
  refine c_region ?_
  refine l_val (v_move rfl) rfl ?_
  refine l_val (v_not rfl) rfl ?_
  refine l_end ?_
  refine k_code ?_
  refine c_cond rfl (fun p1 => ?_) (fun p1 => ?_)
  · skip
    refine c_seq ?_
    refine c_region ?_
    refine l_val (v_buildA zero30 Tryd.underlying30 ty5 rfl rfl) rfl ?_
    refine l_storeN 0 hS tyN30 rfl rfl rfl rfl rfl rfl (fun w hS => ?_)
    refine l_val (v_assign rfl) rfl ?_
    refine l_end ?_
    refine k_code ?_
    refine c_retCT 0 rfl tyN30 hS rfl rfl rfl rfl ?_
    exact ⟨by rw [hashS_no (by simpa using p1)]; rfl, hS.keep⟩
  · skip
    have hb : hasB ha n = true := by simpa using p1
    obtain ⟨n0, n1⟩ := hasB_range hb
    refine c_skip ?_
    refine k_code ?_
    refine c_seq ?_
    refine c_region ?_
    refine l_val (v_assign rfl) rfl ?_
    refine l_end ?_
    refine k_code ?_
    refine c_seq ?_
    refine c_seq ?_
    refine c_region ?_
    refine l_val (v_assign rfl) rfl ?_
    refine l_end ?_
    refine k_code ?_
    refine c_block ?_
    refine c_loopV [(1, _), (2, _), (4, _), (5, _)] (fun (k : Nat) => [(7, .int .i64 (cnt ha.toNat k : Nat)), (8, .int .i64 k)]) (fun (k : Nat) w => St No w0 w _ ∧ k ≤ n.toNat) (fun (k : Nat) => n.toNat - k) (0 : Nat) ⟨hS, Nat.zero_le _⟩ (kc rfl (kc rfl (kc rfl (kc rfl (kc rfl (kc rfl kn)))))) (fun k w hI => ?_)
    obtain ⟨hS, hI⟩ := hI
    refine c_seq ?_
    refine c_seq ?_
    refine c_region ?_
    refine l_val (v_move rfl) rfl ?_
    refine l_val (v_move rfl) rfl ?_
    refine l_val (v_lss rfl rfl) rfl ?_
    refine l_end ?_
    refine k_code ?_
    refine c_if rfl (fun p2 => ?_) (fun p2 => ?_)
    · skip
      have hst := cnt_step ha k (by omega)
      have hle := cnt_le ha.toNat k
      refine c_skip ?_
      refine k_code ?_
      refine c_seq ?_
      refine c_block ?_
      refine c_seq ?_
      refine c_region ?_
      refine l_val (v_fieldAddr field25_2 rfl) rfl ?_
      refine l_val (v_load ty22 rfl (here (hS.cell 1 rfl rfl))) rfl ?_
      refine l_val (v_move rfl) rfl ?_
      refine l_callK goes21 rfl hS (sames (rhas_any _ _ _ h0 h1)) rfl (fun w hS => ?_)
      refine l_val (v_assign rfl) rfl ?_
      refine l_end ?_
      refine k_code ?_
      refine c_seq ?_
      refine c_region ?_
      refine l_val (v_move rfl) rfl ?_
      refine l_end ?_
      refine k_code ?_
      refine c_cond rfl (fun p3 => ?_) (fun p3 => ?_)
      · skip
        refine c_region ?_
        refine l_val (v_move rfl) rfl ?_
        refine l_val (v_add rfl rfl (by omega)) rfl ?_
        refine l_val (v_assign rfl) rfl ?_
        refine l_end ?_
        refine k_code ?_
        refine c_region ?_
        refine l_val (v_move rfl) rfl ?_
        refine l_val (v_add rfl rfl (by omega)) rfl ?_
        refine l_val (v_assign rfl) rfl ?_
        refine l_end ?_
        refine fun _ hFr => ⟨(k + 1), (by omega), ⟨hS, by omega⟩, Fr.sub hFr (kc (by rw [hst, p3]; rfl) (kc rfl (kc rfl (kc rfl (kc rfl (kc rfl kn))))))⟩
      · skip
        refine c_skip ?_
        refine k_code ?_
        refine c_region ?_
        refine l_val (v_move rfl) rfl ?_
        refine l_val (v_add rfl rfl (by omega)) rfl ?_
        refine l_val (v_assign rfl) rfl ?_
        refine l_end ?_
        refine fun _ hFr => ⟨(k + 1), (by omega), ⟨hS, by omega⟩, Fr.sub hFr (kc (by rw [hst, p3]; rfl) (kc rfl (kc rfl (kc rfl (kc rfl (kc rfl kn))))))⟩
    · skip
      obtain rfl : k = n.toNat := by omega
      refine c_exit ex_here ?_
      refine k_code ?_
      refine c_seq ?_
      refine c_seq ?_
      refine c_region ?_
      refine l_val (v_move rfl) rfl ?_
      refine l_val (v_fieldAddr field25_3 rfl) rfl ?_
      refine l_val (v_load ty23 rfl (here (hS.cell 1 rfl rfl))) rfl ?_
      refine l_val (v_len Tryd.underlying23 rfl) rfl ?_
      refine l_val (v_geq rfl rfl) rfl ?_
      refine l_end ?_
      refine k_code ?_
      refine c_if rfl (fun p3 => ?_) (fun p3 => ?_)
      · skip
        refine c_seq ?_
        refine c_region ?_
        refine l_val (v_buildA zero30 Tryd.underlying30 ty5 rfl rfl) rfl ?_
        refine l_storeN 0 hS tyN30 rfl rfl rfl rfl rfl rfl (fun w hS => ?_)
        refine l_val (v_assign rfl) rfl ?_
        refine l_end ?_
        refine k_code ?_
        refine c_retCT 0 rfl tyN30 hS rfl rfl rfl rfl ?_
        exact ⟨by rw [hashS_out (by omega)]; rfl, hS.keep⟩
      · skip
        obtain ⟨ad, x, hA, hax, hx, hcell⟩ := hh.get2 (k := cnt ha.toNat n.toNat) (by omega)
        refine c_skip ?_
        refine k_code ?_
        refine c_seq ?_
        refine c_region ?_
        refine l_val (v_fieldAddr field25_3 rfl) rfl ?_
        refine l_val (v_load ty23 rfl (here (hS.cell 1 rfl rfl))) rfl ?_
        refine l_val (v_move rfl) rfl ?_
        refine l_val (v_indexAddrO hA Tryd.underlying23 tyN30.size rfl rfl (by omega) (by omega)) rfl ?_
        refine l_val (v_loadN (cs := x.map B) tyN30 (by simp [hx]) rfl (hereN (fun j v hj => hS.old (hcell j v hj)))) rfl ?_
        refine l_storeW 0 hS tyN30 rfl (by rw [List.length_map, hx]; rfl) rfl rfl (by rw [List.length_map, hx]) (B_one _) (fun w hS => ?_)
        refine l_val (v_assign rfl) rfl ?_
        refine l_end ?_
        refine k_code ?_
        refine c_retCT 0 rfl tyN30 hS rfl (by simp [hx]) rfl rfl ?_
        exact ⟨by rw [hashS_yes hb (by omega), List.getD, hax]; rfl, hS.keep⟩

/-- A mask with a nibble, or without it. -/
def setS (m n : Int) (is : Bool) : Int := if hasB m n = is then m else if is then m + ((2 ^ n.toNat : Nat) : Int) else m - ((2 ^ n.toNat : Nat) : Int)

end Go.Proofs.YtdlcefiandacnaaDoor
