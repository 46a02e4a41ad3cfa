/- The walk of mask.With: a branch with another nibble. -/
import Derived.Test.YtdlcefiandacnaaDoorMaskPut
import Derived.Test.YtdlcefiandacnaaDoorMaskEach
namespace Go.Proofs.YtdlcefiandacnaaDoor
open Go Go.RowKit E MM
set_option maxRecDepth 100000
set_option linter.unusedVariables false
set_option linter.unusedSimpArgs false

theorem pre_leaf {s p : ByteArray} (h : p.size ≤ s.size) : Ending.returned (.bool (decide (s.extract 0 ((p.size : Nat) : Int).toNat = p))) = .returned (.bool (decide (p.size ≤ s.size ∧ s.extract 0 p.size = p))) := by
  rw [Int.toNat_natCast]; simp [h]
theorem pre_any (s p : ByteArray) (w0 : World) (hs : s.size ≤ 4611686018427387904) (hp : p.size ≤ 4611686018427387904) :
    Calls Tryd.prog 29 [.string s, .string p].toArray w0 fun e w' => e = .returned (.bool (decide (p.size ≤ s.size ∧ s.extract 0 p.size = p))) ∧ Keep No w0 w' := by
  refine enter (n := 18) Tryd.func29 rfl rfl rfl ?_
  have hS := St.start No w0
  refine c_seq ?_
  refine c_region ?_
  refine l_val (v_assign rfl) rfl ?_
  refine l_end ?_
  refine k_code ?_
  refine c_seq ?_
  refine c_region ?_
  refine l_val (v_move rfl) rfl ?_
  refine l_val (v_lenS Tryd.underlying9 rfl) rfl ?_
  refine l_val (v_move rfl) rfl ?_
  refine l_val (v_lenS Tryd.underlying9 rfl) rfl ?_
  refine l_val (v_geq rfl rfl) rfl ?_
  refine l_val (v_move rfl) rfl ?_
  refine l_part 10 rfl (fun p1 => ?_) (fun p1 => ?_)
  · skip
    refine l_on rfl rfl rfl ?_
    refine l_val (v_move rfl) rfl ?_
    refine l_on rfl rfl rfl ?_
    refine l_val (v_move rfl) rfl ?_
    refine l_on rfl rfl rfl ?_
    refine l_val (v_lenS Tryd.underlying9 rfl) rfl ?_
    refine l_on rfl rfl rfl ?_
    refine l_val (v_sliceSTo Tryd.underlying9 rfl rfl (by omega) (by omega) ) rfl ?_
    refine l_on rfl rfl rfl ?_
    refine l_val (v_move rfl) rfl ?_
    refine l_on rfl rfl rfl ?_
    refine l_val (v_seql rfl rfl) rfl ?_
    refine l_val (v_pickT rfl rfl) rfl ?_
    refine l_val (v_assign rfl) rfl ?_
    refine l_end ?_
    refine k_code ?_
    refine c_ret1 rfl rfl ?_
    exact ⟨pre_leaf (by omega), hS.keep⟩
  · skip
    refine l_skip rfl rfl rfl rfl rfl ?_
    refine l_skip rfl rfl rfl rfl rfl ?_
    refine l_skip rfl rfl rfl rfl rfl ?_
    refine l_skip rfl rfl rfl rfl rfl ?_
    refine l_skip rfl rfl rfl rfl rfl ?_
    refine l_skip rfl rfl rfl rfl rfl ?_
    refine l_val (v_pickF rfl rfl) rfl ?_
    refine l_val (v_assign rfl) rfl ?_
    refine l_end ?_
    refine k_code ?_
    refine c_ret1 rfl rfl ?_
    exact ⟨by rw [decide_eq_false (fun h => p1 (by omega))], hS.keep⟩
theorem prefix_any (s p : ByteArray) (w0 : World) (hs : s.size ≤ 4611686018427387904) (hp : p.size ≤ 4611686018427387904) :
    Calls Tryd.prog 23 [.string s, .string p].toArray w0 fun e w' => e = .returned (.bool (decide (p.size ≤ s.size ∧ s.extract 0 p.size = p))) ∧ Keep No w0 w' := by
  refine enter (n := 8) Tryd.func23 rfl rfl rfl ?_
  have hS := St.start No w0
  refine c_seq ?_
  refine c_region ?_
  refine l_val (v_assign rfl) rfl ?_
  refine l_end ?_
  refine k_code ?_
  refine c_seq ?_
  refine c_region ?_
  refine l_val (v_move rfl) rfl ?_
  refine l_val (v_move rfl) rfl ?_
  refine l_callK goes29 rfl hS (pre_any _ _ _ hs hp) rfl (fun w hS => ?_)
  refine l_val (v_assign rfl) rfl ?_
  refine l_end ?_
  refine k_code ?_
  refine c_ret1 rfl rfl ?_
  exact ⟨rfl, hS.keep⟩
theorem ofL_one {n : Int} (h0 : 0 ≤ n) (h1 : n < 16) : ((ofL [n] : Nat) : Int) = ((2 ^ n.toNat : Nat) : Int) := by
  simp only [ofL]; rw [if_pos ⟨h0, h1⟩, Nat.zero_or]
theorem hashed_pre {s : ByteArray} (h : (s.size : Int) = 33) : hashed s = decide ((⟨#[160]⟩ : ByteArray).size ≤ s.size ∧ s.extract 0 (⟨#[160]⟩ : ByteArray).size = ⟨#[160]⟩) := by
  have hz : 33 = s.data.toList.length := by rw [Array.length_toList]; have : s.data.size = s.size := rfl; omega
  unfold hashed
  rw [decide_eq_true h, Bool.true_and]
  apply decide_eq_decide.2
  have e1 : (⟨#[160]⟩ : ByteArray).size = 1 := rfl
  rw [e1]
  have e2 : (s.extract 0 1).data.toList = s.data.toList.take 1 := by rw [extract_list]; simp
  cases hl : s.data.toList with
  | nil => rw [hl] at hz; simp at hz
  | cons a r =>
    rw [hl] at e2
    constructor
    · intro ha
      refine ⟨by omega, ByteArray.ext (Array.toList_inj.1 ?_)⟩
      rw [e2]
      have : a = 160 := UInt8.toNat_inj.1 (by simp only [List.getD_cons_zero] at ha; show a.toNat = 160; omega)
      rw [this]; rfl
    · rintro ⟨-, he⟩
      rw [he] at e2
      have : (160 : UInt8) = a := by simpa using e2
      rw [← this]; rfl
theorem hashed_no33 {s : ByteArray} (h : ¬ (s.size : Int) = 33) : hashed s = false := by unfold hashed; rw [decide_eq_false h]; rfl
theorem ref_tail {s : ByteArray} (h : s.size = 33) : (s.extract (1 : Int).toNat s.size).data.toList = refH s := by
  rw [extract_list, h]; rfl

set_option maxHeartbeats 4000000 in
theorem with_any (st tr ha : Int) (A : Option Addr) (hs : List (List UInt8)) (c : Nat) (n : Int) (tree : Bool) (s : ByteArray) (w0 : World) (s0 : 0 ≤ st) (s1 : st < 65536) (t0 : 0 ≤ tr) (t1 : tr < 65536) (h0 : 0 ≤ ha) (h1 : ha < 65536)
    (hh : HsAt w0 A hs) (hn : hs.length ≤ 4611686018427387904) (hsz : s.size ≤ 4611686018427387904) (ht : Tab w0) :
    Calls Tryd.prog 11 [.agg #[.int .u16 st, .int .u16 tr, .int .u16 ha, .slice A hs.length c], .int .i64 n, .bool tree, .string s].toArray w0 (GivesB w0 A hs (withS (st, tr, ha, hs) n tree s)) := by
  refine enterM (n := 100) Tryd.func11 rfl rfl rfl ?_
  have hS := St.start No w0
  refine c_seq ?_
  refine c_region ?_
  refine l_box hS rfl rfl rfl (fun b1 w hS => ?_)
  refine l_alloc hS zero25 rfl rfl (fun b2 w hS => ?_)
  refine l_end ?_
  refine k_code ?_
  refine c_seq ?_
  refine c_seq ?_
  refine c_region ?_
  refine l_val (v_move rfl) rfl ?_
  refine l_val (v_lss rfl rfl) rfl ?_
  refine l_val (v_move rfl) rfl ?_
  refine l_part 18 rfl (fun p1 => ?_) (fun p1 => ?_)
  · skip
    refine l_skip rfl rfl rfl rfl rfl ?_
    refine l_skip rfl rfl rfl rfl rfl ?_
    refine l_val (v_pickT rfl rfl) rfl ?_
    refine l_end ?_
    refine k_code ?_
    refine c_yes rfl ?_
    refine c_seq ?_
    refine c_region ?_
    refine l_val (v_loadN tyN25 rfl rfl (hereN (hS.row 1 rfl))) rfl ?_
    refine l_storeN 0 hS tyN25 rfl rfl rfl rfl rfl rfl (fun w hS => ?_)
    refine l_end ?_
    refine k_code ?_
    refine c_retM0 0 rfl tyN25 hS rfl rfl rfl ?_
    exact ⟨A, c, by rw [withS_out (by omega)]; rfl, by rw [withS_out (by omega)]; exact hh.keep hS.keep, hS.keep, by rw [withS_out (by omega)]; exact From.same _ List.mem_cons_self⟩
  · skip
    refine l_on rfl rfl rfl ?_
    refine l_val (v_move rfl) rfl ?_
    refine l_on rfl rfl rfl ?_
    refine l_val (v_geq rfl rfl) rfl ?_
    refine l_val (v_pickF rfl rfl) rfl ?_
    refine l_end ?_
    refine k_code ?_
    refine c_if rfl (fun p2 => ?_) (fun p2 => ?_)
    · skip
      refine c_seq ?_
      refine c_region ?_
      refine l_val (v_loadN tyN25 rfl rfl (hereN (hS.row 1 rfl))) rfl ?_
      refine l_storeN 0 hS tyN25 rfl rfl rfl rfl rfl rfl (fun w hS => ?_)
      refine l_end ?_
      refine k_code ?_
      refine c_retM0 0 rfl tyN25 hS rfl rfl rfl ?_
      exact ⟨A, c, by rw [withS_out (by omega)]; rfl, by rw [withS_out (by omega)]; exact hh.keep hS.keep, hS.keep, by rw [withS_out (by omega)]; exact From.same _ List.mem_cons_self⟩
    · skip
      have n0 : 0 ≤ n := by omega
      have n1 : n < 16 := by omega
      have hone := ofL_one n0 n1
      have hr := setS_range (is := false) h0 h1 n0 n1
      have hcast : (((setS ha n false).toNat : Nat) : Int) = setS ha n false := by omega
      refine c_skip ?_
      refine k_code ?_
      refine c_seq ?_
      refine c_region ?_
      refine l_val (v_move rfl) rfl ?_
      refine l_sliceN (xs := [.tmp 23]) hS Tryd.underlying57 ty3 zero3 rfl rfl rfl (by simp [Value.cells, B]) rfl rfl rfl rfl (fun b3 w hS => ?_)
      refine l_callK goes18 rfl hS (of_all [n] _ _ _ (by simp) (Or.inr ⟨_, rfl, fun i x hi => hS.cellA 0 rfl (by rcases i with _ | i <;> simp_all)⟩)) rfl (fun w hS => ?_)
      refine l_val (v_assign rfl) rfl ?_
      refine l_end ?_
      refine k_code ?_
      refine c_seq ?_
      refine c_region ?_
      refine l_val (v_fieldAddr field25_0 rfl) rfl ?_
      refine l_val (v_load ty22 rfl (here (hS.cell 2 rfl rfl))) rfl ?_
      refine l_val (v_move rfl) rfl ?_
      refine l_val (v_int rfl rfl rfl) rfl ?_
      rw [hone, not_set s0 s1 n0 n1]
      refine l_val (v_fieldAddr field25_1 rfl) rfl ?_
      refine l_val (v_load ty22 rfl (here (hS.cell 2 rfl rfl))) rfl ?_
      refine l_val (v_move rfl) rfl ?_
      refine l_val (v_int rfl rfl rfl) rfl ?_
      rw [not_set t0 t1 n0 n1]
      refine l_val (v_fieldAddr field25_2 rfl) rfl ?_
      refine l_val (v_load ty22 rfl (here (hS.cell 2 rfl rfl))) rfl ?_
      refine l_val (v_move rfl) rfl ?_
      refine l_val (v_int rfl rfl rfl) rfl ?_
      rw [not_set h0 h1 n0 n1]
      refine l_val (v_build zero25 places25 rfl rfl) rfl ?_
      refine l_alloc hS zero25 rfl rfl (fun b4 w hS => ?_)
      refine l_storeN 0 hS tyN25 rfl rfl rfl rfl rfl rfl (fun w hS => ?_)
      refine l_end ?_
      refine k_code ?_
      refine c_seq ?_
      refine c_region ?_
      refine l_alloc hS zero23 rfl rfl (fun b5 w hS => ?_)
      refine l_end ?_
      refine k_code ?_
      refine c_seq ?_
      refine c_seq ?_
      refine c_region ?_
      refine l_val (v_fieldAddr field25_2 rfl) rfl ?_
      refine l_val (v_load ty22 rfl (here (hS.cell 1 rfl rfl))) rfl ?_
      refine l_call goes22 rfl (each_any _ _) rfl (fun e w hB => ?_)
      obtain ⟨be, rfl, hM⟩ := hB
      refine ⟨_, rfl, ?_⟩
      have hS := hS.merge hM
      refine l_end ?_
      refine k_code ?_
      refine c_block ?_
      refine c_range rfl goes27 rfl hS (fun fn tmps l D w hF hS => ?_)
      have hS := (hS.nil 30 32).arr [3, 1, 0, 2, 4, 5, 7, 8]
      refine (each1_any l be _ (setS ha n false).toNat (by omega) (fun j L => ∃ v, L = [.row 30 32 v (cnt (setS ha n false).toNat j) ((hsW ha hs n s (bl (setS ha n false).toNat j)).flatten.map B), .blk D (.deferred (some [])), .blk b5 (.cells #[v] 23 (0, 0)), .blk b4 (.cells #[.int .u16 (setS st n false), .int .u16 (setS tr n false), .int .u16 (setS ha n false), .slice none 0 0] 25 (0, 0)), .blk b2 (.cells #[.int .u16 0, .int .u16 0, .int .u16 0, .slice none 0 0] 25 (0, 0)), .blk b1 (.cells #[.int .u16 st, .int .u16 tr, .int .u16 ha, .slice A hs.length c] 25 (0, 0))]) _ w0 w ⟨_, rfl⟩ rfl rfl ht (St.cast hS (by rw [hcast]; rfl)) ?_ ?_).mono ?_
      · skip
        rintro j L hj ⟨v, rfl⟩
        exact ⟨v, by rw [bl_noT hj, cnt_noT hj]⟩
      · skip
        rintro j x w L hj hb ⟨v, rfl⟩ hS
        have hjn : ¬ (j : Int) = n := fun e => by rw [set_nat h0 h1 n0 n1, if_pos (by omega)] at hb; cases hb
        have hx := hashS_32 (ha := ha) (n := (j : Int)) hh.1
        have hcl := cnt_le (setS ha n false).toNat j
        refine round_of (i := 1) rfl hS rfl rfl (Fr.round1 hF rfl) ?_
        refine c_region ?_
        refine l_val (v_assign rfl) rfl ?_
        refine l_end ?_
        refine round_go (fun w hS => ?_)
        refine c_block ?_
        refine c_seq ?_
        refine c_region ?_
        refine l_val (v_loadN tyN25 rfl rfl (hereN (hS.row 7 rfl))) rfl ?_
        refine l_val (v_move rfl) rfl ?_
        refine l_callK goes8 rfl hS (hash_any _ _ _ _ _ _ _ _ h0 h1 (hh.keep hS.keep)) rfl (fun w hS => ?_)
        refine l_val (v_move rfl) rfl ?_
        refine l_val (v_extract rfl rfl) rfl ?_
        refine l_val (v_extract rfl rfl) rfl ?_
        refine l_alloc hS zero30 rfl rfl (fun b6 w hS => ?_)
        refine l_storeW 0 hS tyN30 rfl (by rw [List.length_map, hx]; rfl) rfl rfl (by rw [List.length_map, hx]) (B_one _) (fun w hS => ?_)
        refine l_val (v_assign rfl) rfl ?_
        refine l_end ?_
        refine k_code ?_
        refine c_region ?_
        refine l_val (v_load ty23 rfl (here (hS.cell 5 rfl rfl))) rfl ?_
        refine l_val (v_loadN (cs := (hashS ha hs j).1.map B) tyN30 (by rw [List.length_map, hx]) rfl (hereN (hS.row 0 rfl))) rfl ?_
        refine l_slice1 (bytes := 0) hS Tryd.underlying23 tyN30.size zero30 rfl (by decide) (by decide) rfl rfl (by first | (show (List.map B (hashS ha hs j).1).length = 32; rw [List.length_map, hx]) | (show (List.map B (refH s)).length = 32; rw [List.length_map, refH_len hz])) rfl (fun b7 w hS => ?_)
        refine l_append (news := (hashS ha hs j).1.map B) 4 hS Tryd.underlying23 elem30 rfl rfl rfl (by rw [List.length_map, hx]) (hS.row 0 rfl) (B_one _) (by unfold maxLen; omega) (by omega) rfl (fun va3 w hS hvva3 => ?_)
        refine l_store 6 hS ty23 rfl rfl rfl rfl (row_one (hS.rowAt 4 rfl)) (fun w hS => ?_)
        refine l_end ?_
        exact fun _ _ => ⟨_, 3, hS, rfl, fun w hS => ⟨rfl, _, ⟨va3, rfl⟩, St.cast (hS.less (.cons _ (.cons _ (List.Sublist.refl _)))) (by rw [bl_yesT hb, cnt_yesT hb, hsW_snoc, if_neg hjn, List.flatten_append, List.map_append]; simp)⟩⟩
      · skip
        rintro e w ⟨hv, L, ⟨v, rfl⟩, hS⟩
        refine ⟨hv, _, 1, _, hS, rfl, (fun h => by cases h), rfl, fun w hS => ?_⟩
        have hS := hS.arr [2, 3, 4, 5, 6, 7]
        refine k_code ?_
        refine c_cutV [(1, _), (3, _), (8, _), (9, _), (10, _), (11, _)] (fun (u : Unit) => []) (fun (u : Unit) w => St No w0 w [.row 30 32 v (cnt (setS ha n false).toNat 16) ((hsW ha hs n s (bl (setS ha n false).toNat 16)).flatten.map B), .blk D (.deferred (some [])), .blk b5 (.cells #[v] 23 (0, 0)), .blk b4 (.cells #[.int .u16 (setS st n (full s)), .int .u16 (setS tr n (full s && tree)), .int .u16 (setS ha n false), .slice none 0 0] 25 (0, 0)), .blk b2 (.cells #[.int .u16 0, .int .u16 0, .int .u16 0, .slice none 0 0] 25 (0, 0)), .blk b1 (.cells #[.int .u16 st, .int .u16 tr, .int .u16 ha, .slice A hs.length c] 25 (0, 0))] ∧ True) (kc rfl (kc rfl (kc rfl (kc rfl (kc rfl (kc rfl kn)))))) ?_ (fun u w hI => ?_)
        · skip
          refine c_seq ?_
          refine c_region ?_
          refine l_val (v_move rfl) rfl ?_
          refine l_val (v_sneq rfl rfl) rfl ?_
          refine l_end ?_
          refine k_code ?_
          refine c_if rfl (fun p3 => ?_) (fun p3 => ?_)
          · skip
            refine c_seq ?_
            refine c_region ?_
            refine l_val (v_fieldAddr field25_0 rfl) rfl ?_
            refine l_val (v_load ty22 rfl (here (hS.cell 3 rfl rfl))) rfl ?_
            refine l_val (v_move rfl) rfl ?_
            refine l_val (v_int rfl rfl rfl) rfl ?_
            rw [or_set s0 s1 n0 n1]
            refine l_val (v_fieldAddr field25_0 rfl) rfl ?_
            refine l_store 3 hS ty22 rfl rfl rfl rfl rfl (fun w hS => ?_)
            refine l_end ?_
            refine k_code ?_
            refine c_seq ?_
            refine c_region ?_
            refine l_val (v_move rfl) rfl ?_
            refine l_end ?_
            refine k_code ?_
            refine c_cond rfl (fun p4 => ?_) (fun p4 => ?_)
            · skip
              refine c_region ?_
              refine l_val (v_fieldAddr field25_1 rfl) rfl ?_
              refine l_val (v_load ty22 rfl (here (hS.cell 3 rfl rfl))) rfl ?_
              refine l_val (v_move rfl) rfl ?_
              refine l_val (v_int rfl rfl rfl) rfl ?_
              rw [or_set t0 t1 n0 n1]
              refine l_val (v_fieldAddr field25_1 rfl) rfl ?_
              refine l_store 3 hS ty22 rfl rfl rfl rfl rfl (fun w hS => ?_)
              refine l_end ?_
              refine fun _ hFr => ⟨(), ⟨(St.cast hS (by rw [show full s = true from decide_eq_true p3, p4]; rfl)), trivial⟩, Fr.sub hFr (kc rfl (kc rfl (kc rfl (kc rfl (kc rfl (kc rfl kn))))))⟩
            · skip
              refine c_skip ?_
              refine fun _ hFr => ⟨(), ⟨(St.cast hS (by rw [show full s = true from decide_eq_true p3, p4]; rfl)), trivial⟩, Fr.sub hFr (kc rfl (kc rfl (kc rfl (kc rfl (kc rfl (kc rfl kn))))))⟩
          · skip
            refine c_skip ?_
            refine fun _ hFr => ⟨(), ⟨(St.cast hS (by rw [show full s = false from decide_eq_false p3]; rfl)), trivial⟩, Fr.sub hFr (kc rfl (kc rfl (kc rfl (kc rfl (kc rfl (kc rfl kn))))))⟩
        · skip
          obtain ⟨hS, hI⟩ := hI
          refine c_cutV [(8, _), (10, _), (11, _)] (fun (v : Value) => []) (fun (v : Value) w => St No w0 w [.row 30 32 v (cnt (setS ha n (hashed s)).toNat 16) ((hsW ha hs n s (bl (setS ha n (hashed s)).toNat 16)).flatten.map B), .blk D (.deferred (some [])), .blk b5 (.cells #[v] 23 (0, 0)), .blk b4 (.cells #[.int .u16 (setS st n (full s)), .int .u16 (setS tr n (full s && tree)), .int .u16 (setS ha n (hashed s)), .slice none 0 0] 25 (0, 0)), .blk b2 (.cells #[.int .u16 0, .int .u16 0, .int .u16 0, .slice none 0 0] 25 (0, 0)), .blk b1 (.cells #[.int .u16 st, .int .u16 tr, .int .u16 ha, .slice A hs.length c] 25 (0, 0))] ∧ True) (kc rfl (kc rfl (kc rfl kn))) ?_ (fun v w hI => ?_)
          · skip
            refine c_cutV [(1, _), (3, _), (8, _), (9, _), (10, _), (11, _)] (fun (u : Unit) => [(72, .bool (hashed s))]) (fun (u : Unit) w => St No w0 w (Lof hS) ∧ True) (kc rfl (kc rfl (kc rfl (kc rfl (kc rfl (kc rfl kn)))))) ?_ (fun u w hI => ?_)
            · skip
              refine c_region ?_
              refine l_val (v_move rfl) rfl ?_
              refine l_val (v_lenS Tryd.underlying9 rfl) rfl ?_
              refine l_val (v_eql rfl rfl) rfl ?_
              refine l_val (v_move rfl) rfl ?_
              refine l_part 69 rfl (fun p3 => ?_) (fun p3 => ?_)
              · skip
                refine l_on rfl rfl rfl ?_
                refine l_val (v_move rfl) rfl ?_
                refine l_on rfl rfl rfl ?_
                refine l_callK goes23 rfl hS (prefix_any _ _ _ hsz (by decide)) rfl (fun w hS => ?_)
                refine l_val (v_pickT rfl rfl) rfl ?_
                refine l_end ?_
                refine fun _ hFr => ⟨(), ⟨hS, trivial⟩, Fr.sub hFr (kc (by rw [hashed_pre (by omega)]; rfl) (kc rfl (kc rfl (kc rfl (kc rfl (kc rfl (kc rfl kn)))))))⟩
              · skip
                refine l_skip rfl rfl rfl rfl rfl ?_
                refine l_skip rfl rfl rfl rfl rfl ?_
                refine l_val (v_pickF rfl rfl) rfl ?_
                refine l_end ?_
                refine fun _ hFr => ⟨(), ⟨hS, trivial⟩, Fr.sub hFr (kc (by rw [hashed_no33 (by omega)]; rfl) (kc rfl (kc rfl (kc rfl (kc rfl (kc rfl (kc rfl kn)))))))⟩
            · skip
              obtain ⟨hS, hI⟩ := hI
              refine c_cond rfl (fun p3 => ?_) (fun p3 => ?_)
              · skip
                have hz : s.size = 33 := hashed_size p3
                have hq := cnt_mono (setS ha n false).toNat (show n.toNat ≤ 16 by omega)
                have hm16 := cnt_le (setS ha n false).toNat 16
                obtain ⟨A', c', rfl⟩ := row_form (hS.rowAt 0 rfl)
                have hcap := row_cap (hS.rowAt 0 rfl)
                have hlr := flat_len (hsW_no32 (s := s) h0 h1 n0 n1 hh.1 16)
                rw [hsW_len, bl_len] at hlr
                refine c_seq ?_
                refine c_region ?_
                refine l_val (v_fieldAddr field25_2 rfl) rfl ?_
                refine l_val (v_load ty22 rfl (here (hS.cell 3 rfl rfl))) rfl ?_
                refine l_val (v_move rfl) rfl ?_
                refine l_callK goes20 rfl hS (below_any _ _ _ hr.1 hr.2 n0 n1) rfl (fun w hS => ?_)
                refine l_val (v_assign rfl) rfl ?_
                refine l_end ?_
                refine k_code ?_
                refine c_seq ?_
                refine c_region ?_
                refine l_val (v_fieldAddr field25_2 rfl) rfl ?_
                refine l_val (v_load ty22 rfl (here (hS.cell 3 rfl rfl))) rfl ?_
                refine l_val (v_move rfl) rfl ?_
                refine l_val (v_int rfl rfl rfl) rfl ?_
                rw [or_set h0 h1 n0 n1]
                refine l_val (v_fieldAddr field25_2 rfl) rfl ?_
                refine l_store 3 hS ty22 rfl rfl rfl rfl rfl (fun w hS => ?_)
                refine l_end ?_
                refine k_code ?_
                refine d_region (fun w => St No w0 w [.blk b5 (.cells #[.slice A' (cnt (setS ha n false).toNat 16) c'] 23 (0, 0))]) 15 mixed ?_
                have hS := hS.drew 1
                have hR : St No w0 _ [.blk b5 (.cells #[.slice A' (cnt (setS ha n false).toNat 16) c'] 23 (0, 0))] := hS.less (.cons _ (.cons _ (.cons_cons _ (.cons _ (.cons _ (.cons _ (.slnil)))))))
                refine d_take 0 rfl (by kernel_rfl) (by kernel_rfl) (by kernel_rfl) (by kernel_rfl) hR (v_load ty23 rfl (fun _ h => h.cell 0 rfl rfl)) rfl ?_
                refine d_take 1 rfl (by kernel_rfl) (by kernel_rfl) (by kernel_rfl) (by kernel_rfl) hR (v_move rfl) rfl ?_
                refine d_take 2 rfl (by kernel_rfl) (by kernel_rfl) (by kernel_rfl) (by kernel_rfl) hR (v_move rfl) rfl ?_
                refine d_take 3 rfl (by kernel_rfl) (by kernel_rfl) (by kernel_rfl) (by kernel_rfl) hR (v_slice3 Tryd.underlying23 (fun w => ⟨_, tyN30.size w⟩) rfl rfl rfl (by omega) (by omega) (by omega)) rfl ?_
                refine d_take 4 rfl (by kernel_rfl) (by kernel_rfl) (by kernel_rfl) (by kernel_rfl) hR (v_move rfl) rfl ?_
                refine d_take 5 rfl (by kernel_rfl) (by kernel_rfl) (by kernel_rfl) (by kernel_rfl) hR (v_sliceSFrom Tryd.underlying9 rfl rfl (by omega) (by omega) ) rfl ?_
                refine d_take 11 rfl (by kernel_rfl) (by kernel_rfl) (by kernel_rfl) (by kernel_rfl) hR (v_load ty23 rfl (fun _ h => h.cell 0 rfl rfl)) rfl ?_
                refine d_take 12 rfl (by kernel_rfl) (by kernel_rfl) (by kernel_rfl) (by kernel_rfl) hR (v_move rfl) rfl ?_
                refine d_take 13 rfl (by kernel_rfl) (by kernel_rfl) (by kernel_rfl) (by kernel_rfl) hR (v_sliceFrom Tryd.underlying23 tyN30.size rfl rfl (by omega) (by omega) (by omega)) rfl ?_
                refine d_one 6 rfl (by kernel_rfl) ?_
                refine l_s2b hS Tryd.underlying9 Tryd.underlying46 Tryd.underlying5 rfl rfl (fun b6 csb6 capb6 w hS hcsb6 => ?_)
                refine l_end ?_
                have hR : St No w0 _ [.blk b5 (.cells #[.slice A' (cnt (setS ha n false).toNat 16) c'] 23 (0, 0))] := hS.less (.cons _ (.cons _ (.cons _ (.cons_cons _ (.cons _ (.cons _ (.cons _ (.slnil))))))))
                refine d_on (S := (fun w => St No w0 w [.blk b5 (.cells #[.slice A' (cnt (setS ha n false).toNat 16) c'] 23 (0, 0))])) hR ?_
                refine d_one 7 rfl (by kernel_rfl) ?_
                refine l_val (v_arr Tryd.underlying30 rfl (by rw [ByteArray.size_extract]; omega)) rfl ?_
                refine l_end ?_
                have hR : St No w0 _ [.blk b5 (.cells #[.slice A' (cnt (setS ha n false).toNat 16) c'] 23 (0, 0))] := hS.less (.cons _ (.cons _ (.cons _ (.cons_cons _ (.cons _ (.cons _ (.cons _ (.slnil))))))))
                refine d_on (S := (fun w => St No w0 w [.blk b5 (.cells #[.slice A' (cnt (setS ha n false).toNat 16) c'] 23 (0, 0))])) hR ?_
                refine d_one 8 rfl (by kernel_rfl) ?_
                refine l_val (v_loadN (cs := (refH s).map B) tyN30 (by rw [List.length_map, refH_len hz]) rfl (hereN (fun j v hj => hS.cellA 0 rfl (hcsb6 j v (by rw [ref_tail hz]; exact hj))))) rfl ?_
                refine l_end ?_
                have hR : St No w0 _ [.blk b5 (.cells #[.slice A' (cnt (setS ha n false).toNat 16) c'] 23 (0, 0))] := hS.less (.cons _ (.cons _ (.cons _ (.cons_cons _ (.cons _ (.cons _ (.cons _ (.slnil))))))))
                refine d_on (S := (fun w => St No w0 w [.blk b5 (.cells #[.slice A' (cnt (setS ha n false).toNat 16) c'] 23 (0, 0))])) hR ?_
                refine d_one 9 rfl (by kernel_rfl) ?_
                refine l_slice1 (bytes := 0) hS Tryd.underlying23 tyN30.size zero30 rfl (by decide) (by decide) rfl rfl (by first | (show (List.map B (hashS ha hs j).1).length = 32; rw [List.length_map, hx]) | (show (List.map B (refH s)).length = 32; rw [List.length_map, refH_len hz])) rfl (fun b7 w hS => ?_)
                refine l_end ?_
                have hR : St No w0 _ [.blk b5 (.cells #[.slice A' (cnt (setS ha n false).toNat 16) c'] 23 (0, 0))] := hS.less (.cons _ (.cons _ (.cons _ (.cons _ (.cons_cons _ (.cons _ (.cons _ (.cons _ (.slnil)))))))))
                refine d_on (S := (fun w => St No w0 w [.blk b5 (.cells #[.slice A' (cnt (setS ha n false).toNat 16) c'] 23 (0, 0))])) hR ?_
                refine d_one 10 rfl (by kernel_rfl) ?_
                refine l_appendF (m := cnt (setS ha n false).toNat n.toNat) (l := 1) (news := (refH s).map B) hS Tryd.underlying23 elem30 rfl rfl ((Lies.row (hS.rowAt 2 rfl)).take (cnt (setS ha n false).toNat n.toNat * 32)) (by rw [List.length_take, List.length_map, hlr]; omega) (Lies.src (by decide) Tryd.underlying23 (Or.inr ⟨_, rfl, hS.row 0 rfl⟩) (by rw [List.length_map, refH_len hz]) (B_one _)) (by omega) (by unfold maxLen; omega) (by omega) rfl (fun va7 w hS hn7 => ?_)
                refine l_end ?_
                have hR : St No w0 _ [.blk b5 (.cells #[.slice A' (cnt (setS ha n false).toNat 16) c'] 23 (0, 0))] := hS.less (.cons _ (.cons _ (.cons _ (.cons _ (.cons _ (.cons_cons _ (.cons _ (.cons _ (.cons _ (.slnil))))))))))
                refine d_on (S := (fun w => St No w0 w [.blk b5 (.cells #[.slice A' (cnt (setS ha n false).toNat 16) c'] 23 (0, 0))])) hR ?_
                refine d_one 14 rfl (by kernel_rfl) ?_
                refine l_appendS (l := cnt (setS ha n false).toNat 16 - cnt (setS ha n false).toNat n.toNat) 0 hS Tryd.underlying23 elem30 rfl rfl rfl (Lies.src (by decide) Tryd.underlying23 (Lies.from (by rw [List.length_map, hlr]; omega) hcap hq (Lies.row (hS.rowAt 3 rfl))) (by rw [List.length_drop, List.length_map, hlr]; omega) (fun u hu => B_one _ u (List.mem_of_mem_drop hu))) (by unfold maxLen; omega) (by omega) rfl (fun va8 w hS hv8 => ?_)
                refine l_end ?_
                have hR : St No w0 _ [.blk b5 (.cells #[.slice A' (cnt (setS ha n false).toNat 16) c'] 23 (0, 0))] := hS.less (.cons _ (.cons _ (.cons _ (.cons _ (.cons _ (.cons_cons _ (.cons _ (.cons _ (.cons _ (.slnil))))))))))
                refine d_on (S := (fun w => St No w0 w [.blk b5 (.cells #[.slice A' (cnt (setS ha n false).toNat 16) c'] 23 (0, 0))])) hR ?_
                refine d_one 15 rfl (by kernel_rfl) ?_
                refine l_store 5 hS ty23 rfl rfl rfl rfl (row_one (hS.rowAt 0 rfl)) (fun w hS => ?_)
                refine l_end ?_
                refine d_last (S := (fun w => St No w0 w [.blk b5 (.cells #[.slice A' (cnt (setS ha n false).toNat 16) c'] 23 (0, 0))])) ?_
                refine d_end (by kernel_rfl) ?_
                refine fun _ hFr => ⟨va8, ⟨(St.cast (hS.arr [0, 4, 5, 6, 7, 8]) (by rw [p3, put_cnt (hs := hs) (s := s) h0 h1 n0 n1, put_cells h0 h1 n0 n1 hh.1]; rfl)), trivial⟩, Fr.sub hFr (kc rfl (kc rfl (kc rfl kn)))⟩
              · skip
                refine c_skip ?_
                refine fun _ hFr => ⟨v, ⟨(St.cast hS (by rw [p3])), trivial⟩, Fr.sub hFr (kc rfl (kc rfl (kc rfl kn)))⟩
          · skip
            obtain ⟨hS, hI⟩ := hI
            obtain ⟨A', c', rfl⟩ := row_form (hS.rowAt 0 rfl)
            refine c_seq ?_
            refine c_region ?_
            refine l_val (v_load ty23 rfl (here (hS.cell 2 rfl rfl))) rfl ?_
            refine l_val (v_fieldAddr field25_3 rfl) rfl ?_
            refine l_store 3 hS ty23 rfl rfl rfl rfl (row_one (hS.rowAt 0 rfl)) (fun w hS => ?_)
            refine l_end ?_
            refine k_code ?_
            refine c_seq ?_
            refine c_region ?_
            refine l_val (v_loadN tyN25 rfl rfl (hereN (hS.row 3 rfl))) rfl ?_
            refine l_storeN 4 hS tyN25 rfl rfl rfl rfl rfl (by simp [ones, Value.oneCell']) (fun w hS => ?_)
            refine l_end ?_
            refine k_code ?_
            refine c_retM1 4 1 rfl tyN25 hS rfl rfl rfl rfl rfl ?_
            exact (fun w hS => with_leaf s0 s1 t0 t1 h0 h1 n0 n1 hh.1 hS)
end Go.Proofs.YtdlcefiandacnaaDoor
