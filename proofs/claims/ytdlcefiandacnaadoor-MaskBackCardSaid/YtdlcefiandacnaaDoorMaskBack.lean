/- The walk of the law of what comes back: a record is read as its branch; what With has is told by Hash; without it again it is had no more. -/
import Derived.Test.YtdlcefiandacnaaDoorMaskObs
namespace Go.Proofs.YtdlcefiandacnaaDoor
open Go Go.RowKit E MM
set_option maxRecDepth 100000
set_option linter.unusedVariables false
set_option linter.unusedSimpArgs false

def refL (hx : List UInt8) (k : Nat) : ByteArray := ⟨(160 :: hx.take k).toArray⟩
theorem refL_step {hx : List UInt8} {k : Nat} (hk : k < hx.length) : refL hx k ++ ⟨[hx.getD k 0].toArray⟩ = refL hx (k + 1) := by
  apply ByteArray.ext
  apply Array.ext'
  unfold refL
  rw [List.take_succ_eq_append_getElem hk, List.getD, List.getElem?_eq_getElem hk]
  simp
theorem refL_size {hx : List UInt8} (h : hx.length = 32) {k : Nat} (hk : k ≤ 32) : (refL hx k).size = 1 + k := by
  have : (refL hx k).size = (160 :: hx.take k).length := by unfold refL; simp [ByteArray.size]
  rw [this, List.length_cons, List.length_take]; omega
theorem refL_hashed {hx : List UInt8} (h : hx.length = 32) : hashed (refL hx 32) = true := by
  have := refL_size h (Nat.le_refl 32)
  unfold hashed
  rw [decide_eq_true (by omega)]
  rfl
theorem refL_full {hx : List UInt8} (h : hx.length = 32) : full (refL hx 32) = true := by
  unfold full
  refine decide_eq_true fun e => ?_
  have := refL_size h (Nat.le_refl 32)
  rw [e] at this
  cases this
theorem refL_H {hx : List UInt8} (h : hx.length = 32) : refH (refL hx 32) = hx := by
  unfold refH refL
  simp [h]
  rw [List.take_of_length_le (by rw [List.length_take]; omega), List.take_of_length_le (by omega)]
theorem empty_full : full ⟨#[]⟩ = false := rfl
theorem empty_hashed : hashed ⟨#[]⟩ = false := rfl
theorem rec_size {st tr ha : Int} {hs : List (List UInt8)} (h32 : ∀ x ∈ hs, x.length = 32) (hl : hs.length ≤ 16) (c : Bool) : (if c = true then (⟨(recL st tr ha hs).toArray⟩ : ByteArray) else ⟨#[]⟩).size ≤ 4611686018427387904 := by
  split
  · have : (⟨(recL st tr ha hs).toArray⟩ : ByteArray).size = (recL st tr ha hs).length := by simp [ByteArray.size]
    rw [this]; unfold recL; rw [List.length_append, flat_len h32]
    show 6 + _ ≤ _
    omega
  · exact Nat.zero_le _
theorem chk_of {st tr ha : Int} {m : Nat} (h : chkI st tr ha m = 0) : chk st tr ha m = true := by
  unfold chkI at h; split at h
  · assumption
  · cases h
theorem hash_rw {st tr ha : Int} {A : Option Addr} {hs : List (List UInt8)} {c : Nat} {n : Int} {w0 : World} {r : List UInt8 × Bool} (h0 : 0 ≤ ha) (h1 : ha < 65536) (hh : HsAt w0 A hs) (h : hashS ha hs n = r) :
    Calls Tryd.prog 8 [.agg #[.int .u16 st, .int .u16 tr, .int .u16 ha, .slice A hs.length c], .int .i64 n].toArray w0 fun e w' => e = .returned (.tuple #[.agg (r.1.map B).toArray, .bool r.2]) ∧ Keep No w0 w' := by
  rw [← h]; exact hash_any _ _ _ _ _ _ _ _ h0 h1 hh
theorem has_rw {m n : Int} {b : Bool} {w0 : World} (h : InM m) (e : hasB m n = b) : Calls Tryd.prog 13 [.int .u16 m, .int .i64 n].toArray w0 fun e w' => e = .returned (.bool b) ∧ Keep No w0 w' := by
  rw [← e]; exact sames (has_any _ _ _ h.1 h.2)
theorem ite_chain {α : Type} {p : Prop} [Decidable p] {a x b c : α} (h1 : a = if p then x else b) (h2 : ¬ p → b = c) : a = if p then x else c := by
  rw [h1]; by_cases e : p
  · rw [if_pos e, if_pos e]
  · rw [if_neg e, if_neg e]; exact h2 e
theorem bne_dead {b : Bool} (h : (b != b) = true) : False := by simp at h

theorem back_d {b : Br} (hb : Fit b) (h32 : ∀ x ∈ b.2.2.2, x.length = 32) {hx : List UInt8} (hl : hx.length = 32) {n : Int} (n0 : 0 ≤ n) (n1 : n < 16) :
    ∃ d1 d2 d3 d4, withS b n true (refL hx 32) = (d1, d2, d3, d4) ∧ Fit (d1, d2, d3, d4) ∧ (∀ x ∈ d4, x.length = 32) ∧ d4.length ≤ 16 ∧ (∀ i, hashS d3 d4 i = if i = n then (hx, true) else hashS b.2.2.1 b.2.2.2 i) ∧
      (∀ i, hasB d1 i = if i = n then true else hasB b.1 i) ∧ hasB d2 n = true := by
  have hf := withS_fit hb (tree := true) (s := refL hx 32) n0 n1
  have hh := fun i => withS_hash hb (i := i) (tree := true) (s := refL hx 32) n0 n1
  have h2 := withS_32 (st := b.1) (tr := b.2.1) (n := n) (tree := true) (s := refL hx 32) hb.2.2.1.1 hb.2.2.1.2 h32
  have ho := fun i => obs_with hb (i := i) (tree := true) (s := refL hx 32) n0 n1
  simp only [refL_hashed hl, refL_H hl, if_true] at hh
  simp only [obs, obW, refL_full hl, Prod.mk.injEq] at ho
  generalize withS b n true (refL hx 32) = d at hf hh h2 ho
  obtain ⟨d1, d2, d3, d4⟩ := d
  refine ⟨d1, d2, d3, d4, rfl, hf, h2, by have := hf.2.2.2; have := cnt_le d3.toNat 16; simp only at *; omega, hh, fun i => ?_, ?_⟩
  · have := ho i
    by_cases e : i = n
    · rw [if_pos e] at this ⊢; exact congrArg (·.1) this
    · rw [if_neg e] at this ⊢; exact congrArg (·.1) this
  · have := ho n
    rw [if_pos rfl] at this
    exact congrArg (·.2.1) this
theorem back_o {b : Br} (hb : Fit b) (h32 : ∀ x ∈ b.2.2.2, x.length = 32) {n : Int} (n0 : 0 ≤ n) (n1 : n < 16) :
    ∃ d1 d2 d3 d4, withS b n false ⟨#[]⟩ = (d1, d2, d3, d4) ∧ Fit (d1, d2, d3, d4) ∧ (∀ x ∈ d4, x.length = 32) ∧ d4.length ≤ 16 ∧ (∀ i, hashS d3 d4 i = if i = n then (List.replicate 32 0, false) else hashS b.2.2.1 b.2.2.2 i) ∧
      (∀ i, hasB d1 i = if i = n then false else hasB b.1 i) ∧ hasB d2 n = false ∧ hasB d3 n = false := by
  have hf := withS_fit hb (tree := false) (s := ⟨#[]⟩) n0 n1
  have hh := fun i => withS_hash hb (i := i) (tree := false) (s := ⟨#[]⟩) n0 n1
  have h2 := withS_32 (st := b.1) (tr := b.2.1) (n := n) (tree := false) (s := ⟨#[]⟩) hb.2.2.1.1 hb.2.2.1.2 h32
  have ho := fun i => obs_with hb (i := i) (tree := false) (s := ⟨#[]⟩) n0 n1
  simp only [empty_hashed, Bool.false_eq_true, if_false] at hh
  simp only [obs, obW, empty_full, empty_hashed, Prod.mk.injEq] at ho
  generalize withS b n false ⟨#[]⟩ = d at hf hh h2 ho
  obtain ⟨d1, d2, d3, d4⟩ := d
  refine ⟨d1, d2, d3, d4, rfl, hf, h2, by have := hf.2.2.2; have := cnt_le d3.toNat 16; simp only at *; omega, hh, fun i => ?_, ?_, ?_⟩
  · have := ho i
    by_cases e : i = n
    · rw [if_pos e] at this ⊢; exact congrArg (·.1) this
    · rw [if_neg e] at this ⊢; exact congrArg (·.1) this
  · have := ho n
    rw [if_pos rfl] at this
    exact congrArg (·.2.1) this
  · have := ho n
    rw [if_pos rfl] at this
    exact congrArg (·.2.2.1) this

set_option maxHeartbeats 4000000 in
theorem back_any (st tr ha : Int) (A : Option Addr) (hs : List (List UInt8)) (c : Nat) (n : Int) (hx : List UInt8) (w0 : World) (s0 : 0 ≤ st) (s1 : st < 65536) (t0 : 0 ≤ tr) (t1 : tr < 65536) (h0 : 0 ≤ ha) (h1 : ha < 65536)
    (hh : HsAt w0 A hs) (hn : hs.length ≤ 9223372036854775807) (hx32 : hx.length = 32) (ht : Tab w0) :
    Calls Tryd.prog 5 [.agg #[.int .u16 st, .int .u16 tr, .int .u16 ha, .slice A hs.length c], .int .i64 n, .agg (hx.map B).toArray].toArray w0 fun e w' => e = .returned (.bool true) ∧ Keep No w0 w' := by
  have hf32 := fitS_32 hh.1 (n := cnt ha.toNat 16)
  have hfit := fitS_fit (hs := hs) (show InM st from ⟨s0, s1⟩) (show InM tr from ⟨t0, t1⟩) (show InM ha from ⟨h0, h1⟩)
  have hfl : (fitS hs (cnt ha.toNat 16)).length ≤ 16 := by rw [fitS_len]; exact cnt_le _ _
  generalize hfs : fitS hs (cnt ha.toNat 16) = fs at hf32 hfl hfit
  refine enter (n := 176) Tryd.func5 rfl rfl rfl ?_
  have hS := St.start No w0
  refine c_seq ?_
  refine c_region ?_
  refine l_box hS rfl rfl rfl (fun b1 w hS => ?_)
  refine l_box hS rfl rfl rfl (fun b2 w hS => ?_)
  refine l_val (v_assign rfl) rfl ?_
  refine l_end ?_
  refine k_code ?_
  refine c_seq ?_
  refine c_region ?_
  refine l_callK goes6 rfl hS (awake_any _) rfl (fun w hS => ?_)
  refine l_val (v_assign rfl) rfl ?_
  refine l_end ?_
  refine k_code ?_
  refine c_seq ?_
  refine c_region ?_
  refine l_val (v_loadN tyN25 rfl rfl (hereN (hS.row 1 rfl))) rfl ?_
  refine l_call goes7 rfl (fit_any _ _ _ _ _ _ _ h0 h1 (hh.keep hS.keep) hn) rfl (fun e w hB => ?_)
  rw [hfs] at hB
  obtain ⟨A1, c1, rfl, hh1, hk1, hf1⟩ := hB
  refine ⟨_, rfl, ?_⟩
  have hS := hS.gain hk1 hh1.lies hf1 (fun _ h => absurd h List.not_mem_nil)
  refine l_alloc hS zero25 rfl rfl (fun b3 w hS => ?_)
  refine l_storeN 0 hS tyN25 rfl rfl rfl rfl rfl rfl (fun w hS => ?_)
  refine l_end ?_
  refine k_code ?_
  refine c_seq ?_
  refine c_region ?_
  refine l_val (v_loadN tyN25 rfl rfl (hereN (hS.row 0 rfl))) rfl ?_
  refine l_callK goes16 rfl hS (record_any _ _ _ _ fs _ _ s0 s1 t0 t1 h0 h1 (HsAt.of_lies hf32 (hS.lies 1 rfl)) (by omega)) rfl (fun w hS => ?_)
  refine l_val (v_move rfl) rfl ?_
  refine l_val (v_extract rfl rfl) rfl ?_
  refine l_val (v_extract rfl rfl) rfl ?_
  refine l_val (v_assign rfl) rfl ?_
  refine l_val (v_assign rfl) rfl ?_
  refine l_end ?_
  refine k_code ?_
  refine c_cutV [(1, _), (5, _), (7, _), (8, _)] (fun (u : Unit) => []) (fun (u : Unit) w => St No w0 w [.blk b3 (.cells #[.int .u16 st, .int .u16 tr, .int .u16 ha, .slice A1 fs.length c1] 25 (0, 0)), .lies A1 (fs.flatten.map B), .blk b2 (.cells (hx.map B).toArray 30 (0, 0)), .blk b1 (.cells #[.int .u16 st, .int .u16 tr, .int .u16 ha, .slice A hs.length c] 25 (0, 0))] ∧ True) (kc rfl (kc rfl (kc rfl (kc rfl kn)))) ?_ (fun u w hI => ?_)
  · skip
    refine c_seq ?_
    refine c_region ?_
    refine l_val (v_move rfl) rfl ?_
    refine l_val (v_eql rfl rfl) rfl ?_
    refine l_end ?_
    refine k_code ?_
    refine c_if rfl (fun p1 => ?_) (fun p1 => ?_)
    · skip
      refine c_seq ?_
      refine c_region ?_
      refine l_val (v_move rfl) rfl ?_
      have hc := chk_of p1
      have hrd : readS (if chk st tr ha fs.length = true then ⟨(recL st tr ha fs).toArray⟩ else ⟨#[]⟩) = (st, tr, ha, fs, 0) := by rw [if_pos hc]; exact read_rec hfit.1 hfit.2.1 hfit.2.2.1 hf32 hfl hc
      refine l_call goes17 rfl (read_any _ _ (rec_size hf32 hfl _)) rfl (fun e w hB => ?_)
      rw [hrd] at hB
      obtain ⟨A2, c2, rfl, hM⟩ := hB
      refine ⟨_, rfl, ?_⟩
      have hS := (hS.merge hM).freeze 0 rfl
      refine l_val (v_move rfl) rfl ?_
      refine l_val (v_extract rfl rfl) rfl ?_
      refine l_val (v_extract rfl rfl) rfl ?_
      refine l_alloc hS zero25 rfl rfl (fun b4 w hS => ?_)
      refine l_storeN 0 hS tyN25 rfl rfl rfl rfl rfl rfl (fun w hS => ?_)
      refine l_val (v_assign rfl) rfl ?_
      refine l_end ?_
      refine k_code ?_
      refine c_seq ?_
      refine c_region ?_
      refine l_val (v_loadN tyN25 rfl rfl (hereN (hS.row 2 rfl))) rfl ?_
      refine l_val (v_loadN tyN25 rfl rfl (hereN (hS.row 0 rfl))) rfl ?_
      refine l_callK goes10 rfl hS (by have := same_any st tr ha st tr ha A1 A2 fs fs c1 c2 _ (HsAt.of_lies hf32 (hS.lies 3 rfl)) (HsAt.of_lies hf32 (hS.lies 1 rfl)) (by omega) (by omega); rw [decide_eq_true ⟨rfl, rfl, rfl, rfl⟩] at this; exact this) rfl (fun w hS => ?_)
      refine l_val (v_assign rfl) rfl ?_
      refine l_end ?_
      refine k_code ?_
      refine c_seq ?_
      refine c_region ?_
      refine l_val (v_move rfl) rfl ?_
      refine l_val (v_neqF rfl rfl (rfl)) rfl ?_
      refine l_val (v_move rfl) rfl ?_
      refine l_on rfl rfl rfl ?_
      refine l_val (v_move rfl) rfl ?_
      refine l_on rfl rfl rfl ?_
      refine l_val (v_not rfl) rfl ?_
      refine l_val (v_pickF rfl rfl) rfl ?_
      refine l_end ?_
      refine k_code ?_
      refine c_no rfl ?_
      refine c_skip ?_
      refine fun _ hFr => ⟨(), ⟨(hS.arr [2, 3, 4, 5]), trivial⟩, Fr.sub hFr (kc rfl (kc rfl (kc rfl (kc rfl kn))))⟩
    · skip
      refine c_skip ?_
      refine fun _ hFr => ⟨(), ⟨hS, trivial⟩, Fr.sub hFr (kc rfl (kc rfl (kc rfl (kc rfl kn))))⟩
  · skip
    obtain ⟨hS, hI⟩ := hI
    refine c_seq ?_
    refine c_seq ?_
    refine c_region ?_
    refine l_val (v_move rfl) rfl ?_
    refine l_val (v_lss rfl rfl) rfl ?_
    refine l_val (v_move rfl) rfl ?_
    refine l_part 53 rfl (fun p1 => ?_) (fun p1 => ?_)
    · skip
      refine l_skip rfl rfl rfl rfl rfl ?_
      refine l_skip rfl rfl rfl rfl rfl ?_
      refine l_val (v_pickT rfl rfl) rfl ?_
      refine l_end ?_
      refine k_code ?_
      refine c_yes rfl ?_
      refine c_seq ?_
      refine c_region ?_
      refine l_val (v_move rfl) rfl ?_
      refine l_val (v_assign rfl) rfl ?_
      refine l_end ?_
      refine k_code ?_
      refine c_ret1 rfl rfl ?_
      exact ⟨rfl, hS.keep⟩
    · skip
      refine l_on rfl rfl rfl ?_
      refine l_val (v_move rfl) rfl ?_
      refine l_on rfl rfl rfl ?_
      refine l_val (v_gtr rfl rfl) rfl ?_
      refine l_val (v_pickF rfl rfl) rfl ?_
      refine l_end ?_
      refine k_code ?_
      refine c_if rfl (fun p2 => ?_) (fun p2 => ?_)
      · skip
        refine c_seq ?_
        refine c_region ?_
        refine l_val (v_move rfl) rfl ?_
        refine l_val (v_assign rfl) rfl ?_
        refine l_end ?_
        refine k_code ?_
        refine c_ret1 rfl rfl ?_
        exact ⟨rfl, hS.keep⟩
      · skip
        refine c_skip ?_
        refine k_code ?_
        refine c_seq ?_
        refine c_region ?_
        refine l_val (v_assign rfl) rfl ?_
        refine l_end ?_
        refine k_code ?_
        refine c_seq ?_
        refine c_seq ?_
        refine c_region ?_
        refine l_val (v_assign rfl) rfl ?_
        refine l_end ?_
        refine k_code ?_
        refine c_block ?_
        refine c_loopV [(1, _), (5, _), (7, _), (8, _)] (fun (k : Nat) => [(14, .string (refL hx k)), (15, .int .i64 k)]) (fun (k : Nat) w => St No w0 w [.blk b3 (.cells #[.int .u16 st, .int .u16 tr, .int .u16 ha, .slice A1 fs.length c1] 25 (0, 0)), .lies A1 (fs.flatten.map B), .blk b2 (.cells (hx.map B).toArray 30 (0, 0)), .blk b1 (.cells #[.int .u16 st, .int .u16 tr, .int .u16 ha, .slice A hs.length c] 25 (0, 0))] ∧ k ≤ 32) (fun (k : Nat) => 32 - k) (0 : Nat) ⟨hS, by omega⟩ (kc rfl (kc rfl (kc rfl (kc rfl (kc rfl (kc rfl kn)))))) (fun k w hI => ?_)
        obtain ⟨hS, hI⟩ := hI
        refine c_seq ?_
        refine c_seq ?_
        refine c_region ?_
        refine l_val (v_move rfl) rfl ?_
        refine l_val (v_lss rfl rfl) rfl ?_
        refine l_end ?_
        refine k_code ?_
        refine c_if rfl (fun p3 => ?_) (fun p3 => ?_)
        · skip
          refine c_skip ?_
          refine k_code ?_
          refine c_seq ?_
          refine c_block ?_
          refine c_region ?_
          refine l_val (v_move rfl) rfl ?_
          refine l_val (v_move rfl) rfl ?_
          refine l_val (v_indexAddrA Tryd.underlying30 ty5.size rfl rfl (by omega) (by omega)) rfl ?_
          refine l_val (v_load (v := B (hx.getD k 0)) ty5 rfl (here (hS.cellA 2 rfl (by rw [Int.toNat_natCast, Nat.mul_one]; simp [List.getD, List.getElem?_eq_getElem (show k < hx.length by omega)])))) rfl ?_
          refine l_sliceN (xs := [.tmp 65]) hS Tryd.underlying46 ty5 zero5 rfl rfl rfl (by simp [Value.cells, B]) rfl rfl rfl rfl (fun b4 w hS => ?_)
          refine l_val (v_b2s (bs := [hx.getD k 0]) Tryd.underlying46 Tryd.underlying5 Tryd.underlying9 rfl rfl (hereN ((hS.row 0 rfl)))) rfl ?_
          refine l_val (v_cat rfl rfl (by have := refL_size hx32 (k := k) (by omega); show (refL hx k).size + 1 ≤ _; omega)) rfl ?_
          refine l_val (v_assign rfl) rfl ?_
          refine l_end ?_
          refine k_code ?_
          refine c_region ?_
          refine l_val (v_move rfl) rfl ?_
          refine l_val (v_add rfl rfl (by omega)) rfl ?_
          refine l_val (v_assign rfl) rfl ?_
          refine l_end ?_
          refine fun _ hFr => ⟨(k + 1), (by omega), ⟨(hS.less (.cons _ (List.Sublist.refl _))), by omega⟩, Fr.sub hFr (kc (by rw [← refL_step (by omega)]; rfl) (kc rfl (kc rfl (kc rfl (kc rfl (kc rfl kn))))))⟩
        · skip
          obtain rfl : k = 32 := by omega
          have n0 : 0 ≤ n := by omega
          have n1 : n < 16 := by omega
          obtain ⟨d1, d2, d3, d4, hd, hdf, hd32, hdl, hdh, hds, hdt⟩ := back_d hfit hf32 hx32 n0 n1
          obtain ⟨o1, o2, o3, o4, ho, hof, ho32, hol, hoh, hos, hot, hoha⟩ := back_o hdf hd32 n0 n1
          have hoh2 := fun i => ite_chain (hoh i) (fun e => (hdh i).trans (if_neg e))
          have hos2 := fun i => ite_chain (hos i) (fun e => (hds i).trans (if_neg e))
          refine c_exit ex_here ?_
          refine k_code ?_
          refine c_seq ?_
          refine c_region ?_
          refine l_val (v_loadN tyN25 rfl rfl (hereN (hS.row 0 rfl))) rfl ?_
          refine l_val (v_move rfl) rfl ?_
          refine l_val (v_move rfl) rfl ?_
          refine l_call goes11 rfl (with_any _ _ _ _ fs _ _ _ _ _ s0 s1 t0 t1 h0 h1 (HsAt.of_lies hf32 (hS.lies 1 rfl)) (by omega) (by rw [refL_size hx32 (Nat.le_refl _)]; omega) (ht.keep hS.keep)) rfl (fun e w hB => ?_)
          rw [hd] at hB
          obtain ⟨A3, c3, rfl, hh3, hk3, hf3⟩ := hB
          refine ⟨_, rfl, ?_⟩
          have hS := hS.gain hk3 hh3.lies hf3 (one_mem 1 rfl)
          refine l_alloc hS zero25 rfl rfl (fun b4 w hS => ?_)
          refine l_storeN 0 hS tyN25 rfl rfl rfl rfl rfl rfl (fun w hS => ?_)
          refine l_end ?_
          refine k_code ?_
          refine c_seq ?_
          refine c_region ?_
          refine l_val (v_loadN tyN25 rfl rfl (hereN (hS.row 0 rfl))) rfl ?_
          refine l_val (v_move rfl) rfl ?_
          refine l_callK goes8 rfl hS (hash_rw hdf.2.2.1.1 hdf.2.2.1.2 (HsAt.of_lies hd32 (hS.lies 1 rfl)) ((hdh n).trans (if_pos rfl))) rfl (fun w hS => ?_)
          refine l_val (v_move rfl) rfl ?_
          refine l_val (v_extract rfl rfl) rfl ?_
          refine l_val (v_extract rfl rfl) rfl ?_
          refine l_alloc hS zero30 rfl rfl (fun b5 w hS => ?_)
          refine l_storeW 0 hS tyN30 rfl (by rw [List.length_map, hx32]; rfl) rfl rfl (by rw [List.length_map, hx32]) (B_one _) (fun w hS => ?_)
          refine l_val (v_assign rfl) rfl ?_
          refine l_end ?_
          refine k_code ?_
          refine c_seq ?_
          refine c_region ?_
          refine l_val (v_loadN tyN25 rfl rfl (hereN (hS.row 1 rfl))) rfl ?_
          refine l_val (v_move rfl) rfl ?_
          refine l_call goes11 rfl (with_any _ _ _ _ d4 _ _ _ _ _ hdf.1.1 hdf.1.2 hdf.2.1.1 hdf.2.1.2 hdf.2.2.1.1 hdf.2.2.1.2 (HsAt.of_lies hd32 (hS.lies 2 rfl)) (by omega) (by decide) (ht.keep hS.keep)) rfl (fun e w hB => ?_)
          rw [ho] at hB
          obtain ⟨A4, c4, rfl, hh4, hk4, hf4⟩ := hB
          refine ⟨_, rfl, ?_⟩
          have hS := hS.gain hk4 hh4.lies hf4 (one_mem 2 rfl)
          refine l_alloc hS zero25 rfl rfl (fun b6 w hS => ?_)
          refine l_storeN 0 hS tyN25 rfl rfl rfl rfl rfl rfl (fun w hS => ?_)
          refine l_end ?_
          refine k_code ?_
          refine c_seq ?_
          refine c_seq ?_
          refine c_region ?_
          refine l_val (v_loadN (cs := hx.map B) tyN30 (by rw [List.length_map, hx32]) rfl (hereN (hS.row 2 rfl))) rfl ?_
          refine l_val (v_loadN (cs := hx.map B) tyN30 (by rw [List.length_map, hx32]) rfl (hereN (hS.row 7 rfl))) rfl ?_
          have eqg : Tryd.prog.eqGuardType Tryd.prog.depth 30 = false := by kernel_rfl
          refine l_val (v_aneq Tryd.underlying30 Tryd.underlying5 ty5 eqg rfl rfl hx32 hx32) rfl ?_
          refine l_val (v_move rfl) rfl ?_
          refine l_part 85 rfl (fun p4 => ?_) (fun p4 => ?_)
          · exact absurd rfl p4
          · skip
            refine l_on rfl rfl rfl ?_
            refine l_val (v_move rfl) rfl ?_
            refine l_on rfl rfl rfl ?_
            refine l_val (v_not rfl) rfl ?_
            refine l_val (v_pickF rfl rfl) rfl ?_
            refine l_val (v_move rfl) rfl ?_
            refine l_partB 89 rfl (fun p5 => ?_) (fun p5 => ?_)
            · exact absurd p5 (by simp)
            · skip
              refine l_on rfl rfl rfl ?_
              refine l_val (v_fieldAddr field25_0 rfl) rfl ?_
              refine l_on rfl rfl rfl ?_
              refine l_val (v_load ty22 rfl (here (hS.cell 3 rfl rfl))) rfl ?_
              refine l_on rfl rfl rfl ?_
              refine l_val (v_move rfl) rfl ?_
              refine l_on rfl rfl rfl ?_
              refine l_callK goes13 rfl hS (has_rw hdf.1 ((hds n).trans (if_pos rfl))) rfl (fun w hS => ?_)
              refine l_on rfl rfl rfl ?_
              refine l_val (v_not rfl) rfl ?_
              refine l_val (v_pickF rfl rfl) rfl ?_
              refine l_val (v_move rfl) rfl ?_
              refine l_on rfl rfl rfl ?_
              refine l_val (v_fieldAddr field25_1 rfl) rfl ?_
              refine l_on rfl rfl rfl ?_
              refine l_val (v_load ty22 rfl (here (hS.cell 3 rfl rfl))) rfl ?_
              refine l_on rfl rfl rfl ?_
              refine l_val (v_move rfl) rfl ?_
              refine l_on rfl rfl rfl ?_
              refine l_callK goes13 rfl hS (has_rw hdf.2.1 hdt) rfl (fun w hS => ?_)
              refine l_on rfl rfl rfl ?_
              refine l_val (v_not rfl) rfl ?_
              refine l_val (v_pickF rfl rfl) rfl ?_
              refine l_val (v_move rfl) rfl ?_
              refine l_on rfl rfl rfl ?_
              refine l_val (v_fieldAddr field25_0 rfl) rfl ?_
              refine l_on rfl rfl rfl ?_
              refine l_val (v_load ty22 rfl (here (hS.cell 0 rfl rfl))) rfl ?_
              refine l_on rfl rfl rfl ?_
              refine l_val (v_move rfl) rfl ?_
              refine l_on rfl rfl rfl ?_
              refine l_callK goes13 rfl hS (has_rw hof.1 ((hos2 n).trans (if_pos rfl))) rfl (fun w hS => ?_)
              refine l_val (v_pickF rfl rfl) rfl ?_
              refine l_val (v_move rfl) rfl ?_
              refine l_on rfl rfl rfl ?_
              refine l_val (v_fieldAddr field25_2 rfl) rfl ?_
              refine l_on rfl rfl rfl ?_
              refine l_val (v_load ty22 rfl (here (hS.cell 0 rfl rfl))) rfl ?_
              refine l_on rfl rfl rfl ?_
              refine l_val (v_move rfl) rfl ?_
              refine l_on rfl rfl rfl ?_
              refine l_callK goes13 rfl hS (has_rw hof.2.2.1 hoha) rfl (fun w hS => ?_)
              refine l_val (v_pickF rfl rfl) rfl ?_
              refine l_val (v_move rfl) rfl ?_
              refine l_on rfl rfl rfl ?_
              refine l_val (v_fieldAddr field25_1 rfl) rfl ?_
              refine l_on rfl rfl rfl ?_
              refine l_val (v_load ty22 rfl (here (hS.cell 0 rfl rfl))) rfl ?_
              refine l_on rfl rfl rfl ?_
              refine l_val (v_move rfl) rfl ?_
              refine l_on rfl rfl rfl ?_
              refine l_callK goes13 rfl hS (has_rw hof.2.1 hot) rfl (fun w hS => ?_)
              refine l_val (v_pickF rfl rfl) rfl ?_
              refine l_end ?_
              refine k_code ?_
              refine c_no rfl ?_
              refine c_skip ?_
              refine k_code ?_
              refine c_seq ?_
              refine c_seq ?_
              refine c_region ?_
              refine l_val (v_assign rfl) rfl ?_
              refine l_end ?_
              refine k_code ?_
              refine c_block ?_
              refine c_loopV [(1, _), (7, _), (8, _), (16, _), (19, _)] (fun (k : Nat) => [(20, .int .i64 k)]) (fun (k : Nat) w => St No w0 w [.blk b6 (.cells #[.int .u16 o1, .int .u16 o2, .int .u16 o3, .slice A4 o4.length c4] 25 (0, 0)), .lies A4 (o4.flatten.map B), .blk b5 (.cells (hx.map B).toArray 30 (0, 0)), .blk b4 (.cells #[.int .u16 d1, .int .u16 d2, .int .u16 d3, .slice A3 d4.length c3] 25 (0, 0)), .lies A3 (d4.flatten.map B), .blk b3 (.cells #[.int .u16 st, .int .u16 tr, .int .u16 ha, .slice A1 fs.length c1] 25 (0, 0)), .lies A1 (fs.flatten.map B), .blk b2 (.cells (hx.map B).toArray 30 (0, 0)), .blk b1 (.cells #[.int .u16 st, .int .u16 tr, .int .u16 ha, .slice A hs.length c] 25 (0, 0))] ∧ k ≤ 16) (fun (k : Nat) => 16 - k) (0 : Nat) ⟨hS, by omega⟩ (kc rfl (kc rfl (kc rfl (kc rfl (kc rfl (kc rfl kn)))))) (fun k w hI => ?_)
              obtain ⟨hS, hI⟩ := hI
              have hy := hashS_32 (ha := ha) (n := (k : Int)) hf32
              refine c_seq ?_
              refine c_seq ?_
              refine c_region ?_
              refine l_val (v_move rfl) rfl ?_
              refine l_val (v_lss rfl rfl) rfl ?_
              refine l_end ?_
              refine k_code ?_
              refine c_if rfl (fun p6 => ?_) (fun p6 => ?_)
              · skip
                refine c_skip ?_
                refine k_code ?_
                refine c_seq ?_
                refine c_block ?_
                refine c_seq ?_
                refine c_seq ?_
                refine c_region ?_
                refine l_val (v_move rfl) rfl ?_
                refine l_val (v_move rfl) rfl ?_
                refine l_val (v_eql rfl rfl) rfl ?_
                refine l_end ?_
                refine k_code ?_
                refine c_if rfl (fun p7 => ?_) (fun p7 => ?_)
                · skip
                  refine c_exit ex_here ?_
                  refine k_code ?_
                  refine c_region ?_
                  refine l_val (v_move rfl) rfl ?_
                  refine l_val (v_add rfl rfl (by omega)) rfl ?_
                  refine l_val (v_assign rfl) rfl ?_
                  refine l_end ?_
                  refine fun _ hFr => ⟨(k + 1), (by omega), ⟨hS, by omega⟩, Fr.sub hFr (kc rfl (kc rfl (kc rfl (kc rfl (kc rfl (kc rfl kn))))))⟩
                · skip
                  have hkn := p7
                  refine c_skip ?_
                  refine k_code ?_
                  refine c_seq ?_
                  refine c_region ?_
                  refine l_val (v_loadN tyN25 rfl rfl (hereN (hS.row 5 rfl))) rfl ?_
                  refine l_val (v_move rfl) rfl ?_
                  refine l_callK goes8 rfl hS (hash_rw h0 h1 (HsAt.of_lies hf32 (hS.lies 6 rfl)) rfl) rfl (fun w hS => ?_)
                  refine l_val (v_move rfl) rfl ?_
                  refine l_val (v_extract rfl rfl) rfl ?_
                  refine l_val (v_extract rfl rfl) rfl ?_
                  refine l_alloc hS zero30 rfl rfl (fun b7 w hS => ?_)
                  refine l_storeW 0 hS tyN30 rfl (by rw [List.length_map, hy]; rfl) rfl rfl (by rw [List.length_map, hy]) (B_one _) (fun w hS => ?_)
                  refine l_val (v_assign rfl) rfl ?_
                  refine l_end ?_
                  refine k_code ?_
                  refine c_seq ?_
                  refine c_region ?_
                  refine l_val (v_loadN tyN25 rfl rfl (hereN (hS.row 4 rfl))) rfl ?_
                  refine l_val (v_move rfl) rfl ?_
                  refine l_callK goes8 rfl hS (hash_rw hdf.2.2.1.1 hdf.2.2.1.2 (HsAt.of_lies hd32 (hS.lies 5 rfl)) ((hdh k).trans (if_neg hkn))) rfl (fun w hS => ?_)
                  refine l_val (v_move rfl) rfl ?_
                  refine l_val (v_extract rfl rfl) rfl ?_
                  refine l_val (v_extract rfl rfl) rfl ?_
                  refine l_alloc hS zero30 rfl rfl (fun b8 w hS => ?_)
                  refine l_storeW 0 hS tyN30 rfl (by rw [List.length_map, hy]; rfl) rfl rfl (by rw [List.length_map, hy]) (B_one _) (fun w hS => ?_)
                  refine l_val (v_assign rfl) rfl ?_
                  refine l_end ?_
                  refine k_code ?_
                  refine c_seq ?_
                  refine c_region ?_
                  refine l_val (v_loadN tyN25 rfl rfl (hereN (hS.row 2 rfl))) rfl ?_
                  refine l_val (v_move rfl) rfl ?_
                  refine l_callK goes8 rfl hS (hash_rw hof.2.2.1.1 hof.2.2.1.2 (HsAt.of_lies ho32 (hS.lies 3 rfl)) ((hoh2 k).trans (if_neg hkn))) rfl (fun w hS => ?_)
                  refine l_val (v_move rfl) rfl ?_
                  refine l_val (v_extract rfl rfl) rfl ?_
                  refine l_val (v_extract rfl rfl) rfl ?_
                  refine l_alloc hS zero30 rfl rfl (fun b9 w hS => ?_)
                  refine l_storeW 0 hS tyN30 rfl (by rw [List.length_map, hy]; rfl) rfl rfl (by rw [List.length_map, hy]) (B_one _) (fun w hS => ?_)
                  refine l_val (v_assign rfl) rfl ?_
                  refine l_end ?_
                  refine k_code ?_
                  refine c_seq ?_
                  refine q_region hS mixed (by kernel_rfl) ?_
                  refine q_val (v_loadN (cs := (hashS ha fs k).1.map B) tyN30 (by rw [List.length_map, hy]) rfl (fun _ h => h.row 2 rfl)) rfl ?_
                  refine q_val (v_loadN (cs := (hashS ha fs k).1.map B) tyN30 (by rw [List.length_map, hy]) rfl (fun _ h => h.row 1 rfl)) rfl ?_
                  have eqg : Tryd.prog.eqGuardType Tryd.prog.depth 30 = false := by kernel_rfl
                  refine q_val (v_aneq Tryd.underlying30 Tryd.underlying5 ty5 eqg rfl rfl hy hy) rfl ?_
                  refine q_val (v_move rfl) rfl ?_
                  refine q_part 149 rfl (fun p8 => ?_) (fun p8 => ?_)
                  · exact absurd rfl p8
                  · skip
                    refine q_on rfl rfl rfl ?_
                    refine q_val (v_move rfl) rfl ?_
                    refine q_on rfl rfl rfl ?_
                    refine q_val (v_move rfl) rfl ?_
                    refine q_on rfl rfl rfl ?_
                    refine q_val (v_boolNe Tryd.underlying4 rfl rfl) rfl ?_
                    refine q_val (v_pickF rfl rfl) rfl ?_
                    refine q_val (v_move rfl) rfl ?_
                    refine q_partB 154 rfl (fun p9 => ?_) (fun p9 => ?_)
                    · exact (bne_dead p9).elim
                    · skip
                      refine q_on rfl rfl rfl ?_
                      refine q_val (v_loadN (cs := (hashS ha fs k).1.map B) tyN30 (by rw [List.length_map, hy]) rfl (fun _ h => h.row 2 rfl)) rfl ?_
                      refine q_on rfl rfl rfl ?_
                      refine q_val (v_loadN (cs := (hashS ha fs k).1.map B) tyN30 (by rw [List.length_map, hy]) rfl (fun _ h => h.row 0 rfl)) rfl ?_
                      refine q_on rfl rfl rfl ?_
                      have eqg : Tryd.prog.eqGuardType Tryd.prog.depth 30 = false := by kernel_rfl
                      refine q_val (v_aneq Tryd.underlying30 Tryd.underlying5 ty5 eqg rfl rfl hy hy) rfl ?_
                      refine q_val (v_pickF rfl rfl) rfl ?_
                      refine q_val (v_move rfl) rfl ?_
                      refine q_part 159 rfl (fun p10 => ?_) (fun p10 => ?_)
                      · exact absurd rfl p10
                      · skip
                        refine q_on rfl rfl rfl ?_
                        refine q_val (v_move rfl) rfl ?_
                        refine q_on rfl rfl rfl ?_
                        refine q_val (v_move rfl) rfl ?_
                        refine q_on rfl rfl rfl ?_
                        refine q_val (v_boolNe Tryd.underlying4 rfl rfl) rfl ?_
                        refine q_val (v_pickF rfl rfl) rfl ?_
                        refine q_val (v_move rfl) rfl ?_
                        refine q_partB 164 rfl (fun p11 => ?_) (fun p11 => ?_)
                        · exact (bne_dead p11).elim
                        · skip
                          refine q_on rfl rfl rfl ?_
                          refine q_val (v_fieldAddr field25_0 rfl) rfl ?_
                          refine q_on rfl rfl rfl ?_
                          refine q_val (v_load ty22 rfl (fun _ h => h.cell 8 rfl rfl)) rfl ?_
                          refine q_on rfl rfl rfl ?_
                          refine q_val (v_move rfl) rfl ?_
                          refine q_on rfl rfl rfl ?_
                          refine q_callK goes13 rfl (fun w hS => has_rw hfit.1 rfl) rfl ?_
                          refine q_on rfl rfl rfl ?_
                          refine q_val (v_fieldAddr field25_0 rfl) rfl ?_
                          refine q_on rfl rfl rfl ?_
                          refine q_val (v_load ty22 rfl (fun _ h => h.cell 3 rfl rfl)) rfl ?_
                          refine q_on rfl rfl rfl ?_
                          refine q_val (v_move rfl) rfl ?_
                          refine q_on rfl rfl rfl ?_
                          refine q_callK goes13 rfl (fun w hS => has_rw hof.1 ((hos2 k).trans (if_neg hkn))) rfl ?_
                          refine q_on rfl rfl rfl ?_
                          refine q_val (v_boolNe Tryd.underlying4 rfl rfl) rfl ?_
                          refine q_val (v_pickF rfl rfl) rfl ?_
                          refine q_end (fun w hS => ?_)
                          refine k_code ?_
                          refine c_cond rfl (fun p12 => ?_) (fun p12 => ?_)
                          · exact (bne_dead p12).elim
                          · skip
                            refine c_skip ?_
                            refine k_code ?_
                            refine c_region ?_
                            refine l_val (v_move rfl) rfl ?_
                            refine l_val (v_add rfl rfl (by omega)) rfl ?_
                            refine l_val (v_assign rfl) rfl ?_
                            refine l_end ?_
                            refine fun _ hFr => ⟨(k + 1), (by omega), ⟨(hS.arr [3, 4, 5, 6, 7, 8, 9, 10, 11]), by omega⟩, Fr.sub hFr (kc rfl (kc rfl (kc rfl (kc rfl (kc rfl (kc rfl kn))))))⟩
              · skip
                refine c_exit ex_here ?_
                refine k_code ?_
                refine c_seq ?_
                refine c_region ?_
                refine l_val (v_move rfl) rfl ?_
                refine l_val (v_assign rfl) rfl ?_
                refine l_end ?_
                refine k_code ?_
                refine c_ret1 rfl rfl ?_
                exact ⟨rfl, hS.keep⟩
end Go.Proofs.YtdlcefiandacnaaDoor
