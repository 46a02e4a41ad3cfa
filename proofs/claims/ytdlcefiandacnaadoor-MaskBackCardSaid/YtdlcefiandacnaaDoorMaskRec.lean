/- What a branch's record is, and the walks of mask.Record and of the document's. -/
import Derived.Test.YtdlcefiandacnaaDoorMaskCheck
namespace Go.Proofs.YtdlcefiandacnaaDoor
open Go Go.RowKit E MM
set_option maxRecDepth 100000
set_option linter.unusedVariables false
set_option linter.unusedSimpArgs false

def hiB (m : Int) : UInt8 := UInt8.ofNat (m.toNat / 256)
def loB (m : Int) : UInt8 := UInt8.ofNat (m.toNat % 256)
def head6 (st tr ha : Int) : List UInt8 := [hiB st, loB st, hiB tr, loB tr, hiB ha, loB ha]
def m3 (st tr ha : Int) (k : Nat) : Int := [st, tr, ha].getD k 0
/-- The bytes of a record. -/
def recL (st tr ha : Int) (hs : List (List UInt8)) : List UInt8 := head6 st tr ha ++ hs.flatten

theorem wrap8 (x : Nat) : IntKind.u8.wrap (x : Int) = ((UInt8.ofNat x).toNat : Int) := by
  rw [IntKind.wrap_u8']; simp
theorem hiB_raw {m : Int} (h0 : 0 ≤ m) : B (hiB m) = .int .u8 (IntKind.u8.wrap (m.fdiv (2 ^ min (8 : Int).toNat IntKind.u16.bits))) := by
  obtain ⟨x, rfl⟩ := Int.eq_ofNat_of_zero_le h0
  have e : ((x : Int)).fdiv (2 ^ min (8 : Int).toNat IntKind.u16.bits) = ((x / 256 : Nat) : Int) := by
    show ((x : Int)).fdiv 256 = _
    rw [Int.fdiv_eq_ediv_of_nonneg _ (by omega)]; omega
  rw [e, wrap8]; rfl
theorem loB_raw {m : Int} (h0 : 0 ≤ m) : B (loB m) = .int .u8 (IntKind.u8.wrap m) := by
  obtain ⟨x, rfl⟩ := Int.eq_ofNat_of_zero_le h0
  rw [wrap8]
  unfold B loB
  congr 2
  simp
theorem loB_raw2 {m : Int} (h0 : 0 ≤ m) (h1 : m < 65536) : B (loB m) = .int .u8 (IntKind.u8.wrap (bits .and .u16 m 255)) := by
  have e : bits .and .u16 m 255 = ((m.toNat % 256 : Nat) : Int) := by
    rw [show m = ((m.toNat : Nat) : Int) by omega, show (255 : Int) = ((255 : Nat) : Int) from rfl, u16_and_nat _ _ (by omega) (by omega), nat_mask8, Int.toNat_natCast]
  rw [e, wrap8]; rfl

theorem m3_range {st tr ha : Int} {k : Nat} (s0 : 0 ≤ st) (s1 : st < 65536) (t0 : 0 ≤ tr) (t1 : tr < 65536) (h0 : 0 ≤ ha) (h1 : ha < 65536) : 0 ≤ m3 st tr ha k ∧ m3 st tr ha k < 65536 := by
  unfold m3
  rcases k with _ | _ | _ | k <;> simp <;> omega
theorem m3_at {st tr ha : Int} {k : Nat} (hk : k < 3) : (#[Value.int .u16 st, .int .u16 tr, .int .u16 ha])[((k : Nat) : Int).toNat]? = some (.int .u16 (m3 st tr ha k)) := by
  rcases k with _ | _ | _ | k
  · rfl
  · rfl
  · rfl
  · omega
theorem head6_step {st tr ha : Int} {k : Nat} (hk : k < 3) : ((head6 st tr ha).take (2 * k)).map B ++ [B (hiB (m3 st tr ha k)), B (loB (m3 st tr ha k))] = ((head6 st tr ha).take (2 * (k + 1))).map B := by
  rcases k with _ | _ | _ | k
  · rfl
  · rfl
  · rfl
  · omega

/-- The hashes that lie in a slice. -/
def HsAt (w : World) (A : Option Addr) (hs : List (List UInt8)) : Prop :=
  (∀ h ∈ hs, h.length = 32) ∧ (hs = [] ∨ ∃ ad, A = some ad ∧ ∀ i h, hs[i]? = some h → ∀ j v, (h.map B)[j]? = some v → w.cell? ((ad.add (i * 32)).add j) = some v)

theorem HsAt.get {w : World} {A : Option Addr} {hs : List (List UInt8)} (h : HsAt w A hs) {k : Nat} (hk : k < hs.length) :
    ∃ ad x, A = some ad ∧ hs[k]? = some x ∧ x.length = 32 ∧ (hs.take (k + 1)).flatten = (hs.take k).flatten ++ x ∧ ∀ j v, (x.map B)[j]? = some v → w.cell? ((ad.add ((((k : Nat) : Int).toNat) * 32)).add j) = some v := by
  rcases h.2 with rfl | ⟨ad, hA, hc⟩
  · simp at hk
  · refine ⟨ad, hs[k], hA, List.getElem?_eq_getElem hk, h.1 _ (List.getElem_mem hk), ?_, ?_⟩
    · rw [List.take_succ_eq_append_getElem hk, List.flatten_append]; simp
    · rw [Int.toNat_natCast]; exact hc k _ (List.getElem?_eq_getElem hk)
theorem HsAt.keep {w w' : World} {A : Option Addr} {hs : List (List UInt8)} (h : HsAt w A hs) (hk : Keep No w w') : HsAt w' A hs :=
  ⟨h.1, h.2.imp id fun ⟨ad, hA, hc⟩ => ⟨ad, hA, fun i x hi j v hj => hk.cellN (hc i x hi j v hj)⟩⟩

theorem flat_len {hs : List (List UInt8)} (h : ∀ x ∈ hs, x.length = 32) : hs.flatten.length = 32 * hs.length := by
  induction hs with
  | nil => rfl
  | cons x r ih => simp only [List.flatten_cons, List.length_append, List.length_cons]; rw [ih fun y hy => h y (List.mem_cons_of_mem _ hy), h x List.mem_cons_self]; omega

theorem rec_leaf {st tr ha : Int} {hs : List (List UInt8)} (p : ¬ ¬ chkI st tr ha hs.length = 0) :
    Ending.returned (.tuple #[.string (if chk st tr ha hs.length then ⟨(recL st tr ha hs).toArray⟩ else ⟨#[]⟩), .int .i64 (chkI st tr ha hs.length)]) = Ending.returned (.tuple #[.string ⟨(head6 st tr ha ++ hs.flatten).toArray⟩, .int .i64 0]) := by
  have hc : chk st tr ha hs.length = true := by
    unfold chkI at p
    cases hc : chk st tr ha hs.length
    · simp [hc] at p
    · rfl
  rw [if_pos hc]
  unfold chkI
  rw [if_pos hc]
  rfl

set_option maxHeartbeats 1000000 in
theorem record_any (st tr ha : Int) (A : Option Addr) (hs : List (List UInt8)) (c : Nat) (w0 : World) (s0 : 0 ≤ st) (s1 : st < 65536) (t0 : 0 ≤ tr) (t1 : tr < 65536) (h0 : 0 ≤ ha) (h1 : ha < 65536) (hh : HsAt w0 A hs) (hn : hs.length ≤ 65536) :
    Calls Tryd.prog 16 [.agg #[.int .u16 st, .int .u16 tr, .int .u16 ha, .slice A hs.length c]].toArray w0 fun e w' =>
      e = .returned (.tuple #[.string (if chk st tr ha hs.length then ⟨(recL st tr ha hs).toArray⟩ else ⟨#[]⟩), .int .i64 (chkI st tr ha hs.length)]) ∧ Keep No w0 w' := by
  refine enter (n := 47) Tryd.func16 rfl rfl rfl ?_
  have hS := St.start No w0
  refine c_seq ?_
  refine c_region ?_
  refine l_box hS rfl rfl rfl (fun b1 w hS => ?_)
  refine l_val (v_assign rfl) rfl ?_
  refine l_val (v_assign rfl) rfl ?_
  refine l_end ?_
  refine k_code ?_
  refine c_seq ?_
  refine c_region ?_
  refine l_val (v_loadN tyN25 rfl rfl (hereN (hS.row 0 rfl))) rfl ?_
  refine l_callK goes14 rfl hS (check_any _ _ _ _ _ _ _ s0 s1 h0 h1) rfl (fun w hS => ?_)
  refine l_val (v_assign rfl) rfl ?_
  refine l_end ?_
  refine k_code ?_
  refine c_seq ?_
  refine c_seq ?_
  refine c_region ?_
  refine l_val (v_move rfl) rfl ?_
  refine l_val (v_neq rfl rfl) rfl ?_
  refine l_end ?_
  refine k_code ?_
  refine c_if rfl (fun p1 => ?_) (fun p1 => ?_)
  · skip
    refine c_seq ?_
    refine c_region ?_
    refine l_val (v_move rfl) rfl ?_
    refine l_val (v_assign rfl) rfl ?_
    refine l_val (v_assign rfl) rfl ?_
    refine l_end ?_
    refine k_code ?_
    refine c_ret2 rfl rfl rfl ?_
    exact ⟨by rw [if_neg (by unfold chkI at p1; intro hc; rw [if_pos hc] at p1; exact p1 rfl)], hS.keep⟩
  · skip
    refine c_skip ?_
    refine k_code ?_
    refine c_seq ?_
    refine c_region ?_
    refine l_val (v_assign rfl) rfl ?_
    refine l_end ?_
    refine k_code ?_
    refine c_seq ?_
    refine c_seq ?_
    refine c_region ?_
    refine l_val (v_fieldAddr field25_0 rfl) rfl ?_
    refine l_val (v_load ty22 rfl (here (hS.cell 0 rfl rfl))) rfl ?_
    refine l_val (v_fieldAddr field25_1 rfl) rfl ?_
    refine l_val (v_load ty22 rfl (here (hS.cell 0 rfl rfl))) rfl ?_
    refine l_val (v_fieldAddr field25_2 rfl) rfl ?_
    refine l_val (v_load ty22 rfl (here (hS.cell 0 rfl rfl))) rfl ?_
    refine l_val (v_buildA zero54 Tryd.underlying54 ty22 rfl rfl) rfl ?_
    refine l_val (v_move rfl) rfl ?_
    refine l_end ?_
    refine k_code ?_
    refine c_block ?_
    refine c_loopV [(1, _), (2, _), (3, _), (21, _)] (fun ((k, v) : Nat × Value) => [(5, v), (22, .int .i64 k)]) (fun ((k, v) : Nat × Value) w => St No w0 w [.row 5 1 v (2 * k) (((head6 st tr ha).take (2 * k)).map B), .blk b1 (.cells #[.int .u16 st, .int .u16 tr, .int .u16 ha, .slice A hs.length c] 25 (0, 0))] ∧ k ≤ 3) (fun ((k, v) : Nat × Value) => 3 - k) ((0 : Nat), Value.slice none 0 0) ⟨(hS.nil _ _), by omega⟩ (kc rfl (kc rfl (kc rfl (kc rfl (kc rfl (kc rfl kn)))))) (fun xx w hI => ?_)
    obtain ⟨k, v⟩ := xx
    obtain ⟨hS, hI⟩ := hI
    refine c_seq ?_
    refine c_region ?_
    refine l_val (v_lss rfl rfl) rfl ?_
    refine l_end ?_
    refine k_code ?_
    refine c_seq ?_
    refine c_if rfl (fun p2 => ?_) (fun p2 => ?_)
    · skip
      refine c_skip ?_
      refine k_code ?_
      refine c_seq ?_
      refine c_block ?_
      refine c_seq ?_
      refine c_region ?_
      refine l_val (v_indexA Tryd.underlying54 ty22 rfl rfl (by omega) (by omega) (m3_at (by omega))) rfl ?_
      obtain ⟨q0, q1⟩ := m3_range (k := k) s0 s1 t0 t1 h0 h1
      refine l_val (v_assign rfl) rfl ?_
      refine l_end ?_
      refine k_code ?_
      refine c_region ?_
      refine l_val (v_move rfl) rfl ?_
      refine l_val (v_move rfl) rfl ?_
      refine l_val (v_shr rfl rfl (by decide)) rfl ?_
      refine l_val (v_conv Tryd.underlying22 Tryd.underlying5 rfl) rfl ?_
      refine l_val (v_move rfl) rfl ?_
      refine l_val (v_conv Tryd.underlying22 Tryd.underlying5 rfl) rfl ?_
      refine l_sliceN (xs := [.tmp 28, .tmp 30]) hS Tryd.underlying46 ty5 zero5 rfl rfl rfl (by simp [Value.cells, B]) rfl rfl rfl rfl (fun b2 w hS => ?_)
      refine l_append (news := [B (hiB (m3 st tr ha k)), B (loB (m3 st tr ha k))]) 1 hS Tryd.underlying46 elem5 rfl rfl rfl rfl (by rw [hiB_raw q0, loB_raw q0]; exact hS.row 0 rfl) (B_one [_, _]) (by unfold maxLen; omega) (by omega) rfl (fun va1 w hS hvva1 => ?_)
      refine l_val (v_assign rfl) rfl ?_
      refine l_end ?_
      refine k_code ?_
      refine c_region ?_
      refine l_val (v_add rfl rfl (by omega)) rfl ?_
      refine l_val (v_move rfl) rfl ?_
      refine l_end ?_
      have e := head6_step (st := st) (tr := tr) (ha := ha) (k := k) (by omega)
      refine fun _ hFr => ⟨(k + 1, va1), (by dsimp only; omega), ⟨(St.cast (hS.less (List.sublist_cons_self _ _)) (by rw [← e]; rfl)), by omega⟩, Fr.sub hFr (kc rfl (kc rfl (kc rfl (kc rfl (kc rfl (kc rfl kn))))))⟩
    · skip
      refine c_exit ex_here ?_
      refine k_code ?_
      refine c_seq ?_
      refine c_seq ?_
      refine c_region ?_
      refine l_val (v_fieldAddr field25_3 rfl) rfl ?_
      refine l_val (v_load ty23 rfl (here (hS.cell 1 rfl rfl))) rfl ?_
      refine l_val (v_len Tryd.underlying23 rfl) rfl ?_
      refine l_val (v_move rfl) rfl ?_
      refine l_end ?_
      refine k_code ?_
      refine c_block ?_
      refine c_loopV [(2, _), (3, _), (35, _), (36, _)] (fun ((k, v) : Nat × Value) => [(5, v), (37, .int .i64 k)]) (fun ((k, v) : Nat × Value) w => St No w0 w [.row 5 1 v (6 + 32 * k) ((head6 st tr ha ++ (hs.take k).flatten).map B), .blk b1 (.cells #[.int .u16 st, .int .u16 tr, .int .u16 ha, .slice A hs.length c] 25 (0, 0))] ∧ k ≤ hs.length) (fun ((k, v) : Nat × Value) => hs.length - k) ((0 : Nat), v) ⟨(St.cast hS (by rw [show k = 3 by omega]; rfl)), by omega⟩ (kc rfl (kc rfl (kc rfl (kc rfl (kc rfl (kc rfl kn)))))) (fun xx w hI => ?_)
      obtain ⟨k, v⟩ := xx
      obtain ⟨hS, hI⟩ := hI
      refine c_seq ?_
      refine c_region ?_
      refine l_val (v_lss rfl rfl) rfl ?_
      refine l_end ?_
      refine k_code ?_
      refine c_seq ?_
      refine c_if rfl (fun p3 => ?_) (fun p3 => ?_)
      · skip
        refine c_skip ?_
        refine k_code ?_
        refine c_seq ?_
        refine c_block ?_
        refine c_seq ?_
        refine c_region ?_
        obtain ⟨ad, x, hA, -, hx, hf, hcell⟩ := hh.get (k := k) (by omega)
        refine l_val (v_indexAddrO hA Tryd.underlying23 tyN30.size rfl rfl (by omega) (by omega)) rfl ?_
        refine l_val (v_loadN (cs := x.map B) tyN30 (by simp [hx]) rfl (hereN (fun j v hj => hS.old (hcell j v hj)))) rfl ?_
        refine l_alloc hS zero30 rfl rfl (fun b2 w hS => ?_)
        refine l_storeW 0 hS tyN30 rfl (by rw [List.length_map, hx]; rfl) rfl rfl (by rw [List.length_map, hx]) (B_one _) (fun w hS => ?_)
        refine l_end ?_
        refine k_code ?_
        refine c_region ?_
        refine l_val (v_move rfl) rfl ?_
        refine l_val (v_sliceArr Tryd.underlying30 (fun w => ⟨_, ty5.size w⟩) rfl) rfl ?_
        refine l_append (news := x.map B) 1 hS Tryd.underlying46 elem5 rfl rfl rfl (by rw [List.length_map, hx]) (hS.row 0 rfl) (B_one _) (by unfold maxLen; omega) (by omega) rfl (fun va3 w hS hvva3 => ?_)
        refine l_val (v_assign rfl) rfl ?_
        refine l_end ?_
        refine k_code ?_
        refine c_region ?_
        refine l_val (v_add rfl rfl (by omega)) rfl ?_
        refine l_val (v_move rfl) rfl ?_
        refine l_end ?_
        refine fun _ hFr => ⟨(k + 1, va3), (by dsimp only; omega), ⟨(St.cast (hS.less (List.sublist_cons_self _ _)) (by rw [hf]; simp [Nat.mul_add, Nat.add_assoc])), by omega⟩, Fr.sub hFr (kc rfl (kc rfl (kc rfl (kc rfl (kc rfl (kc rfl kn))))))⟩
      · skip
        refine c_exit ex_here ?_
        refine k_code ?_
        refine c_seq ?_
        refine c_region ?_
        refine l_val (v_move rfl) rfl ?_
        refine l_val (v_b2sRow (bs := head6 st tr ha ++ (hs.take k).flatten) Tryd.underlying46 Tryd.underlying5 Tryd.underlying9 rfl (fun _ e => e ▸ hS.rowAt 0 rfl) ⟨_, rfl⟩) rfl ?_
        refine l_val (v_assign rfl) rfl ?_
        refine l_val (v_assign rfl) rfl ?_
        refine l_end ?_
        refine k_code ?_
        refine c_ret2 rfl rfl rfl ?_
        exact ⟨by rw [rec_leaf p1, show hs.take k = hs from List.take_of_length_le (by omega)], hS.keep⟩

end Go.Proofs.YtdlcefiandacnaaDoor
