/- The walks of Find and Child, of both sides. -/
import Derived.Test.YtndchgmgcjebiaaNodeChk
namespace Go.Proofs.Ytndchgmgcjebiaa
open Go Go.RowKit E
set_option maxRecDepth 100000
set_option linter.unusedVariables false
set_option linter.unusedSimpArgs false

/-- Where a key stands, or would stand. -/
def lbnd (cs : List Cel) (k : ByteArray) : Nat := (cs.takeWhile fun c => decide (slt c.key k)).length
def hasK (cs : List Cel) (k : ByteArray) : Bool := decide (lbnd cs k < cs.length ∧ (cAt cs (lbnd cs k)).key = k)
def Sorted (cs : List Cel) : Prop := ∀ i j, i < j → j < cs.length → slt (cAt cs i).key (cAt cs j).key
theorem lbnd_le (cs : List Cel) (k : ByteArray) : lbnd cs k ≤ cs.length := (List.takeWhile_prefix _).length_le
theorem lbnd_lt {cs : List Cel} {k : ByteArray} {m : Nat} (h : m < lbnd cs k) : slt (cAt cs m).key k := by
  have hle := lbnd_le cs k
  have hp : (cs.takeWhile fun c => decide (slt c.key k))[m] = cs[m] := (List.takeWhile_prefix _).getElem h
  have hm := List.getElem_mem h
  have := List.all_takeWhile (p := fun c => decide (slt c.key k)) (l := cs)
  have h2 := List.all_eq_true.1 this _ hm
  rw [hp] at h2
  rw [cAt_get (by omega)]
  simpa using h2
theorem lbnd_ge {cs : List Cel} {k : ByteArray} (h : lbnd cs k < cs.length) : ¬ slt (cAt cs (lbnd cs k)).key k := by
  rw [cAt_get h]
  induction cs with
  | nil => simp at h
  | cons c r ih =>
    unfold lbnd at h ⊢
    by_cases e : slt c.key k
    · simp only [List.takeWhile_cons, e, decide_true, if_true, List.length_cons, List.getElem_cons_succ] at h ⊢
      exact ih (by unfold lbnd; omega)
    · simp only [List.takeWhile_cons, e, decide_false, Bool.false_eq_true, if_false, List.length_nil, List.getElem_cons_zero]
      first | exact e | exact not_false
theorem lbnd_unique {cs : List Cel} {k : ByteArray} {i : Nat} (hi : i ≤ cs.length) (h1 : ∀ m, m < i → slt (cAt cs m).key k) (h2 : i < cs.length → ¬ slt (cAt cs i).key k) : lbnd cs k = i := by
  have hle := lbnd_le cs k
  rcases Nat.lt_trichotomy (lbnd cs k) i with h | h | h
  · exact absurd (h1 _ h) (lbnd_ge (by omega))
  · exact h
  · exact absurd (lbnd_lt h) (h2 (by omega))

def cmpS (a b : ByteArray) : Int := if slt a b then -1 else if slt b a then 1 else 0
theorem cmp_lt {a b : ByteArray} : cmpS a b < 0 ↔ slt a b := by
  unfold cmpS; split
  · rename_i h; exact ⟨fun _ => h, fun _ => by omega⟩
  · rename_i h
    split
    · exact ⟨fun h2 => by omega, fun h2 => absurd h2 h⟩
    · exact ⟨fun h2 => by omega, fun h2 => absurd h2 h⟩
theorem cmp_eq {a b : ByteArray} : cmpS a b = 0 ↔ a = b := by
  unfold cmpS; split
  · rename_i h; exact ⟨fun h2 => by omega, fun h2 => by subst h2; exact absurd h (slt_irrefl _)⟩
  · rename_i h
    split
    · rename_i h3; exact ⟨fun h2 => by omega, fun h2 => by subst h2; exact absurd h3 (slt_irrefl _)⟩
    · rename_i h3
      refine ⟨fun _ => ?_, fun _ => rfl⟩
      rcases slt_tri a b with k | k | k
      · exact absurd k h
      · exact k
      · exact absurd k h3

theorem nan_any (a : ByteArray) (w0 : World) : Calls Try.prog 48 [.string a].toArray w0 fun e w' => e = .returned (.bool false) ∧ Keep No w0 w' := by
  refine enter (n := 6) Try.func48 rfl rfl rfl ?_
  have hS := St.start No w0
  refine c_seq ?_
  refine c_region ?_
  refine l_val (v_assign rfl) rfl ?_
  refine l_end ?_
  refine k_code ?_
  refine c_seq ?_
  refine c_region ?_
  refine l_val (v_move rfl) rfl ?_
  refine l_val (v_move rfl) rfl ?_
  refine l_val (v_sneq rfl rfl) rfl ?_
  refine l_val (v_assign rfl) rfl ?_
  refine l_end ?_
  refine k_code ?_
  refine c_ret1 rfl rfl ?_
  exact ⟨rb (by simp), hS.keep⟩
theorem cmp_any (a b : ByteArray) (w0 : World) : Calls Try.prog 47 [.string a, .string b].toArray w0 fun e w' => e = .returned (.int .i64 (cmpS a b)) ∧ Keep No w0 w' := by
  refine enter (n := 20) Try.func47 rfl rfl rfl ?_
  have hS := St.start No w0
  refine c_seq ?_
  refine c_region ?_
  refine l_val (v_assign rfl) rfl ?_
  refine l_end ?_
  refine k_code ?_
  refine c_seq ?_
  refine c_region ?_
  refine l_val (v_move rfl) rfl ?_
  refine l_callK goes48 rfl hS (nan_any _ _) rfl (fun w hS => ?_)
  refine l_val (v_assign rfl) rfl ?_
  refine l_end ?_
  refine k_code ?_
  refine c_seq ?_
  refine c_region ?_
  refine l_val (v_move rfl) rfl ?_
  refine l_callK goes48 rfl hS (nan_any _ _) rfl (fun w hS => ?_)
  refine l_val (v_assign rfl) rfl ?_
  refine l_end ?_
  refine k_code ?_
  refine c_seq ?_
  refine c_seq ?_
  refine c_region ?_
  refine l_val (v_move rfl) rfl ?_
  refine l_end ?_
  refine k_code ?_
  refine c_no rfl ?_
  refine c_skip ?_
  refine k_code ?_
  refine c_seq ?_
  refine c_seq ?_
  refine c_region ?_
  refine l_val (v_move rfl) rfl ?_
  refine l_end ?_
  refine k_code ?_
  refine c_no rfl ?_
  refine c_skip ?_
  refine k_code ?_
  refine c_seq ?_
  refine c_seq ?_
  refine c_region ?_
  refine l_val (v_move rfl) rfl ?_
  refine l_val (v_move rfl) rfl ?_
  refine l_val (v_slss rfl rfl) rfl ?_
  refine l_end ?_
  refine k_code ?_
  refine c_if rfl (fun p1 => ?_) (fun p1 => ?_)
  · skip
    refine c_seq ?_
    refine c_region ?_
    refine l_val (v_assign rfl) rfl ?_
    refine l_end ?_
    refine k_code ?_
    refine c_ret1 rfl rfl ?_
    exact ⟨ri (by unfold cmpS; rw [if_pos p1]), hS.keep⟩
  · skip
    refine c_skip ?_
    refine k_code ?_
    refine c_seq ?_
    refine c_seq ?_
    refine c_region ?_
    refine l_val (v_move rfl) rfl ?_
    refine l_val (v_move rfl) rfl ?_
    refine l_val (v_sgtr rfl rfl) rfl ?_
    refine l_end ?_
    refine k_code ?_
    refine c_if rfl (fun p2 => ?_) (fun p2 => ?_)
    · skip
      refine c_seq ?_
      refine c_region ?_
      refine l_val (v_assign rfl) rfl ?_
      refine l_end ?_
      refine k_code ?_
      refine c_ret1 rfl rfl ?_
      exact ⟨ri (by unfold cmpS; rw [if_neg p1, if_pos p2]), hS.keep⟩
    · skip
      refine c_skip ?_
      refine k_code ?_
      refine c_seq ?_
      refine c_region ?_
      refine l_val (v_assign rfl) rfl ?_
      refine l_end ?_
      refine k_code ?_
      refine c_ret1 rfl rfl ?_
      exact ⟨ri (by unfold cmpS; rw [if_neg p1, if_neg p2]), hS.keep⟩
theorem keyOf_any (c : Cel) (w0 : World) : Calls Try.prog 43 [.agg (enc c).toArray].toArray w0 fun e w' => e = .returned (.string c.key) ∧ Keep No w0 w' := by
  refine enter (n := 5) Try.func43 rfl rfl rfl ?_
  have hS := St.start No w0
  refine c_seq ?_
  refine c_region ?_
  refine l_box (cs := #[_, _, _, _]) hS rfl rfl rfl (fun b1 w hS => ?_)
  refine l_val (v_assign rfl) rfl ?_
  refine l_end ?_
  refine k_code ?_
  refine c_seq ?_
  refine c_region ?_
  refine l_val (v_fieldX (o' := 0) field27_0 rfl rfl) rfl ?_
  refine l_val (v_load ty9 rfl (here (hS.cellX 0 (k := 0) rfl rfl))) rfl ?_
  refine l_val (v_assign rfl) rfl ?_
  refine l_end ?_
  refine k_code ?_
  refine c_ret1 rfl rfl ?_
  exact ⟨rfl, hS.keep⟩
abbrev KeyF : Value := .func (.func 43) #[] #[]
theorem search1_any (c : Cel) (k : ByteArray) (bb : Nat) (w0 : World) (hb : w0.cell? ⟨bb, 0, none⟩ = some KeyF) :
    Calls Try.prog 46 [.agg (enc c).toArray, .string k, .pointer (some ⟨bb, 0, none⟩)].toArray w0 fun e w' => e = .returned (.int .i64 (cmpS c.key k)) ∧ Keep No w0 w' := by
  refine enter (n := 11) Try.func46 rfl rfl rfl ?_
  have hS := St.start No w0
  refine c_seq ?_
  refine c_region ?_
  refine l_box (cs := #[_, _, _, _]) hS rfl rfl rfl (fun b1 w hS => ?_)
  refine l_val (v_assign rfl) rfl ?_
  refine l_end ?_
  refine k_code ?_
  refine c_seq ?_
  refine c_region ?_
  refine l_val (v_load ty63 rfl (here (hS.old hb))) rfl ?_
  refine l_val (v_loadW tyN27 rfl rfl (hereN (hS.rowX 0 rfl))) rfl ?_
  refine l_callVK (first := []) (cap := []) goes43 rfl rfl (keyOf_any c _) rfl hS (fun w hS => ?_)
  refine l_val (v_move rfl) rfl ?_
  refine l_callK goes47 rfl hS (cmp_any _ _ _) rfl (fun w hS => ?_)
  refine l_val (v_assign rfl) rfl ?_
  refine l_end ?_
  refine k_code ?_
  refine c_ret1 rfl rfl ?_
  exact ⟨rfl, hS.keep⟩
theorem mid_eq {i j : Nat} (h : i + j ≤ 9223372036854775807) : IntKind.i64.wrap ((IntKind.u64.wrap ((i : Int) + (j : Int))).fdiv (2 ^ min (1 : Int).toNat IntKind.u64.bits)) = (((i + j) / 2 : Nat) : Int) := by
  rw [show min (1 : Int).toNat IntKind.u64.bits = 1 from rfl, show IntKind.u64.wrap ((i : Int) + (j : Int)) = (i : Int) + (j : Int) by simp [IntKind.wrap, IntKind.bits, IntKind.signed]; omega, Int.fdiv_eq_ediv_of_nonneg _ (by decide)]
  rw [IntWalk.i64_in _ (by omega)]
  omega

set_option maxHeartbeats 1000000 in
theorem bsearch_any (A : Option Addr) (cs : List Cel) (c : Nat) (k : ByteArray) (bb : Nat) (w0 : World) (hl : Lies w0 A (cellsOf cs)) (hn : cs.length ≤ 1073741824) (hs : Sorted cs) (hb : w0.cell? ⟨bb, 0, none⟩ = some KeyF) :
    Calls Try.prog 45 [.slice A cs.length c, .string k, .func (.func 46) #[] #[.pointer (some ⟨bb, 0, none⟩)]].toArray w0 fun e w' =>
      e = .returned (.tuple #[.int .i64 (lbnd cs k : Nat), .bool (hasK cs k)]) ∧ Keep No w0 w' := by
  refine enter (n := 49) Try.func45 rfl rfl rfl ?_
  have hS := St.start No w0
  refine c_seq ?_
  refine c_region ?_
  refine l_val (v_assign rfl) rfl ?_
  refine l_val (v_assign rfl) rfl ?_
  refine l_end ?_
  refine k_code ?_
  refine c_seq ?_
  refine c_region ?_
  refine l_val (v_move rfl) rfl ?_
  refine l_val (v_len Try.underlying22 rfl) rfl ?_
  refine l_val (v_assign rfl) rfl ?_
  refine l_end ?_
  refine k_code ?_
  refine c_seq ?_
  refine c_region ?_
  refine l_val (v_move rfl) rfl ?_
  refine l_val (v_assign rfl) rfl ?_
  refine l_val (v_assign rfl) rfl ?_
  refine l_end ?_
  refine k_code ?_
  refine c_seq ?_
  refine c_block ?_
  refine c_loopV [(0, _), (1, _), (2, _), (6, _), (7, _), (8, _)] (fun ((i, j) : Nat × Nat) => [(9, .int .i64 i), (10, .int .i64 j)]) (fun ((i, j) : Nat × Nat) w => St No w0 w [] ∧ (i ≤ j ∧ j ≤ cs.length ∧ (∀ m, m < i → slt (cAt cs m).key k) ∧ (∀ m, j ≤ m → m < cs.length → ¬ slt (cAt cs m).key k))) (fun ((i, j) : Nat × Nat) => j - i) ((0 : Nat), cs.length) ⟨hS, ⟨Nat.zero_le _, Nat.le_refl _, fun m h => absurd h (Nat.not_lt_zero _), fun m h1 h2 => absurd h2 (by omega)⟩⟩ (kc rfl (kc rfl (kc rfl (kc rfl (kc rfl (kc rfl (kc rfl (kc rfl kn)))))))) (fun xx w hI => ?_)
  obtain ⟨i, j⟩ := xx
  obtain ⟨hS, ⟨hij, hj, h1, h2⟩⟩ := hI
  refine c_seq ?_
  refine c_seq ?_
  refine c_region ?_
  refine l_val (v_move rfl) rfl ?_
  refine l_val (v_move rfl) rfl ?_
  refine l_val (v_lss rfl rfl) rfl ?_
  refine l_end ?_
  refine k_code ?_
  refine c_if rfl (fun p1 => ?_) (fun p1 => ?_)
  · skip
    refine c_skip ?_
    refine k_code ?_
    refine c_block ?_
    refine c_seq ?_
    refine c_region ?_
    refine l_val (v_move rfl) rfl ?_
    refine l_val (v_move rfl) rfl ?_
    refine l_val (v_add rfl rfl (by omega)) rfl ?_
    refine l_val (v_conv Try.underlying3 Try.underlying57 rfl) rfl ?_
    refine l_val (v_shr rfl rfl (by decide)) rfl ?_
    refine l_val (v_conv Try.underlying57 Try.underlying3 rfl) rfl ?_
    rw [mid_eq (by omega)]
    obtain ⟨ad, hA, hcell⟩ := cell_k hl (k := (i + j) / 2) (by omega)
    refine l_val (v_assign rfl) rfl ?_
    refine l_end ?_
    refine k_code ?_
    refine c_seq ?_
    refine c_region ?_
    refine l_val (v_move rfl) rfl ?_
    refine l_val (v_move rfl) rfl ?_
    refine l_val (v_move rfl) rfl ?_
    refine l_val (v_indexAddrO hA Try.underlying22 tyN27.size rfl rfl (by omega) (by omega)) rfl ?_
    refine l_val (v_loadN (cs := enc (cAt cs ((i + j) / 2))) tyN27 rfl rfl (hereN (fun j v hj => hS.old (hcell j v hj)))) rfl ?_
    refine l_val (v_move rfl) rfl ?_
    refine l_callVK (first := []) (cap := [_]) goes46 rfl rfl (search1_any (cAt cs ((i + j) / 2)) k bb _ (hS.old hb)) rfl hS (fun w hS => ?_)
    refine l_val (v_lss rfl rfl) rfl ?_
    refine l_end ?_
    refine k_code ?_
    refine c_if rfl (fun p2 => ?_) (fun p2 => ?_)
    · skip
      refine c_region ?_
      refine l_val (v_move rfl) rfl ?_
      refine l_val (v_add rfl rfl (by omega)) rfl ?_
      refine l_val (v_assign rfl) rfl ?_
      refine l_end ?_
      refine fun _ hFr => ⟨((i + j) / 2 + 1, j), (by dsimp only; omega), ⟨hS, ⟨by omega, hj, fun m hm => (if e : m = (i + j) / 2 then e ▸ cmp_lt.1 p2 else slt_trans (hs m ((i + j) / 2) (by omega) (by omega)) (cmp_lt.1 p2)), h2⟩⟩, Fr.sub hFr (kc rfl (kc rfl (kc rfl (kc rfl (kc rfl (kc rfl (kc rfl (kc rfl kn))))))))⟩
    · skip
      refine c_region ?_
      refine l_val (v_move rfl) rfl ?_
      refine l_val (v_assign rfl) rfl ?_
      refine l_end ?_
      refine fun _ hFr => ⟨(i, (i + j) / 2), (by dsimp only; omega), ⟨hS, ⟨by omega, by omega, h1, fun m hm hlt hk => p2 (cmp_lt.2 (if e : m = (i + j) / 2 then e ▸ hk else slt_trans (hs ((i + j) / 2) m (by omega) hlt) hk))⟩⟩, Fr.sub hFr (kc rfl (kc rfl (kc rfl (kc rfl (kc rfl (kc rfl (kc rfl (kc rfl kn))))))))⟩
  · skip
    obtain rfl : i = j := by omega
    have hlb := lbnd_unique hj h1 (fun h => h2 i (Nat.le_refl _) h)
    refine c_exit ex_here ?_
    refine k_code ?_
    refine c_seq ?_
    refine c_region ?_
    refine l_val (v_move rfl) rfl ?_
    refine l_val (v_move rfl) rfl ?_
    refine l_val (v_move rfl) rfl ?_
    refine l_val (v_lss rfl rfl) rfl ?_
    refine l_val (v_move rfl) rfl ?_
    refine l_part 39 rfl (fun p2 => ?_) (fun p2 => ?_)
    · skip
      obtain ⟨ad, hA, hcell⟩ := cell_k hl (k := i) (by omega)
      refine l_on rfl rfl rfl ?_
      refine l_val (v_move rfl) rfl ?_
      refine l_on rfl rfl rfl ?_
      refine l_val (v_move rfl) rfl ?_
      refine l_on rfl rfl rfl ?_
      refine l_val (v_move rfl) rfl ?_
      refine l_on rfl rfl rfl ?_
      refine l_val (v_indexAddrO hA Try.underlying22 tyN27.size rfl rfl (by omega) (by omega)) rfl ?_
      refine l_on rfl rfl rfl ?_
      refine l_val (v_loadN (cs := enc (cAt cs i)) tyN27 rfl rfl (hereN (fun j v hj => hS.old (hcell j v hj)))) rfl ?_
      refine l_on rfl rfl rfl ?_
      refine l_val (v_move rfl) rfl ?_
      refine l_on rfl rfl rfl ?_
      refine l_callVK (first := []) (cap := [_]) goes46 rfl rfl (search1_any (cAt cs i) k bb _ (hS.old hb)) rfl hS (fun w hS => ?_)
      refine l_on rfl rfl rfl ?_
      refine l_val (v_eql rfl rfl) rfl ?_
      refine l_val (v_pickT rfl rfl) rfl ?_
      refine l_val (v_assign rfl) rfl ?_
      refine l_val (v_assign rfl) rfl ?_
      refine l_end ?_
      refine k_code ?_
      refine c_ret2 rfl rfl rfl ?_
      exact ⟨by rw [hlb]; unfold hasK; rw [hlb, decide_eq_decide.2 (show cmpS (cAt cs i).key k = 0 ↔ (i < cs.length ∧ (cAt cs i).key = k) from ⟨fun h => ⟨by omega, cmp_eq.1 h⟩, fun h => cmp_eq.2 h.2⟩)], hS.keep⟩
    · skip
      refine l_skip rfl rfl rfl rfl rfl ?_
      refine l_skip rfl rfl rfl rfl rfl ?_
      refine l_skip rfl rfl rfl rfl rfl ?_
      refine l_skip rfl rfl rfl rfl rfl ?_
      refine l_skip rfl rfl rfl rfl rfl ?_
      refine l_skip rfl rfl rfl rfl rfl ?_
      refine l_skip rfl rfl rfl rfl rfl ?_
      refine l_skip rfl rfl rfl rfl rfl ?_
      refine l_val (v_pickF rfl rfl) rfl ?_
      refine l_val (v_assign rfl) rfl ?_
      refine l_val (v_assign rfl) rfl ?_
      refine l_end ?_
      refine k_code ?_
      refine c_ret2 rfl rfl rfl ?_
      exact ⟨by rw [hlb]; unfold hasK; rw [hlb, decide_eq_false (fun h => p2 (by omega))], hS.keep⟩
theorem search_any (A : Option Addr) (cs : List Cel) (c : Nat) (k : ByteArray) (w0 : World) (hl : Lies w0 A (cellsOf cs)) (hn : cs.length ≤ 1073741824) (hs : Sorted cs) :
    Calls Try.prog 42 [.slice A cs.length c, .string k, KeyF].toArray w0 fun e w' => e = .returned (.tuple #[.int .i64 (lbnd cs k : Nat), .bool (hasK cs k)]) ∧ Keep No w0 w' := by
  refine enter (n := 14) Try.func42 rfl rfl rfl ?_
  have hS := St.start No w0
  refine c_seq ?_
  refine c_region ?_
  refine l_box (cs := #[_]) hS rfl rfl rfl (fun b1 w hS => ?_)
  refine l_val (v_assign rfl) rfl ?_
  refine l_val (v_assign rfl) rfl ?_
  refine l_end ?_
  refine k_code ?_
  refine c_seq ?_
  refine c_region ?_
  refine l_val (v_move rfl) rfl ?_
  refine l_val (v_move rfl) rfl ?_
  refine l_val (v_makeFunc rfl) rfl ?_
  refine l_callK goes45 rfl hS (bsearch_any _ _ _ _ _ _ (hl.keep hS.keep) hn hs (hS.cell 0 rfl rfl)) rfl (fun w hS => ?_)
  refine l_val (v_extractX rfl rfl) rfl ?_
  refine l_val (v_extractX rfl rfl) rfl ?_
  refine l_val (v_assign rfl) rfl ?_
  refine l_val (v_assign rfl) rfl ?_
  refine l_end ?_
  refine k_code ?_
  refine c_ret2 rfl rfl rfl ?_
  exact ⟨rfl, hS.keep⟩
theorem find_any (leaf : Bool) (A : Option Addr) (cs : List Cel) (c : Nat) (k : ByteArray) (w0 : World) (hl : Lies w0 A (cellsOf cs)) (hn : cs.length ≤ 1073741824) (hs : Sorted cs) :
    Calls Try.prog 21 [.agg #[.bool leaf, .slice A cs.length c], .string k].toArray w0 fun e w' => e = .returned (.tuple #[.int .i64 (lbnd cs k : Nat), .bool (hasK cs k)]) ∧ Keep No w0 w' := by
  refine enter (n := 12) Try.func21 rfl rfl rfl ?_
  have hS := St.start No w0
  refine c_seq ?_
  refine c_region ?_
  refine l_box (cs := #[_, _]) hS rfl rfl rfl (fun b1 w hS => ?_)
  refine l_val (v_assign rfl) rfl ?_
  refine l_val (v_assign rfl) rfl ?_
  refine l_end ?_
  refine k_code ?_
  refine c_seq ?_
  refine c_region ?_
  refine l_val (v_fieldX (o' := 1) field24_1 rfl rfl) rfl ?_
  refine l_val (v_load ty22 rfl (here (hS.cellX 0 (k := 1) rfl rfl))) rfl ?_
  refine l_val (v_move rfl) rfl ?_
  refine l_callK goes42 rfl hS (search_any _ _ _ _ _ (hl.keep hS.keep) hn hs) rfl (fun w hS => ?_)
  refine l_val (v_extractX rfl rfl) rfl ?_
  refine l_val (v_extractX rfl rfl) rfl ?_
  refine l_val (v_assign rfl) rfl ?_
  refine l_val (v_assign rfl) rfl ?_
  refine l_end ?_
  refine k_code ?_
  refine c_ret2 rfl rfl rfl ?_
  exact ⟨rfl, hS.keep⟩
set_option maxHeartbeats 1000000 in
theorem rfind_any (leaf : Bool) (A : Option Addr) (cs : List Cel) (c : Nat) (k : ByteArray) (w0 : World) (hl : Lies w0 A (cellsOf cs)) (hn : cs.length ≤ 1073741824) :
    Calls Try.prog 23 [.agg #[.bool leaf, .slice A cs.length c], .string k].toArray w0 fun e w' => e = .returned (.tuple #[.int .i64 (lbnd cs k : Nat), .bool (hasK cs k)]) ∧ Keep No w0 w' := by
  refine enter (n := 34) Try.func23 rfl rfl rfl ?_
  have hS := St.start No w0
  refine c_seq ?_
  refine c_region ?_
  refine l_box (cs := #[_, _]) hS rfl rfl rfl (fun b1 w hS => ?_)
  refine l_val (v_assign rfl) rfl ?_
  refine l_val (v_assign rfl) rfl ?_
  refine l_end ?_
  refine k_code ?_
  refine c_seq ?_
  refine c_seq ?_
  refine c_region ?_
  refine l_val (v_assign rfl) rfl ?_
  refine l_end ?_
  refine k_code ?_
  refine c_block ?_
  refine c_loopV [(1, _), (2, _)] (fun (i : Nat) => [(6, .int .i64 i)]) (fun (i : Nat) w => St No w0 w [.blk b1 (.cells #[.bool leaf, .slice A cs.length c] 24 (0, 0))] ∧ (i ≤ cs.length ∧ (∀ m, m < i → slt (cAt cs m).key k))) (fun (i : Nat) => cs.length - i) (0 : Nat) ⟨hS, ⟨Nat.zero_le _, fun m h => absurd h (Nat.not_lt_zero _)⟩⟩ (kc rfl (kc rfl (kc rfl kn))) (fun i w hI => ?_)
  obtain ⟨hS, ⟨hi, h1⟩⟩ := hI
  refine c_seq ?_
  refine c_seq ?_
  refine c_region ?_
  refine l_val (v_move rfl) rfl ?_
  refine l_val (v_fieldX (o' := 1) field24_1 rfl rfl) rfl ?_
  refine l_val (v_load ty22 rfl (here (hS.cellX 0 (k := 1) rfl rfl))) rfl ?_
  refine l_val (v_len Try.underlying22 rfl) rfl ?_
  refine l_val (v_lss rfl rfl) rfl ?_
  refine l_end ?_
  refine k_code ?_
  refine c_if rfl (fun p1 => ?_) (fun p1 => ?_)
  · skip
    obtain ⟨ad, hA, hcell⟩ := cell_k hl (k := i) (by omega)
    refine c_skip ?_
    refine k_code ?_
    refine c_seq ?_
    refine c_block ?_
    refine c_seq ?_
    refine c_region ?_
    refine l_val (v_fieldX (o' := 1) field24_1 rfl rfl) rfl ?_
    refine l_val (v_load ty22 rfl (here (hS.cellX 0 (k := 1) rfl rfl))) rfl ?_
    refine l_val (v_move rfl) rfl ?_
    refine l_val (v_indexAddrO hA Try.underlying22 tyN27.size rfl rfl (by omega) (by omega)) rfl ?_
    refine l_val (v_fieldAddr field27_0 rfl) rfl ?_
    refine l_val (v_load ty9 rfl (here (hS.old (hcell 0 _ rfl)))) rfl ?_
    refine l_val (v_move rfl) rfl ?_
    refine l_val (v_sgeq rfl rfl) rfl ?_
    refine l_end ?_
    refine k_code ?_
    refine c_if rfl (fun p2 => ?_) (fun p2 => ?_)
    · skip
      have hlb := lbnd_unique hi h1 (fun _ => p2)
      refine c_seq ?_
      refine q_region hS mixed (by kernel_rfl) ?_
      refine q_val (v_move rfl) rfl ?_
      refine q_val (v_fieldX (o' := 1) field24_1 rfl rfl) rfl ?_
      refine q_val (v_load ty22 rfl (fun _ h => h.cellX 0 (k := 1) rfl rfl)) rfl ?_
      refine q_val (v_move rfl) rfl ?_
      refine q_val (v_indexAddrO hA Try.underlying22 tyN27.size rfl rfl (by omega) (by omega)) rfl ?_
      refine q_val (v_fieldAddr field27_0 rfl) rfl ?_
      refine q_val (v_load ty9 rfl (fun _ h => h.old (hcell 0 _ rfl))) rfl ?_
      refine q_val (v_move rfl) rfl ?_
      refine q_val (v_seql rfl rfl) rfl ?_
      refine q_val (v_assign rfl) rfl ?_
      refine q_val (v_assign rfl) rfl ?_
      refine q_end (fun w hS => ?_)
      refine k_code ?_
      refine c_ret2 rfl rfl rfl ?_
      exact ⟨by rw [hlb]; unfold hasK; rw [hlb, decide_eq_decide.2 (show (cAt cs i).key = k ↔ (i < cs.length ∧ (cAt cs i).key = k) from ⟨fun h => ⟨by omega, h⟩, fun h => h.2⟩)], hS.keep⟩
    · skip
      refine c_skip ?_
      refine k_code ?_
      refine c_region ?_
      refine l_val (v_move rfl) rfl ?_
      refine l_val (v_add rfl rfl (by omega)) rfl ?_
      refine l_val (v_assign rfl) rfl ?_
      refine l_end ?_
      refine fun _ hFr => ⟨(i + 1), (by omega), ⟨hS, ⟨by omega, fun m hm => (if e : m = i then e ▸ Decidable.not_not.1 p2 else h1 m (by omega))⟩⟩, Fr.sub hFr (kc rfl (kc rfl (kc rfl kn)))⟩
  · skip
    have hlb := lbnd_unique hi h1 (fun h => absurd h (by omega))
    refine c_exit ex_here ?_
    refine k_code ?_
    refine c_seq ?_
    refine c_region ?_
    refine l_val (v_fieldX (o' := 1) field24_1 rfl rfl) rfl ?_
    refine l_val (v_load ty22 rfl (here (hS.cellX 0 (k := 1) rfl rfl))) rfl ?_
    refine l_val (v_len Try.underlying22 rfl) rfl ?_
    refine l_val (v_assign rfl) rfl ?_
    refine l_val (v_assign rfl) rfl ?_
    refine l_end ?_
    refine k_code ?_
    refine c_ret2 rfl rfl rfl ?_
    exact ⟨by rw [hlb]; unfold hasK; rw [hlb, decide_eq_false (fun h => absurd h.1 (by omega)), show i = cs.length by omega], hS.keep⟩
/-- The child that is asked for a key. -/
def childS (cs : List Cel) (k : ByteArray) : Nat := if hasK cs k then lbnd cs k else lbnd cs k - 1
theorem hasK_iff {cs : List Cel} {k : ByteArray} : hasK cs k = true ↔ (lbnd cs k < cs.length ∧ (cAt cs (lbnd cs k)).key = k) := by unfold hasK; exact decide_eq_true_iff
theorem child_leaf {cs : List Cel} {k : ByteArray} (h : hasK cs k = false) : (if (0 : Int) > ((lbnd cs k : Nat) : Int) - 1 then (0 : Int) else ((lbnd cs k : Nat) : Int) - 1) = ((childS cs k : Nat) : Int) := by
  have e : childS cs k = lbnd cs k - 1 := if_neg (by rw [h]; simp)
  rw [e]; split <;> omega
theorem child_any (leaf : Bool) (A : Option Addr) (cs : List Cel) (c : Nat) (k : ByteArray) (w0 : World) (hl : Lies w0 A (cellsOf cs)) (hn : cs.length ≤ 1073741824) (hs : Sorted cs) :
    Calls Try.prog 22 [.agg #[.bool leaf, .slice A cs.length c], .string k].toArray w0 fun e w' => e = .returned (.int .i64 (childS cs k : Nat)) ∧ Keep No w0 w' := by
  have hle := lbnd_le cs k
  refine enter (n := 18) Try.func22 rfl rfl rfl ?_
  have hS := St.start No w0
  refine c_seq ?_
  refine c_region ?_
  refine l_box (cs := #[_, _]) hS rfl rfl rfl (fun b1 w hS => ?_)
  refine l_val (v_assign rfl) rfl ?_
  refine l_end ?_
  refine k_code ?_
  refine c_seq ?_
  refine c_region ?_
  refine l_val (v_loadW tyN24 rfl rfl (hereN (hS.rowX 0 rfl))) rfl ?_
  refine l_val (v_move rfl) rfl ?_
  refine l_callK goes21 rfl hS (find_any _ _ _ _ _ _ (hl.keep hS.keep) hn hs) rfl (fun w hS => ?_)
  refine l_val (v_move rfl) rfl ?_
  refine l_val (v_extractX rfl rfl) rfl ?_
  refine l_val (v_extractX rfl rfl) rfl ?_
  refine l_val (v_assign rfl) rfl ?_
  refine l_val (v_assign rfl) rfl ?_
  refine l_end ?_
  refine k_code ?_
  refine c_seq ?_
  refine c_seq ?_
  refine c_region ?_
  refine l_val (v_move rfl) rfl ?_
  refine l_end ?_
  refine k_code ?_
  refine c_cond rfl (fun p1 => ?_) (fun p1 => ?_)
  · skip
    refine c_seq ?_
    refine c_region ?_
    refine l_val (v_move rfl) rfl ?_
    refine l_val (v_assign rfl) rfl ?_
    refine l_end ?_
    refine k_code ?_
    refine c_ret1 rfl rfl ?_
    exact ⟨ri (by unfold childS; rw [if_pos p1]), hS.keep⟩
  · skip
    refine c_skip ?_
    refine k_code ?_
    refine c_seq ?_
    refine c_region ?_
    refine l_val (v_move rfl) rfl ?_
    refine l_val (v_sub rfl rfl (by omega)) rfl ?_
    refine l_val (v_max rfl rfl) rfl ?_
    refine l_val (v_assign rfl) rfl ?_
    refine l_end ?_
    refine k_code ?_
    refine c_ret1 rfl rfl ?_
    exact ⟨ri (child_leaf p1), hS.keep⟩
def clTo (cs : List Cel) (k : ByteArray) : Nat → Nat
  | 0 => 0
  | i + 1 => if ¬ slt k (cAt cs i).key then i else clTo cs k i
theorem clTo_eq {cs : List Cel} {k : ByteArray} (hs : Sorted cs) : clTo cs k cs.length = childS cs k := by
  have hle := lbnd_le cs k
  have key : ∀ i, i ≤ cs.length → clTo cs k i = min (childS cs k) (i - 1) := by
    intro i
    induction i with
    | zero => intro _; simp [clTo]
    | succ i ih =>
      intro hi
      have h := ih (by omega)
      simp only [clTo]
      by_cases hc : i ≤ childS cs k
      · -- every cell up to the child is not behind the key, if there is one
        by_cases hz : slt k (cAt cs i).key
        · rw [if_neg (by simpa using hz), h]
          -- then i = 0
          have : i = 0 := by
            rcases Nat.eq_zero_or_pos i with h0 | h0
            · exact h0
            · exfalso
              unfold childS at hc
              split at hc
              · rename_i hk
                obtain ⟨h1, h2⟩ := hasK_iff.1 hk
                by_cases e : i = lbnd cs k
                · subst e; rw [h2] at hz; exact slt_irrefl _ hz
                · exact slt_asymm hz (lbnd_lt (by omega))
              · exact slt_asymm hz (lbnd_lt (by omega))
          subst this
          simp
        · rw [if_pos (by simpa using hz)]; omega
      · have hz : slt k (cAt cs i).key := by
          unfold childS at hc
          split at hc
          · rename_i hk
            obtain ⟨h1, h2⟩ := hasK_iff.1 hk
            have := hs (lbnd cs k) i (by omega) (by omega)
            rwa [h2] at this
          · rename_i hk
            by_cases e : i = lbnd cs k
            · refine slt_of_not (a := (cAt cs i).key) (b := k) ?_ ?_
              · rw [e]; exact lbnd_ge (by omega)
              · intro e2; exact hk (hasK_iff.2 ⟨by omega, by rw [← e, e2]⟩)
            · have h1 : lbnd cs k < i := by omega
              have h2 := lbnd_ge (cs := cs) (k := k) (by omega)
              exact le_slt_trans h2 (hs _ i h1 (by omega))
        rw [if_neg (by simpa using hz), h]
        omega
  rw [key _ (Nat.le_refl _)]
  unfold childS
  split
  · rename_i hk
    have := (hasK_iff.1 hk).1
    omega
  · omega
set_option maxHeartbeats 1000000 in
theorem rchild_any (leaf : Bool) (A : Option Addr) (cs : List Cel) (c : Nat) (k : ByteArray) (w0 : World) (hl : Lies w0 A (cellsOf cs)) (hn : cs.length ≤ 1073741824) (hs : Sorted cs) :
    Calls Try.prog 26 [.agg #[.bool leaf, .slice A cs.length c], .string k].toArray w0 fun e w' => e = .returned (.int .i64 (childS cs k : Nat)) ∧ Keep No w0 w' := by
  refine enter (n := 24) Try.func26 rfl rfl rfl ?_
  have hS := St.start No w0
  refine c_seq ?_
  refine c_region ?_
  refine l_box (cs := #[_, _]) hS rfl rfl rfl (fun b1 w hS => ?_)
  refine l_val (v_assign rfl) rfl ?_
  refine l_end ?_
  refine k_code ?_
  refine c_seq ?_
  refine c_region ?_
  refine l_val (v_assign rfl) rfl ?_
  refine l_end ?_
  refine k_code ?_
  refine c_seq ?_
  refine c_seq ?_
  refine c_region ?_
  refine l_val (v_assign rfl) rfl ?_
  refine l_end ?_
  refine k_code ?_
  refine c_block ?_
  refine c_loopV [(1, _), (2, _), (4, _)] (fun (i : Nat) => [(5, .int .i64 (clTo cs k i : Nat)), (6, .int .i64 i)]) (fun (i : Nat) w => St No w0 w [.blk b1 (.cells #[.bool leaf, .slice A cs.length c] 24 (0, 0))] ∧ i ≤ cs.length) (fun (i : Nat) => cs.length - i) (0 : Nat) ⟨hS, Nat.zero_le _⟩ (kc rfl (kc rfl (kc rfl (kc rfl (kc rfl kn))))) (fun i w hI => ?_)
  obtain ⟨hS, hI⟩ := hI
  refine c_seq ?_
  refine c_seq ?_
  refine c_region ?_
  refine l_val (v_move rfl) rfl ?_
  refine l_val (v_fieldX (o' := 1) field24_1 rfl rfl) rfl ?_
  refine l_val (v_load ty22 rfl (here (hS.cellX 0 (k := 1) rfl rfl))) rfl ?_
  refine l_val (v_len Try.underlying22 rfl) rfl ?_
  refine l_val (v_lss rfl rfl) rfl ?_
  refine l_end ?_
  refine k_code ?_
  refine c_if rfl (fun p1 => ?_) (fun p1 => ?_)
  · skip
    obtain ⟨ad, hA, hcell⟩ := cell_k hl (k := i) (by omega)
    refine c_skip ?_
    refine k_code ?_
    refine c_seq ?_
    refine c_block ?_
    refine c_seq ?_
    refine c_region ?_
    refine l_val (v_fieldX (o' := 1) field24_1 rfl rfl) rfl ?_
    refine l_val (v_load ty22 rfl (here (hS.cellX 0 (k := 1) rfl rfl))) rfl ?_
    refine l_val (v_move rfl) rfl ?_
    refine l_val (v_indexAddrO hA Try.underlying22 tyN27.size rfl rfl (by omega) (by omega)) rfl ?_
    refine l_val (v_fieldAddr field27_0 rfl) rfl ?_
    refine l_val (v_load ty9 rfl (here (hS.old (hcell 0 _ rfl)))) rfl ?_
    refine l_val (v_move rfl) rfl ?_
    refine l_val (v_sleq rfl rfl) rfl ?_
    refine l_end ?_
    refine k_code ?_
    refine c_if rfl (fun p2 => ?_) (fun p2 => ?_)
    · skip
      refine c_region ?_
      refine l_val (v_move rfl) rfl ?_
      refine l_val (v_assign rfl) rfl ?_
      refine l_end ?_
      refine k_code ?_
      refine c_region ?_
      refine l_val (v_move rfl) rfl ?_
      refine l_val (v_add rfl rfl (by omega)) rfl ?_
      refine l_val (v_assign rfl) rfl ?_
      refine l_end ?_
      refine fun _ hFr => ⟨(i + 1), (by omega), ⟨hS, by omega⟩, Fr.sub hFr (kc (by rw [show clTo cs k (i + 1) = i from if_pos p2]; rfl) (kc rfl (kc rfl (kc rfl (kc rfl kn)))))⟩
    · skip
      refine c_skip ?_
      refine k_code ?_
      refine c_region ?_
      refine l_val (v_move rfl) rfl ?_
      refine l_val (v_add rfl rfl (by omega)) rfl ?_
      refine l_val (v_assign rfl) rfl ?_
      refine l_end ?_
      refine fun _ hFr => ⟨(i + 1), (by omega), ⟨hS, by omega⟩, Fr.sub hFr (kc (by rw [show clTo cs k (i + 1) = clTo cs k i from if_neg p2]; rfl) (kc rfl (kc rfl (kc rfl (kc rfl kn)))))⟩
  · skip
    refine c_exit ex_here ?_
    refine k_code ?_
    refine c_seq ?_
    refine c_region ?_
    refine l_val (v_move rfl) rfl ?_
    refine l_val (v_assign rfl) rfl ?_
    refine l_end ?_
    refine k_code ?_
    refine c_ret1 rfl rfl ?_
    exact ⟨ri (by rw [show i = cs.length by omega, clTo_eq hs]), hS.keep⟩
end Go.Proofs.Ytndchgmgcjebiaa
