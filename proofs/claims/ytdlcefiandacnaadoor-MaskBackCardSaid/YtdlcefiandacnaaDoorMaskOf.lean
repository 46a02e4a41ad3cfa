/- The walks of mask.Of and of the document's, of any slice of numbers; of the comparison of branches. -/
import Derived.Test.YtdlcefiandacnaaDoorMaskRef
namespace Go.Proofs.YtdlcefiandacnaaDoor
open Go Go.RowKit E MM
set_option maxRecDepth 100000
set_option linter.unusedVariables false
set_option linter.unusedSimpArgs false

/-- The numbers that lie in a slice. -/
def IntsAt (w : World) (A : Option Addr) (l : List Int) : Prop :=
  l = [] ∨ ∃ ad, A = some ad ∧ ∀ i x, l[i]? = some x → w.cell? (ad.add i) = some (.int .i64 x)
theorem IntsAt.get {w : World} {A : Option Addr} {l : List Int} (h : IntsAt w A l) {k : Nat} (hk : k < l.length) :
    ∃ ad, A = some ad ∧ w.cell? (ad.add ((((k : Nat) : Int).toNat) * 1)) = some (.int .i64 (l.getD k 0)) := by
  rcases h with rfl | ⟨ad, hA, hc⟩
  · simp at hk
  · exact ⟨ad, hA, by rw [Int.toNat_natCast, Nat.mul_one]; exact hc k _ (by simp [List.getD, hk])⟩
theorem IntsAt.keep {w w' : World} {A : Option Addr} {l : List Int} (h : IntsAt w A l) (hk : Keep No w w') : IntsAt w' A l :=
  h.imp id fun ⟨ad, hA, hc⟩ => ⟨ad, hA, fun i x hi => hk.cellN (hc i x hi)⟩
theorem IntsAt.take {w : World} {A : Option Addr} {l : List Int} (h : IntsAt w A l) (m : Nat) : IntsAt w A (l.take m) := by
  rcases h with rfl | ⟨ad, hA, hc⟩
  · exact Or.inl (by simp)
  · refine Or.inr ⟨ad, hA, fun i x hi => hc i x ?_⟩
    rw [List.getElem?_take] at hi
    split at hi
    · exact hi
    · cases hi

theorem of_stepA {a : List Int} {x : Int} (h0 : 0 ≤ x) (h1 : x < 16) : bits .or .u16 ((ofL a : Nat) : Int) (IntKind.u16.wrap (1 * 2 ^ min x.toNat IntKind.u16.bits)) = ((ofL (a ++ [x]) : Nat) : Int) := by
  rw [show min x.toNat IntKind.u16.bits = x.toNat from Nat.min_eq_left (by show x.toNat ≤ 16; omega), Int.one_mul, u16_or_pow _ _ (ofL_lt a) h0 h1, ofL_snoc, if_pos ⟨h0, h1⟩]
theorem of_stepB {a : List Int} {x : Int} (h : ¬ (0 ≤ x ∧ x < 16)) : ((ofL a : Nat) : Int) = ((ofL (a ++ [x]) : Nat) : Int) := by rw [ofL_snoc, if_neg h]

theorem of_all (l : List Int) (A : Option Addr) (c : Nat) (w0 : World) (hl : l.length ≤ 4611686018427387904) (hi : IntsAt w0 A l) :
    Calls Tryd.prog 18 [.slice A l.length c].toArray w0 fun e w' => e = .returned (.int .u16 (ofL l)) ∧ Keep No w0 w' := by
  refine enter (n := 24) Tryd.func18 rfl rfl rfl ?_
  have hS := St.start No w0
  refine c_seq ?_
  refine c_region ?_
  refine l_val (v_assign rfl) rfl ?_
  refine l_end ?_
  refine k_code ?_
  refine c_seq ?_
  refine c_region ?_
  refine l_val (v_assign rfl) rfl ?_
  refine l_end ?_
  refine k_code ?_
  refine c_seq ?_
  refine c_seq ?_
  refine c_region ?_
  refine l_val (v_move rfl) rfl ?_
  refine l_val (v_len Tryd.underlying57 rfl) rfl ?_
  refine l_val (v_move rfl) rfl ?_
  refine l_end ?_
  refine k_code ?_
  refine c_block ?_
  refine c_loopV [(2, _), (6, _), (7, _)] (fun (k : Nat) => [(3, .int .u16 (ofL (l.take k))), (8, .int .i64 k)]) (fun (k : Nat) w => St No w0 w _ ∧ k ≤ l.length) (fun (k : Nat) => l.length - k) (0 : Nat) ⟨hS, Nat.zero_le _⟩ (kc rfl (kc rfl (kc rfl (kc rfl (kc rfl kn))))) (fun k w hI => ?_)
  obtain ⟨hS, hI⟩ := hI
  refine c_seq ?_
  refine c_region ?_
  refine l_val (v_lss rfl rfl) rfl ?_
  refine l_end ?_
  refine k_code ?_
  refine c_seq ?_
  refine c_if rfl (fun p1 => ?_) (fun p1 => ?_)
  · skip
    obtain ⟨ad, hA, hcell⟩ := hi.get (k := k) (by omega)
    have hs := take_snocI l k (by omega)
    generalize l.getD k 0 = x at hcell hs
    refine c_skip ?_
    refine k_code ?_
    refine c_seq ?_
    refine c_block ?_
    refine c_seq ?_
    refine c_region ?_
    refine l_val (v_indexAddrO hA Tryd.underlying57 ty3.size rfl rfl (by omega) (by omega)) rfl ?_
    refine l_val (v_load ty3 rfl (here (hS.old hcell))) rfl ?_
    refine l_val (v_assign rfl) rfl ?_
    refine l_end ?_
    refine k_code ?_
    refine c_seq ?_
    refine c_region ?_
    refine l_val (v_move rfl) rfl ?_
    refine l_val (v_geq rfl rfl) rfl ?_
    refine l_val (v_move rfl) rfl ?_
    refine l_part 14 rfl (fun p2 => ?_) (fun p2 => ?_)
    · skip
      refine l_on rfl rfl rfl ?_
      refine l_val (v_move rfl) rfl ?_
      refine l_on rfl rfl rfl ?_
      refine l_val (v_lss rfl rfl) rfl ?_
      refine l_val (v_pickT rfl rfl) rfl ?_
      refine l_end ?_
      refine k_code ?_
      refine c_if rfl (fun p3 => ?_) (fun p3 => ?_)
      · skip
        refine c_region ?_
        refine l_val (v_move rfl) rfl ?_
        refine l_val (v_move rfl) rfl ?_
        refine l_val (v_shl rfl rfl (by omega)) rfl ?_
        refine l_val (v_int rfl rfl rfl) rfl ?_
        refine l_val (v_assign rfl) rfl ?_
        refine l_end ?_
        refine k_code ?_
        refine c_region ?_
        refine l_val (v_add rfl rfl (by omega)) rfl ?_
        refine l_val (v_move rfl) rfl ?_
        refine l_end ?_
        refine fun _ hFr => ⟨(k + 1), (by omega), ⟨hS, by omega⟩, Fr.sub hFr (kc (congrArg (fun z => some (Value.int .u16 z)) ((of_stepA (a := l.take k) (x := x) (by omega) (by omega)).trans (by rw [hs]))) (kc rfl (kc rfl (kc rfl (kc rfl kn)))))⟩
      · skip
        refine c_skip ?_
        refine k_code ?_
        refine c_region ?_
        refine l_val (v_add rfl rfl (by omega)) rfl ?_
        refine l_val (v_move rfl) rfl ?_
        refine l_end ?_
        refine fun _ hFr => ⟨(k + 1), (by omega), ⟨hS, by omega⟩, Fr.sub hFr (kc (congrArg (fun z => some (Value.int .u16 z)) ((of_stepB (a := l.take k) (x := x) (by omega)).trans (by rw [hs]))) (kc rfl (kc rfl (kc rfl (kc rfl kn)))))⟩
    · skip
      refine l_skip rfl rfl rfl rfl rfl ?_
      refine l_skip rfl rfl rfl rfl rfl ?_
      refine l_val (v_pickF rfl rfl) rfl ?_
      refine l_end ?_
      refine k_code ?_
      refine c_no rfl ?_
      refine c_skip ?_
      refine k_code ?_
      refine c_region ?_
      refine l_val (v_add rfl rfl (by omega)) rfl ?_
      refine l_val (v_move rfl) rfl ?_
      refine l_end ?_
      refine fun _ hFr => ⟨(k + 1), (by omega), ⟨hS, by omega⟩, Fr.sub hFr (kc (congrArg (fun z => some (Value.int .u16 z)) ((of_stepB (a := l.take k) (x := x) (by omega)).trans (by rw [hs]))) (kc rfl (kc rfl (kc rfl (kc rfl kn)))))⟩
  · skip
    refine c_exit ex_here ?_
    refine k_code ?_
    refine c_seq ?_
    refine c_region ?_
    refine l_val (v_move rfl) rfl ?_
    refine l_val (v_assign rfl) rfl ?_
    refine l_end ?_
    refine k_code ?_
    refine c_ret1 rfl rfl ?_
    exact ⟨by rw [show l.take k = l from List.take_of_length_le (by omega)], hS.keep⟩

theorem rof_stepA {a : List Int} {x : Int} (h0 : 0 ≤ x) (h1 : x < 16) : bits .or .u16 ((ofL a : Nat) : Int) (IntKind.u16.wrap (1 * 2 ^ min (IntKind.u64.wrap x).toNat IntKind.u16.bits)) = ((ofL (a ++ [x]) : Nat) : Int) := by
  rw [show IntKind.u64.wrap x = x by simp [IntKind.wrap, IntKind.bits, IntKind.signed]; omega]
  exact of_stepA h0 h1


end Go.Proofs.YtdlcefiandacnaaDoor
