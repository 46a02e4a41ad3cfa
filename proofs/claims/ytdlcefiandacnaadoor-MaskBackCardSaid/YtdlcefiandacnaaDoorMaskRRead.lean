/- The walks of the document's Read, and of Same. -/
import Derived.Test.YtdlcefiandacnaaDoorMaskRead
namespace Go.Proofs.YtdlcefiandacnaaDoor
open Go Go.RowKit E MM
set_option maxRecDepth 100000
set_option linter.unusedVariables false
set_option linter.unusedSimpArgs false

theorem raw_word (s : ByteArray) (i j : Nat) (hi : i < s.size) (hj : j < s.size) (e : j = i + 1) :
    wordI s i = IntKind.u16.wrap (IntKind.u16.wrap (IntKind.u16.wrap ((s[i]'hi).toNat : Int) * 256) + IntKind.u16.wrap ((s[j]'hj).toNat : Int)) := by
  subst e
  have h1 := (s[i]'hi).toNat_lt
  have h2 := (s[i + 1]'hj).toNat_lt
  simp only [Nat.reducePow] at h1 h2
  rw [wrap16 (x := ((s[i]'hi).toNat : Int)) (by omega) (by omega), wrap16 (x := ((s[i + 1]'hj).toNat : Int)) (by omega) (by omega), wrap16 (x := ((s[i]'hi).toNat : Int) * 256) (by omega) (by omega), wrap16 (by omega) (by omega)]
  unfold wordI
  rw [← byte_getD s i hi, ← byte_getD s (i + 1) hj]
  omega

/-- An array that is filled from the front. -/
def arr (x : List UInt8) (j : Nat) : Array Value := ((x.take j ++ List.replicate (32 - j) 0).map B).toArray
theorem arr_size {x : List UInt8} {j : Nat} (hx : x.length = 32) (hj : j ≤ 32) : (arr x j).size = 32 := by simp [arr, hx]; omega
theorem arr_full {x : List UInt8} (hx : x.length = 32) : arr x 32 = (x.map B).toArray := by unfold arr; rw [List.take_of_length_le (by omega)]; simp
theorem arr_step {x : List UInt8} {j : Nat} (hx : x.length = 32) (hj : j < 32) : (arr x j).setIfInBounds (((j : Nat) : Int).toNat * 1) (B (x.getD j 0)) = arr x (j + 1) := by
  rw [Int.toNat_natCast, Nat.mul_one]
  apply Array.ext'
  unfold arr
  rw [Array.toList_setIfInBounds]
  apply List.ext_getElem?
  intro i
  rw [List.getElem?_set]
  simp only [List.getElem?_map, List.getElem?_append, List.length_take, hx, Nat.min_eq_left (Nat.le_of_lt hj), Nat.min_eq_left hj, List.length_map, List.length_append, List.length_replicate]
  by_cases e : j = i
  · subst e
    simp [hj, List.getD, hx]
    omega
  · rw [if_neg e]
    congr 1
    by_cases h1 : i < j
    · simp [h1, show i < j + 1 by omega]
    · have h2 : ¬ i < j + 1 := by omega
      rw [if_neg h1, if_neg h2]
      simp only [List.getElem?_replicate]
      by_cases h3 : i - j < 32 - j
      · rw [if_pos h3, if_pos (by omega)]
      · rw [if_neg h3, if_neg (by omega)]
theorem chunkAt_get {s : ByteArray} {k j : Nat} (hj : j < 32) {q : Nat} (hq : q < s.size) (e : q = 6 + 32 * k + j) : s[q] = (chunkAt s.data.toList k).getD j 0 := by
  subst e
  rw [byte_getD]
  unfold chunkAt
  simp only [List.getD]
  rw [List.getElem?_take, if_pos hj, List.getElem?_drop]


theorem take_eq_step {α : Type} {a b : List α} {k : Nat} {x y : α} (h : a.take k = b.take k) (ha : a[k]? = some x) (hb : b[k]? = some y) (e : x = y) : a.take (k + 1) = b.take (k + 1) := by
  subst e
  rw [List.take_add_one, List.take_add_one, h, ha, hb]
theorem HsAt.get2 {w : World} {A : Option Addr} {hs : List (List UInt8)} (h : HsAt w A hs) {k : Nat} (hk : k < hs.length) :
    ∃ ad x, A = some ad ∧ hs[k]? = some x ∧ x.length = 32 ∧ ∀ j v, (x.map B)[j]? = some v → w.cell? ((ad.add ((((k : Nat) : Int).toNat) * 32)).add j) = some v := by
  obtain ⟨ad, x, h1, h2, h3, -, h4⟩ := h.get hk
  exact ⟨ad, x, h1, h2, h3, h4⟩

set_option maxHeartbeats 1000000 in
theorem same_any (st tr ha st' tr' ha' : Int) (A A' : Option Addr) (hs hs' : List (List UInt8)) (c c' : Nat) (w0 : World) (hh : HsAt w0 A hs) (hh' : HsAt w0 A' hs') (hn : hs.length ≤ 4611686018427387904) (hn' : hs'.length ≤ 4611686018427387904) :
    Calls Tryd.prog 10 [.agg #[.int .u16 st, .int .u16 tr, .int .u16 ha, .slice A hs.length c], .agg #[.int .u16 st', .int .u16 tr', .int .u16 ha', .slice A' hs'.length c']].toArray w0 fun e w' =>
      e = .returned (.bool (decide (st = st' ∧ tr = tr' ∧ ha = ha' ∧ hs = hs'))) ∧ Keep No w0 w' := by
  refine enter (n := 52) Tryd.func10 rfl rfl rfl ?_
  have hS := St.start No w0
  refine c_seq ?_
  refine c_region ?_
  refine l_box hS rfl rfl rfl (fun b1 w hS => ?_)
  refine l_box hS rfl rfl rfl (fun b2 w hS => ?_)
  refine l_val (v_assign rfl) rfl ?_
  refine l_end ?_
  refine k_code ?_
  refine c_seq ?_
  refine c_seq ?_
  refine c_region ?_
  refine l_val (v_fieldAddr field25_0 rfl) rfl ?_
  refine l_val (v_load ty22 rfl (here (hS.cell 1 rfl rfl))) rfl ?_
  refine l_val (v_fieldAddr field25_0 rfl) rfl ?_
  refine l_val (v_load ty22 rfl (here (hS.cell 0 rfl rfl))) rfl ?_
  refine l_val (v_neq rfl rfl) rfl ?_
  refine l_val (v_move rfl) rfl ?_
  refine l_part 11 rfl (fun p1 => ?_) (fun p1 => ?_)
  · skip
    refine l_skip rfl rfl rfl rfl rfl ?_
    refine l_skip rfl rfl rfl rfl rfl ?_
    refine l_skip rfl rfl rfl rfl rfl ?_
    refine l_skip rfl rfl rfl rfl rfl ?_
    refine l_skip rfl rfl rfl rfl rfl ?_
    refine l_val (v_pickT rfl rfl) rfl ?_
    refine l_val (v_move rfl) rfl ?_
    refine l_skip rfl rfl rfl rfl rfl ?_
    refine l_skip rfl rfl rfl rfl rfl ?_
    refine l_skip rfl rfl rfl rfl rfl ?_
    refine l_skip rfl rfl rfl rfl rfl ?_
    refine l_skip rfl rfl rfl rfl rfl ?_
    refine l_val (v_pickT rfl rfl) rfl ?_
    refine l_val (v_move rfl) rfl ?_
    refine l_skip rfl rfl rfl rfl rfl ?_
    refine l_skip rfl rfl rfl rfl rfl ?_
    refine l_skip rfl rfl rfl rfl rfl ?_
    refine l_skip rfl rfl rfl rfl rfl ?_
    refine l_skip rfl rfl rfl rfl rfl ?_
    refine l_skip rfl rfl rfl rfl rfl ?_
    refine l_skip rfl rfl rfl rfl rfl ?_
    refine l_val (v_pickT rfl rfl) rfl ?_
    refine l_end ?_
    refine k_code ?_
    refine c_yes rfl ?_
    refine c_seq ?_
    refine c_region ?_
    refine l_val (v_assign rfl) rfl ?_
    refine l_end ?_
    refine k_code ?_
    refine c_ret1 rfl rfl ?_
    exact ⟨by rw [decide_eq_false (fun h => p1 h.1)], hS.keep⟩
  · skip
    refine l_on rfl rfl rfl ?_
    refine l_val (v_fieldAddr field25_1 rfl) rfl ?_
    refine l_on rfl rfl rfl ?_
    refine l_val (v_load ty22 rfl (here (hS.cell 1 rfl rfl))) rfl ?_
    refine l_on rfl rfl rfl ?_
    refine l_val (v_fieldAddr field25_1 rfl) rfl ?_
    refine l_on rfl rfl rfl ?_
    refine l_val (v_load ty22 rfl (here (hS.cell 0 rfl rfl))) rfl ?_
    refine l_on rfl rfl rfl ?_
    refine l_val (v_neq rfl rfl) rfl ?_
    refine l_val (v_pickF rfl rfl) rfl ?_
    refine l_val (v_move rfl) rfl ?_
    refine l_part 18 rfl (fun p2 => ?_) (fun p2 => ?_)
    · skip
      refine l_skip rfl rfl rfl rfl rfl ?_
      refine l_skip rfl rfl rfl rfl rfl ?_
      refine l_skip rfl rfl rfl rfl rfl ?_
      refine l_skip rfl rfl rfl rfl rfl ?_
      refine l_skip rfl rfl rfl rfl rfl ?_
      refine l_val (v_pickT rfl rfl) rfl ?_
      refine l_val (v_move rfl) rfl ?_
      refine l_skip rfl rfl rfl rfl rfl ?_
      refine l_skip rfl rfl rfl rfl rfl ?_
      refine l_skip rfl rfl rfl rfl rfl ?_
      refine l_skip rfl rfl rfl rfl rfl ?_
      refine l_skip rfl rfl rfl rfl rfl ?_
      refine l_skip rfl rfl rfl rfl rfl ?_
      refine l_skip rfl rfl rfl rfl rfl ?_
      refine l_val (v_pickT rfl rfl) rfl ?_
      refine l_end ?_
      refine k_code ?_
      refine c_yes rfl ?_
      refine c_seq ?_
      refine c_region ?_
      refine l_val (v_assign rfl) rfl ?_
      refine l_end ?_
      refine k_code ?_
      refine c_ret1 rfl rfl ?_
      exact ⟨by rw [decide_eq_false (fun h => p2 h.2.1)], hS.keep⟩
    · skip
      refine l_on rfl rfl rfl ?_
      refine l_val (v_fieldAddr field25_2 rfl) rfl ?_
      refine l_on rfl rfl rfl ?_
      refine l_val (v_load ty22 rfl (here (hS.cell 1 rfl rfl))) rfl ?_
      refine l_on rfl rfl rfl ?_
      refine l_val (v_fieldAddr field25_2 rfl) rfl ?_
      refine l_on rfl rfl rfl ?_
      refine l_val (v_load ty22 rfl (here (hS.cell 0 rfl rfl))) rfl ?_
      refine l_on rfl rfl rfl ?_
      refine l_val (v_neq rfl rfl) rfl ?_
      refine l_val (v_pickF rfl rfl) rfl ?_
      refine l_val (v_move rfl) rfl ?_
      refine l_part 25 rfl (fun p3 => ?_) (fun p3 => ?_)
      · skip
        refine l_skip rfl rfl rfl rfl rfl ?_
        refine l_skip rfl rfl rfl rfl rfl ?_
        refine l_skip rfl rfl rfl rfl rfl ?_
        refine l_skip rfl rfl rfl rfl rfl ?_
        refine l_skip rfl rfl rfl rfl rfl ?_
        refine l_skip rfl rfl rfl rfl rfl ?_
        refine l_skip rfl rfl rfl rfl rfl ?_
        refine l_val (v_pickT rfl rfl) rfl ?_
        refine l_end ?_
        refine k_code ?_
        refine c_yes rfl ?_
        refine c_seq ?_
        refine c_region ?_
        refine l_val (v_assign rfl) rfl ?_
        refine l_end ?_
        refine k_code ?_
        refine c_ret1 rfl rfl ?_
        exact ⟨by rw [decide_eq_false (fun h => p3 h.2.2.1)], hS.keep⟩
      · skip
        refine l_on rfl rfl rfl ?_
        refine l_val (v_fieldAddr field25_3 rfl) rfl ?_
        refine l_on rfl rfl rfl ?_
        refine l_val (v_load ty23 rfl (here (hS.cell 1 rfl rfl))) rfl ?_
        refine l_on rfl rfl rfl ?_
        refine l_val (v_len Tryd.underlying23 rfl) rfl ?_
        refine l_on rfl rfl rfl ?_
        refine l_val (v_fieldAddr field25_3 rfl) rfl ?_
        refine l_on rfl rfl rfl ?_
        refine l_val (v_load ty23 rfl (here (hS.cell 0 rfl rfl))) rfl ?_
        refine l_on rfl rfl rfl ?_
        refine l_val (v_len Tryd.underlying23 rfl) rfl ?_
        refine l_on rfl rfl rfl ?_
        refine l_val (v_neq rfl rfl) rfl ?_
        refine l_val (v_pickF rfl rfl) rfl ?_
        refine l_end ?_
        refine k_code ?_
        refine c_if rfl (fun p4 => ?_) (fun p4 => ?_)
        · skip
          refine c_seq ?_
          refine c_region ?_
          refine l_val (v_assign rfl) rfl ?_
          refine l_end ?_
          refine k_code ?_
          refine c_ret1 rfl rfl ?_
          exact ⟨by rw [decide_eq_false (fun h => p4 (by rw [h.2.2.2]))], hS.keep⟩
        · skip
          refine c_skip ?_
          refine k_code ?_
          refine c_seq ?_
          refine c_seq ?_
          refine c_region ?_
          refine l_val (v_assign rfl) rfl ?_
          refine l_end ?_
          refine k_code ?_
          refine c_block ?_
          refine c_loopV [(2, _), (3, _)] (fun (k : Nat) => [(5, .int .i64 k)]) (fun (k : Nat) w => St No w0 w _ ∧ (k ≤ hs.length ∧ hs.take k = hs'.take k)) (fun (k : Nat) => hs.length - k) (0 : Nat) ⟨hS, ⟨Nat.zero_le _, rfl⟩⟩ (kc rfl (kc rfl (kc rfl kn))) (fun k w hI => ?_)
          obtain ⟨hS, ⟨hk, htk⟩⟩ := hI
          refine c_seq ?_
          refine c_seq ?_
          refine c_region ?_
          refine l_val (v_move rfl) rfl ?_
          refine l_val (v_fieldAddr field25_3 rfl) rfl ?_
          refine l_val (v_load ty23 rfl (here (hS.cell 1 rfl rfl))) rfl ?_
          refine l_val (v_len Tryd.underlying23 rfl) rfl ?_
          refine l_val (v_lss rfl rfl) rfl ?_
          refine l_end ?_
          refine k_code ?_
          refine c_if rfl (fun p5 => ?_) (fun p5 => ?_)
          · skip
            obtain ⟨ad, x, hA, ha, hx, hcell⟩ := hh.get2 (k := k) (by omega)
            obtain ⟨ad', y, hA', hb, hy, hcell'⟩ := hh'.get2 (k := k) (by omega)
            refine c_skip ?_
            refine k_code ?_
            refine c_seq ?_
            refine c_block ?_
            refine c_seq ?_
            refine q_region hS mixed (by kernel_rfl) ?_
            refine q_val (v_fieldAddr field25_3 rfl) rfl ?_
            refine q_val (v_load ty23 rfl (fun _ h => h.cell 1 rfl rfl)) rfl ?_
            refine q_val (v_move rfl) rfl ?_
            refine q_val (v_indexAddrO hA Tryd.underlying23 tyN30.size rfl rfl (by omega) (by omega)) rfl ?_
            refine q_val (v_loadN (cs := x.map B) tyN30 (by simp [hx]) rfl (fun _ h j v hj => h.old (hcell j v hj))) rfl ?_
            refine q_val (v_fieldAddr field25_3 rfl) rfl ?_
            refine q_val (v_load ty23 rfl (fun _ h => h.cell 0 rfl rfl)) rfl ?_
            refine q_val (v_move rfl) rfl ?_
            refine q_val (v_indexAddrO hA' Tryd.underlying23 tyN30.size rfl rfl (by omega) (by omega)) rfl ?_
            refine q_val (v_loadN (cs := y.map B) tyN30 (by simp [hy]) rfl (fun _ h j v hj => h.old (hcell' j v hj))) rfl ?_
            have eqg : Tryd.prog.eqGuardType Tryd.prog.depth 30 = false := by kernel_rfl
            refine q_val (v_aneq Tryd.underlying30 Tryd.underlying5 ty5 eqg rfl rfl hx hy) rfl ?_
            refine q_end (fun w hS => ?_)
            refine k_code ?_
            refine c_if rfl (fun p6 => ?_) (fun p6 => ?_)
            · skip
              refine c_seq ?_
              refine c_region ?_
              refine l_val (v_assign rfl) rfl ?_
              refine l_end ?_
              refine k_code ?_
              refine c_ret1 rfl rfl ?_
              exact ⟨by rw [decide_eq_false (fun h => p6 (by have e := h.2.2.2; rw [e, hb] at ha; exact (Option.some.inj ha).symm))], hS.keep⟩
            · skip
              refine c_skip ?_
              refine k_code ?_
              refine c_region ?_
              refine l_val (v_move rfl) rfl ?_
              refine l_val (v_add rfl rfl (by omega)) rfl ?_
              refine l_val (v_assign rfl) rfl ?_
              refine l_end ?_
              refine fun _ hFr => ⟨(k + 1), (by omega), ⟨hS, ⟨by omega, take_eq_step htk ha hb (Decidable.not_not.1 p6)⟩⟩, Fr.sub hFr (kc rfl (kc rfl (kc rfl kn)))⟩
          · skip
            refine c_exit ex_here ?_
            refine k_code ?_
            refine c_seq ?_
            refine c_region ?_
            refine l_val (v_assign rfl) rfl ?_
            refine l_end ?_
            refine k_code ?_
            refine c_ret1 rfl rfl ?_
            exact ⟨by rw [decide_eq_true ⟨Decidable.not_not.1 p1, Decidable.not_not.1 p2, Decidable.not_not.1 p3, by rw [List.take_of_length_le (by omega), List.take_of_length_le (by omega)] at htk; exact htk⟩], hS.keep⟩

end Go.Proofs.YtdlcefiandacnaaDoor
