/- The walk of made: a node of raw cells. -/
import Derived.Test.YtndchgmgcjebiaaNodeAwake
namespace Go.Proofs.Ytndchgmgcjebiaa
open Go Go.RowKit E
set_option maxRecDepth 100000
set_option linter.unusedVariables false
set_option linter.unusedSimpArgs false

/-! ### What is good is in order -/
section
variable {leaf : Bool} {cs : List Cel}
theorem okAt_iff {i : Nat} : okAt leaf cs i = true ↔ mayS leaf (cAt cs i) = true ∧ (i = 0 ∨ slt (cAt cs (i - 1)).key (cAt cs i).key) := by
  unfold okAt; simp only [Bool.and_eq_true, Bool.or_eq_true, decide_eq_true_eq]
theorem Good.sorted (h : Good leaf cs) : Sorted cs := by
  intro i j hij hj
  induction j with
  | zero => omega
  | succ j ih =>
    have h1 := (okAt_iff.1 (h (j + 1) hj)).2.resolve_left (by omega)
    rw [Nat.add_sub_cancel] at h1
    by_cases e : i = j
    · subst e; exact h1
    · exact slt_trans (ih (by omega) (by omega)) h1
theorem Good.of (h1 : ∀ c ∈ cs, mayS leaf c = true) (h2 : Sorted cs) : Good leaf cs := fun i hi => okAt_iff.2 ⟨h1 _ (cAt_mem hi), by
  by_cases e : i = 0
  · exact Or.inl e
  · exact Or.inr (h2 _ _ (by omega) hi)⟩
theorem Good.nil : Good leaf [] := fun i hi => absurd hi (by simp)
theorem Good.one {c : Cel} (h : mayS leaf c = true) : Good leaf [c] := Good.of (fun x hx => by rw [List.mem_singleton.1 hx]; exact h) fun i j hij hj => by
  simp only [List.length_cons, List.length_nil] at hj; omega
theorem chk_one {c : Cel} : chkI leaf [c] = 0 ↔ mayS leaf c = true :=
  ⟨fun h => (good_of h).may c List.mem_cons_self, fun h => chk_of (Good.one h)⟩
end
section
variable {cs : List Cel} {x : Cel}
theorem cAt_take {cs : List Cel} {k i : Nat} (h : i < k) : cAt (cs.take k) i = cAt cs i := by
  unfold cAt; rw [List.getD, List.getElem?_take, if_pos h]; rfl
theorem cAt_drop {cs : List Cel} {k i : Nat} : cAt (cs.drop k) i = cAt cs (k + i) := by
  unfold cAt; rw [List.getD, List.getElem?_drop]; rfl
theorem put_len (cs : List Cel) (x : Cel) : (putS cs x).length = lbnd cs x.key + 1 + (cs.length - afterK cs x.key) := by
  have := lbnd_le cs x.key
  unfold putS; rw [List.length_append, List.length_append, List.length_take, List.length_drop, Nat.min_eq_left this]; rfl
theorem after_has (h : hasK cs x.key = true) : afterK cs x.key = lbnd cs x.key + 1 := by unfold afterK; rw [if_pos h]
theorem after_not (h : hasK cs x.key = false) : afterK cs x.key = lbnd cs x.key := by unfold afterK; rw [if_neg (by rw [h]; simp)]; rfl
theorem put_lo {i : Nat} (h : i < lbnd cs x.key) : cAt (putS cs x) i = cAt cs i := by
  have := lbnd_le cs x.key
  unfold putS cAt
  rw [List.getD, List.append_assoc, List.getElem?_append_left (by rw [List.length_take]; omega), List.getElem?_take, if_pos h]; rfl
theorem put_mid : cAt (putS cs x) (lbnd cs x.key) = x := by
  have := lbnd_le cs x.key
  unfold putS cAt
  rw [List.getD, List.append_assoc, List.getElem?_append_right (by rw [List.length_take]; omega), List.length_take, Nat.min_eq_left this, Nat.sub_self]; rfl
theorem put_hi {i : Nat} (h : lbnd cs x.key < i) : cAt (putS cs x) i = cAt cs (afterK cs x.key + (i - lbnd cs x.key - 1)) := by
  have := lbnd_le cs x.key
  unfold putS cAt
  rw [List.getD, List.append_assoc, List.getElem?_append_right (by rw [List.length_take]; omega), List.length_take, Nat.min_eq_left this, List.getElem?_append_right (by simp; omega), List.getElem?_drop]; rfl
theorem put_sorted (hs : Sorted cs) : Sorted (putS cs x) := by
  have hle := lbnd_le cs x.key
  have hal := afterK_le cs x.key
  -- what is behind the place is greater than the key
  have hi : ∀ m, afterK cs x.key ≤ m → m < cs.length → slt x.key (cAt cs m).key := by
    intro m hm hml
    cases hh : hasK cs x.key with
    | true =>
      have e := after_has hh
      have h2 := (hasK_iff.1 hh).2
      have := hs (lbnd cs x.key) m (by omega) hml
      rwa [h2] at this
    | false =>
      have e := after_not hh
      have hlt : lbnd cs x.key < cs.length := by omega
      have hne : ¬ (cAt cs (lbnd cs x.key)).key = x.key := fun h3 => by rw [hasK_iff.2 ⟨hlt, h3⟩] at hh; cases hh
      have h0 : slt x.key (cAt cs (lbnd cs x.key)).key := slt_of_not (lbnd_ge hlt) hne
      by_cases e2 : m = lbnd cs x.key
      · rw [e2]; exact h0
      · exact slt_trans h0 (hs _ _ (by omega) hml)
  intro i j hij hj
  rw [put_len] at hj
  rcases Nat.lt_trichotomy j (lbnd cs x.key) with h1 | h1 | h1
  · rw [put_lo (by omega), put_lo h1]; exact hs i j hij (by omega)
  · rw [h1, put_mid, put_lo (by omega)]; exact lbnd_lt (by omega)
  · rw [put_hi h1]
    have hb := hi (afterK cs x.key + (j - lbnd cs x.key - 1)) (by omega) (by omega)
    rcases Nat.lt_trichotomy i (lbnd cs x.key) with h2 | h2 | h2
    · rw [put_lo h2]; exact slt_trans (lbnd_lt h2) hb
    · rw [h2, put_mid]; exact hb
    · rw [put_hi h2]; exact hs _ _ (by omega) (by omega)
theorem put_mem {c : Cel} (h : c ∈ putS cs x) : c ∈ cs ∨ c = x := by
  unfold putS at h
  rcases List.mem_append.1 h with h | h
  · rcases List.mem_append.1 h with h | h
    · exact Or.inl (List.mem_of_mem_take h)
    · exact Or.inr (List.mem_singleton.1 h)
  · exact Or.inl (List.mem_of_mem_drop h)
theorem put_good {leaf : Bool} (h : Good leaf cs) (hx : mayS leaf x = true) : Good leaf (putS cs x) :=
  Good.of (fun c hc => (put_mem hc).elim (h.may c) (fun e => e ▸ hx)) (put_sorted h.sorted)
theorem put_le (cs : List Cel) (x : Cel) : (putS cs x).length ≤ cs.length + 1 := by
  have := lbnd_le cs x.key
  have : lbnd cs x.key ≤ afterK cs x.key := by unfold afterK; omega
  rw [put_len]; omega
end
theorem may_small {leaf : Bool} {c : Cel} (h : mayS leaf c = true) : c.key.size ≤ 128 ∧ c.val.size ≤ 200 := by
  refine ⟨may_key h, ?_⟩
  cases leaf with
  | false => rw [(may_inner h).2.2.1]; exact Nat.zero_le _
  | true =>
    by_cases hp : c.page = 0
    · exact (may_in h hp).1
    · rw [(may_out h hp).2.2.1]; exact Nat.zero_le _
theorem Good.smalls {leaf : Bool} {cs : List Cel} (h : Good leaf cs) (hn : cs.length ≤ 65536) : Smalls cs := ⟨hn, fun c hc => by have := may_small (h.may c hc); exact ⟨by omega, by omega⟩⟩
/-- The node that is made of so many raw cells. -/
def madeT (leaf : Bool) (xs : List Cel) : Nat → List Cel
  | 0 => []
  | k + 1 => if mayS leaf (cAt xs k) = true then putS (madeT leaf xs k) (cAt xs k) else madeT leaf xs k
def madeS (leaf : Bool) (xs : List Cel) : List Cel := madeT leaf xs (min xs.length 60)
section
variable {leaf : Bool} {xs : List Cel} {k : Nat}
theorem made_yes (h : mayS leaf (cAt xs k) = true) : madeT leaf xs (k + 1) = putS (madeT leaf xs k) (cAt xs k) := if_pos h
theorem made_no (h : ¬ mayS leaf (cAt xs k) = true) : madeT leaf xs (k + 1) = madeT leaf xs k := if_neg h
theorem madeT_good : ∀ k, Good leaf (madeT leaf xs k)
  | 0 => Good.nil
  | k + 1 => by
    by_cases h : mayS leaf (cAt xs k) = true
    · rw [made_yes h]; exact put_good (madeT_good k) h
    · rw [made_no h]; exact madeT_good k
theorem madeT_le : ∀ k, (madeT leaf xs k).length ≤ k
  | 0 => Nat.le_refl _
  | k + 1 => by
    have := madeT_le k
    by_cases h : mayS leaf (cAt xs k) = true
    · rw [made_yes h]; have := put_le (madeT leaf xs k) (cAt xs k); omega
    · rw [made_no h]; omega
theorem made_good : Good leaf (madeS leaf xs) := madeT_good _
theorem made_le : (madeS leaf xs).length ≤ 60 := Nat.le_trans (madeT_le _) (Nat.min_le_right _ _)
theorem made_smalls : Smalls (madeS leaf xs) := made_good.smalls (Nat.le_trans made_le (by omega))
theorem made_at (h : k = xs.length ∨ k = 60) (h1 : k ≤ xs.length) (h2 : k ≤ 60) : madeT leaf xs k = madeS leaf xs := by unfold madeS; congr 1; omega
end

theorem lies_nil {w : World} : Lies w none [] := Or.inl rfl
set_option maxHeartbeats 2000000 in
theorem made_any (leaf : Bool) (A0 : Option Addr) (xs : List Cel) (c0 : Nat) (w0 : World) (hl : Lies w0 A0 (cellsOf xs)) (hn : xs.length ≤ 9223372036854775807) :
    Calls Try.prog 20 [.bool leaf, .slice A0 xs.length c0].toArray w0 (GivesN w0 [] leaf (madeS leaf xs)) := by
  refine enter (n := 55) Try.func20 rfl rfl rfl ?_
  have hS := St.start No w0
  refine c_seq ?_
  refine c_region ?_
  refine l_alloc (cs := #[_, _]) hS zero24 rfl rfl (fun b1 w hS => ?_)
  refine l_end ?_
  refine k_code ?_
  refine c_seq ?_
  refine c_region ?_
  refine l_val (v_move rfl) rfl ?_
  refine l_val (v_build (cells := #[_, _]) zero24 places24 rfl rfl) rfl ?_
  refine l_alloc (cs := #[_, _]) hS zero24 rfl rfl (fun b2 w hS => ?_)
  refine l_storeNX (cs' := #[_, _]) (L' := (_ :: _)) 0 hS tyN24 rfl rfl rfl rfl rfl rfl rfl rfl (fun w hS => ?_)
  refine l_end ?_
  refine k_code ?_
  refine c_seq ?_
  refine c_seq ?_
  refine c_region ?_
  refine l_val (v_assign rfl) rfl ?_
  refine l_end ?_
  refine k_code ?_
  refine c_block ?_
  refine c_loopV [(0, _), (1, _), (4, _), (5, _)] (fun ((k, A, c) : Nat × Option Addr × Nat) => [(6, .int .i64 k)]) (fun ((k, A, c) : Nat × Option Addr × Nat) w => St No w0 w [.blk b2 (.cells #[.bool leaf, .slice A (madeT leaf xs k).length c] 24 (0, 0)), .lies A (cellsOf (madeT leaf xs k)), .blk b1 (.cells #[.bool false, .slice none 0 0] 24 (0, 0))] ∧ k ≤ xs.length ∧ k ≤ 60 ∧ (madeT leaf xs k).length ≤ c ∧ From w0 [] A (cellsOf (madeT leaf xs k))) (fun ((k, A, c) : Nat × Option Addr × Nat) => xs.length - k) ((0 : Nat), none, 0) ⟨((hS.gainOld lies_nil (fun _ _ h => h)).arr [1, 0, 2]), ⟨Nat.zero_le _, Nat.zero_le _, Nat.le_refl _, fun b hb => absurd rfl hb.1⟩⟩ (kc rfl (kc rfl (kc rfl (kc rfl (kc rfl kn))))) (fun xx w hI => ?_)
  obtain ⟨k, A, c⟩ := xx
  obtain ⟨hS, ⟨hk, hk2, hkc, hfr⟩⟩ := hI
  have hgood := madeT_good (leaf := leaf) (xs := xs) k; have hlen := madeT_le (leaf := leaf) (xs := xs) k
  refine c_seq ?_
  refine c_seq ?_
  refine c_region ?_
  refine l_val (v_move rfl) rfl ?_
  refine l_val (v_move rfl) rfl ?_
  refine l_val (v_len Try.underlying22 rfl) rfl ?_
  refine l_val (v_lss rfl rfl) rfl ?_
  refine l_val (v_move rfl) rfl ?_
  refine l_part 14 rfl (fun p1 => ?_) (fun p1 => ?_)
  · skip
    refine l_on rfl rfl rfl ?_
    refine l_val (v_move rfl) rfl ?_
    refine l_on rfl rfl rfl ?_
    refine l_val (v_lss rfl rfl) rfl ?_
    refine l_val (v_pickT rfl rfl) rfl ?_
    refine l_end ?_
    refine k_code ?_
    refine c_if rfl (fun p2 => ?_) (fun p2 => ?_)
    · skip
      obtain ⟨ad, hA, hcell⟩ := cell_k hl (k := k) (by omega)
      refine c_skip ?_
      refine k_code ?_
      refine c_seq ?_
      refine c_block ?_
      refine c_seq ?_
      refine c_region ?_
      refine l_val (v_move rfl) rfl ?_
      refine l_val (v_move rfl) rfl ?_
      refine l_val (v_move rfl) rfl ?_
      refine l_val (v_indexAddrO hA Try.underlying22 tyN27.size rfl rfl (by omega) (by omega)) rfl ?_
      refine l_val (v_loadN (cs := enc (cAt xs k)) tyN27 rfl rfl (hereN (fun j v hj => hS.old (hcell j v hj)))) rfl ?_
      refine l_slice1 (bytes := 0) hS Try.underlying22 tyN27.size zero27 rfl (by decide) (by decide) rfl rfl rfl rfl (fun b3 w hS => ?_)
      refine l_val (v_build (cells := #[_, _]) zero24 places24 rfl rfl) rfl ?_
      refine l_alloc (cs := #[_, _]) hS zero24 rfl rfl (fun b4 w hS => ?_)
      refine l_storeNX (cs' := #[_, _]) (L' := (_ :: _)) 0 hS tyN24 rfl rfl rfl rfl rfl rfl rfl rfl (fun w hS => ?_)
      refine l_end ?_
      refine k_code ?_
      refine c_seq ?_
      refine c_region ?_
      refine l_val (v_move rfl) rfl ?_
      refine l_val (v_move rfl) rfl ?_
      refine l_val (v_indexAddrO hA Try.underlying22 tyN27.size rfl rfl (by omega) (by omega)) rfl ?_
      refine l_val (v_fieldAddr field27_0 rfl) rfl ?_
      refine l_val (v_load (v := .string (cAt xs k).key) ty9 rfl (here (hS.old (hcell 0 _ rfl)))) rfl ?_
      refine l_val (v_lenS Try.underlying9 rfl) rfl ?_
      refine l_val (v_leq rfl rfl) rfl ?_
      refine l_val (v_move rfl) rfl ?_
      refine l_part 34 rfl (fun p3 => ?_) (fun p3 => ?_)
      · skip
        refine l_on rfl rfl rfl ?_
        refine l_val (v_move rfl) rfl ?_
        refine l_on rfl rfl rfl ?_
        refine l_val (v_move rfl) rfl ?_
        refine l_on rfl rfl rfl ?_
        refine l_val (v_indexAddrO hA Try.underlying22 tyN27.size rfl rfl (by omega) (by omega)) rfl ?_
        refine l_on rfl rfl rfl ?_
        refine l_val (v_fieldAddr field27_1 rfl) rfl ?_
        refine l_on rfl rfl rfl ?_
        refine l_val (v_load (v := .string (cAt xs k).val) ty9 rfl (here (hS.old (hcell 1 _ rfl)))) rfl ?_
        refine l_on rfl rfl rfl ?_
        refine l_val (v_lenS Try.underlying9 rfl) rfl ?_
        refine l_on rfl rfl rfl ?_
        refine l_val (v_leq rfl rfl) rfl ?_
        refine l_val (v_pickT rfl rfl) rfl ?_
        refine l_val (v_move rfl) rfl ?_
        refine l_part 43 rfl (fun p4 => ?_) (fun p4 => ?_)
        · skip
          refine l_on rfl rfl rfl ?_
          refine l_val (v_loadW tyN24 rfl rfl (hereN (hS.rowX 0 rfl))) rfl ?_
          refine l_on rfl rfl rfl ?_
          refine l_callK goes13 rfl hS (rcheck_any leaf _ [cAt xs k] 1 _ ((hS.freezeB 1 rfl).lies 1 rfl) (by simp)) rfl (fun w hS => ?_)
          refine l_on rfl rfl rfl ?_
          refine l_val (v_eql rfl rfl) rfl ?_
          refine l_val (v_pickT rfl rfl) rfl ?_
          refine l_end ?_
          refine k_code ?_
          refine c_if rfl (fun p5 => ?_) (fun p5 => ?_)
          · skip
            refine d_region (fun w => St No w0 w [.blk b2 (.cells #[.bool leaf, .slice A (madeT leaf xs k).length c] 24 (0, 0))]) 6 mixed ?_
            have hS := hS.drew 1
            have hR : St No w0 _ [.blk b2 (.cells #[.bool leaf, .slice A (madeT leaf xs k).length c] 24 (0, 0))] := hS.less (.cons _ (.cons _ (.cons_cons _ (.cons _ (.cons _ (.slnil))))))
            refine d_take 0 rfl (by kernel_rfl) (by kernel_rfl) (by kernel_rfl) (by kernel_rfl) hR (v_loadW tyN24 rfl rfl (fun _ h => h.rowX 0 rfl)) rfl ?_
            refine d_take 1 rfl (by kernel_rfl) (by kernel_rfl) (by kernel_rfl) (by kernel_rfl) hR (v_move rfl) rfl ?_
            refine d_one 2 rfl (by kernel_rfl) ?_
            refine l_val (v_move rfl) rfl ?_
            refine l_end ?_
            have hR : St No w0 _ [.blk b2 (.cells #[.bool leaf, .slice A (madeT leaf xs k).length c] 24 (0, 0))] := hS.less (.cons _ (.cons _ (.cons_cons _ (.cons _ (.cons _ (.slnil))))))
            refine d_on (S := (fun w => St No w0 w [.blk b2 (.cells #[.bool leaf, .slice A (madeT leaf xs k).length c] 24 (0, 0))])) hR ?_
            refine d_one 3 rfl (by kernel_rfl) ?_
            refine l_val (v_indexAddrO hA Try.underlying22 tyN27.size rfl rfl (by omega) (by omega)) rfl ?_
            refine l_end ?_
            have hR : St No w0 _ [.blk b2 (.cells #[.bool leaf, .slice A (madeT leaf xs k).length c] 24 (0, 0))] := hS.less (.cons _ (.cons _ (.cons_cons _ (.cons _ (.cons _ (.slnil))))))
            refine d_on (S := (fun w => St No w0 w [.blk b2 (.cells #[.bool leaf, .slice A (madeT leaf xs k).length c] 24 (0, 0))])) hR ?_
            refine d_one 4 rfl (by kernel_rfl) ?_
            refine l_val (v_loadN (cs := enc (cAt xs k)) tyN27 rfl rfl (hereN (fun j v hj => hS.old (hcell j v hj)))) rfl ?_
            refine l_end ?_
            have hR : St No w0 _ [.blk b2 (.cells #[.bool leaf, .slice A (madeT leaf xs k).length c] 24 (0, 0))] := hS.less (.cons _ (.cons _ (.cons_cons _ (.cons _ (.cons _ (.slnil))))))
            refine d_on (S := (fun w => St No w0 w [.blk b2 (.cells #[.bool leaf, .slice A (madeT leaf xs k).length c] 24 (0, 0))])) hR ?_
            refine d_one 5 rfl (by kernel_rfl) ?_
            refine l_call goes28 rfl (rput_any leaf A (madeT leaf xs k) c (cAt xs k) _ (hS.lies 3 rfl) hkc (by omega) []) rfl (fun e w hB => ?_)
            obtain ⟨A2, c2, rfl, hc2, hl2, hk2', hf2⟩ := hB
            have hf3 := hf2.older hS.keep
            have hS := hS.gain hk2' hl2 hf2 (fun _ h => absurd h List.not_mem_nil)
            refine ⟨_, rfl, ?_⟩
            refine l_end ?_
            have hR : St No w0 _ [.blk b2 (.cells #[.bool leaf, .slice A (madeT leaf xs k).length c] 24 (0, 0))] := hS.less (.cons _ (.cons _ (.cons _ (.cons_cons _ (.cons _ (.cons _ (.slnil)))))))
            refine d_on (S := (fun w => St No w0 w [.blk b2 (.cells #[.bool leaf, .slice A (madeT leaf xs k).length c] 24 (0, 0))])) hR ?_
            refine d_one 6 rfl (by kernel_rfl) ?_
            refine l_storeNX (cs' := #[_, _]) (L' := (_ :: (_ :: (_ :: (_ :: _))))) 3 hS tyN24 rfl rfl rfl rfl rfl rfl rfl rfl (fun w hS => ?_)
            refine l_end ?_
            refine d_last (S := (fun w => St No w0 w [.blk b2 (.cells #[.bool leaf, .slice A (madeT leaf xs k).length c] 24 (0, 0))])) ?_
            refine d_end (by kernel_rfl) ?_
            refine k_code ?_
            refine c_region ?_
            refine l_val (v_move rfl) rfl ?_
            refine l_val (v_add rfl rfl (by omega)) rfl ?_
            refine l_val (v_assign rfl) rfl ?_
            refine l_end ?_
            refine fun _ hFr => ⟨(k + 1, A2, c2), (by dsimp only; omega), ⟨(St.cast (hS.arr [3, 0, 5]) (by rw [made_yes (chk_one.1 p5)]; rfl)), ⟨by omega, by omega, by rw [made_yes (chk_one.1 p5)]; exact hc2, by rw [made_yes (chk_one.1 p5)]; exact hf3⟩⟩, Fr.sub hFr (kc rfl (kc rfl (kc rfl (kc rfl (kc rfl kn)))))⟩
          · skip
            refine c_skip ?_
            refine k_code ?_
            refine c_region ?_
            refine l_val (v_move rfl) rfl ?_
            refine l_val (v_add rfl rfl (by omega)) rfl ?_
            refine l_val (v_assign rfl) rfl ?_
            refine l_end ?_
            refine fun _ hFr => ⟨(k + 1, A, c), (by dsimp only; omega), ⟨(St.cast (hS.arr [2, 3, 4]) (by rw [made_no (fun h => p5 (chk_one.2 h))]; rfl)), ⟨by omega, by omega, by rw [made_no (fun h => p5 (chk_one.2 h))]; exact hkc, by rw [made_no (fun h => p5 (chk_one.2 h))]; exact hfr⟩⟩, Fr.sub hFr (kc rfl (kc rfl (kc rfl (kc rfl (kc rfl kn)))))⟩
        · skip
          refine l_skip rfl rfl rfl rfl rfl ?_
          refine l_skip rfl rfl rfl rfl rfl ?_
          refine l_skip rfl rfl rfl rfl rfl ?_
          refine l_val (v_pickF rfl rfl) rfl ?_
          refine l_end ?_
          refine k_code ?_
          refine c_no rfl ?_
          refine c_skip ?_
          refine k_code ?_
          refine c_region ?_
          refine l_val (v_move rfl) rfl ?_
          refine l_val (v_add rfl rfl (by omega)) rfl ?_
          refine l_val (v_assign rfl) rfl ?_
          refine l_end ?_
          refine fun _ hFr => ⟨(k + 1, A, c), (by dsimp only; omega), ⟨(St.cast (hS.arr [2, 3, 4]) (by rw [made_no (fun h => absurd (may_small h).2 (by omega))]; rfl)), ⟨by omega, by omega, by rw [made_no (fun h => absurd (may_small h).2 (by omega))]; exact hkc, by rw [made_no (fun h => absurd (may_small h).2 (by omega))]; exact hfr⟩⟩, Fr.sub hFr (kc rfl (kc rfl (kc rfl (kc rfl (kc rfl kn)))))⟩
      · skip
        refine l_skip rfl rfl rfl rfl rfl ?_
        refine l_skip rfl rfl rfl rfl rfl ?_
        refine l_skip rfl rfl rfl rfl rfl ?_
        refine l_skip rfl rfl rfl rfl rfl ?_
        refine l_skip rfl rfl rfl rfl rfl ?_
        refine l_skip rfl rfl rfl rfl rfl ?_
        refine l_skip rfl rfl rfl rfl rfl ?_
        refine l_val (v_pickF rfl rfl) rfl ?_
        refine l_val (v_move rfl) rfl ?_
        refine l_skip rfl rfl rfl rfl rfl ?_
        refine l_skip rfl rfl rfl rfl rfl ?_
        refine l_skip rfl rfl rfl rfl rfl ?_
        refine l_val (v_pickF rfl rfl) rfl ?_
        refine l_end ?_
        refine k_code ?_
        refine c_no rfl ?_
        refine c_skip ?_
        refine k_code ?_
        refine c_region ?_
        refine l_val (v_move rfl) rfl ?_
        refine l_val (v_add rfl rfl (by omega)) rfl ?_
        refine l_val (v_assign rfl) rfl ?_
        refine l_end ?_
        refine fun _ hFr => ⟨(k + 1, A, c), (by dsimp only; omega), ⟨(St.cast (hS.arr [2, 3, 4]) (by rw [made_no (fun h => absurd (may_small h).1 (by omega))]; rfl)), ⟨by omega, by omega, by rw [made_no (fun h => absurd (may_small h).1 (by omega))]; exact hkc, by rw [made_no (fun h => absurd (may_small h).1 (by omega))]; exact hfr⟩⟩, Fr.sub hFr (kc rfl (kc rfl (kc rfl (kc rfl (kc rfl kn)))))⟩
    · skip
      refine c_exit ex_here ?_
      refine k_code ?_
      refine c_seq ?_
      refine c_region ?_
      refine l_val (v_loadW tyN24 rfl rfl (hereN (hS.rowX 0 rfl))) rfl ?_
      refine l_storeNX (cs' := #[_, _]) (L' := (_ :: (_ :: (_ :: _)))) 2 hS tyN24 rfl rfl rfl rfl rfl rfl rfl rfl (fun w hS => ?_)
      refine l_end ?_
      refine k_code ?_
      refine c_retC 2 rfl tyN24 hS rfl rfl rfl ?_
      exact givesN_lies hS (i := 1) rfl (by rw [made_at (by omega) hk hk2]) (by rw [made_at (by omega) hk hk2]) hkc hfr
  · skip
    refine l_skip rfl rfl rfl rfl rfl ?_
    refine l_skip rfl rfl rfl rfl rfl ?_
    refine l_val (v_pickF rfl rfl) rfl ?_
    refine l_end ?_
    refine k_code ?_
    refine c_no rfl ?_
    refine c_exit ex_here ?_
    refine k_code ?_
    refine c_seq ?_
    refine c_region ?_
    refine l_val (v_loadW tyN24 rfl rfl (hereN (hS.rowX 0 rfl))) rfl ?_
    refine l_storeNX (cs' := #[_, _]) (L' := (_ :: (_ :: (_ :: _)))) 2 hS tyN24 rfl rfl rfl rfl rfl rfl rfl rfl (fun w hS => ?_)
    refine l_end ?_
    refine k_code ?_
    refine c_retC 2 rfl tyN24 hS rfl rfl rfl ?_
    exact givesN_lies hS (i := 1) rfl (by rw [made_at (by omega) hk hk2]) (by rw [made_at (by omega) hk hk2]) hkc hfr
end Go.Proofs.Ytndchgmgcjebiaa
