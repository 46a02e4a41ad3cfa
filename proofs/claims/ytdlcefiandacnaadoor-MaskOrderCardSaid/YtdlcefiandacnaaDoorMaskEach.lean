/- The walk of a mask's iterator: its rounds, one a nibble, from the lowest on. -/
import Derived.Test.YtdlcefiandacnaaDoorMaskTz
import Derived.Test.YtdlcefiandacnaaDoorMaskBl
namespace Go.Proofs.YtdlcefiandacnaaDoor
open Go Go.RowKit E MM
set_option maxRecDepth 100000
set_option linter.unusedVariables false
set_option linter.unusedSimpArgs false

theorem hi_same {m j t : Nat} (hm : m < 65536) (hjt : j ≤ t) (h : ∀ i, j ≤ i → i < t → m.testBit i = false) : hi m j = hi m t := by
  apply eq_of_bits (hi_lt hm _) (hi_lt hm _)
  intro i _
  rw [hi_bit, hi_bit]
  by_cases a : t ≤ i
  · rw [decide_eq_true a, decide_eq_true (by omega)]
  · by_cases b : j ≤ i
    · rw [h i b (by omega)]; simp
    · rw [decide_eq_false a, decide_eq_false b]
theorem hi_none {m j : Nat} (h : hi m j = 0) : ∀ i, j ≤ i → m.testBit i = false := by
  intro i hij
  have := hi_bit m j i
  rw [h, Nat.zero_testBit, decide_eq_true hij, Bool.true_and] at this
  exact this.symm
theorem skip_to {M : Nat → List Ent → Prop} {m : Nat} (hskip : ∀ j L, m.testBit j = false → M j L → M (j + 1) L) {L : List Ent} : ∀ (d j : Nat), (∀ i, j ≤ i → i < j + d → m.testBit i = false) → M j L → M (j + d) L
  | 0, _, _, h => h
  | d + 1, j, hb, h => by
    have := skip_to hskip d (j + 1) (fun i h1 h2 => hb i (by omega) (by omega)) (hskip j L (hb j (Nat.le_refl _) (by omega)) h)
    rwa [show j + 1 + d = j + (d + 1) by omega] at this

theorem each_any (m : Int) (w0 : World) : Calls Tryd.prog 22 [.int .u16 m].toArray w0 fun e w' => ∃ b, e = .returned (.func (.func 27) #[] #[.pointer (some ⟨b, 0, none⟩)]) ∧ St No w0 w' [.blk b (.cells #[.int .u16 m] 22 (0, 0))] := by
  refine enter (n := 4) Tryd.func22 rfl rfl rfl ?_
  have hS := St.start No w0
  refine c_seq ?_
  refine c_region ?_
  refine l_box hS rfl rfl rfl (fun b1 w hS => ?_)
  refine l_val (v_assign rfl) rfl ?_
  refine l_end ?_
  refine k_code ?_
  refine c_seq ?_
  refine c_region ?_
  refine l_val (v_makeFunc rfl) rfl ?_
  refine l_val (v_assign rfl) rfl ?_
  refine l_end ?_
  refine k_code ?_
  refine c_ret1 rfl rfl ?_
  exact ⟨b1, rfl, hS⟩

theorem and_pred {k q : Nat} (h : 2 ^ k * (2 * q + 1) < 65536) : bits .and .u16 ((2 ^ k * (2 * q + 1) : Nat) : Int) (IntKind.u16.wrap (((2 ^ k * (2 * q + 1) : Nat) : Int) - 1)) = ((2 ^ k * (2 * q) : Nat) : Int) := by
  have hpos : 0 < 2 ^ k * (2 * q + 1) := Nat.mul_pos (Nat.two_pow_pos k) (by omega)
  have e : IntKind.u16.wrap (((2 ^ k * (2 * q + 1) : Nat) : Int) - 1) = ((2 ^ k * (2 * q + 1) - 1 : Nat) : Int) := by rw [IntKind.wrap_u16]; omega
  rw [e, u16_and_nat _ _ h (by omega), low_rest h]

set_option maxHeartbeats 1000000 in
theorem each1_any (l b : Nat) (r : Loop) (m : Nat) (hm : m < 65536) (M : Nat → List Ent → Prop) (L0 : List Ent) (w0 w1 : World) (h0 : M 0 L0) (hr : r.state = .ready) (hps : r.params.size = 1) (ht : Tab w0)
    (hS : St No w0 w1 (.blk b (.cells #[.int .u16 m] 22 (0, 0)) :: .blk l (.loop r) :: L0))
    (hskip : ∀ j L, m.testBit j = false → M j L → M (j + 1) L)
    (hround : ∀ j x w L, j < 16 → m.testBit j = true → M j L → St No w0 w (.blk b (.cells #[x] 22 (0, 0)) :: .blk l (.loop r) :: L) →
      RoundIn Fence.wide 0 Tryd.prog l r.fn ((r.params.zip [.int .i64 (j : Nat)].toArray).foldl (fun t (p, v) => t.setIfInBounds p v) r.tmps) r.assign r.body w fun e w' => e = .returned (.bool true) ∧ ∃ L', M (j + 1) L' ∧ St No w0 w' (.blk b (.cells #[x] 22 (0, 0)) :: .blk l (.loop r) :: L')) :
    Calls Tryd.prog 27 [.func (.yield l) #[] #[], .pointer (some ⟨b, 0, none⟩)].toArray w1 fun e w2 => (∃ v, e = .returned v) ∧ ∃ L', M 16 L' ∧ St No w0 w2 (.blk b (.cells #[.int .u16 0] 22 (0, 0)) :: .blk l (.loop r) :: L') := by
  refine enterI (n := 15) Tryd.func27 rfl rfl rfl ?_
  skip
  refine c_block ?_
  refine c_loopV [(0, _), (1, _)] (fun ((j, L) : Nat × List Ent) => []) (fun ((j, L) : Nat × List Ent) w => St No w0 w (.blk b (.cells #[.int .u16 (hi m j : Nat)] 22 (0, 0)) :: .blk l (.loop r) :: L) ∧ (j ≤ 16 ∧ M j L)) (fun ((j, L) : Nat × List Ent) => 16 - j) ((0 : Nat), L0) ⟨(St.cast hS (by rw [hi_zero])), ⟨by omega, h0⟩⟩ (kc rfl (kc rfl kn)) (fun xx w hI => ?_)
  obtain ⟨j, L⟩ := xx
  obtain ⟨hS, ⟨hj, hM⟩⟩ := hI
  refine c_seq ?_
  refine c_seq ?_
  refine c_region ?_
  refine l_val (v_load ty22 rfl (here ((hS.cell 0 rfl rfl)))) rfl ?_
  refine l_val (v_neq rfl rfl) rfl ?_
  refine l_val (v_move rfl) rfl ?_
  refine l_part 5 rfl (fun p1 => ?_) (fun p1 => ?_)
  · skip
    obtain ⟨t, q, e, hjt, ht16, htb, hno, hrest⟩ := hi_low hm (j := j) (by omega)
    have hMt : M t L := by have := skip_to hskip (t - j) j (fun i h1 h2 => hno i h1 (by omega)) hM; rwa [show j + (t - j) = t by omega] at this
    have hlt : 2 ^ t * (2 * q + 1) < 65536 := e ▸ hi_lt hm j
    refine l_on rfl rfl rfl ?_
    refine l_val (v_move rfl) rfl ?_
    refine l_on rfl rfl rfl ?_
    refine l_val (v_load ty22 rfl (here ((hS.cell 0 rfl rfl)))) rfl ?_
    refine l_on rfl rfl rfl ?_
    refine l_callK goes28 rfl hS (by rw [e]; exact tz_any t q _ ht16 hlt (ht.keep hS.keep)) rfl (fun w hS => ?_)
    refine l_on rfl rfl rfl ?_
    refine l_yield (i := 1) rfl rfl rfl rfl hS rfl (by rw [hps]; rfl) rfl (hround t _ _ L ht16 htb hMt hS) (fun e' w hR => ?_)
    obtain ⟨rfl, L', hM', hS⟩ := hR
    refine ⟨_, rfl, ?_⟩
    refine l_val (v_pickT rfl rfl) rfl ?_
    refine l_end ?_
    refine k_code ?_
    refine c_yes rfl ?_
    refine c_skip ?_
    refine k_code ?_
    refine c_block ?_
    refine c_region ?_
    refine l_val (v_load ty22 rfl (here ((hS.cell 0 rfl rfl)))) rfl ?_
    refine l_val (v_load ty22 rfl (here ((hS.cell 0 rfl rfl)))) rfl ?_
    refine l_val (v_int rfl rfl rfl) rfl ?_
    refine l_val (v_int rfl rfl rfl) rfl ?_
    rw [e, and_pred hlt, hrest]
    refine l_store 0 hS ty22 rfl rfl rfl rfl rfl (fun w hS => ?_)
    refine l_end ?_
    refine fun _ hFr => ⟨(t + 1, L'), (by dsimp only; omega), ⟨hS, ⟨by omega, hM'⟩⟩, Fr.sub hFr (kc rfl (kc rfl kn))⟩
  · skip
    refine l_skip rfl rfl rfl rfl rfl ?_
    refine l_skip rfl rfl rfl rfl rfl ?_
    refine l_skip rfl rfl rfl rfl rfl ?_
    refine l_skip rfl rfl rfl rfl rfl ?_
    refine l_val (v_pickF rfl rfl) rfl ?_
    refine l_end ?_
    refine k_code ?_
    refine c_no rfl ?_
    refine c_exit ex_here ?_
    exact end0 (P := Tryd.prog) (fn := Tryd.f27) rfl ⟨⟨_, rfl⟩, L, by have := skip_to hskip (16 - j) j (fun i h1 _ => hi_none (by omega) i h1) hM; rwa [show j + (16 - j) = 16 by omega] at this, St.cast hS (by rw [show hi m j = 0 by omega]; rfl)⟩
end Go.Proofs.YtdlcefiandacnaaDoor
