/- The walk of the document's Read. -/
import Derived.Test.YtndchgmgcjebiaaNodePull
namespace Go.Proofs.Ytndchgmgcjebiaa
open Go Go.RowKit E
set_option maxRecDepth 100000
set_option linter.unusedVariables false
set_option linter.unusedSimpArgs false

/-- Rounds of reading a cell, till too few bytes are left. -/
def rounds (f : List UInt8 → Bool → Cel × List UInt8 × Bool) : Nat → List UInt8 → Bool → List Cel → List Cel × List UInt8 × Bool
  | 0, l, sh, cs => (cs, l, sh)
  | m + 1, l, sh, cs => if sh = true then (cs, l, sh) else rounds f m (f l sh).2.1 (f l sh).2.2 (cs ++ [(f l sh).1])
theorem rounds_on {f : List UInt8 → Bool → Cel × List UInt8 × Bool} {n k : Nat} {l : List UInt8} {sh : Bool} {cs : List Cel} (hk : k < n) (hs : sh = false) : rounds f (n - k) l sh cs = rounds f (n - (k + 1)) (f l sh).2.1 (f l sh).2.2 (cs ++ [(f l sh).1]) := by
  rw [show n - k = (n - (k + 1)) + 1 by omega]
  show (if sh = true then _ else _) = _
  rw [if_neg (by rw [hs]; simp)]
theorem rounds_next {f : List UInt8 → Bool → Cel × List UInt8 × Bool} {n k : Nat} {l : List UInt8} {sh : Bool} {cs : List Cel} {r : List Cel × List UInt8 × Bool} {y : Cel × List UInt8 × Bool} (hr : rounds f (n - k) l sh cs = r) (hk : k < n) (hs : sh = false) (hf : f l sh = y) :
    rounds f (n - (k + 1)) y.2.1 y.2.2 (cs ++ [y.1]) = r := by
  rw [← hr, rounds_on hk hs, hf]
theorem rounds_end {f : List UInt8 → Bool → Cel × List UInt8 × Bool} {n k : Nat} {l : List UInt8} {sh : Bool} {cs : List Cel} (h : n ≤ k ∨ sh = true) : rounds f (n - k) l sh cs = (cs, l, sh) := by
  rcases h with h | h
  · rw [show n - k = 0 by omega]; rfl
  · cases n - k with
    | zero => rfl
    | succ m => exact if_pos h
/-- A cell as the document reads it. -/
def cellR (leaf : Bool) (l : List UInt8) (sh : Bool) : Cel × List UInt8 × Bool :=
  if leaf = false then
    (⟨S (takeR (takeR l sh 1).2.1 (takeR l sh 1).2.2 (numL (takeR l sh 1).1)).1, ⟨#[]⟩,
      (numL (takeR (takeR (takeR l sh 1).2.1 (takeR l sh 1).2.2 (numL (takeR l sh 1).1)).2.1 (takeR (takeR l sh 1).2.1 (takeR l sh 1).2.2 (numL (takeR l sh 1).1)).2.2 4).1 : Nat), 0⟩,
      (takeR (takeR (takeR l sh 1).2.1 (takeR l sh 1).2.2 (numL (takeR l sh 1).1)).2.1 (takeR (takeR l sh 1).2.1 (takeR l sh 1).2.2 (numL (takeR l sh 1).1)).2.2 4).2)
  else
    let b := takeR (takeR l sh 1).2.1 (takeR l sh 1).2.2 (numL (takeR l sh 1).1)
    let d := takeR b.2.1 b.2.2 1
    if numL d.1 = 1 then
      (⟨S b.1, ⟨#[]⟩, (numL (takeR d.2.1 d.2.2 4).1 : Nat), (numL (takeR (takeR d.2.1 d.2.2 4).2.1 (takeR d.2.1 d.2.2 4).2.2 4).1 : Nat)⟩, (takeR (takeR d.2.1 d.2.2 4).2.1 (takeR d.2.1 d.2.2 4).2.2 4).2)
    else
      (⟨S b.1, S (takeR (takeR d.2.1 d.2.2 1).2.1 (takeR d.2.1 d.2.2 1).2.2 (numL (takeR d.2.1 d.2.2 1).1)).1, 0, ((S (takeR (takeR d.2.1 d.2.2 1).2.1 (takeR d.2.1 d.2.2 1).2.2 (numL (takeR d.2.1 d.2.2 1).1)).1).size : Nat)⟩,
        (takeR (takeR d.2.1 d.2.2 1).2.1 (takeR d.2.1 d.2.2 1).2.2 (numL (takeR d.2.1 d.2.2 1).1)).2)
section
variable {leaf : Bool} {l : List UInt8} {sh : Bool} {a b c d e g : List UInt8 × List UInt8 × Bool}
theorem cellR_a (h : leaf = false) (ha : takeR l sh 1 = a) (hb : takeR a.2.1 a.2.2 (numL a.1) = b) (hc : takeR b.2.1 b.2.2 4 = c) : cellR leaf l sh = (⟨S b.1, ⟨#[]⟩, (numL c.1 : Nat), 0⟩, c.2) := by
  unfold cellR; rw [if_pos h, ha, hb, hc]
theorem cellR_b (h : leaf = true) (ha : takeR l sh 1 = a) (hb : takeR a.2.1 a.2.2 (numL a.1) = b) (hd : takeR b.2.1 b.2.2 1 = d) (h1 : numL d.1 = 1) (he : takeR d.2.1 d.2.2 4 = e) (hg : takeR e.2.1 e.2.2 4 = g) :
    cellR leaf l sh = (⟨S b.1, ⟨#[]⟩, (numL e.1 : Nat), (numL g.1 : Nat)⟩, g.2) := by
  unfold cellR; rw [if_neg (by rw [h]; simp), ha, hb]; dsimp only; rw [hd, if_pos h1, he, hg]
theorem cellR_c (h : leaf = true) (ha : takeR l sh 1 = a) (hb : takeR a.2.1 a.2.2 (numL a.1) = b) (hd : takeR b.2.1 b.2.2 1 = d) (h1 : ¬ numL d.1 = 1) (he : takeR d.2.1 d.2.2 1 = e) (hg : takeR e.2.1 e.2.2 (numL e.1) = g) :
    cellR leaf l sh = (⟨S b.1, S g.1, 0, ((S g.1).size : Nat)⟩, g.2) := by
  unfold cellR; rw [if_neg (by rw [h]; simp), ha, hb]; dsimp only; rw [hd, if_neg h1, he, hg]
end
def runR (leaf : Bool) (l : List UInt8) : List Cel × List UInt8 × Bool := rounds (cellR leaf) (numL (takeR l false 2).1) (takeR l false 2).2.1 (takeR l false 2).2.2 []
/-- The document's answer. -/
def rreadS (leaf : Bool) (l : List UInt8) : Option (List Cel) := if (runR leaf l).2.2 = false ∧ (bytesR leaf (runR leaf l).1).2 = 0 ∧ (bytesR leaf (runR leaf l).1).1 = S l then some (runR leaf l).1 else none
/-- What Read hands back. -/
def GivesRd (w0 : World) (leaf : Bool) (o : Option (List Cel)) (e : Ending) (w' : World) : Prop :=
  ∃ A c, e = .returned (.tuple #[.agg #[.bool (o.isSome && leaf), .slice A (o.getD []).length c], .int .i64 (if o.isSome then 0 else 10)]) ∧ (o.getD []).length ≤ c ∧ Lies w' A (cellsOf (o.getD [])) ∧ Keep No w0 w' ∧ From w0 [] A (cellsOf (o.getD []))
theorem givesRd_none {w0 w : World} {leaf : Bool} {o : Option (List Cel)} (ho : o = none) (hk : Keep No w0 w) : GivesRd w0 leaf o (.returned (.tuple #[.agg #[.bool false, .slice none 0 0], .int .i64 10])) w := by
  subst ho
  exact ⟨none, 0, rfl, Nat.le_refl _, Or.inl rfl, hk, fun b hb => absurd rfl hb.1⟩
theorem givesRd_row {w0 w : World} {L : List Ent} {leaf : Bool} {o : Option (List Cel)} {cs : List Cel} {i e c : Nat} {A : Option Addr} (ho : o = some cs) (hS : St No w0 w L) (hi : L[i]? = some (.row e 4 (.slice A cs.length c) cs.length (cellsOf cs))) :
    GivesRd w0 leaf o (.returned (.tuple #[.agg #[.bool leaf, .slice A cs.length c], .int .i64 0])) w := by
  subst ho
  have hr := hS.rowAt i hi
  exact ⟨A, c, rfl, row_cap hr, Lies.row hr, hS.keep, hS.fromRow i hi _⟩
theorem num1_lt {l : List UInt8} (h : l.length ≤ 1) : numL l ≤ 255 := by
  have := Nat.lt_of_lt_of_le (numL_lt l) (Nat.pow_le_pow_right (n := 256) (by omega) h); omega
theorem num2_lt {l : List UInt8} (h : l.length ≤ 2) : numL l ≤ 65535 := by
  have := Nat.lt_of_lt_of_le (numL_lt l) (Nat.pow_le_pow_right (n := 256) (by omega) h); omega
theorem smalls_snoc {cs : List Cel} {x : Cel} (h : ∀ c ∈ cs, Small c) (hx : Small x) : ∀ c ∈ cs ++ [x], Small c := fun c hc => by
  rcases List.mem_append.1 hc with h1 | h1
  · exact h c h1
  · rw [List.mem_singleton.1 h1]; exact hx
theorem small_of {x : Cel} (h1 : x.key.size ≤ 255) (h2 : x.val.size ≤ 255) : Small x := ⟨by omega, by omega⟩
theorem S_le {l : List UInt8} {n : Nat} (h : l.length ≤ n) : (S l).size ≤ n := by rw [S_size]; exact h
theorem rread_no {leaf : Bool} {l l' : List UInt8} {cs : List Cel} {sh : Bool} (h : runR leaf l = (cs, l', sh)) (hn : ¬ (sh = false ∧ (bytesR leaf cs).2 = 0 ∧ (bytesR leaf cs).1 = S l)) : rreadS leaf l = none := by
  unfold rreadS; rw [h]; exact if_neg hn
theorem rread_yes {leaf : Bool} {l l' : List UInt8} {cs : List Cel} {sh : Bool} (h : runR leaf l = (cs, l', sh)) (h1 : sh = false) (h2 : (bytesR leaf cs).2 = 0) (h3 : (bytesR leaf cs).1 = S l) : rreadS leaf l = some cs := by
  unfold rreadS; rw [h]; exact if_pos ⟨h1, h2, h3⟩
theorem row_snoc {S : Nat → Prop} {w0 w : World} {N : List Ent} {e n : Nat} {v : Value} {xs : List Value} {cs : List Cel} {c : Cel} (h : St S w0 w (Ent.row e 4 v n xs :: N)) (hn : n = cs.length + 1) (hx : xs = cellsOf cs ++ enc c) :
    St S w0 w (Ent.row e 4 v (cs ++ [c]).length (cellsOf (cs ++ [c])) :: N) := by
  subst hn; subst hx
  rw [cells_app, enc_cells, List.length_append]; exact h

set_option maxHeartbeats 4000000 in
theorem rread_any (leaf : Bool) (l0 : List UInt8) (w0 : World) (hl : l0.length ≤ 1048576) :
    Calls Try.prog 18 [.bool leaf, .string (S l0)].toArray w0 (GivesRd w0 leaf (rreadS leaf l0)) := by
  refine enter (n := 90) Try.func18 rfl rfl rfl ?_
  have hS := St.start No w0
  refine c_seq ?_
  refine c_region ?_
  refine l_alloc (cs := #[_, _]) hS zero24 rfl rfl (fun b1 w hS => ?_)
  refine l_val (v_assign rfl) rfl ?_
  refine l_end ?_
  refine k_code ?_
  refine c_seq ?_
  refine c_region ?_
  refine l_val (v_move rfl) rfl ?_
  refine l_val (v_build (cells := #[_, _]) zero61 places61 rfl rfl) rfl ?_
  refine l_box (cs := #[_, _]) hS rfl rfl rfl (fun b2 w hS => ?_)
  refine l_val (v_assign rfl) rfl ?_
  refine l_end ?_
  refine k_code ?_
  refine c_seq ?_
  refine c_region ?_
  refine l_val (v_move rfl) rfl ?_
  refine l_val (v_build (cells := #[_, _]) zero24 places24 rfl rfl) rfl ?_
  refine l_alloc (cs := #[_, _]) hS zero24 rfl rfl (fun b3 w hS => ?_)
  refine l_storeNX (cs' := #[_, _]) (L' := (_ :: _)) 0 hS tyN24 rfl rfl rfl rfl rfl rfl rfl rfl (fun w hS => ?_)
  refine l_end ?_
  refine k_code ?_
  refine c_seq ?_
  refine c_region ?_
  refine l_val (v_move rfl) rfl ?_
  have hL1 := takeR_len (l := l0) (sh := false) (n := 2); have hM1 := takeR_len1 (l := l0) (sh := false) (n := 2); refine l_call goes40 rfl (number_any _ l0 false 2 _ (hS.block (i := 1) rfl) (by omega) (by omega)) rfl (fun e w hB => ?_)
  generalize h_ta : takeR l0 false 2 = ta at hB hL1 hM1; obtain ⟨rfl, hk1, hb1⟩ := hB; have hS := hS.turn (i := 1) rfl hk1 hb1; refine ⟨_, rfl, ?_⟩
  have hmany := num2_lt hM1
  have hrun : rounds (cellR leaf) (numL ta.1 - 0) ta.2.1 ta.2.2 [] = runR leaf l0 := by unfold runR; rw [h_ta]; rfl
  refine l_val (v_assign rfl) rfl ?_
  refine l_end ?_
  refine k_code ?_
  refine c_cutV [(1, _), (4, _), (5, _), (6, _), (7, _)] (fun ((l, sh, cs, v) : List UInt8 × Bool × List Cel × Value) => []) (fun ((l, sh, cs, v) : List UInt8 × Bool × List Cel × Value) w => St No w0 w [.row 27 4 v cs.length (cellsOf cs), .blk b2 (.cells (rdC l sh) RD (0, 0)), .blk b3 (.cells #[.bool leaf, v] 24 (0, 0)), .blk b1 (.cells #[.bool false, .slice none 0 0] 24 (0, 0))] ∧ runR leaf l0 = (cs, l, sh) ∧ cs.length ≤ 65536 ∧ ∀ c ∈ cs, Small c) (kc rfl (kc rfl (kc rfl (kc rfl (kc rfl kn))))) ?_ (fun xx w hI => ?_)
  · skip
    refine c_seq ?_
    refine c_region ?_
    refine l_val (v_assign rfl) rfl ?_
    refine l_end ?_
    refine k_code ?_
    refine c_block ?_
    refine c_loopV [(0, _), (1, _), (4, _), (5, _), (6, _), (7, _), (8, _)] (fun ((k, l, sh, cs, v) : Nat × List UInt8 × Bool × List Cel × Value) => [(9, .int .i64 k)]) (fun ((k, l, sh, cs, v) : Nat × List UInt8 × Bool × List Cel × Value) w => St No w0 w [.row 27 4 v cs.length (cellsOf cs), .blk b2 (.cells (rdC l sh) RD (0, 0)), .blk b3 (.cells #[.bool leaf, v] 24 (0, 0)), .blk b1 (.cells #[.bool false, .slice none 0 0] 24 (0, 0))] ∧ rounds (cellR leaf) (numL ta.1 - k) l sh cs = runR leaf l0 ∧ l.length ≤ 1048576 ∧ k ≤ numL ta.1 ∧ cs.length ≤ k ∧ ∀ c ∈ cs, Small c) (fun ((k, l, sh, cs, v) : Nat × List UInt8 × Bool × List Cel × Value) => numL ta.1 - k) ((0 : Nat), ta.2.1, ta.2.2, [], .slice none 0 0) ⟨((hS.nil 27 4).arr [0, 2, 1, 3]), ⟨hrun, by omega, Nat.zero_le _, Nat.zero_le _, fun c hc => absurd hc List.not_mem_nil⟩⟩ (kc rfl (kc rfl (kc rfl (kc rfl (kc rfl (kc rfl (kc rfl (kc rfl kn)))))))) (fun xx w hI => ?_)
    obtain ⟨k, l, sh, cs, v⟩ := xx
    obtain ⟨hS, ⟨hrn, hll, hkm, hcl, hsm⟩⟩ := hI
    refine c_seq ?_
    refine c_seq ?_
    refine c_region ?_
    refine l_val (v_move rfl) rfl ?_
    refine l_val (v_move rfl) rfl ?_
    refine l_val (v_lss rfl rfl) rfl ?_
    refine l_val (v_move rfl) rfl ?_
    refine l_part 24 rfl (fun p1 => ?_) (fun p1 => ?_)
    · skip
      refine l_on rfl rfl rfl ?_
      refine l_val (v_move rfl) rfl ?_
      refine l_on rfl rfl rfl ?_
      refine l_val (v_nilCheck rfl) rfl ?_
      refine l_on rfl rfl rfl ?_
      refine l_val (v_fieldX (o' := 1) field61_1 rfl rfl) rfl ?_
      refine l_on rfl rfl rfl ?_
      refine l_val (v_load ty4 rfl (here (hS.cellX 1 (k := 1) rfl rfl))) rfl ?_
      refine l_on rfl rfl rfl ?_
      refine l_val (v_not rfl) rfl ?_
      refine l_val (v_pickT rfl rfl) rfl ?_
      refine l_end ?_
      refine k_code ?_
      refine c_cond rfl (fun p2 => ?_) (fun p2 => ?_)
      · skip
        refine c_skip ?_
        refine k_code ?_
        refine c_seq ?_
        refine c_block ?_
        refine c_seq ?_
        refine c_region ?_
        refine l_val (v_build (cells := #[_, _, _, _]) zero27 places27 rfl rfl) rfl ?_
        refine l_alloc (cs := #[_, _, _, _]) hS zero27 rfl rfl (fun b4 w hS => ?_)
        refine l_storeNX (cs' := #[_, _, _, _]) (L' := (_ :: _)) 0 hS tyN27 rfl rfl rfl rfl rfl rfl rfl rfl (fun w hS => ?_)
        refine l_end ?_
        refine k_code ?_
        refine c_seq ?_
        refine c_region ?_
        refine l_val (v_move rfl) rfl ?_
        have hL1 := takeR_len (l := l) (sh := sh) (n := 1); have hM1 := takeR_len1 (l := l) (sh := sh) (n := 1); refine l_call goes40 rfl (number_any _ l sh 1 _ (hS.block (i := 2) rfl) (by omega) (by omega)) rfl (fun e w hB => ?_)
        generalize h_t1 : takeR l sh 1 = t1 at hB hL1 hM1; obtain ⟨rfl, hk1, hb1⟩ := hB; have hS := hS.turn (i := 2) rfl hk1 hb1; refine ⟨_, rfl, ?_⟩
        have hn1 := num1_lt hM1
        refine l_val (v_assign rfl) rfl ?_
        refine l_end ?_
        refine k_code ?_
        refine c_seq ?_
        refine c_region ?_
        refine l_val (v_move rfl) rfl ?_
        refine l_val (v_move rfl) rfl ?_
        have hL1 := takeR_len (l := t1.2.1) (sh := t1.2.2) (n := (numL t1.1)); have hM1 := takeR_len1 (l := t1.2.1) (sh := t1.2.2) (n := (numL t1.1)); refine l_call goes41 rfl (take_any _ t1.2.1 t1.2.2 (numL t1.1) _ (hS.block (i := 2) rfl) (by omega)) rfl (fun e w hB => ?_)
        generalize h_t2 : takeR t1.2.1 t1.2.2 (numL t1.1) = t2 at hB hL1 hM1; obtain ⟨rfl, hk1, hb1⟩ := hB; have hS := hS.turn (i := 2) rfl hk1 hb1; refine ⟨_, rfl, ?_⟩
        have hk2 := S_le (Nat.le_trans hM1 hn1)
        refine l_val (v_fieldX (o' := 0) field27_0 rfl rfl) rfl ?_
        refine l_storeX (cs' := #[_, _, _, _]) (L' := (_ :: _)) 0 hS ty9 rfl rfl rfl rfl rfl rfl rfl (fun w hS => ?_)
        refine l_end ?_
        refine k_code ?_
        refine c_seq ?_
        refine c_seq ?_
        refine c_region ?_
        refine l_val (v_move rfl) rfl ?_
        refine l_val (v_not rfl) rfl ?_
        refine l_end ?_
        refine k_code ?_
        refine c_cond rfl (fun p3 => ?_) (fun p3 => ?_)
        · skip
          refine c_region ?_
          refine l_val (v_move rfl) rfl ?_
          have hL1 := takeR_len (l := t2.2.1) (sh := t2.2.2) (n := 4); have hM1 := takeR_len1 (l := t2.2.1) (sh := t2.2.2) (n := 4); refine l_call goes40 rfl (number_any _ t2.2.1 t2.2.2 4 _ (hS.block (i := 2) rfl) (by omega) (by omega)) rfl (fun e w hB => ?_)
          generalize h_t3 : takeR t2.2.1 t2.2.2 4 = t3 at hB hL1 hM1; obtain ⟨rfl, hk1, hb1⟩ := hB; have hS := hS.turn (i := 2) rfl hk1 hb1; refine ⟨_, rfl, ?_⟩
          refine l_val (v_fieldX (o' := 2) field27_2 rfl rfl) rfl ?_
          refine l_storeX (cs' := #[_, _, _, _]) (L' := (_ :: _)) 0 hS ty3 rfl rfl rfl rfl rfl rfl rfl (fun w hS => ?_)
          refine l_end ?_
          refine k_code ?_
          refine c_region ?_
          refine l_val (v_fieldX (o' := 1) field24_1 rfl rfl) rfl ?_
          refine l_val (v_load ty22 rfl (here (hS.cellX 3 (k := 1) rfl rfl))) rfl ?_
          refine l_val (v_loadW tyN27 rfl rfl (hereN (hS.rowX 0 rfl))) rfl ?_
          refine l_slice1 (bytes := 0) hS Try.underlying22 tyN27.size zero27 rfl (by decide) (by decide) rfl rfl rfl rfl (fun b5 w hS => ?_)
          refine l_appendX (L' := fun _ => (_ :: (_ :: (_ :: _)))) 2 hS Try.underlying22 elem27 rfl rfl rfl rfl (hS.row 0 rfl) (enc_one ⟨_, _, _, _⟩) (by unfold maxLen; omega) (by omega) rfl (fun _ => rfl) (fun va10 w hS hvva10 => ?_)
          refine l_val (v_fieldX (o' := 1) field24_1 rfl rfl) rfl ?_
          refine l_storeX (cs' := #[_, _]) (L' := (_ :: (_ :: (_ :: (_ :: (_ :: _)))))) 4 hS ty22 rfl rfl rfl rfl (row_one (hS.rowAt 2 rfl)) rfl rfl (fun w hS => ?_)
          refine l_end ?_
          refine k_code ?_
          refine c_region ?_
          refine l_val (v_move rfl) rfl ?_
          refine l_val (v_add rfl rfl (by omega)) rfl ?_
          refine l_val (v_assign rfl) rfl ?_
          refine l_end ?_
          refine fun _ hFr => ⟨(k + 1, t3.2.1, t3.2.2, cs ++ [⟨S t2.1, ⟨#[]⟩, (numL t3.1 : Nat), 0⟩], va10), (by dsimp only; omega), ⟨(row_snoc (hS.arr [2, 3, 4, 5]) rfl rfl), ⟨rounds_next hrn (by omega) (not_tt p2) (cellR_a (not_tt p3) h_t1 h_t2 h_t3), by omega, by omega, by rw [List.length_append]; simp only [List.length_cons, List.length_nil]; omega, smalls_snoc hsm (small_of hk2 (Nat.zero_le _))⟩⟩, Fr.sub hFr (kc rfl (kc rfl (kc rfl (kc rfl (kc rfl (kc rfl (kc rfl (kc rfl kn))))))))⟩
        · skip
          refine c_seq ?_
          refine c_region ?_
          refine l_val (v_move rfl) rfl ?_
          have hL1 := takeR_len (l := t2.2.1) (sh := t2.2.2) (n := 1); have hM1 := takeR_len1 (l := t2.2.1) (sh := t2.2.2) (n := 1); refine l_call goes40 rfl (number_any _ t2.2.1 t2.2.2 1 _ (hS.block (i := 2) rfl) (by omega) (by omega)) rfl (fun e w hB => ?_)
          generalize h_t4 : takeR t2.2.1 t2.2.2 1 = t4 at hB hL1 hM1; obtain ⟨rfl, hk1, hb1⟩ := hB; have hS := hS.turn (i := 2) rfl hk1 hb1; refine ⟨_, rfl, ?_⟩
          refine l_val (v_eql rfl rfl) rfl ?_
          refine l_end ?_
          refine k_code ?_
          refine c_if rfl (fun p4 => ?_) (fun p4 => ?_)
          · skip
            refine c_seq ?_
            refine c_region ?_
            refine l_val (v_move rfl) rfl ?_
            have hL1 := takeR_len (l := t4.2.1) (sh := t4.2.2) (n := 4); have hM1 := takeR_len1 (l := t4.2.1) (sh := t4.2.2) (n := 4); refine l_call goes40 rfl (number_any _ t4.2.1 t4.2.2 4 _ (hS.block (i := 2) rfl) (by omega) (by omega)) rfl (fun e w hB => ?_)
            generalize h_t5 : takeR t4.2.1 t4.2.2 4 = t5 at hB hL1 hM1; obtain ⟨rfl, hk1, hb1⟩ := hB; have hS := hS.turn (i := 2) rfl hk1 hb1; refine ⟨_, rfl, ?_⟩
            refine l_val (v_fieldX (o' := 2) field27_2 rfl rfl) rfl ?_
            refine l_storeX (cs' := #[_, _, _, _]) (L' := (_ :: _)) 0 hS ty3 rfl rfl rfl rfl rfl rfl rfl (fun w hS => ?_)
            refine l_end ?_
            refine k_code ?_
            refine c_region ?_
            refine l_val (v_move rfl) rfl ?_
            have hL1 := takeR_len (l := t5.2.1) (sh := t5.2.2) (n := 4); have hM1 := takeR_len1 (l := t5.2.1) (sh := t5.2.2) (n := 4); refine l_call goes40 rfl (number_any _ t5.2.1 t5.2.2 4 _ (hS.block (i := 2) rfl) (by omega) (by omega)) rfl (fun e w hB => ?_)
            generalize h_t6 : takeR t5.2.1 t5.2.2 4 = t6 at hB hL1 hM1; obtain ⟨rfl, hk1, hb1⟩ := hB; have hS := hS.turn (i := 2) rfl hk1 hb1; refine ⟨_, rfl, ?_⟩
            refine l_val (v_fieldX (o' := 3) field27_3 rfl rfl) rfl ?_
            refine l_storeX (cs' := #[_, _, _, _]) (L' := (_ :: _)) 0 hS ty3 rfl rfl rfl rfl rfl rfl rfl (fun w hS => ?_)
            refine l_end ?_
            refine k_code ?_
            refine c_region ?_
            refine l_val (v_fieldX (o' := 1) field24_1 rfl rfl) rfl ?_
            refine l_val (v_load ty22 rfl (here (hS.cellX 3 (k := 1) rfl rfl))) rfl ?_
            refine l_val (v_loadW tyN27 rfl rfl (hereN (hS.rowX 0 rfl))) rfl ?_
            refine l_slice1 (bytes := 0) hS Try.underlying22 tyN27.size zero27 rfl (by decide) (by decide) rfl rfl rfl rfl (fun b5 w hS => ?_)
            refine l_appendX (L' := fun _ => (_ :: (_ :: (_ :: _)))) 2 hS Try.underlying22 elem27 rfl rfl rfl rfl (hS.row 0 rfl) (enc_one ⟨_, _, _, _⟩) (by unfold maxLen; omega) (by omega) rfl (fun _ => rfl) (fun va10 w hS hvva10 => ?_)
            refine l_val (v_fieldX (o' := 1) field24_1 rfl rfl) rfl ?_
            refine l_storeX (cs' := #[_, _]) (L' := (_ :: (_ :: (_ :: (_ :: (_ :: _)))))) 4 hS ty22 rfl rfl rfl rfl (row_one (hS.rowAt 2 rfl)) rfl rfl (fun w hS => ?_)
            refine l_end ?_
            refine k_code ?_
            refine c_region ?_
            refine l_val (v_move rfl) rfl ?_
            refine l_val (v_add rfl rfl (by omega)) rfl ?_
            refine l_val (v_assign rfl) rfl ?_
            refine l_end ?_
            refine fun _ hFr => ⟨(k + 1, t6.2.1, t6.2.2, cs ++ [⟨S t2.1, ⟨#[]⟩, (numL t5.1 : Nat), (numL t6.1 : Nat)⟩], va10), (by dsimp only; omega), ⟨(row_snoc (hS.arr [2, 3, 4, 5]) rfl rfl), ⟨rounds_next hrn (by omega) (not_tt p2) (cellR_b (notnot p3) h_t1 h_t2 h_t4 (by omega) h_t5 h_t6), by omega, by omega, by rw [List.length_append]; simp only [List.length_cons, List.length_nil]; omega, smalls_snoc hsm (small_of hk2 (Nat.zero_le _))⟩⟩, Fr.sub hFr (kc rfl (kc rfl (kc rfl (kc rfl (kc rfl (kc rfl (kc rfl (kc rfl kn))))))))⟩
          · skip
            refine c_seq ?_
            refine c_region ?_
            refine l_val (v_move rfl) rfl ?_
            have hL1 := takeR_len (l := t4.2.1) (sh := t4.2.2) (n := 1); have hM1 := takeR_len1 (l := t4.2.1) (sh := t4.2.2) (n := 1); refine l_call goes40 rfl (number_any _ t4.2.1 t4.2.2 1 _ (hS.block (i := 2) rfl) (by omega) (by omega)) rfl (fun e w hB => ?_)
            generalize h_t5 : takeR t4.2.1 t4.2.2 1 = t5 at hB hL1 hM1; obtain ⟨rfl, hk1, hb1⟩ := hB; have hS := hS.turn (i := 2) rfl hk1 hb1; refine ⟨_, rfl, ?_⟩
            have hn5 := num1_lt hM1
            refine l_val (v_assign rfl) rfl ?_
            refine l_end ?_
            refine k_code ?_
            refine c_seq ?_
            refine c_region ?_
            refine l_val (v_move rfl) rfl ?_
            refine l_val (v_move rfl) rfl ?_
            have hL1 := takeR_len (l := t5.2.1) (sh := t5.2.2) (n := (numL t5.1)); have hM1 := takeR_len1 (l := t5.2.1) (sh := t5.2.2) (n := (numL t5.1)); refine l_call goes41 rfl (take_any _ t5.2.1 t5.2.2 (numL t5.1) _ (hS.block (i := 2) rfl) (by omega)) rfl (fun e w hB => ?_)
            generalize h_t6 : takeR t5.2.1 t5.2.2 (numL t5.1) = t6 at hB hL1 hM1; obtain ⟨rfl, hk1, hb1⟩ := hB; have hS := hS.turn (i := 2) rfl hk1 hb1; refine ⟨_, rfl, ?_⟩
            have hk6 := S_le (Nat.le_trans hM1 hn5)
            have hz6 := S_size t6.1
            refine l_val (v_fieldX (o' := 1) field27_1 rfl rfl) rfl ?_
            refine l_storeX (cs' := #[_, _, _, _]) (L' := (_ :: _)) 0 hS ty9 rfl rfl rfl rfl rfl rfl rfl (fun w hS => ?_)
            refine l_end ?_
            refine k_code ?_
            refine c_region ?_
            refine l_val (v_fieldX (o' := 1) field27_1 rfl rfl) rfl ?_
            refine l_val (v_load ty9 rfl (here (hS.cellX 0 (k := 1) rfl rfl))) rfl ?_
            refine l_val (v_lenS Try.underlying9 rfl) rfl ?_
            refine l_val (v_fieldX (o' := 3) field27_3 rfl rfl) rfl ?_
            refine l_storeX (cs' := #[_, _, _, _]) (L' := (_ :: _)) 0 hS ty3 rfl rfl rfl rfl rfl rfl rfl (fun w hS => ?_)
            refine l_end ?_
            refine k_code ?_
            refine c_region ?_
            refine l_val (v_fieldX (o' := 1) field24_1 rfl rfl) rfl ?_
            refine l_val (v_load ty22 rfl (here (hS.cellX 3 (k := 1) rfl rfl))) rfl ?_
            refine l_val (v_loadW tyN27 rfl rfl (hereN (hS.rowX 0 rfl))) rfl ?_
            refine l_slice1 (bytes := 0) hS Try.underlying22 tyN27.size zero27 rfl (by decide) (by decide) rfl rfl rfl rfl (fun b5 w hS => ?_)
            refine l_appendX (L' := fun _ => (_ :: (_ :: (_ :: _)))) 2 hS Try.underlying22 elem27 rfl rfl rfl rfl (hS.row 0 rfl) (enc_one ⟨_, _, _, _⟩) (by unfold maxLen; omega) (by omega) rfl (fun _ => rfl) (fun va10 w hS hvva10 => ?_)
            refine l_val (v_fieldX (o' := 1) field24_1 rfl rfl) rfl ?_
            refine l_storeX (cs' := #[_, _]) (L' := (_ :: (_ :: (_ :: (_ :: (_ :: _)))))) 4 hS ty22 rfl rfl rfl rfl (row_one (hS.rowAt 2 rfl)) rfl rfl (fun w hS => ?_)
            refine l_end ?_
            refine k_code ?_
            refine c_region ?_
            refine l_val (v_move rfl) rfl ?_
            refine l_val (v_add rfl rfl (by omega)) rfl ?_
            refine l_val (v_assign rfl) rfl ?_
            refine l_end ?_
            refine fun _ hFr => ⟨(k + 1, t6.2.1, t6.2.2, cs ++ [⟨S t2.1, S t6.1, 0, ((S t6.1).size : Nat)⟩], va10), (by dsimp only; omega), ⟨(row_snoc (hS.arr [2, 3, 4, 5]) rfl rfl), ⟨rounds_next hrn (by omega) (not_tt p2) (cellR_c (notnot p3) h_t1 h_t2 h_t4 (by omega) h_t5 h_t6), by omega, by omega, by rw [List.length_append]; simp only [List.length_cons, List.length_nil]; omega, smalls_snoc hsm (small_of hk2 hk6)⟩⟩, Fr.sub hFr (kc rfl (kc rfl (kc rfl (kc rfl (kc rfl (kc rfl (kc rfl (kc rfl kn))))))))⟩
      · skip
        refine c_exit ex_here ?_
        refine fun _ hFr => ⟨(l, sh, cs, v), ⟨hS, ⟨hrn.symm.trans (rounds_end (Or.inr (notnot p2))), by omega, hsm⟩⟩, Fr.sub hFr (kc rfl (kc rfl (kc rfl (kc rfl (kc rfl kn)))))⟩
    · skip
      refine l_skip rfl rfl rfl rfl rfl ?_
      refine l_skip rfl rfl rfl rfl rfl ?_
      refine l_skip rfl rfl rfl rfl rfl ?_
      refine l_skip rfl rfl rfl rfl rfl ?_
      refine l_skip rfl rfl rfl rfl rfl ?_
      refine l_val (v_pickF rfl rfl) rfl ?_
      refine l_end ?_
      refine k_code ?_
      refine c_no rfl ?_
      refine c_exit ex_here ?_
      refine fun _ hFr => ⟨(l, sh, cs, v), ⟨hS, ⟨hrn.symm.trans (rounds_end (Or.inl (by omega))), by omega, hsm⟩⟩, Fr.sub hFr (kc rfl (kc rfl (kc rfl (kc rfl (kc rfl kn)))))⟩
  · skip
    obtain ⟨l, sh, cs, v⟩ := xx
    obtain ⟨hS, ⟨hrn, hcl, hsm⟩⟩ := hI
    obtain ⟨A', c', rfl⟩ := row_form (hS.rowAt 0 rfl)
    refine c_seq ?_
    refine c_region ?_
    refine l_val (v_loadW tyN24 rfl rfl (hereN (hS.rowX 2 rfl))) rfl ?_
    refine l_callK goes11 rfl hS (rbytes_any _ _ _ _ _ (Lies.row (hS.rowAt 0 rfl)) ⟨hcl, hsm⟩) rfl (fun w hS => ?_)
    refine l_val (v_move rfl) rfl ?_
    refine l_val (v_extractX rfl rfl) rfl ?_
    refine l_val (v_extractX rfl rfl) rfl ?_
    refine l_val (v_assign rfl) rfl ?_
    refine l_val (v_assign rfl) rfl ?_
    refine l_end ?_
    refine k_code ?_
    refine c_seq ?_
    refine c_seq ?_
    refine c_region ?_
    refine l_val (v_move rfl) rfl ?_
    refine l_val (v_nilCheck rfl) rfl ?_
    refine l_val (v_fieldX (o' := 1) field61_1 rfl rfl) rfl ?_
    refine l_val (v_load ty4 rfl (here (hS.cellX 1 (k := 1) rfl rfl))) rfl ?_
    refine l_val (v_move rfl) rfl ?_
    refine l_partB 79 rfl (fun p1 => ?_) (fun p1 => ?_)
    · skip
      refine l_skip rfl rfl rfl rfl rfl ?_
      refine l_skip rfl rfl rfl rfl rfl ?_
      refine l_val (v_pickT rfl rfl) rfl ?_
      refine l_val (v_move rfl) rfl ?_
      refine l_skip rfl rfl rfl rfl rfl ?_
      refine l_skip rfl rfl rfl rfl rfl ?_
      refine l_skip rfl rfl rfl rfl rfl ?_
      refine l_val (v_pickT rfl rfl) rfl ?_
      refine l_end ?_
      refine k_code ?_
      refine c_yes rfl ?_
      refine c_seq ?_
      refine c_region ?_
      refine l_val (v_build (cells := #[_, _]) zero24 places24 rfl rfl) rfl ?_
      refine l_storeNX (cs' := #[_, _]) (L' := (_ :: (_ :: (_ :: (_ :: _))))) 3 hS tyN24 rfl rfl rfl rfl rfl rfl rfl rfl (fun w hS => ?_)
      refine l_val (v_assign rfl) rfl ?_
      refine l_end ?_
      refine k_code ?_
      refine c_retCT 3 rfl tyN24 hS rfl rfl rfl rfl ?_
      exact givesRd_none (rread_no hrn (fun h => by rw [h.1] at p1; simp at p1)) hS.keep
    · skip
      refine l_on rfl rfl rfl ?_
      refine l_val (v_move rfl) rfl ?_
      refine l_on rfl rfl rfl ?_
      refine l_val (v_neq rfl rfl) rfl ?_
      refine l_val (v_pickF rfl rfl) rfl ?_
      refine l_val (v_move rfl) rfl ?_
      refine l_part 83 rfl (fun p2 => ?_) (fun p2 => ?_)
      · skip
        refine l_skip rfl rfl rfl rfl rfl ?_
        refine l_skip rfl rfl rfl rfl rfl ?_
        refine l_skip rfl rfl rfl rfl rfl ?_
        refine l_val (v_pickT rfl rfl) rfl ?_
        refine l_end ?_
        refine k_code ?_
        refine c_yes rfl ?_
        refine c_seq ?_
        refine c_region ?_
        refine l_val (v_build (cells := #[_, _]) zero24 places24 rfl rfl) rfl ?_
        refine l_storeNX (cs' := #[_, _]) (L' := (_ :: (_ :: (_ :: (_ :: _))))) 3 hS tyN24 rfl rfl rfl rfl rfl rfl rfl rfl (fun w hS => ?_)
        refine l_val (v_assign rfl) rfl ?_
        refine l_end ?_
        refine k_code ?_
        refine c_retCT 3 rfl tyN24 hS rfl rfl rfl rfl ?_
        exact givesRd_none (rread_no hrn (fun h => p2 h.2.1)) hS.keep
      · skip
        refine l_on rfl rfl rfl ?_
        refine l_val (v_move rfl) rfl ?_
        refine l_on rfl rfl rfl ?_
        refine l_val (v_move rfl) rfl ?_
        refine l_on rfl rfl rfl ?_
        refine l_val (v_sneq rfl rfl) rfl ?_
        refine l_val (v_pickF rfl rfl) rfl ?_
        refine l_end ?_
        refine k_code ?_
        refine c_if rfl (fun p3 => ?_) (fun p3 => ?_)
        · skip
          refine c_seq ?_
          refine c_region ?_
          refine l_val (v_build (cells := #[_, _]) zero24 places24 rfl rfl) rfl ?_
          refine l_storeNX (cs' := #[_, _]) (L' := (_ :: (_ :: (_ :: (_ :: _))))) 3 hS tyN24 rfl rfl rfl rfl rfl rfl rfl rfl (fun w hS => ?_)
          refine l_val (v_assign rfl) rfl ?_
          refine l_end ?_
          refine k_code ?_
          refine c_retCT 3 rfl tyN24 hS rfl rfl rfl rfl ?_
          exact givesRd_none (rread_no hrn (fun h => p3 h.2.2)) hS.keep
        · skip
          refine c_skip ?_
          refine k_code ?_
          refine c_seq ?_
          refine c_region ?_
          refine l_val (v_loadW tyN24 rfl rfl (hereN (hS.rowX 2 rfl))) rfl ?_
          refine l_storeNX (cs' := #[_, _]) (L' := (_ :: (_ :: (_ :: (_ :: _))))) 3 hS tyN24 rfl rfl rfl rfl rfl rfl rfl rfl (fun w hS => ?_)
          refine l_val (v_assign rfl) rfl ?_
          refine l_end ?_
          refine k_code ?_
          refine c_retCT 3 rfl tyN24 hS rfl rfl rfl rfl ?_
          exact givesRd_row (rread_yes hrn (by simpa using p1) (by omega) (by simpa using p3)) hS (i := 0) rfl
end Go.Proofs.Ytndchgmgcjebiaa
