/- The walk of node.Read. -/
import Derived.Test.YtndchgmgcjebiaaNodeRRead
namespace Go.Proofs.Ytndchgmgcjebiaa
open Go Go.RowKit E
set_option maxRecDepth 100000
set_option linter.unusedVariables false
set_option linter.unusedSimpArgs false

/-- A cell of an inner node as the program reads it. -/
def cellF (l : List UInt8) (sh : Bool) : Cel × List UInt8 × Bool :=
  let b := takeP (takeP l sh 1).2.1 (takeP l sh 1).2.2 (numL (takeP l sh 1).1)
  (⟨S b.1, ⟨#[]⟩, (numL (takeP b.2.1 b.2.2 4).1 : Nat), 0⟩, (takeP b.2.1 b.2.2 4).2)
/-- A cell of a leaf. -/
def cellT (l : List UInt8) (sh : Bool) : Cel × List UInt8 × Bool :=
  let b := takeP (takeP l sh 1).2.1 (takeP l sh 1).2.2 (numL (takeP l sh 1).1)
  let d := takeP b.2.1 b.2.2 1
  if numL d.1 = 1 then
    let e := takeP d.2.1 d.2.2 4
    let g := takeP e.2.1 e.2.2 4
    (⟨S b.1, ⟨#[]⟩, (numL e.1 : Nat), (numL g.1 : Nat)⟩, g.2.1, if numL e.1 = 0 then true else g.2.2)
  else if numL d.1 = 0 then
    let e := takeP d.2.1 d.2.2 1
    let g := takeP e.2.1 e.2.2 (numL e.1)
    (⟨S b.1, S g.1, 0, ((S g.1).size : Nat)⟩, g.2)
  else (⟨S b.1, ⟨#[]⟩, 0, 0⟩, d.2.1, true)
def cellP (leaf : Bool) : List UInt8 → Bool → Cel × List UInt8 × Bool := if leaf then cellT else cellF
section
variable {l : List UInt8} {sh : Bool} {a b c d e g : List UInt8 × List UInt8 × Bool}
theorem cellP_a (ha : takeP l sh 1 = a) (hb : takeP a.2.1 a.2.2 (numL a.1) = b) (hc : takeP b.2.1 b.2.2 4 = c) : cellP false l sh = (⟨S b.1, ⟨#[]⟩, (numL c.1 : Nat), 0⟩, c.2) := by
  show cellF l sh = _; unfold cellF; rw [ha, hb]; dsimp only; rw [hc]
theorem cellP_b (ha : takeP l sh 1 = a) (hb : takeP a.2.1 a.2.2 (numL a.1) = b) (hd : takeP b.2.1 b.2.2 1 = d) (h1 : numL d.1 = 1) (he : takeP d.2.1 d.2.2 4 = e) (hg : takeP e.2.1 e.2.2 4 = g) (h0 : ¬ numL e.1 = 0) :
    cellP true l sh = (⟨S b.1, ⟨#[]⟩, (numL e.1 : Nat), (numL g.1 : Nat)⟩, g.2) := by
  show cellT l sh = _; unfold cellT; rw [ha, hb]; dsimp only; rw [hd, if_pos h1, he, hg, if_neg h0]
theorem cellP_b0 (ha : takeP l sh 1 = a) (hb : takeP a.2.1 a.2.2 (numL a.1) = b) (hd : takeP b.2.1 b.2.2 1 = d) (h1 : numL d.1 = 1) (he : takeP d.2.1 d.2.2 4 = e) (hg : takeP e.2.1 e.2.2 4 = g) (h0 : numL e.1 = 0) :
    cellP true l sh = (⟨S b.1, ⟨#[]⟩, (numL e.1 : Nat), (numL g.1 : Nat)⟩, g.2.1, true) := by
  show cellT l sh = _; unfold cellT; rw [ha, hb]; dsimp only; rw [hd, if_pos h1, he, hg, if_pos h0]
theorem cellP_c (ha : takeP l sh 1 = a) (hb : takeP a.2.1 a.2.2 (numL a.1) = b) (hd : takeP b.2.1 b.2.2 1 = d) (h1 : ¬ numL d.1 = 1) (h0 : numL d.1 = 0) (he : takeP d.2.1 d.2.2 1 = e) (hg : takeP e.2.1 e.2.2 (numL e.1) = g) :
    cellP true l sh = (⟨S b.1, S g.1, 0, ((S g.1).size : Nat)⟩, g.2) := by
  show cellT l sh = _; unfold cellT; rw [ha, hb]; dsimp only; rw [hd, if_neg h1, if_pos h0, he, hg]
theorem cellP_d (ha : takeP l sh 1 = a) (hb : takeP a.2.1 a.2.2 (numL a.1) = b) (hd : takeP b.2.1 b.2.2 1 = d) (h1 : ¬ numL d.1 = 1) (h0 : ¬ numL d.1 = 0) :
    cellP true l sh = (⟨S b.1, ⟨#[]⟩, 0, 0⟩, d.2.1, true) := by
  show cellT l sh = _; unfold cellT; rw [ha, hb]; dsimp only; rw [hd, if_neg h1, if_neg h0]
end
def runP (leaf : Bool) (l : List UInt8) : List Cel × List UInt8 × Bool := rounds (cellP leaf) (numL (takeP l false 2).1) (takeP l false 2).2.1 (takeP l false 2).2.2 []
/-- The program's answer. -/
def preadS (leaf : Bool) (l : List UInt8) : Option (List Cel) := if (runP leaf l).2.2 = false ∧ (runP leaf l).2.1 = [] ∧ chkI leaf (runP leaf l).1 = 0 ∧ sizeS leaf (runP leaf l).1 ≤ 1013 then some (runP leaf l).1 else none
theorem pread_no {leaf : Bool} {l l' : List UInt8} {cs : List Cel} {sh : Bool} (h : runP leaf l = (cs, l', sh)) (hn : ¬ (sh = false ∧ l' = [] ∧ chkI leaf cs = 0 ∧ sizeS leaf cs ≤ 1013)) : preadS leaf l = none := by
  unfold preadS; rw [h]; exact if_neg hn
theorem pread_yes {leaf : Bool} {l l' : List UInt8} {cs : List Cel} {sh : Bool} (h : runP leaf l = (cs, l', sh)) (h1 : sh = false) (h2 : l' = []) (h3 : chkI leaf cs = 0) (h4 : sizeS leaf cs ≤ 1013) : preadS leaf l = some cs := by
  unfold preadS; rw [h]; exact if_pos ⟨h1, h2, h3, h4⟩
theorem S_nil {l : List UInt8} : S l = ⟨#[]⟩ ↔ l = [] := by
  constructor
  · intro h
    have := congrArg ByteArray.size h
    rw [S_size] at this
    exact List.eq_nil_of_length_eq_zero this
  · rintro rfl; rfl

set_option maxHeartbeats 4000000 in
theorem preadF_any (l0 : List UInt8) (w0 : World) (hl : l0.length ≤ 1048576) :
    Calls Try.prog 17 [.bool false, .string (S l0)].toArray w0 (GivesRd w0 false (preadS false l0)) := by
  refine enter (n := 87) Try.func17 rfl rfl rfl ?_
  have hS := St.start No w0
  refine c_seq ?_
  refine c_region ?_
  refine l_alloc (cs := #[_, _]) hS zero24 rfl rfl (fun b1 w hS => ?_)
  refine l_val (v_assign rfl) rfl ?_
  refine l_end ?_
  refine k_code ?_
  refine c_seq ?_
  refine c_region ?_
  refine l_val (v_move rfl) rfl ?_
  refine l_alloc (cs := #[_]) hS zero9 rfl rfl (fun b2 w hS => ?_)
  refine l_alloc (cs := #[_]) hS zero4 rfl rfl (fun b3 w hS => ?_)
  refine l_storeX (cs' := #[_]) (L' := (_ :: (_ :: _))) 1 hS ty9 rfl rfl rfl rfl rfl rfl rfl (fun w hS => ?_)
  refine l_storeX (cs' := #[_]) (L' := (_ :: _)) 0 hS ty4 rfl rfl rfl rfl rfl rfl rfl (fun w hS => ?_)
  refine l_end ?_
  refine k_code ?_
  refine c_seq ?_
  refine c_region ?_
  refine l_val (v_makeFunc rfl) rfl ?_
  refine l_alloc (cs := #[_]) hS zero54 rfl rfl (fun b4 w hS => ?_)
  refine l_storeX (cs' := #[_]) (L' := (_ :: _)) 0 hS ty54 rfl rfl rfl rfl rfl rfl rfl (fun w hS => ?_)
  refine l_end ?_
  refine k_code ?_
  refine c_seq ?_
  refine c_region ?_
  refine l_val (v_makeFunc rfl) rfl ?_
  refine l_val (v_assign rfl) rfl ?_
  refine l_end ?_
  refine k_code ?_
  refine c_seq ?_
  refine c_region ?_
  refine l_val (v_move rfl) rfl ?_
  refine l_val (v_build (cells := #[_, _]) zero24 places24 rfl rfl) rfl ?_
  refine l_alloc (cs := #[_, _]) hS zero24 rfl rfl (fun b5 w hS => ?_)
  refine l_storeNX (cs' := #[_, _]) (L' := (_ :: _)) 0 hS tyN24 rfl rfl rfl rfl rfl rfl rfl rfl (fun w hS => ?_)
  refine l_end ?_
  refine k_code ?_
  refine c_cutV [(4, _), (5, _), (6, _), (7, _), (10, _)] (fun ((l, sh, cs, v) : List UInt8 × Bool × List Cel × Value) => []) (fun ((l, sh, cs, v) : List UInt8 × Bool × List Cel × Value) w => St No w0 w [.row 27 4 v cs.length (cellsOf cs), strB b2 l, boolB b3 sh, .blk b4 (.cells #[TakeF b2 b3] 54 (0, 0)), .blk b5 (.cells #[.bool false, v] 24 (0, 0)), .blk b1 (.cells #[.bool false, .slice none 0 0] 24 (0, 0))] ∧ runP false l0 = (cs, l, sh) ∧ cs.length ≤ 65536 ∧ ∀ c ∈ cs, Small c) (kc rfl (kc rfl (kc rfl (kc rfl (kc rfl kn))))) ?_ (fun xx w hI => ?_)
  · skip
    refine c_seq ?_
    refine c_region ?_
    refine l_val (v_move rfl) rfl ?_
    have hne : b2 ≠ b3 := fun e => (apart_at hS.apart (i := 3) (j := 2) rfl rfl (by decide)).1 b2 rfl e
    have hL1 := takeP_len (l := l0) (sh := false) (n := 2); have hM1 := takeP_len1 (l := l0) (sh := false) (n := 2); refine l_callV (first := []) (cap := [.pointer (some ⟨b4, 0, none⟩)]) goes39 rfl rfl (pnum_any b2 b3 b4 hne l0 false 2 _ (hS.block (i := 3) rfl) (hS.block (i := 2) rfl) (hS.cellX 1 rfl rfl) (by omega) (by omega)) rfl (fun e w hB => ?_)
    generalize h_ta : takeP l0 false 2 = ta at hB hL1 hM1; obtain ⟨rfl, hk1, hb1, hb2⟩ := hB; have hS := St.turn2 hS (i := 3) (j := 2) rfl rfl (by decide) hk1 hb1 hb2; refine ⟨_, rfl, ?_⟩
    have hmany := num2_lt hM1
    have hrun : rounds (cellP false) (numL ta.1 - 0) ta.2.1 ta.2.2 [] = runP false l0 := by unfold runP; rw [h_ta]; rfl
    refine l_val (v_move rfl) rfl ?_
    refine l_end ?_
    refine k_code ?_
    refine c_block ?_
    refine c_loopV [(0, _), (4, _), (5, _), (6, _), (7, _), (8, _), (9, _), (10, _), (19, _)] (fun ((k, l, sh, cs, v) : Nat × List UInt8 × Bool × List Cel × Value) => [(20, .int .i64 k)]) (fun ((k, l, sh, cs, v) : Nat × List UInt8 × Bool × List Cel × Value) w => St No w0 w [.row 27 4 v cs.length (cellsOf cs), strB b2 l, boolB b3 sh, .blk b4 (.cells #[TakeF b2 b3] 54 (0, 0)), .blk b5 (.cells #[.bool false, v] 24 (0, 0)), .blk b1 (.cells #[.bool false, .slice none 0 0] 24 (0, 0))] ∧ rounds (cellP false) (numL ta.1 - k) l sh cs = runP false l0 ∧ l.length ≤ 1048576 ∧ k ≤ numL ta.1 ∧ cs.length ≤ k ∧ ∀ c ∈ cs, Small c) (fun ((k, l, sh, cs, v) : Nat × List UInt8 × Bool × List Cel × Value) => numL ta.1 - k) ((0 : Nat), ta.2.1, ta.2.2, [], .slice none 0 0) ⟨((hS.nil 27 4).arr [0, 4, 3, 2, 1, 5]), ⟨hrun, by omega, Nat.zero_le _, Nat.zero_le _, fun c hc => absurd hc List.not_mem_nil⟩⟩ (kc rfl (kc rfl (kc rfl (kc rfl (kc rfl (kc rfl (kc rfl (kc rfl (kc rfl (kc rfl kn)))))))))) (fun xx w hI => ?_)
    obtain ⟨k, l, sh, cs, v⟩ := xx
    obtain ⟨hS, ⟨hrn, hll, hkm, hcl, hsm⟩⟩ := hI
    refine c_seq ?_
    refine c_region ?_
    refine l_val (v_lss rfl rfl) rfl ?_
    refine l_end ?_
    refine k_code ?_
    refine c_seq ?_
    refine c_if rfl (fun p1 => ?_) (fun p1 => ?_)
    · skip
      refine c_skip ?_
      refine k_code ?_
      refine c_seq ?_
      refine c_block ?_
      refine c_seq ?_
      refine c_seq ?_
      refine c_region ?_
      refine l_val (v_load ty4 rfl (here (hS.cellX 2 (k := 0) rfl rfl))) rfl ?_
      refine l_end ?_
      refine k_code ?_
      refine c_cond rfl (fun p2 => ?_) (fun p2 => ?_)
      · skip
        refine c_exit (ex_out rfl ex_here) ?_
        refine fun _ hFr => ⟨(l, sh, cs, v), ⟨hS, ⟨hrn.symm.trans (rounds_end (Or.inr p2)), by omega, hsm⟩⟩, Fr.sub hFr (kc rfl (kc rfl (kc rfl (kc rfl (kc rfl kn)))))⟩
      · skip
        refine c_skip ?_
        refine k_code ?_
        refine c_seq ?_
        refine d_region (fun w => St No w0 w [.blk b4 (.cells #[TakeF b2 b3] 54 (0, 0))]) 7 mixed ?_
        have hS := hS.drew 1
        have hR : St No w0 _ [.blk b4 (.cells #[TakeF b2 b3] 54 (0, 0))] := hS.less (.cons _ (.cons _ (.cons _ (.cons_cons _ (.cons _ (.cons _ (.slnil)))))))
        refine d_take 0 rfl (by kernel_rfl) (by kernel_rfl) (by kernel_rfl) (by kernel_rfl) hR (v_load ty54 rfl (fun _ h => h.cellX 0 (k := 0) rfl rfl)) rfl ?_
        refine d_take 1 rfl (by kernel_rfl) (by kernel_rfl) (by kernel_rfl) (by kernel_rfl) hR (v_move rfl) rfl ?_
        refine d_two 2 5 rfl rfl (by kernel_rfl) ?_ ?_
        · skip
          have hL1 := takeP_len (l := l) (sh := sh) (n := 1); have hM1 := takeP_len1 (l := l) (sh := sh) (n := 1); refine l_callV (first := []) (cap := [.pointer (some ⟨b4, 0, none⟩)]) goes39 rfl rfl (pnum_any b2 b3 b4 hne l sh 1 _ (hS.block (i := 1) rfl) (hS.block (i := 2) rfl) (hS.cellX 3 rfl rfl) (by omega) (by omega)) rfl (fun e w hB => ?_)
          generalize h_t1 : takeP l sh 1 = t1 at hB hL1 hM1; obtain ⟨rfl, hk1, hb1, hb2⟩ := hB; have hS := St.turn2 hS (i := 1) (j := 2) rfl rfl (by decide) hk1 hb1 hb2; refine ⟨_, rfl, ?_⟩
          have hn1 := num1_lt hM1
          refine l_end ?_
          have hR : St No w0 _ [.blk b4 (.cells #[TakeF b2 b3] 54 (0, 0))] := hS.less (.cons _ (.cons _ (.cons _ (.cons_cons _ (.cons _ (.cons _ (.slnil)))))))
          refine d_on (S := (fun w => St No w0 w [.blk b4 (.cells #[TakeF b2 b3] 54 (0, 0))])) hR ?_
          refine d_two 3 5 rfl rfl (by kernel_rfl) ?_ ?_
          · skip
            have hL1 := takeP_len (l := t1.2.1) (sh := t1.2.2) (n := (numL t1.1)); have hM1 := takeP_len1 (l := t1.2.1) (sh := t1.2.2) (n := (numL t1.1)); refine l_callV (first := []) (cap := [.pointer (some ⟨b2, 0, none⟩), .pointer (some ⟨b3, 0, none⟩)]) goes38 rfl rfl (pull_any b2 b3 hne t1.2.1 t1.2.2 (numL t1.1) _ (hS.block (i := 1) rfl) (hS.block (i := 2) rfl) (by omega)) rfl (fun e w hB => ?_)
            generalize h_t2 : takeP t1.2.1 t1.2.2 (numL t1.1) = t2 at hB hL1 hM1; obtain ⟨rfl, hk1, hb1, hb2⟩ := hB; have hS := St.turn2 hS (i := 1) (j := 2) rfl rfl (by decide) hk1 hb1 hb2; refine ⟨_, rfl, ?_⟩
            have hk2 := S_le (Nat.le_trans hM1 hn1)
            refine l_end ?_
            have hR : St No w0 _ [.blk b4 (.cells #[TakeF b2 b3] 54 (0, 0))] := hS.less (.cons _ (.cons _ (.cons _ (.cons_cons _ (.cons _ (.cons _ (.slnil)))))))
            refine d_on (S := (fun w => St No w0 w [.blk b4 (.cells #[TakeF b2 b3] 54 (0, 0))])) hR ?_
            refine d_two 4 5 rfl rfl (by kernel_rfl) ?_ ?_
            · skip
              refine l_val (v_build (cells := #[_, _, _, _]) zero27 places27 rfl rfl) rfl ?_
              refine l_end ?_
              have hR : St No w0 _ [.blk b4 (.cells #[TakeF b2 b3] 54 (0, 0))] := hS.less (.cons _ (.cons _ (.cons _ (.cons_cons _ (.cons _ (.cons _ (.slnil)))))))
              refine d_on (S := (fun w => St No w0 w [.blk b4 (.cells #[TakeF b2 b3] 54 (0, 0))])) hR ?_
              refine d_one 5 rfl (by kernel_rfl) ?_
              refine l_alloc (cs := #[_, _, _, _]) hS zero27 rfl rfl (fun b6 w hS => ?_)
              refine l_end ?_
              have hR : St No w0 _ [.blk b4 (.cells #[TakeF b2 b3] 54 (0, 0))] := hS.less (.cons _ (.cons _ (.cons _ (.cons _ (.cons_cons _ (.cons _ (.cons _ (.slnil))))))))
              refine d_on (S := (fun w => St No w0 w [.blk b4 (.cells #[TakeF b2 b3] 54 (0, 0))])) hR ?_
              refine d_one 6 rfl (by kernel_rfl) ?_
              refine l_storeNX (cs' := #[_, _, _, _]) (L' := (_ :: _)) 0 hS tyN27 rfl rfl rfl rfl rfl rfl rfl rfl (fun w hS => ?_)
              refine l_end ?_
              have hR : St No w0 _ [.blk b4 (.cells #[TakeF b2 b3] 54 (0, 0))] := hS.less (.cons _ (.cons _ (.cons _ (.cons _ (.cons_cons _ (.cons _ (.cons _ (.slnil))))))))
              refine d_on (S := (fun w => St No w0 w [.blk b4 (.cells #[TakeF b2 b3] 54 (0, 0))])) hR ?_
              refine d_end (by kernel_rfl) ?_
              refine k_code ?_
              refine c_seq ?_
              refine c_region ?_
              refine l_val (v_assign rfl) rfl ?_
              refine l_end ?_
              refine k_code ?_
              refine c_seq ?_
              refine c_seq ?_
              refine c_region ?_
              refine l_val (v_move rfl) rfl ?_
              refine l_end ?_
              refine k_code ?_
              refine c_no rfl ?_
              refine c_skip ?_
              refine k_code ?_
              refine c_seq ?_
              refine c_block ?_
              refine c_seq ?_
              refine c_region ?_
              refine l_val (v_move rfl) rfl ?_
              refine l_val (v_eql rfl rfl) rfl ?_
              refine l_val (v_assign rfl) rfl ?_
              refine l_end ?_
              refine k_code ?_
              refine c_if rfl (fun p3 => ?_) (fun p3 => ?_)
              · skip
                refine c_seq ?_
                refine c_region ?_
                refine l_val (v_move rfl) rfl ?_
                have hL1 := takeP_len (l := t2.2.1) (sh := t2.2.2) (n := 4); have hM1 := takeP_len1 (l := t2.2.1) (sh := t2.2.2) (n := 4); refine l_callV (first := []) (cap := [.pointer (some ⟨b4, 0, none⟩)]) goes39 rfl rfl (pnum_any b2 b3 b4 hne t2.2.1 t2.2.2 4 _ (hS.block (i := 2) rfl) (hS.block (i := 3) rfl) (hS.cellX 4 rfl rfl) (by omega) (by omega)) rfl (fun e w hB => ?_)
                generalize h_t3 : takeP t2.2.1 t2.2.2 4 = t3 at hB hL1 hM1; obtain ⟨rfl, hk1, hb1, hb2⟩ := hB; have hS := St.turn2 hS (i := 2) (j := 3) rfl rfl (by decide) hk1 hb1 hb2; refine ⟨_, rfl, ?_⟩
                refine l_val (v_fieldX (o' := 2) field27_2 rfl rfl) rfl ?_
                refine l_storeX (cs' := #[_, _, _, _]) (L' := (_ :: _)) 0 hS ty3 rfl rfl rfl rfl rfl rfl rfl (fun w hS => ?_)
                refine l_end ?_
                refine k_code ?_
                refine c_seq ?_
                refine c_region ?_
                refine l_val (v_move rfl) rfl ?_
                refine l_end ?_
                refine k_code ?_
                refine c_no rfl ?_
                refine c_skip ?_
                refine k_code ?_
                refine c_seq ?_
                refine c_seq ?_
                refine c_region ?_
                refine l_val (v_move rfl) rfl ?_
                refine l_val (v_move rfl) rfl ?_
                refine l_skip rfl rfl rfl rfl rfl ?_
                refine l_skip rfl rfl rfl rfl rfl ?_
                refine l_val (v_pickF rfl rfl) rfl ?_
                refine l_val (v_move rfl) rfl ?_
                refine l_skip rfl rfl rfl rfl rfl ?_
                refine l_skip rfl rfl rfl rfl rfl ?_
                refine l_skip rfl rfl rfl rfl rfl ?_
                refine l_val (v_pickF rfl rfl) rfl ?_
                refine l_end ?_
                refine k_code ?_
                refine c_no rfl ?_
                refine c_skip ?_
                refine k_code ?_
                refine c_region ?_
                refine l_val (v_fieldX (o' := 1) field24_1 rfl rfl) rfl ?_
                refine l_val (v_load ty22 rfl (here (hS.cellX 5 (k := 1) rfl rfl))) rfl ?_
                refine l_val (v_loadW tyN27 rfl rfl (hereN (hS.rowX 0 rfl))) rfl ?_
                refine l_slice1 (bytes := 0) hS Try.underlying22 tyN27.size zero27 rfl (by decide) (by decide) rfl rfl rfl rfl (fun b7 w hS => ?_)
                refine l_appendX (L' := fun _ => (_ :: (_ :: (_ :: _)))) 2 hS Try.underlying22 elem27 rfl rfl rfl rfl (hS.row 0 rfl) (enc_one ⟨_, _, _, _⟩) (by unfold maxLen; omega) (by omega) rfl (fun _ => rfl) (fun va9 w hS hvva9 => ?_)
                refine l_val (v_fieldX (o' := 1) field24_1 rfl rfl) rfl ?_
                refine l_storeX (cs' := #[_, _]) (L' := (_ :: (_ :: (_ :: (_ :: (_ :: (_ :: (_ :: _)))))))) 6 hS ty22 rfl rfl rfl rfl (row_one (hS.rowAt 2 rfl)) rfl rfl (fun w hS => ?_)
                refine l_end ?_
                refine k_code ?_
                refine c_region ?_
                refine l_val (v_add rfl rfl (by omega)) rfl ?_
                refine l_val (v_move rfl) rfl ?_
                refine l_end ?_
                refine fun _ hFr => ⟨(k + 1, t3.2.1, t3.2.2, cs ++ [⟨S t2.1, ⟨#[]⟩, (numL t3.1 : Nat), 0⟩], va9), (by dsimp only; omega), ⟨(row_snoc (hS.arr [2, 3, 4, 5, 6, 7]) rfl rfl), ⟨rounds_next hrn (by omega) p2 (cellP_a h_t1 h_t2 h_t3), by omega, by omega, by rw [List.length_append]; simp only [List.length_cons, List.length_nil]; omega, smalls_snoc hsm (small_of hk2 (Nat.zero_le _))⟩⟩, Fr.sub hFr (kc rfl (kc rfl (kc rfl (kc rfl (kc rfl (kc rfl (kc rfl (kc rfl (kc rfl (kc rfl kn))))))))))⟩
              · exact absurd rfl p3
            · skip
              refine l_alloc (cs := #[_, _, _, _]) hS zero27 rfl rfl (fun b6 w hS => ?_)
              refine l_end ?_
              have hR : St No w0 _ [.blk b4 (.cells #[TakeF b2 b3] 54 (0, 0))] := hS.less (.cons _ (.cons _ (.cons _ (.cons _ (.cons_cons _ (.cons _ (.cons _ (.slnil))))))))
              refine d_on (S := (fun w => St No w0 w [.blk b4 (.cells #[TakeF b2 b3] 54 (0, 0))])) hR ?_
              refine d_one 4 rfl (by kernel_rfl) ?_
              refine l_val (v_build (cells := #[_, _, _, _]) zero27 places27 rfl rfl) rfl ?_
              refine l_end ?_
              have hR : St No w0 _ [.blk b4 (.cells #[TakeF b2 b3] 54 (0, 0))] := hS.less (.cons _ (.cons _ (.cons _ (.cons _ (.cons_cons _ (.cons _ (.cons _ (.slnil))))))))
              refine d_on (S := (fun w => St No w0 w [.blk b4 (.cells #[TakeF b2 b3] 54 (0, 0))])) hR ?_
              refine d_one 6 rfl (by kernel_rfl) ?_
              refine l_storeNX (cs' := #[_, _, _, _]) (L' := (_ :: _)) 0 hS tyN27 rfl rfl rfl rfl rfl rfl rfl rfl (fun w hS => ?_)
              refine l_end ?_
              have hR : St No w0 _ [.blk b4 (.cells #[TakeF b2 b3] 54 (0, 0))] := hS.less (.cons _ (.cons _ (.cons _ (.cons _ (.cons_cons _ (.cons _ (.cons _ (.slnil))))))))
              refine d_on (S := (fun w => St No w0 w [.blk b4 (.cells #[TakeF b2 b3] 54 (0, 0))])) hR ?_
              refine d_end (by kernel_rfl) ?_
              refine k_code ?_
              refine c_seq ?_
              refine c_region ?_
              refine l_val (v_assign rfl) rfl ?_
              refine l_end ?_
              refine k_code ?_
              refine c_seq ?_
              refine c_seq ?_
              refine c_region ?_
              refine l_val (v_move rfl) rfl ?_
              refine l_end ?_
              refine k_code ?_
              refine c_no rfl ?_
              refine c_skip ?_
              refine k_code ?_
              refine c_seq ?_
              refine c_block ?_
              refine c_seq ?_
              refine c_region ?_
              refine l_val (v_move rfl) rfl ?_
              refine l_val (v_eql rfl rfl) rfl ?_
              refine l_val (v_assign rfl) rfl ?_
              refine l_end ?_
              refine k_code ?_
              refine c_if rfl (fun p3 => ?_) (fun p3 => ?_)
              · skip
                refine c_seq ?_
                refine c_region ?_
                refine l_val (v_move rfl) rfl ?_
                have hL1 := takeP_len (l := t2.2.1) (sh := t2.2.2) (n := 4); have hM1 := takeP_len1 (l := t2.2.1) (sh := t2.2.2) (n := 4); refine l_callV (first := []) (cap := [.pointer (some ⟨b4, 0, none⟩)]) goes39 rfl rfl (pnum_any b2 b3 b4 hne t2.2.1 t2.2.2 4 _ (hS.block (i := 2) rfl) (hS.block (i := 3) rfl) (hS.cellX 4 rfl rfl) (by omega) (by omega)) rfl (fun e w hB => ?_)
                generalize h_t3 : takeP t2.2.1 t2.2.2 4 = t3 at hB hL1 hM1; obtain ⟨rfl, hk1, hb1, hb2⟩ := hB; have hS := St.turn2 hS (i := 2) (j := 3) rfl rfl (by decide) hk1 hb1 hb2; refine ⟨_, rfl, ?_⟩
                refine l_val (v_fieldX (o' := 2) field27_2 rfl rfl) rfl ?_
                refine l_storeX (cs' := #[_, _, _, _]) (L' := (_ :: _)) 0 hS ty3 rfl rfl rfl rfl rfl rfl rfl (fun w hS => ?_)
                refine l_end ?_
                refine k_code ?_
                refine c_seq ?_
                refine c_region ?_
                refine l_val (v_move rfl) rfl ?_
                refine l_end ?_
                refine k_code ?_
                refine c_no rfl ?_
                refine c_skip ?_
                refine k_code ?_
                refine c_seq ?_
                refine c_seq ?_
                refine c_region ?_
                refine l_val (v_move rfl) rfl ?_
                refine l_val (v_move rfl) rfl ?_
                refine l_skip rfl rfl rfl rfl rfl ?_
                refine l_skip rfl rfl rfl rfl rfl ?_
                refine l_val (v_pickF rfl rfl) rfl ?_
                refine l_val (v_move rfl) rfl ?_
                refine l_skip rfl rfl rfl rfl rfl ?_
                refine l_skip rfl rfl rfl rfl rfl ?_
                refine l_skip rfl rfl rfl rfl rfl ?_
                refine l_val (v_pickF rfl rfl) rfl ?_
                refine l_end ?_
                refine k_code ?_
                refine c_no rfl ?_
                refine c_skip ?_
                refine k_code ?_
                refine c_region ?_
                refine l_val (v_fieldX (o' := 1) field24_1 rfl rfl) rfl ?_
                refine l_val (v_load ty22 rfl (here (hS.cellX 5 (k := 1) rfl rfl))) rfl ?_
                refine l_val (v_loadW tyN27 rfl rfl (hereN (hS.rowX 0 rfl))) rfl ?_
                refine l_slice1 (bytes := 0) hS Try.underlying22 tyN27.size zero27 rfl (by decide) (by decide) rfl rfl rfl rfl (fun b7 w hS => ?_)
                refine l_appendX (L' := fun _ => (_ :: (_ :: (_ :: _)))) 2 hS Try.underlying22 elem27 rfl rfl rfl rfl (hS.row 0 rfl) (enc_one ⟨_, _, _, _⟩) (by unfold maxLen; omega) (by omega) rfl (fun _ => rfl) (fun va9 w hS hvva9 => ?_)
                refine l_val (v_fieldX (o' := 1) field24_1 rfl rfl) rfl ?_
                refine l_storeX (cs' := #[_, _]) (L' := (_ :: (_ :: (_ :: (_ :: (_ :: (_ :: (_ :: _)))))))) 6 hS ty22 rfl rfl rfl rfl (row_one (hS.rowAt 2 rfl)) rfl rfl (fun w hS => ?_)
                refine l_end ?_
                refine k_code ?_
                refine c_region ?_
                refine l_val (v_add rfl rfl (by omega)) rfl ?_
                refine l_val (v_move rfl) rfl ?_
                refine l_end ?_
                refine fun _ hFr => ⟨(k + 1, t3.2.1, t3.2.2, cs ++ [⟨S t2.1, ⟨#[]⟩, (numL t3.1 : Nat), 0⟩], va9), (by dsimp only; omega), ⟨(row_snoc (hS.arr [2, 3, 4, 5, 6, 7]) rfl rfl), ⟨rounds_next hrn (by omega) p2 (cellP_a h_t1 h_t2 h_t3), by omega, by omega, by rw [List.length_append]; simp only [List.length_cons, List.length_nil]; omega, smalls_snoc hsm (small_of hk2 (Nat.zero_le _))⟩⟩, Fr.sub hFr (kc rfl (kc rfl (kc rfl (kc rfl (kc rfl (kc rfl (kc rfl (kc rfl (kc rfl (kc rfl kn))))))))))⟩
              · exact absurd rfl p3
          · skip
            refine l_alloc (cs := #[_, _, _, _]) hS zero27 rfl rfl (fun b6 w hS => ?_)
            refine l_end ?_
            have hR : St No w0 _ [.blk b4 (.cells #[TakeF b2 b3] 54 (0, 0))] := hS.less (.cons _ (.cons _ (.cons _ (.cons _ (.cons_cons _ (.cons _ (.cons _ (.slnil))))))))
            refine d_on (S := (fun w => St No w0 w [.blk b4 (.cells #[TakeF b2 b3] 54 (0, 0))])) hR ?_
            refine d_one 3 rfl (by kernel_rfl) ?_
            have hL1 := takeP_len (l := t1.2.1) (sh := t1.2.2) (n := (numL t1.1)); have hM1 := takeP_len1 (l := t1.2.1) (sh := t1.2.2) (n := (numL t1.1)); refine l_callV (first := []) (cap := [.pointer (some ⟨b2, 0, none⟩), .pointer (some ⟨b3, 0, none⟩)]) goes38 rfl rfl (pull_any b2 b3 hne t1.2.1 t1.2.2 (numL t1.1) _ (hS.block (i := 2) rfl) (hS.block (i := 3) rfl) (by omega)) rfl (fun e w hB => ?_)
            generalize h_t2 : takeP t1.2.1 t1.2.2 (numL t1.1) = t2 at hB hL1 hM1; obtain ⟨rfl, hk1, hb1, hb2⟩ := hB; have hS := St.turn2 hS (i := 2) (j := 3) rfl rfl (by decide) hk1 hb1 hb2; refine ⟨_, rfl, ?_⟩
            have hk2 := S_le (Nat.le_trans hM1 hn1)
            refine l_end ?_
            have hR : St No w0 _ [.blk b4 (.cells #[TakeF b2 b3] 54 (0, 0))] := hS.less (.cons _ (.cons _ (.cons _ (.cons _ (.cons_cons _ (.cons _ (.cons _ (.slnil))))))))
            refine d_on (S := (fun w => St No w0 w [.blk b4 (.cells #[TakeF b2 b3] 54 (0, 0))])) hR ?_
            refine d_one 4 rfl (by kernel_rfl) ?_
            refine l_val (v_build (cells := #[_, _, _, _]) zero27 places27 rfl rfl) rfl ?_
            refine l_end ?_
            have hR : St No w0 _ [.blk b4 (.cells #[TakeF b2 b3] 54 (0, 0))] := hS.less (.cons _ (.cons _ (.cons _ (.cons _ (.cons_cons _ (.cons _ (.cons _ (.slnil))))))))
            refine d_on (S := (fun w => St No w0 w [.blk b4 (.cells #[TakeF b2 b3] 54 (0, 0))])) hR ?_
            refine d_one 6 rfl (by kernel_rfl) ?_
            refine l_storeNX (cs' := #[_, _, _, _]) (L' := (_ :: _)) 0 hS tyN27 rfl rfl rfl rfl rfl rfl rfl rfl (fun w hS => ?_)
            refine l_end ?_
            have hR : St No w0 _ [.blk b4 (.cells #[TakeF b2 b3] 54 (0, 0))] := hS.less (.cons _ (.cons _ (.cons _ (.cons _ (.cons_cons _ (.cons _ (.cons _ (.slnil))))))))
            refine d_on (S := (fun w => St No w0 w [.blk b4 (.cells #[TakeF b2 b3] 54 (0, 0))])) hR ?_
            refine d_end (by kernel_rfl) ?_
            refine k_code ?_
            refine c_seq ?_
            refine c_region ?_
            refine l_val (v_assign rfl) rfl ?_
            refine l_end ?_
            refine k_code ?_
            refine c_seq ?_
            refine c_seq ?_
            refine c_region ?_
            refine l_val (v_move rfl) rfl ?_
            refine l_end ?_
            refine k_code ?_
            refine c_no rfl ?_
            refine c_skip ?_
            refine k_code ?_
            refine c_seq ?_
            refine c_block ?_
            refine c_seq ?_
            refine c_region ?_
            refine l_val (v_move rfl) rfl ?_
            refine l_val (v_eql rfl rfl) rfl ?_
            refine l_val (v_assign rfl) rfl ?_
            refine l_end ?_
            refine k_code ?_
            refine c_if rfl (fun p3 => ?_) (fun p3 => ?_)
            · skip
              refine c_seq ?_
              refine c_region ?_
              refine l_val (v_move rfl) rfl ?_
              have hL1 := takeP_len (l := t2.2.1) (sh := t2.2.2) (n := 4); have hM1 := takeP_len1 (l := t2.2.1) (sh := t2.2.2) (n := 4); refine l_callV (first := []) (cap := [.pointer (some ⟨b4, 0, none⟩)]) goes39 rfl rfl (pnum_any b2 b3 b4 hne t2.2.1 t2.2.2 4 _ (hS.block (i := 2) rfl) (hS.block (i := 3) rfl) (hS.cellX 4 rfl rfl) (by omega) (by omega)) rfl (fun e w hB => ?_)
              generalize h_t3 : takeP t2.2.1 t2.2.2 4 = t3 at hB hL1 hM1; obtain ⟨rfl, hk1, hb1, hb2⟩ := hB; have hS := St.turn2 hS (i := 2) (j := 3) rfl rfl (by decide) hk1 hb1 hb2; refine ⟨_, rfl, ?_⟩
              refine l_val (v_fieldX (o' := 2) field27_2 rfl rfl) rfl ?_
              refine l_storeX (cs' := #[_, _, _, _]) (L' := (_ :: _)) 0 hS ty3 rfl rfl rfl rfl rfl rfl rfl (fun w hS => ?_)
              refine l_end ?_
              refine k_code ?_
              refine c_seq ?_
              refine c_region ?_
              refine l_val (v_move rfl) rfl ?_
              refine l_end ?_
              refine k_code ?_
              refine c_no rfl ?_
              refine c_skip ?_
              refine k_code ?_
              refine c_seq ?_
              refine c_seq ?_
              refine c_region ?_
              refine l_val (v_move rfl) rfl ?_
              refine l_val (v_move rfl) rfl ?_
              refine l_skip rfl rfl rfl rfl rfl ?_
              refine l_skip rfl rfl rfl rfl rfl ?_
              refine l_val (v_pickF rfl rfl) rfl ?_
              refine l_val (v_move rfl) rfl ?_
              refine l_skip rfl rfl rfl rfl rfl ?_
              refine l_skip rfl rfl rfl rfl rfl ?_
              refine l_skip rfl rfl rfl rfl rfl ?_
              refine l_val (v_pickF rfl rfl) rfl ?_
              refine l_end ?_
              refine k_code ?_
              refine c_no rfl ?_
              refine c_skip ?_
              refine k_code ?_
              refine c_region ?_
              refine l_val (v_fieldX (o' := 1) field24_1 rfl rfl) rfl ?_
              refine l_val (v_load ty22 rfl (here (hS.cellX 5 (k := 1) rfl rfl))) rfl ?_
              refine l_val (v_loadW tyN27 rfl rfl (hereN (hS.rowX 0 rfl))) rfl ?_
              refine l_slice1 (bytes := 0) hS Try.underlying22 tyN27.size zero27 rfl (by decide) (by decide) rfl rfl rfl rfl (fun b7 w hS => ?_)
              refine l_appendX (L' := fun _ => (_ :: (_ :: (_ :: _)))) 2 hS Try.underlying22 elem27 rfl rfl rfl rfl (hS.row 0 rfl) (enc_one ⟨_, _, _, _⟩) (by unfold maxLen; omega) (by omega) rfl (fun _ => rfl) (fun va9 w hS hvva9 => ?_)
              refine l_val (v_fieldX (o' := 1) field24_1 rfl rfl) rfl ?_
              refine l_storeX (cs' := #[_, _]) (L' := (_ :: (_ :: (_ :: (_ :: (_ :: (_ :: (_ :: _)))))))) 6 hS ty22 rfl rfl rfl rfl (row_one (hS.rowAt 2 rfl)) rfl rfl (fun w hS => ?_)
              refine l_end ?_
              refine k_code ?_
              refine c_region ?_
              refine l_val (v_add rfl rfl (by omega)) rfl ?_
              refine l_val (v_move rfl) rfl ?_
              refine l_end ?_
              refine fun _ hFr => ⟨(k + 1, t3.2.1, t3.2.2, cs ++ [⟨S t2.1, ⟨#[]⟩, (numL t3.1 : Nat), 0⟩], va9), (by dsimp only; omega), ⟨(row_snoc (hS.arr [2, 3, 4, 5, 6, 7]) rfl rfl), ⟨rounds_next hrn (by omega) p2 (cellP_a h_t1 h_t2 h_t3), by omega, by omega, by rw [List.length_append]; simp only [List.length_cons, List.length_nil]; omega, smalls_snoc hsm (small_of hk2 (Nat.zero_le _))⟩⟩, Fr.sub hFr (kc rfl (kc rfl (kc rfl (kc rfl (kc rfl (kc rfl (kc rfl (kc rfl (kc rfl (kc rfl kn))))))))))⟩
            · exact absurd rfl p3
        · skip
          refine l_alloc (cs := #[_, _, _, _]) hS zero27 rfl rfl (fun b6 w hS => ?_)
          refine l_end ?_
          have hR : St No w0 _ [.blk b4 (.cells #[TakeF b2 b3] 54 (0, 0))] := hS.less (.cons _ (.cons _ (.cons _ (.cons _ (.cons_cons _ (.cons _ (.cons _ (.slnil))))))))
          refine d_on (S := (fun w => St No w0 w [.blk b4 (.cells #[TakeF b2 b3] 54 (0, 0))])) hR ?_
          refine d_one 2 rfl (by kernel_rfl) ?_
          have hL1 := takeP_len (l := l) (sh := sh) (n := 1); have hM1 := takeP_len1 (l := l) (sh := sh) (n := 1); refine l_callV (first := []) (cap := [.pointer (some ⟨b4, 0, none⟩)]) goes39 rfl rfl (pnum_any b2 b3 b4 hne l sh 1 _ (hS.block (i := 2) rfl) (hS.block (i := 3) rfl) (hS.cellX 4 rfl rfl) (by omega) (by omega)) rfl (fun e w hB => ?_)
          generalize h_t1 : takeP l sh 1 = t1 at hB hL1 hM1; obtain ⟨rfl, hk1, hb1, hb2⟩ := hB; have hS := St.turn2 hS (i := 2) (j := 3) rfl rfl (by decide) hk1 hb1 hb2; refine ⟨_, rfl, ?_⟩
          have hn1 := num1_lt hM1
          refine l_end ?_
          have hR : St No w0 _ [.blk b4 (.cells #[TakeF b2 b3] 54 (0, 0))] := hS.less (.cons _ (.cons _ (.cons _ (.cons _ (.cons_cons _ (.cons _ (.cons _ (.slnil))))))))
          refine d_on (S := (fun w => St No w0 w [.blk b4 (.cells #[TakeF b2 b3] 54 (0, 0))])) hR ?_
          refine d_one 3 rfl (by kernel_rfl) ?_
          have hL1 := takeP_len (l := t1.2.1) (sh := t1.2.2) (n := (numL t1.1)); have hM1 := takeP_len1 (l := t1.2.1) (sh := t1.2.2) (n := (numL t1.1)); refine l_callV (first := []) (cap := [.pointer (some ⟨b2, 0, none⟩), .pointer (some ⟨b3, 0, none⟩)]) goes38 rfl rfl (pull_any b2 b3 hne t1.2.1 t1.2.2 (numL t1.1) _ (hS.block (i := 2) rfl) (hS.block (i := 3) rfl) (by omega)) rfl (fun e w hB => ?_)
          generalize h_t2 : takeP t1.2.1 t1.2.2 (numL t1.1) = t2 at hB hL1 hM1; obtain ⟨rfl, hk1, hb1, hb2⟩ := hB; have hS := St.turn2 hS (i := 2) (j := 3) rfl rfl (by decide) hk1 hb1 hb2; refine ⟨_, rfl, ?_⟩
          have hk2 := S_le (Nat.le_trans hM1 hn1)
          refine l_end ?_
          have hR : St No w0 _ [.blk b4 (.cells #[TakeF b2 b3] 54 (0, 0))] := hS.less (.cons _ (.cons _ (.cons _ (.cons _ (.cons_cons _ (.cons _ (.cons _ (.slnil))))))))
          refine d_on (S := (fun w => St No w0 w [.blk b4 (.cells #[TakeF b2 b3] 54 (0, 0))])) hR ?_
          refine d_one 4 rfl (by kernel_rfl) ?_
          refine l_val (v_build (cells := #[_, _, _, _]) zero27 places27 rfl rfl) rfl ?_
          refine l_end ?_
          have hR : St No w0 _ [.blk b4 (.cells #[TakeF b2 b3] 54 (0, 0))] := hS.less (.cons _ (.cons _ (.cons _ (.cons _ (.cons_cons _ (.cons _ (.cons _ (.slnil))))))))
          refine d_on (S := (fun w => St No w0 w [.blk b4 (.cells #[TakeF b2 b3] 54 (0, 0))])) hR ?_
          refine d_one 6 rfl (by kernel_rfl) ?_
          refine l_storeNX (cs' := #[_, _, _, _]) (L' := (_ :: _)) 0 hS tyN27 rfl rfl rfl rfl rfl rfl rfl rfl (fun w hS => ?_)
          refine l_end ?_
          have hR : St No w0 _ [.blk b4 (.cells #[TakeF b2 b3] 54 (0, 0))] := hS.less (.cons _ (.cons _ (.cons _ (.cons _ (.cons_cons _ (.cons _ (.cons _ (.slnil))))))))
          refine d_on (S := (fun w => St No w0 w [.blk b4 (.cells #[TakeF b2 b3] 54 (0, 0))])) hR ?_
          refine d_end (by kernel_rfl) ?_
          refine k_code ?_
          refine c_seq ?_
          refine c_region ?_
          refine l_val (v_assign rfl) rfl ?_
          refine l_end ?_
          refine k_code ?_
          refine c_seq ?_
          refine c_seq ?_
          refine c_region ?_
          refine l_val (v_move rfl) rfl ?_
          refine l_end ?_
          refine k_code ?_
          refine c_no rfl ?_
          refine c_skip ?_
          refine k_code ?_
          refine c_seq ?_
          refine c_block ?_
          refine c_seq ?_
          refine c_region ?_
          refine l_val (v_move rfl) rfl ?_
          refine l_val (v_eql rfl rfl) rfl ?_
          refine l_val (v_assign rfl) rfl ?_
          refine l_end ?_
          refine k_code ?_
          refine c_if rfl (fun p3 => ?_) (fun p3 => ?_)
          · skip
            refine c_seq ?_
            refine c_region ?_
            refine l_val (v_move rfl) rfl ?_
            have hL1 := takeP_len (l := t2.2.1) (sh := t2.2.2) (n := 4); have hM1 := takeP_len1 (l := t2.2.1) (sh := t2.2.2) (n := 4); refine l_callV (first := []) (cap := [.pointer (some ⟨b4, 0, none⟩)]) goes39 rfl rfl (pnum_any b2 b3 b4 hne t2.2.1 t2.2.2 4 _ (hS.block (i := 2) rfl) (hS.block (i := 3) rfl) (hS.cellX 4 rfl rfl) (by omega) (by omega)) rfl (fun e w hB => ?_)
            generalize h_t3 : takeP t2.2.1 t2.2.2 4 = t3 at hB hL1 hM1; obtain ⟨rfl, hk1, hb1, hb2⟩ := hB; have hS := St.turn2 hS (i := 2) (j := 3) rfl rfl (by decide) hk1 hb1 hb2; refine ⟨_, rfl, ?_⟩
            refine l_val (v_fieldX (o' := 2) field27_2 rfl rfl) rfl ?_
            refine l_storeX (cs' := #[_, _, _, _]) (L' := (_ :: _)) 0 hS ty3 rfl rfl rfl rfl rfl rfl rfl (fun w hS => ?_)
            refine l_end ?_
            refine k_code ?_
            refine c_seq ?_
            refine c_region ?_
            refine l_val (v_move rfl) rfl ?_
            refine l_end ?_
            refine k_code ?_
            refine c_no rfl ?_
            refine c_skip ?_
            refine k_code ?_
            refine c_seq ?_
            refine c_seq ?_
            refine c_region ?_
            refine l_val (v_move rfl) rfl ?_
            refine l_val (v_move rfl) rfl ?_
            refine l_skip rfl rfl rfl rfl rfl ?_
            refine l_skip rfl rfl rfl rfl rfl ?_
            refine l_val (v_pickF rfl rfl) rfl ?_
            refine l_val (v_move rfl) rfl ?_
            refine l_skip rfl rfl rfl rfl rfl ?_
            refine l_skip rfl rfl rfl rfl rfl ?_
            refine l_skip rfl rfl rfl rfl rfl ?_
            refine l_val (v_pickF rfl rfl) rfl ?_
            refine l_end ?_
            refine k_code ?_
            refine c_no rfl ?_
            refine c_skip ?_
            refine k_code ?_
            refine c_region ?_
            refine l_val (v_fieldX (o' := 1) field24_1 rfl rfl) rfl ?_
            refine l_val (v_load ty22 rfl (here (hS.cellX 5 (k := 1) rfl rfl))) rfl ?_
            refine l_val (v_loadW tyN27 rfl rfl (hereN (hS.rowX 0 rfl))) rfl ?_
            refine l_slice1 (bytes := 0) hS Try.underlying22 tyN27.size zero27 rfl (by decide) (by decide) rfl rfl rfl rfl (fun b7 w hS => ?_)
            refine l_appendX (L' := fun _ => (_ :: (_ :: (_ :: _)))) 2 hS Try.underlying22 elem27 rfl rfl rfl rfl (hS.row 0 rfl) (enc_one ⟨_, _, _, _⟩) (by unfold maxLen; omega) (by omega) rfl (fun _ => rfl) (fun va9 w hS hvva9 => ?_)
            refine l_val (v_fieldX (o' := 1) field24_1 rfl rfl) rfl ?_
            refine l_storeX (cs' := #[_, _]) (L' := (_ :: (_ :: (_ :: (_ :: (_ :: (_ :: (_ :: _)))))))) 6 hS ty22 rfl rfl rfl rfl (row_one (hS.rowAt 2 rfl)) rfl rfl (fun w hS => ?_)
            refine l_end ?_
            refine k_code ?_
            refine c_region ?_
            refine l_val (v_add rfl rfl (by omega)) rfl ?_
            refine l_val (v_move rfl) rfl ?_
            refine l_end ?_
            refine fun _ hFr => ⟨(k + 1, t3.2.1, t3.2.2, cs ++ [⟨S t2.1, ⟨#[]⟩, (numL t3.1 : Nat), 0⟩], va9), (by dsimp only; omega), ⟨(row_snoc (hS.arr [2, 3, 4, 5, 6, 7]) rfl rfl), ⟨rounds_next hrn (by omega) p2 (cellP_a h_t1 h_t2 h_t3), by omega, by omega, by rw [List.length_append]; simp only [List.length_cons, List.length_nil]; omega, smalls_snoc hsm (small_of hk2 (Nat.zero_le _))⟩⟩, Fr.sub hFr (kc rfl (kc rfl (kc rfl (kc rfl (kc rfl (kc rfl (kc rfl (kc rfl (kc rfl (kc rfl kn))))))))))⟩
          · exact absurd rfl p3
    · skip
      refine c_exit ex_here ?_
      refine fun _ hFr => ⟨(l, sh, cs, v), ⟨hS, ⟨hrn.symm.trans (rounds_end (Or.inl (by omega))), by omega, hsm⟩⟩, Fr.sub hFr (kc rfl (kc rfl (kc rfl (kc rfl (kc rfl kn)))))⟩
  · skip
    obtain ⟨l, sh, cs, v⟩ := xx
    obtain ⟨hS, ⟨hrn, hcl, hsm⟩⟩ := hI
    obtain ⟨A', c', rfl⟩ := row_form (hS.rowAt 0 rfl)
    refine c_seq ?_
    refine c_seq ?_
    refine c_region ?_
    refine l_val (v_load ty4 rfl (here (hS.cellX 2 (k := 0) rfl rfl))) rfl ?_
    refine l_val (v_move rfl) rfl ?_
    refine l_partB 71 rfl (fun p1 => ?_) (fun p1 => ?_)
    · skip
      refine l_skip rfl rfl rfl rfl rfl ?_
      refine l_skip rfl rfl rfl rfl rfl ?_
      refine l_val (v_pickT rfl rfl) rfl ?_
      refine l_val (v_move rfl) rfl ?_
      refine l_skip rfl rfl rfl rfl rfl ?_
      refine l_skip rfl rfl rfl rfl rfl ?_
      refine l_skip rfl rfl rfl rfl rfl ?_
      refine l_val (v_pickT rfl rfl) rfl ?_
      refine l_val (v_move rfl) rfl ?_
      refine l_skip rfl rfl rfl rfl rfl ?_
      refine l_skip rfl rfl rfl rfl rfl ?_
      refine l_skip rfl rfl rfl rfl rfl ?_
      refine l_val (v_pickT rfl rfl) rfl ?_
      refine l_end ?_
      refine k_code ?_
      refine c_yes rfl ?_
      refine c_seq ?_
      refine c_region ?_
      refine l_val (v_build (cells := #[_, _]) zero24 places24 rfl rfl) rfl ?_
      refine l_storeNX (cs' := #[_, _]) (L' := (_ :: (_ :: (_ :: (_ :: (_ :: (_ :: _))))))) 5 hS tyN24 rfl rfl rfl rfl rfl rfl rfl rfl (fun w hS => ?_)
      refine l_val (v_assign rfl) rfl ?_
      refine l_end ?_
      refine k_code ?_
      refine c_retCT 5 rfl tyN24 hS rfl rfl rfl rfl ?_
      exact givesRd_none (pread_no hrn (fun h => by rw [h.1] at p1; simp at p1)) hS.keep
    · skip
      refine l_on rfl rfl rfl ?_
      refine l_val (v_load ty9 rfl (here (hS.cellX 1 (k := 0) rfl rfl))) rfl ?_
      refine l_on rfl rfl rfl ?_
      refine l_val (v_sneq rfl rfl) rfl ?_
      refine l_val (v_pickF rfl rfl) rfl ?_
      refine l_val (v_move rfl) rfl ?_
      refine l_part 75 rfl (fun p2 => ?_) (fun p2 => ?_)
      · skip
        refine l_skip rfl rfl rfl rfl rfl ?_
        refine l_skip rfl rfl rfl rfl rfl ?_
        refine l_skip rfl rfl rfl rfl rfl ?_
        refine l_val (v_pickT rfl rfl) rfl ?_
        refine l_val (v_move rfl) rfl ?_
        refine l_skip rfl rfl rfl rfl rfl ?_
        refine l_skip rfl rfl rfl rfl rfl ?_
        refine l_skip rfl rfl rfl rfl rfl ?_
        refine l_val (v_pickT rfl rfl) rfl ?_
        refine l_end ?_
        refine k_code ?_
        refine c_yes rfl ?_
        refine c_seq ?_
        refine c_region ?_
        refine l_val (v_build (cells := #[_, _]) zero24 places24 rfl rfl) rfl ?_
        refine l_storeNX (cs' := #[_, _]) (L' := (_ :: (_ :: (_ :: (_ :: (_ :: (_ :: _))))))) 5 hS tyN24 rfl rfl rfl rfl rfl rfl rfl rfl (fun w hS => ?_)
        refine l_val (v_assign rfl) rfl ?_
        refine l_end ?_
        refine k_code ?_
        refine c_retCT 5 rfl tyN24 hS rfl rfl rfl rfl ?_
        exact givesRd_none (pread_no hrn (fun h => p2 (S_nil.2 h.2.1))) hS.keep
      · skip
        refine l_on rfl rfl rfl ?_
        refine l_val (v_loadW tyN24 rfl rfl (hereN (hS.rowX 4 rfl))) rfl ?_
        refine l_on rfl rfl rfl ?_
        refine l_callK goes12 rfl hS (check_any _ _ _ _ _ (Lies.row (hS.rowAt 0 rfl)) (by omega)) rfl (fun w hS => ?_)
        refine l_on rfl rfl rfl ?_
        refine l_val (v_neq rfl rfl) rfl ?_
        refine l_val (v_pickF rfl rfl) rfl ?_
        refine l_val (v_move rfl) rfl ?_
        refine l_part 80 rfl (fun p3 => ?_) (fun p3 => ?_)
        · skip
          refine l_skip rfl rfl rfl rfl rfl ?_
          refine l_skip rfl rfl rfl rfl rfl ?_
          refine l_skip rfl rfl rfl rfl rfl ?_
          refine l_val (v_pickT rfl rfl) rfl ?_
          refine l_end ?_
          refine k_code ?_
          refine c_yes rfl ?_
          refine c_seq ?_
          refine c_region ?_
          refine l_val (v_build (cells := #[_, _]) zero24 places24 rfl rfl) rfl ?_
          refine l_storeNX (cs' := #[_, _]) (L' := (_ :: (_ :: (_ :: (_ :: (_ :: (_ :: _))))))) 5 hS tyN24 rfl rfl rfl rfl rfl rfl rfl rfl (fun w hS => ?_)
          refine l_val (v_assign rfl) rfl ?_
          refine l_end ?_
          refine k_code ?_
          refine c_retCT 5 rfl tyN24 hS rfl rfl rfl rfl ?_
          exact givesRd_none (pread_no hrn (fun h => p3 h.2.2.1)) hS.keep
        · skip
          refine l_on rfl rfl rfl ?_
          refine l_val (v_loadW tyN24 rfl rfl (hereN (hS.rowX 4 rfl))) rfl ?_
          refine l_on rfl rfl rfl ?_
          refine l_callK goes16 rfl hS (fits_any _ _ _ _ _ (Lies.row (hS.rowAt 0 rfl)) ⟨hcl, hsm⟩) rfl (fun w hS => ?_)
          refine l_on rfl rfl rfl ?_
          refine l_val (v_not rfl) rfl ?_
          refine l_val (v_pickF rfl rfl) rfl ?_
          refine l_end ?_
          refine k_code ?_
          refine c_cond rfl (fun p4 => ?_) (fun p4 => ?_)
          · skip
            refine c_seq ?_
            refine c_region ?_
            refine l_val (v_build (cells := #[_, _]) zero24 places24 rfl rfl) rfl ?_
            refine l_storeNX (cs' := #[_, _]) (L' := (_ :: (_ :: (_ :: (_ :: (_ :: (_ :: _))))))) 5 hS tyN24 rfl rfl rfl rfl rfl rfl rfl rfl (fun w hS => ?_)
            refine l_val (v_assign rfl) rfl ?_
            refine l_end ?_
            refine k_code ?_
            refine c_retCT 5 rfl tyN24 hS rfl rfl rfl rfl ?_
            exact givesRd_none (pread_no hrn (fun h => by have := h.2.2.2; simp at p4; omega)) hS.keep
          · skip
            refine c_skip ?_
            refine k_code ?_
            refine c_seq ?_
            refine c_region ?_
            refine l_val (v_loadW tyN24 rfl rfl (hereN (hS.rowX 4 rfl))) rfl ?_
            refine l_storeNX (cs' := #[_, _]) (L' := (_ :: (_ :: (_ :: (_ :: (_ :: (_ :: _))))))) 5 hS tyN24 rfl rfl rfl rfl rfl rfl rfl rfl (fun w hS => ?_)
            refine l_val (v_assign rfl) rfl ?_
            refine l_end ?_
            refine k_code ?_
            refine c_retCT 5 rfl tyN24 hS rfl rfl rfl rfl ?_
            exact givesRd_row (pread_yes hrn p1 (S_nil.1 (by simpa using p2)) (by omega) (by simpa using p4)) hS (i := 0) rfl
set_option maxHeartbeats 4000000 in
theorem preadT_any (l0 : List UInt8) (w0 : World) (hl : l0.length ≤ 1048576) :
    Calls Try.prog 17 [.bool true, .string (S l0)].toArray w0 (GivesRd w0 true (preadS true l0)) := by
  refine enter (n := 87) Try.func17 rfl rfl rfl ?_
  have hS := St.start No w0
  refine c_seq ?_
  refine c_region ?_
  refine l_alloc (cs := #[_, _]) hS zero24 rfl rfl (fun b1 w hS => ?_)
  refine l_val (v_assign rfl) rfl ?_
  refine l_end ?_
  refine k_code ?_
  refine c_seq ?_
  refine c_region ?_
  refine l_val (v_move rfl) rfl ?_
  refine l_alloc (cs := #[_]) hS zero9 rfl rfl (fun b2 w hS => ?_)
  refine l_alloc (cs := #[_]) hS zero4 rfl rfl (fun b3 w hS => ?_)
  refine l_storeX (cs' := #[_]) (L' := (_ :: (_ :: _))) 1 hS ty9 rfl rfl rfl rfl rfl rfl rfl (fun w hS => ?_)
  refine l_storeX (cs' := #[_]) (L' := (_ :: _)) 0 hS ty4 rfl rfl rfl rfl rfl rfl rfl (fun w hS => ?_)
  refine l_end ?_
  refine k_code ?_
  refine c_seq ?_
  refine c_region ?_
  refine l_val (v_makeFunc rfl) rfl ?_
  refine l_alloc (cs := #[_]) hS zero54 rfl rfl (fun b4 w hS => ?_)
  refine l_storeX (cs' := #[_]) (L' := (_ :: _)) 0 hS ty54 rfl rfl rfl rfl rfl rfl rfl (fun w hS => ?_)
  refine l_end ?_
  refine k_code ?_
  refine c_seq ?_
  refine c_region ?_
  refine l_val (v_makeFunc rfl) rfl ?_
  refine l_val (v_assign rfl) rfl ?_
  refine l_end ?_
  refine k_code ?_
  refine c_seq ?_
  refine c_region ?_
  refine l_val (v_move rfl) rfl ?_
  refine l_val (v_build (cells := #[_, _]) zero24 places24 rfl rfl) rfl ?_
  refine l_alloc (cs := #[_, _]) hS zero24 rfl rfl (fun b5 w hS => ?_)
  refine l_storeNX (cs' := #[_, _]) (L' := (_ :: _)) 0 hS tyN24 rfl rfl rfl rfl rfl rfl rfl rfl (fun w hS => ?_)
  refine l_end ?_
  refine k_code ?_
  refine c_cutV [(4, _), (5, _), (6, _), (7, _), (10, _)] (fun ((l, sh, cs, v) : List UInt8 × Bool × List Cel × Value) => []) (fun ((l, sh, cs, v) : List UInt8 × Bool × List Cel × Value) w => St No w0 w [.row 27 4 v cs.length (cellsOf cs), strB b2 l, boolB b3 sh, .blk b4 (.cells #[TakeF b2 b3] 54 (0, 0)), .blk b5 (.cells #[.bool true, v] 24 (0, 0)), .blk b1 (.cells #[.bool false, .slice none 0 0] 24 (0, 0))] ∧ runP true l0 = (cs, l, sh) ∧ cs.length ≤ 65536 ∧ ∀ c ∈ cs, Small c) (kc rfl (kc rfl (kc rfl (kc rfl (kc rfl kn))))) ?_ (fun xx w hI => ?_)
  · skip
    refine c_seq ?_
    refine c_region ?_
    refine l_val (v_move rfl) rfl ?_
    have hne : b2 ≠ b3 := fun e => (apart_at hS.apart (i := 3) (j := 2) rfl rfl (by decide)).1 b2 rfl e
    have hL1 := takeP_len (l := l0) (sh := false) (n := 2); have hM1 := takeP_len1 (l := l0) (sh := false) (n := 2); refine l_callV (first := []) (cap := [.pointer (some ⟨b4, 0, none⟩)]) goes39 rfl rfl (pnum_any b2 b3 b4 hne l0 false 2 _ (hS.block (i := 3) rfl) (hS.block (i := 2) rfl) (hS.cellX 1 rfl rfl) (by omega) (by omega)) rfl (fun e w hB => ?_)
    generalize h_ta : takeP l0 false 2 = ta at hB hL1 hM1; obtain ⟨rfl, hk1, hb1, hb2⟩ := hB; have hS := St.turn2 hS (i := 3) (j := 2) rfl rfl (by decide) hk1 hb1 hb2; refine ⟨_, rfl, ?_⟩
    have hmany := num2_lt hM1
    have hrun : rounds (cellP true) (numL ta.1 - 0) ta.2.1 ta.2.2 [] = runP true l0 := by unfold runP; rw [h_ta]; rfl
    refine l_val (v_move rfl) rfl ?_
    refine l_end ?_
    refine k_code ?_
    refine c_block ?_
    refine c_loopV [(0, _), (4, _), (5, _), (6, _), (7, _), (8, _), (9, _), (10, _), (19, _)] (fun ((k, l, sh, cs, v) : Nat × List UInt8 × Bool × List Cel × Value) => [(20, .int .i64 k)]) (fun ((k, l, sh, cs, v) : Nat × List UInt8 × Bool × List Cel × Value) w => St No w0 w [.row 27 4 v cs.length (cellsOf cs), strB b2 l, boolB b3 sh, .blk b4 (.cells #[TakeF b2 b3] 54 (0, 0)), .blk b5 (.cells #[.bool true, v] 24 (0, 0)), .blk b1 (.cells #[.bool false, .slice none 0 0] 24 (0, 0))] ∧ rounds (cellP true) (numL ta.1 - k) l sh cs = runP true l0 ∧ l.length ≤ 1048576 ∧ k ≤ numL ta.1 ∧ cs.length ≤ k ∧ ∀ c ∈ cs, Small c) (fun ((k, l, sh, cs, v) : Nat × List UInt8 × Bool × List Cel × Value) => numL ta.1 - k) ((0 : Nat), ta.2.1, ta.2.2, [], .slice none 0 0) ⟨((hS.nil 27 4).arr [0, 4, 3, 2, 1, 5]), ⟨hrun, by omega, Nat.zero_le _, Nat.zero_le _, fun c hc => absurd hc List.not_mem_nil⟩⟩ (kc rfl (kc rfl (kc rfl (kc rfl (kc rfl (kc rfl (kc rfl (kc rfl (kc rfl (kc rfl kn)))))))))) (fun xx w hI => ?_)
    obtain ⟨k, l, sh, cs, v⟩ := xx
    obtain ⟨hS, ⟨hrn, hll, hkm, hcl, hsm⟩⟩ := hI
    refine c_seq ?_
    refine c_region ?_
    refine l_val (v_lss rfl rfl) rfl ?_
    refine l_end ?_
    refine k_code ?_
    refine c_seq ?_
    refine c_if rfl (fun p1 => ?_) (fun p1 => ?_)
    · skip
      refine c_skip ?_
      refine k_code ?_
      refine c_seq ?_
      refine c_block ?_
      refine c_seq ?_
      refine c_seq ?_
      refine c_region ?_
      refine l_val (v_load ty4 rfl (here (hS.cellX 2 (k := 0) rfl rfl))) rfl ?_
      refine l_end ?_
      refine k_code ?_
      refine c_cond rfl (fun p2 => ?_) (fun p2 => ?_)
      · skip
        refine c_exit (ex_out rfl ex_here) ?_
        refine fun _ hFr => ⟨(l, sh, cs, v), ⟨hS, ⟨hrn.symm.trans (rounds_end (Or.inr p2)), by omega, hsm⟩⟩, Fr.sub hFr (kc rfl (kc rfl (kc rfl (kc rfl (kc rfl kn)))))⟩
      · skip
        refine c_skip ?_
        refine k_code ?_
        refine c_seq ?_
        refine d_region (fun w => St No w0 w [.blk b4 (.cells #[TakeF b2 b3] 54 (0, 0))]) 7 mixed ?_
        have hS := hS.drew 1
        have hR : St No w0 _ [.blk b4 (.cells #[TakeF b2 b3] 54 (0, 0))] := hS.less (.cons _ (.cons _ (.cons _ (.cons_cons _ (.cons _ (.cons _ (.slnil)))))))
        refine d_take 0 rfl (by kernel_rfl) (by kernel_rfl) (by kernel_rfl) (by kernel_rfl) hR (v_load ty54 rfl (fun _ h => h.cellX 0 (k := 0) rfl rfl)) rfl ?_
        refine d_take 1 rfl (by kernel_rfl) (by kernel_rfl) (by kernel_rfl) (by kernel_rfl) hR (v_move rfl) rfl ?_
        refine d_two 2 5 rfl rfl (by kernel_rfl) ?_ ?_
        · skip
          have hL1 := takeP_len (l := l) (sh := sh) (n := 1); have hM1 := takeP_len1 (l := l) (sh := sh) (n := 1); refine l_callV (first := []) (cap := [.pointer (some ⟨b4, 0, none⟩)]) goes39 rfl rfl (pnum_any b2 b3 b4 hne l sh 1 _ (hS.block (i := 1) rfl) (hS.block (i := 2) rfl) (hS.cellX 3 rfl rfl) (by omega) (by omega)) rfl (fun e w hB => ?_)
          generalize h_t1 : takeP l sh 1 = t1 at hB hL1 hM1; obtain ⟨rfl, hk1, hb1, hb2⟩ := hB; have hS := St.turn2 hS (i := 1) (j := 2) rfl rfl (by decide) hk1 hb1 hb2; refine ⟨_, rfl, ?_⟩
          have hn1 := num1_lt hM1
          refine l_end ?_
          have hR : St No w0 _ [.blk b4 (.cells #[TakeF b2 b3] 54 (0, 0))] := hS.less (.cons _ (.cons _ (.cons _ (.cons_cons _ (.cons _ (.cons _ (.slnil)))))))
          refine d_on (S := (fun w => St No w0 w [.blk b4 (.cells #[TakeF b2 b3] 54 (0, 0))])) hR ?_
          refine d_two 3 5 rfl rfl (by kernel_rfl) ?_ ?_
          · skip
            have hL1 := takeP_len (l := t1.2.1) (sh := t1.2.2) (n := (numL t1.1)); have hM1 := takeP_len1 (l := t1.2.1) (sh := t1.2.2) (n := (numL t1.1)); refine l_callV (first := []) (cap := [.pointer (some ⟨b2, 0, none⟩), .pointer (some ⟨b3, 0, none⟩)]) goes38 rfl rfl (pull_any b2 b3 hne t1.2.1 t1.2.2 (numL t1.1) _ (hS.block (i := 1) rfl) (hS.block (i := 2) rfl) (by omega)) rfl (fun e w hB => ?_)
            generalize h_t2 : takeP t1.2.1 t1.2.2 (numL t1.1) = t2 at hB hL1 hM1; obtain ⟨rfl, hk1, hb1, hb2⟩ := hB; have hS := St.turn2 hS (i := 1) (j := 2) rfl rfl (by decide) hk1 hb1 hb2; refine ⟨_, rfl, ?_⟩
            have hk2 := S_le (Nat.le_trans hM1 hn1)
            refine l_end ?_
            have hR : St No w0 _ [.blk b4 (.cells #[TakeF b2 b3] 54 (0, 0))] := hS.less (.cons _ (.cons _ (.cons _ (.cons_cons _ (.cons _ (.cons _ (.slnil)))))))
            refine d_on (S := (fun w => St No w0 w [.blk b4 (.cells #[TakeF b2 b3] 54 (0, 0))])) hR ?_
            refine d_two 4 5 rfl rfl (by kernel_rfl) ?_ ?_
            · skip
              refine l_val (v_build (cells := #[_, _, _, _]) zero27 places27 rfl rfl) rfl ?_
              refine l_end ?_
              have hR : St No w0 _ [.blk b4 (.cells #[TakeF b2 b3] 54 (0, 0))] := hS.less (.cons _ (.cons _ (.cons _ (.cons_cons _ (.cons _ (.cons _ (.slnil)))))))
              refine d_on (S := (fun w => St No w0 w [.blk b4 (.cells #[TakeF b2 b3] 54 (0, 0))])) hR ?_
              refine d_one 5 rfl (by kernel_rfl) ?_
              refine l_alloc (cs := #[_, _, _, _]) hS zero27 rfl rfl (fun b6 w hS => ?_)
              refine l_end ?_
              have hR : St No w0 _ [.blk b4 (.cells #[TakeF b2 b3] 54 (0, 0))] := hS.less (.cons _ (.cons _ (.cons _ (.cons _ (.cons_cons _ (.cons _ (.cons _ (.slnil))))))))
              refine d_on (S := (fun w => St No w0 w [.blk b4 (.cells #[TakeF b2 b3] 54 (0, 0))])) hR ?_
              refine d_one 6 rfl (by kernel_rfl) ?_
              refine l_storeNX (cs' := #[_, _, _, _]) (L' := (_ :: _)) 0 hS tyN27 rfl rfl rfl rfl rfl rfl rfl rfl (fun w hS => ?_)
              refine l_end ?_
              have hR : St No w0 _ [.blk b4 (.cells #[TakeF b2 b3] 54 (0, 0))] := hS.less (.cons _ (.cons _ (.cons _ (.cons _ (.cons_cons _ (.cons _ (.cons _ (.slnil))))))))
              refine d_on (S := (fun w => St No w0 w [.blk b4 (.cells #[TakeF b2 b3] 54 (0, 0))])) hR ?_
              refine d_end (by kernel_rfl) ?_
              refine k_code ?_
              refine c_seq ?_
              refine c_region ?_
              refine l_val (v_assign rfl) rfl ?_
              refine l_end ?_
              refine k_code ?_
              refine c_seq ?_
              refine c_seq ?_
              refine c_region ?_
              refine l_val (v_move rfl) rfl ?_
              refine l_end ?_
              refine k_code ?_
              refine c_yes rfl ?_
              refine c_region ?_
              refine l_val (v_move rfl) rfl ?_
              have hL1 := takeP_len (l := t2.2.1) (sh := t2.2.2) (n := 1); have hM1 := takeP_len1 (l := t2.2.1) (sh := t2.2.2) (n := 1); refine l_callV (first := []) (cap := [.pointer (some ⟨b4, 0, none⟩)]) goes39 rfl rfl (pnum_any b2 b3 b4 hne t2.2.1 t2.2.2 1 _ (hS.block (i := 2) rfl) (hS.block (i := 3) rfl) (hS.cellX 4 rfl rfl) (by omega) (by omega)) rfl (fun e w hB => ?_)
              generalize h_t4 : takeP t2.2.1 t2.2.2 1 = t4 at hB hL1 hM1; obtain ⟨rfl, hk1, hb1, hb2⟩ := hB; have hS := St.turn2 hS (i := 2) (j := 3) rfl rfl (by decide) hk1 hb1 hb2; refine ⟨_, rfl, ?_⟩
              refine l_val (v_assign rfl) rfl ?_
              refine l_end ?_
              refine k_code ?_
              refine c_seq ?_
              refine c_block ?_
              refine c_seq ?_
              refine c_region ?_
              refine l_val (v_move rfl) rfl ?_
              refine l_val (v_eql rfl rfl) rfl ?_
              refine l_val (v_assign rfl) rfl ?_
              refine l_end ?_
              refine k_code ?_
              refine c_if rfl (fun p3 => ?_) (fun p3 => ?_)
              · skip
                refine c_seq ?_
                refine c_region ?_
                refine l_val (v_move rfl) rfl ?_
                have hL1 := takeP_len (l := t4.2.1) (sh := t4.2.2) (n := 4); have hM1 := takeP_len1 (l := t4.2.1) (sh := t4.2.2) (n := 4); refine l_callV (first := []) (cap := [.pointer (some ⟨b4, 0, none⟩)]) goes39 rfl rfl (pnum_any b2 b3 b4 hne t4.2.1 t4.2.2 4 _ (hS.block (i := 2) rfl) (hS.block (i := 3) rfl) (hS.cellX 4 rfl rfl) (by omega) (by omega)) rfl (fun e w hB => ?_)
                generalize h_t5 : takeP t4.2.1 t4.2.2 4 = t5 at hB hL1 hM1; obtain ⟨rfl, hk1, hb1, hb2⟩ := hB; have hS := St.turn2 hS (i := 2) (j := 3) rfl rfl (by decide) hk1 hb1 hb2; refine ⟨_, rfl, ?_⟩
                refine l_val (v_fieldX (o' := 2) field27_2 rfl rfl) rfl ?_
                refine l_storeX (cs' := #[_, _, _, _]) (L' := (_ :: _)) 0 hS ty3 rfl rfl rfl rfl rfl rfl rfl (fun w hS => ?_)
                refine l_end ?_
                refine k_code ?_
                refine c_seq ?_
                refine c_region ?_
                refine l_val (v_move rfl) rfl ?_
                refine l_end ?_
                refine k_code ?_
                refine c_yes rfl ?_
                refine c_region ?_
                refine l_val (v_move rfl) rfl ?_
                have hL1 := takeP_len (l := t5.2.1) (sh := t5.2.2) (n := 4); have hM1 := takeP_len1 (l := t5.2.1) (sh := t5.2.2) (n := 4); refine l_callV (first := []) (cap := [.pointer (some ⟨b4, 0, none⟩)]) goes39 rfl rfl (pnum_any b2 b3 b4 hne t5.2.1 t5.2.2 4 _ (hS.block (i := 2) rfl) (hS.block (i := 3) rfl) (hS.cellX 4 rfl rfl) (by omega) (by omega)) rfl (fun e w hB => ?_)
                generalize h_t6 : takeP t5.2.1 t5.2.2 4 = t6 at hB hL1 hM1; obtain ⟨rfl, hk1, hb1, hb2⟩ := hB; have hS := St.turn2 hS (i := 2) (j := 3) rfl rfl (by decide) hk1 hb1 hb2; refine ⟨_, rfl, ?_⟩
                refine l_val (v_fieldX (o' := 3) field27_3 rfl rfl) rfl ?_
                refine l_storeX (cs' := #[_, _, _, _]) (L' := (_ :: _)) 0 hS ty3 rfl rfl rfl rfl rfl rfl rfl (fun w hS => ?_)
                refine l_end ?_
                refine k_code ?_
                refine c_seq ?_
                refine c_seq ?_
                refine c_region ?_
                refine l_val (v_move rfl) rfl ?_
                refine l_val (v_move rfl) rfl ?_
                refine l_on rfl rfl rfl ?_
                refine l_val (v_move rfl) rfl ?_
                refine l_on rfl rfl rfl ?_
                refine l_val (v_eql rfl rfl) rfl ?_
                refine l_val (v_pickT rfl rfl) rfl ?_
                refine l_val (v_move rfl) rfl ?_
                refine l_part 58 rfl (fun p4 => ?_) (fun p4 => ?_)
                · skip
                  refine l_on rfl rfl rfl ?_
                  refine l_val (v_fieldX (o' := 2) field27_2 rfl rfl) rfl ?_
                  refine l_on rfl rfl rfl ?_
                  refine l_val (v_load ty3 rfl (here (hS.cellX 0 (k := 2) rfl rfl))) rfl ?_
                  refine l_on rfl rfl rfl ?_
                  refine l_val (v_eql rfl rfl) rfl ?_
                  refine l_val (v_pickT rfl rfl) rfl ?_
                  refine l_end ?_
                  refine k_code ?_
                  refine c_if rfl (fun p5 => ?_) (fun p5 => ?_)
                  · skip
                    refine c_region ?_
                    refine l_storeX (cs' := #[_]) (L' := (_ :: (_ :: (_ :: (_ :: _))))) 3 hS ty4 rfl rfl rfl rfl rfl rfl rfl (fun w hS => ?_)
                    refine l_end ?_
                    refine k_code ?_
                    refine c_region ?_
                    refine l_val (v_fieldX (o' := 1) field24_1 rfl rfl) rfl ?_
                    refine l_val (v_load ty22 rfl (here (hS.cellX 5 (k := 1) rfl rfl))) rfl ?_
                    refine l_val (v_loadW tyN27 rfl rfl (hereN (hS.rowX 0 rfl))) rfl ?_
                    refine l_slice1 (bytes := 0) hS Try.underlying22 tyN27.size zero27 rfl (by decide) (by decide) rfl rfl rfl rfl (fun b7 w hS => ?_)
                    refine l_appendX (L' := fun _ => (_ :: (_ :: (_ :: _)))) 2 hS Try.underlying22 elem27 rfl rfl rfl rfl (hS.row 0 rfl) (enc_one ⟨_, _, _, _⟩) (by unfold maxLen; omega) (by omega) rfl (fun _ => rfl) (fun va9 w hS hvva9 => ?_)
                    refine l_val (v_fieldX (o' := 1) field24_1 rfl rfl) rfl ?_
                    refine l_storeX (cs' := #[_, _]) (L' := (_ :: (_ :: (_ :: (_ :: (_ :: (_ :: (_ :: _)))))))) 6 hS ty22 rfl rfl rfl rfl (row_one (hS.rowAt 2 rfl)) rfl rfl (fun w hS => ?_)
                    refine l_end ?_
                    refine k_code ?_
                    refine c_region ?_
                    refine l_val (v_add rfl rfl (by omega)) rfl ?_
                    refine l_val (v_move rfl) rfl ?_
                    refine l_end ?_
                    refine fun _ hFr => ⟨(k + 1, t6.2.1, true, cs ++ [⟨S t2.1, ⟨#[]⟩, (numL t5.1 : Nat), (numL t6.1 : Nat)⟩], va9), (by dsimp only; omega), ⟨(row_snoc (hS.arr [2, 3, 4, 5, 6, 7]) rfl rfl), ⟨rounds_next hrn (by omega) p2 (cellP_b0 h_t1 h_t2 h_t4 (by omega) h_t5 h_t6 (by omega)), by omega, by omega, by rw [List.length_append]; simp only [List.length_cons, List.length_nil]; omega, smalls_snoc hsm (small_of hk2 (Nat.zero_le _))⟩⟩, Fr.sub hFr (kc rfl (kc rfl (kc rfl (kc rfl (kc rfl (kc rfl (kc rfl (kc rfl (kc rfl (kc rfl kn))))))))))⟩
                  · skip
                    refine c_skip ?_
                    refine k_code ?_
                    refine c_region ?_
                    refine l_val (v_fieldX (o' := 1) field24_1 rfl rfl) rfl ?_
                    refine l_val (v_load ty22 rfl (here (hS.cellX 5 (k := 1) rfl rfl))) rfl ?_
                    refine l_val (v_loadW tyN27 rfl rfl (hereN (hS.rowX 0 rfl))) rfl ?_
                    refine l_slice1 (bytes := 0) hS Try.underlying22 tyN27.size zero27 rfl (by decide) (by decide) rfl rfl rfl rfl (fun b7 w hS => ?_)
                    refine l_appendX (L' := fun _ => (_ :: (_ :: (_ :: _)))) 2 hS Try.underlying22 elem27 rfl rfl rfl rfl (hS.row 0 rfl) (enc_one ⟨_, _, _, _⟩) (by unfold maxLen; omega) (by omega) rfl (fun _ => rfl) (fun va9 w hS hvva9 => ?_)
                    refine l_val (v_fieldX (o' := 1) field24_1 rfl rfl) rfl ?_
                    refine l_storeX (cs' := #[_, _]) (L' := (_ :: (_ :: (_ :: (_ :: (_ :: (_ :: (_ :: _)))))))) 6 hS ty22 rfl rfl rfl rfl (row_one (hS.rowAt 2 rfl)) rfl rfl (fun w hS => ?_)
                    refine l_end ?_
                    refine k_code ?_
                    refine c_region ?_
                    refine l_val (v_add rfl rfl (by omega)) rfl ?_
                    refine l_val (v_move rfl) rfl ?_
                    refine l_end ?_
                    refine fun _ hFr => ⟨(k + 1, t6.2.1, t6.2.2, cs ++ [⟨S t2.1, ⟨#[]⟩, (numL t5.1 : Nat), (numL t6.1 : Nat)⟩], va9), (by dsimp only; omega), ⟨(row_snoc (hS.arr [2, 3, 4, 5, 6, 7]) rfl rfl), ⟨rounds_next hrn (by omega) p2 (cellP_b h_t1 h_t2 h_t4 (by omega) h_t5 h_t6 (by omega)), by omega, by omega, by rw [List.length_append]; simp only [List.length_cons, List.length_nil]; omega, smalls_snoc hsm (small_of hk2 (Nat.zero_le _))⟩⟩, Fr.sub hFr (kc rfl (kc rfl (kc rfl (kc rfl (kc rfl (kc rfl (kc rfl (kc rfl (kc rfl (kc rfl kn))))))))))⟩
                · exact absurd p3 p4
              · skip
                refine c_seq ?_
                refine c_region ?_
                refine l_val (v_move rfl) rfl ?_
                refine l_val (v_eql rfl rfl) rfl ?_
                refine l_val (v_assign rfl) rfl ?_
                refine l_end ?_
                refine k_code ?_
                refine c_if rfl (fun p4 => ?_) (fun p4 => ?_)
                · skip
                  refine c_seq ?_
                  refine d_region (fun w => St No w0 w [.blk b4 (.cells #[TakeF b2 b3] 54 (0, 0))]) 6 mixed ?_
                  have hS := hS.drew 1
                  have hR : St No w0 _ [.blk b4 (.cells #[TakeF b2 b3] 54 (0, 0))] := hS.less (.cons _ (.cons _ (.cons _ (.cons _ (.cons_cons _ (.cons _ (.cons _ (.slnil))))))))
                  refine d_take 0 rfl (by kernel_rfl) (by kernel_rfl) (by kernel_rfl) (by kernel_rfl) hR (v_load ty54 rfl (fun _ h => h.cellX 0 (k := 0) rfl rfl)) rfl ?_
                  refine d_one 1 rfl (by kernel_rfl) ?_
                  refine l_val (v_move rfl) rfl ?_
                  refine l_end ?_
                  have hR : St No w0 _ [.blk b4 (.cells #[TakeF b2 b3] 54 (0, 0))] := hS.less (.cons _ (.cons _ (.cons _ (.cons _ (.cons_cons _ (.cons _ (.cons _ (.slnil))))))))
                  refine d_on (S := (fun w => St No w0 w [.blk b4 (.cells #[TakeF b2 b3] 54 (0, 0))])) hR ?_
                  refine d_one 2 rfl (by kernel_rfl) ?_
                  have hL1 := takeP_len (l := t4.2.1) (sh := t4.2.2) (n := 1); have hM1 := takeP_len1 (l := t4.2.1) (sh := t4.2.2) (n := 1); refine l_callV (first := []) (cap := [.pointer (some ⟨b4, 0, none⟩)]) goes39 rfl rfl (pnum_any b2 b3 b4 hne t4.2.1 t4.2.2 1 _ (hS.block (i := 2) rfl) (hS.block (i := 3) rfl) (hS.cellX 4 rfl rfl) (by omega) (by omega)) rfl (fun e w hB => ?_)
                  generalize h_t5 : takeP t4.2.1 t4.2.2 1 = t5 at hB hL1 hM1; obtain ⟨rfl, hk1, hb1, hb2⟩ := hB; have hS := St.turn2 hS (i := 2) (j := 3) rfl rfl (by decide) hk1 hb1 hb2; refine ⟨_, rfl, ?_⟩
                  have hn5 := num1_lt hM1
                  refine l_end ?_
                  have hR : St No w0 _ [.blk b4 (.cells #[TakeF b2 b3] 54 (0, 0))] := hS.less (.cons _ (.cons _ (.cons _ (.cons _ (.cons_cons _ (.cons _ (.cons _ (.slnil))))))))
                  refine d_on (S := (fun w => St No w0 w [.blk b4 (.cells #[TakeF b2 b3] 54 (0, 0))])) hR ?_
                  refine d_one 3 rfl (by kernel_rfl) ?_
                  have hL1 := takeP_len (l := t5.2.1) (sh := t5.2.2) (n := (numL t5.1)); have hM1 := takeP_len1 (l := t5.2.1) (sh := t5.2.2) (n := (numL t5.1)); refine l_callV (first := []) (cap := [.pointer (some ⟨b2, 0, none⟩), .pointer (some ⟨b3, 0, none⟩)]) goes38 rfl rfl (pull_any b2 b3 hne t5.2.1 t5.2.2 (numL t5.1) _ (hS.block (i := 2) rfl) (hS.block (i := 3) rfl) (by omega)) rfl (fun e w hB => ?_)
                  generalize h_t6 : takeP t5.2.1 t5.2.2 (numL t5.1) = t6 at hB hL1 hM1; obtain ⟨rfl, hk1, hb1, hb2⟩ := hB; have hS := St.turn2 hS (i := 2) (j := 3) rfl rfl (by decide) hk1 hb1 hb2; refine ⟨_, rfl, ?_⟩
                  have hk6 := S_le (Nat.le_trans hM1 hn5)
                  have hz6 := S_size t6.1
                  refine l_end ?_
                  have hR : St No w0 _ [.blk b4 (.cells #[TakeF b2 b3] 54 (0, 0))] := hS.less (.cons _ (.cons _ (.cons _ (.cons _ (.cons_cons _ (.cons _ (.cons _ (.slnil))))))))
                  refine d_on (S := (fun w => St No w0 w [.blk b4 (.cells #[TakeF b2 b3] 54 (0, 0))])) hR ?_
                  refine d_one 4 rfl (by kernel_rfl) ?_
                  refine l_val (v_fieldX (o' := 1) field27_1 rfl rfl) rfl ?_
                  refine l_end ?_
                  have hR : St No w0 _ [.blk b4 (.cells #[TakeF b2 b3] 54 (0, 0))] := hS.less (.cons _ (.cons _ (.cons _ (.cons _ (.cons_cons _ (.cons _ (.cons _ (.slnil))))))))
                  refine d_on (S := (fun w => St No w0 w [.blk b4 (.cells #[TakeF b2 b3] 54 (0, 0))])) hR ?_
                  refine d_one 5 rfl (by kernel_rfl) ?_
                  refine l_storeX (cs' := #[_, _, _, _]) (L' := (_ :: _)) 0 hS ty9 rfl rfl rfl rfl rfl rfl rfl (fun w hS => ?_)
                  refine l_end ?_
                  have hR : St No w0 _ [.blk b4 (.cells #[TakeF b2 b3] 54 (0, 0))] := hS.less (.cons _ (.cons _ (.cons _ (.cons _ (.cons_cons _ (.cons _ (.cons _ (.slnil))))))))
                  refine d_on (S := (fun w => St No w0 w [.blk b4 (.cells #[TakeF b2 b3] 54 (0, 0))])) hR ?_
                  refine d_end (by kernel_rfl) ?_
                  refine k_code ?_
                  refine c_region ?_
                  refine l_val (v_fieldX (o' := 1) field27_1 rfl rfl) rfl ?_
                  refine l_val (v_load ty9 rfl (here (hS.cellX 0 (k := 1) rfl rfl))) rfl ?_
                  refine l_val (v_lenS Try.underlying9 rfl) rfl ?_
                  refine l_val (v_fieldX (o' := 3) field27_3 rfl rfl) rfl ?_
                  refine l_storeX (cs' := #[_, _, _, _]) (L' := (_ :: _)) 0 hS ty3 rfl rfl rfl rfl rfl rfl rfl (fun w hS => ?_)
                  refine l_end ?_
                  refine k_code ?_
                  refine c_seq ?_
                  refine c_seq ?_
                  refine c_region ?_
                  refine l_val (v_move rfl) rfl ?_
                  refine l_val (v_move rfl) rfl ?_
                  refine l_on rfl rfl rfl ?_
                  refine l_val (v_move rfl) rfl ?_
                  refine l_on rfl rfl rfl ?_
                  refine l_val (v_eql rfl rfl) rfl ?_
                  refine l_val (v_pickT rfl rfl) rfl ?_
                  refine l_val (v_move rfl) rfl ?_
                  refine l_part 58 rfl (fun p5 => ?_) (fun p5 => ?_)
                  · exact absurd p5 p3
                  · skip
                    refine l_skip rfl rfl rfl rfl rfl ?_
                    refine l_skip rfl rfl rfl rfl rfl ?_
                    refine l_skip rfl rfl rfl rfl rfl ?_
                    refine l_val (v_pickF rfl rfl) rfl ?_
                    refine l_end ?_
                    refine k_code ?_
                    refine c_no rfl ?_
                    refine c_skip ?_
                    refine k_code ?_
                    refine c_region ?_
                    refine l_val (v_fieldX (o' := 1) field24_1 rfl rfl) rfl ?_
                    refine l_val (v_load ty22 rfl (here (hS.cellX 5 (k := 1) rfl rfl))) rfl ?_
                    refine l_val (v_loadW tyN27 rfl rfl (hereN (hS.rowX 0 rfl))) rfl ?_
                    refine l_slice1 (bytes := 0) hS Try.underlying22 tyN27.size zero27 rfl (by decide) (by decide) rfl rfl rfl rfl (fun b7 w hS => ?_)
                    refine l_appendX (L' := fun _ => (_ :: (_ :: (_ :: _)))) 2 hS Try.underlying22 elem27 rfl rfl rfl rfl (hS.row 0 rfl) (enc_one ⟨_, _, _, _⟩) (by unfold maxLen; omega) (by omega) rfl (fun _ => rfl) (fun va9 w hS hvva9 => ?_)
                    refine l_val (v_fieldX (o' := 1) field24_1 rfl rfl) rfl ?_
                    refine l_storeX (cs' := #[_, _]) (L' := (_ :: (_ :: (_ :: (_ :: (_ :: (_ :: (_ :: _)))))))) 6 hS ty22 rfl rfl rfl rfl (row_one (hS.rowAt 2 rfl)) rfl rfl (fun w hS => ?_)
                    refine l_end ?_
                    refine k_code ?_
                    refine c_region ?_
                    refine l_val (v_add rfl rfl (by omega)) rfl ?_
                    refine l_val (v_move rfl) rfl ?_
                    refine l_end ?_
                    refine fun _ hFr => ⟨(k + 1, t6.2.1, t6.2.2, cs ++ [⟨S t2.1, S t6.1, 0, ((S t6.1).size : Nat)⟩], va9), (by dsimp only; omega), ⟨(row_snoc (hS.arr [2, 3, 4, 5, 6, 7]) rfl rfl), ⟨rounds_next hrn (by omega) p2 (cellP_c h_t1 h_t2 h_t4 (by omega) (by omega) h_t5 h_t6), by omega, by omega, by rw [List.length_append]; simp only [List.length_cons, List.length_nil]; omega, smalls_snoc hsm (small_of hk2 hk6)⟩⟩, Fr.sub hFr (kc rfl (kc rfl (kc rfl (kc rfl (kc rfl (kc rfl (kc rfl (kc rfl (kc rfl (kc rfl kn))))))))))⟩
                · skip
                  refine c_region ?_
                  refine l_storeX (cs' := #[_]) (L' := (_ :: (_ :: (_ :: (_ :: _))))) 3 hS ty4 rfl rfl rfl rfl rfl rfl rfl (fun w hS => ?_)
                  refine l_end ?_
                  refine k_code ?_
                  refine c_seq ?_
                  refine c_seq ?_
                  refine c_region ?_
                  refine l_val (v_move rfl) rfl ?_
                  refine l_val (v_move rfl) rfl ?_
                  refine l_on rfl rfl rfl ?_
                  refine l_val (v_move rfl) rfl ?_
                  refine l_on rfl rfl rfl ?_
                  refine l_val (v_eql rfl rfl) rfl ?_
                  refine l_val (v_pickT rfl rfl) rfl ?_
                  refine l_val (v_move rfl) rfl ?_
                  refine l_part 58 rfl (fun p5 => ?_) (fun p5 => ?_)
                  · exact absurd p5 p3
                  · skip
                    refine l_skip rfl rfl rfl rfl rfl ?_
                    refine l_skip rfl rfl rfl rfl rfl ?_
                    refine l_skip rfl rfl rfl rfl rfl ?_
                    refine l_val (v_pickF rfl rfl) rfl ?_
                    refine l_end ?_
                    refine k_code ?_
                    refine c_no rfl ?_
                    refine c_skip ?_
                    refine k_code ?_
                    refine c_region ?_
                    refine l_val (v_fieldX (o' := 1) field24_1 rfl rfl) rfl ?_
                    refine l_val (v_load ty22 rfl (here (hS.cellX 5 (k := 1) rfl rfl))) rfl ?_
                    refine l_val (v_loadW tyN27 rfl rfl (hereN (hS.rowX 0 rfl))) rfl ?_
                    refine l_slice1 (bytes := 0) hS Try.underlying22 tyN27.size zero27 rfl (by decide) (by decide) rfl rfl rfl rfl (fun b7 w hS => ?_)
                    refine l_appendX (L' := fun _ => (_ :: (_ :: (_ :: _)))) 2 hS Try.underlying22 elem27 rfl rfl rfl rfl (hS.row 0 rfl) (enc_one ⟨_, _, _, _⟩) (by unfold maxLen; omega) (by omega) rfl (fun _ => rfl) (fun va9 w hS hvva9 => ?_)
                    refine l_val (v_fieldX (o' := 1) field24_1 rfl rfl) rfl ?_
                    refine l_storeX (cs' := #[_, _]) (L' := (_ :: (_ :: (_ :: (_ :: (_ :: (_ :: (_ :: _)))))))) 6 hS ty22 rfl rfl rfl rfl (row_one (hS.rowAt 2 rfl)) rfl rfl (fun w hS => ?_)
                    refine l_end ?_
                    refine k_code ?_
                    refine c_region ?_
                    refine l_val (v_add rfl rfl (by omega)) rfl ?_
                    refine l_val (v_move rfl) rfl ?_
                    refine l_end ?_
                    refine fun _ hFr => ⟨(k + 1, t4.2.1, true, cs ++ [⟨S t2.1, ⟨#[]⟩, 0, 0⟩], va9), (by dsimp only; omega), ⟨(row_snoc (hS.arr [2, 3, 4, 5, 6, 7]) rfl rfl), ⟨rounds_next hrn (by omega) p2 (cellP_d h_t1 h_t2 h_t4 (by omega) (by omega)), by omega, by omega, by rw [List.length_append]; simp only [List.length_cons, List.length_nil]; omega, smalls_snoc hsm (small_of hk2 (Nat.zero_le _))⟩⟩, Fr.sub hFr (kc rfl (kc rfl (kc rfl (kc rfl (kc rfl (kc rfl (kc rfl (kc rfl (kc rfl (kc rfl kn))))))))))⟩
            · skip
              refine l_alloc (cs := #[_, _, _, _]) hS zero27 rfl rfl (fun b6 w hS => ?_)
              refine l_end ?_
              have hR : St No w0 _ [.blk b4 (.cells #[TakeF b2 b3] 54 (0, 0))] := hS.less (.cons _ (.cons _ (.cons _ (.cons _ (.cons_cons _ (.cons _ (.cons _ (.slnil))))))))
              refine d_on (S := (fun w => St No w0 w [.blk b4 (.cells #[TakeF b2 b3] 54 (0, 0))])) hR ?_
              refine d_one 4 rfl (by kernel_rfl) ?_
              refine l_val (v_build (cells := #[_, _, _, _]) zero27 places27 rfl rfl) rfl ?_
              refine l_end ?_
              have hR : St No w0 _ [.blk b4 (.cells #[TakeF b2 b3] 54 (0, 0))] := hS.less (.cons _ (.cons _ (.cons _ (.cons _ (.cons_cons _ (.cons _ (.cons _ (.slnil))))))))
              refine d_on (S := (fun w => St No w0 w [.blk b4 (.cells #[TakeF b2 b3] 54 (0, 0))])) hR ?_
              refine d_one 6 rfl (by kernel_rfl) ?_
              refine l_storeNX (cs' := #[_, _, _, _]) (L' := (_ :: _)) 0 hS tyN27 rfl rfl rfl rfl rfl rfl rfl rfl (fun w hS => ?_)
              refine l_end ?_
              have hR : St No w0 _ [.blk b4 (.cells #[TakeF b2 b3] 54 (0, 0))] := hS.less (.cons _ (.cons _ (.cons _ (.cons _ (.cons_cons _ (.cons _ (.cons _ (.slnil))))))))
              refine d_on (S := (fun w => St No w0 w [.blk b4 (.cells #[TakeF b2 b3] 54 (0, 0))])) hR ?_
              refine d_end (by kernel_rfl) ?_
              refine k_code ?_
              refine c_seq ?_
              refine c_region ?_
              refine l_val (v_assign rfl) rfl ?_
              refine l_end ?_
              refine k_code ?_
              refine c_seq ?_
              refine c_seq ?_
              refine c_region ?_
              refine l_val (v_move rfl) rfl ?_
              refine l_end ?_
              refine k_code ?_
              refine c_yes rfl ?_
              refine c_region ?_
              refine l_val (v_move rfl) rfl ?_
              have hL1 := takeP_len (l := t2.2.1) (sh := t2.2.2) (n := 1); have hM1 := takeP_len1 (l := t2.2.1) (sh := t2.2.2) (n := 1); refine l_callV (first := []) (cap := [.pointer (some ⟨b4, 0, none⟩)]) goes39 rfl rfl (pnum_any b2 b3 b4 hne t2.2.1 t2.2.2 1 _ (hS.block (i := 2) rfl) (hS.block (i := 3) rfl) (hS.cellX 4 rfl rfl) (by omega) (by omega)) rfl (fun e w hB => ?_)
              generalize h_t4 : takeP t2.2.1 t2.2.2 1 = t4 at hB hL1 hM1; obtain ⟨rfl, hk1, hb1, hb2⟩ := hB; have hS := St.turn2 hS (i := 2) (j := 3) rfl rfl (by decide) hk1 hb1 hb2; refine ⟨_, rfl, ?_⟩
              refine l_val (v_assign rfl) rfl ?_
              refine l_end ?_
              refine k_code ?_
              refine c_seq ?_
              refine c_block ?_
              refine c_seq ?_
              refine c_region ?_
              refine l_val (v_move rfl) rfl ?_
              refine l_val (v_eql rfl rfl) rfl ?_
              refine l_val (v_assign rfl) rfl ?_
              refine l_end ?_
              refine k_code ?_
              refine c_if rfl (fun p3 => ?_) (fun p3 => ?_)
              · skip
                refine c_seq ?_
                refine c_region ?_
                refine l_val (v_move rfl) rfl ?_
                have hL1 := takeP_len (l := t4.2.1) (sh := t4.2.2) (n := 4); have hM1 := takeP_len1 (l := t4.2.1) (sh := t4.2.2) (n := 4); refine l_callV (first := []) (cap := [.pointer (some ⟨b4, 0, none⟩)]) goes39 rfl rfl (pnum_any b2 b3 b4 hne t4.2.1 t4.2.2 4 _ (hS.block (i := 2) rfl) (hS.block (i := 3) rfl) (hS.cellX 4 rfl rfl) (by omega) (by omega)) rfl (fun e w hB => ?_)
                generalize h_t5 : takeP t4.2.1 t4.2.2 4 = t5 at hB hL1 hM1; obtain ⟨rfl, hk1, hb1, hb2⟩ := hB; have hS := St.turn2 hS (i := 2) (j := 3) rfl rfl (by decide) hk1 hb1 hb2; refine ⟨_, rfl, ?_⟩
                refine l_val (v_fieldX (o' := 2) field27_2 rfl rfl) rfl ?_
                refine l_storeX (cs' := #[_, _, _, _]) (L' := (_ :: _)) 0 hS ty3 rfl rfl rfl rfl rfl rfl rfl (fun w hS => ?_)
                refine l_end ?_
                refine k_code ?_
                refine c_seq ?_
                refine c_region ?_
                refine l_val (v_move rfl) rfl ?_
                refine l_end ?_
                refine k_code ?_
                refine c_yes rfl ?_
                refine c_region ?_
                refine l_val (v_move rfl) rfl ?_
                have hL1 := takeP_len (l := t5.2.1) (sh := t5.2.2) (n := 4); have hM1 := takeP_len1 (l := t5.2.1) (sh := t5.2.2) (n := 4); refine l_callV (first := []) (cap := [.pointer (some ⟨b4, 0, none⟩)]) goes39 rfl rfl (pnum_any b2 b3 b4 hne t5.2.1 t5.2.2 4 _ (hS.block (i := 2) rfl) (hS.block (i := 3) rfl) (hS.cellX 4 rfl rfl) (by omega) (by omega)) rfl (fun e w hB => ?_)
                generalize h_t6 : takeP t5.2.1 t5.2.2 4 = t6 at hB hL1 hM1; obtain ⟨rfl, hk1, hb1, hb2⟩ := hB; have hS := St.turn2 hS (i := 2) (j := 3) rfl rfl (by decide) hk1 hb1 hb2; refine ⟨_, rfl, ?_⟩
                refine l_val (v_fieldX (o' := 3) field27_3 rfl rfl) rfl ?_
                refine l_storeX (cs' := #[_, _, _, _]) (L' := (_ :: _)) 0 hS ty3 rfl rfl rfl rfl rfl rfl rfl (fun w hS => ?_)
                refine l_end ?_
                refine k_code ?_
                refine c_seq ?_
                refine c_seq ?_
                refine c_region ?_
                refine l_val (v_move rfl) rfl ?_
                refine l_val (v_move rfl) rfl ?_
                refine l_on rfl rfl rfl ?_
                refine l_val (v_move rfl) rfl ?_
                refine l_on rfl rfl rfl ?_
                refine l_val (v_eql rfl rfl) rfl ?_
                refine l_val (v_pickT rfl rfl) rfl ?_
                refine l_val (v_move rfl) rfl ?_
                refine l_part 58 rfl (fun p4 => ?_) (fun p4 => ?_)
                · skip
                  refine l_on rfl rfl rfl ?_
                  refine l_val (v_fieldX (o' := 2) field27_2 rfl rfl) rfl ?_
                  refine l_on rfl rfl rfl ?_
                  refine l_val (v_load ty3 rfl (here (hS.cellX 0 (k := 2) rfl rfl))) rfl ?_
                  refine l_on rfl rfl rfl ?_
                  refine l_val (v_eql rfl rfl) rfl ?_
                  refine l_val (v_pickT rfl rfl) rfl ?_
                  refine l_end ?_
                  refine k_code ?_
                  refine c_if rfl (fun p5 => ?_) (fun p5 => ?_)
                  · skip
                    refine c_region ?_
                    refine l_storeX (cs' := #[_]) (L' := (_ :: (_ :: (_ :: (_ :: _))))) 3 hS ty4 rfl rfl rfl rfl rfl rfl rfl (fun w hS => ?_)
                    refine l_end ?_
                    refine k_code ?_
                    refine c_region ?_
                    refine l_val (v_fieldX (o' := 1) field24_1 rfl rfl) rfl ?_
                    refine l_val (v_load ty22 rfl (here (hS.cellX 5 (k := 1) rfl rfl))) rfl ?_
                    refine l_val (v_loadW tyN27 rfl rfl (hereN (hS.rowX 0 rfl))) rfl ?_
                    refine l_slice1 (bytes := 0) hS Try.underlying22 tyN27.size zero27 rfl (by decide) (by decide) rfl rfl rfl rfl (fun b7 w hS => ?_)
                    refine l_appendX (L' := fun _ => (_ :: (_ :: (_ :: _)))) 2 hS Try.underlying22 elem27 rfl rfl rfl rfl (hS.row 0 rfl) (enc_one ⟨_, _, _, _⟩) (by unfold maxLen; omega) (by omega) rfl (fun _ => rfl) (fun va9 w hS hvva9 => ?_)
                    refine l_val (v_fieldX (o' := 1) field24_1 rfl rfl) rfl ?_
                    refine l_storeX (cs' := #[_, _]) (L' := (_ :: (_ :: (_ :: (_ :: (_ :: (_ :: (_ :: _)))))))) 6 hS ty22 rfl rfl rfl rfl (row_one (hS.rowAt 2 rfl)) rfl rfl (fun w hS => ?_)
                    refine l_end ?_
                    refine k_code ?_
                    refine c_region ?_
                    refine l_val (v_add rfl rfl (by omega)) rfl ?_
                    refine l_val (v_move rfl) rfl ?_
                    refine l_end ?_
                    refine fun _ hFr => ⟨(k + 1, t6.2.1, true, cs ++ [⟨S t2.1, ⟨#[]⟩, (numL t5.1 : Nat), (numL t6.1 : Nat)⟩], va9), (by dsimp only; omega), ⟨(row_snoc (hS.arr [2, 3, 4, 5, 6, 7]) rfl rfl), ⟨rounds_next hrn (by omega) p2 (cellP_b0 h_t1 h_t2 h_t4 (by omega) h_t5 h_t6 (by omega)), by omega, by omega, by rw [List.length_append]; simp only [List.length_cons, List.length_nil]; omega, smalls_snoc hsm (small_of hk2 (Nat.zero_le _))⟩⟩, Fr.sub hFr (kc rfl (kc rfl (kc rfl (kc rfl (kc rfl (kc rfl (kc rfl (kc rfl (kc rfl (kc rfl kn))))))))))⟩
                  · skip
                    refine c_skip ?_
                    refine k_code ?_
                    refine c_region ?_
                    refine l_val (v_fieldX (o' := 1) field24_1 rfl rfl) rfl ?_
                    refine l_val (v_load ty22 rfl (here (hS.cellX 5 (k := 1) rfl rfl))) rfl ?_
                    refine l_val (v_loadW tyN27 rfl rfl (hereN (hS.rowX 0 rfl))) rfl ?_
                    refine l_slice1 (bytes := 0) hS Try.underlying22 tyN27.size zero27 rfl (by decide) (by decide) rfl rfl rfl rfl (fun b7 w hS => ?_)
                    refine l_appendX (L' := fun _ => (_ :: (_ :: (_ :: _)))) 2 hS Try.underlying22 elem27 rfl rfl rfl rfl (hS.row 0 rfl) (enc_one ⟨_, _, _, _⟩) (by unfold maxLen; omega) (by omega) rfl (fun _ => rfl) (fun va9 w hS hvva9 => ?_)
                    refine l_val (v_fieldX (o' := 1) field24_1 rfl rfl) rfl ?_
                    refine l_storeX (cs' := #[_, _]) (L' := (_ :: (_ :: (_ :: (_ :: (_ :: (_ :: (_ :: _)))))))) 6 hS ty22 rfl rfl rfl rfl (row_one (hS.rowAt 2 rfl)) rfl rfl (fun w hS => ?_)
                    refine l_end ?_
                    refine k_code ?_
                    refine c_region ?_
                    refine l_val (v_add rfl rfl (by omega)) rfl ?_
                    refine l_val (v_move rfl) rfl ?_
                    refine l_end ?_
                    refine fun _ hFr => ⟨(k + 1, t6.2.1, t6.2.2, cs ++ [⟨S t2.1, ⟨#[]⟩, (numL t5.1 : Nat), (numL t6.1 : Nat)⟩], va9), (by dsimp only; omega), ⟨(row_snoc (hS.arr [2, 3, 4, 5, 6, 7]) rfl rfl), ⟨rounds_next hrn (by omega) p2 (cellP_b h_t1 h_t2 h_t4 (by omega) h_t5 h_t6 (by omega)), by omega, by omega, by rw [List.length_append]; simp only [List.length_cons, List.length_nil]; omega, smalls_snoc hsm (small_of hk2 (Nat.zero_le _))⟩⟩, Fr.sub hFr (kc rfl (kc rfl (kc rfl (kc rfl (kc rfl (kc rfl (kc rfl (kc rfl (kc rfl (kc rfl kn))))))))))⟩
                · exact absurd p3 p4
              · skip
                refine c_seq ?_
                refine c_region ?_
                refine l_val (v_move rfl) rfl ?_
                refine l_val (v_eql rfl rfl) rfl ?_
                refine l_val (v_assign rfl) rfl ?_
                refine l_end ?_
                refine k_code ?_
                refine c_if rfl (fun p4 => ?_) (fun p4 => ?_)
                · skip
                  refine c_seq ?_
                  refine d_region (fun w => St No w0 w [.blk b4 (.cells #[TakeF b2 b3] 54 (0, 0))]) 6 mixed ?_
                  have hS := hS.drew 1
                  have hR : St No w0 _ [.blk b4 (.cells #[TakeF b2 b3] 54 (0, 0))] := hS.less (.cons _ (.cons _ (.cons _ (.cons _ (.cons_cons _ (.cons _ (.cons _ (.slnil))))))))
                  refine d_take 0 rfl (by kernel_rfl) (by kernel_rfl) (by kernel_rfl) (by kernel_rfl) hR (v_load ty54 rfl (fun _ h => h.cellX 0 (k := 0) rfl rfl)) rfl ?_
                  refine d_one 1 rfl (by kernel_rfl) ?_
                  refine l_val (v_move rfl) rfl ?_
                  refine l_end ?_
                  have hR : St No w0 _ [.blk b4 (.cells #[TakeF b2 b3] 54 (0, 0))] := hS.less (.cons _ (.cons _ (.cons _ (.cons _ (.cons_cons _ (.cons _ (.cons _ (.slnil))))))))
                  refine d_on (S := (fun w => St No w0 w [.blk b4 (.cells #[TakeF b2 b3] 54 (0, 0))])) hR ?_
                  refine d_one 2 rfl (by kernel_rfl) ?_
                  have hL1 := takeP_len (l := t4.2.1) (sh := t4.2.2) (n := 1); have hM1 := takeP_len1 (l := t4.2.1) (sh := t4.2.2) (n := 1); refine l_callV (first := []) (cap := [.pointer (some ⟨b4, 0, none⟩)]) goes39 rfl rfl (pnum_any b2 b3 b4 hne t4.2.1 t4.2.2 1 _ (hS.block (i := 2) rfl) (hS.block (i := 3) rfl) (hS.cellX 4 rfl rfl) (by omega) (by omega)) rfl (fun e w hB => ?_)
                  generalize h_t5 : takeP t4.2.1 t4.2.2 1 = t5 at hB hL1 hM1; obtain ⟨rfl, hk1, hb1, hb2⟩ := hB; have hS := St.turn2 hS (i := 2) (j := 3) rfl rfl (by decide) hk1 hb1 hb2; refine ⟨_, rfl, ?_⟩
                  have hn5 := num1_lt hM1
                  refine l_end ?_
                  have hR : St No w0 _ [.blk b4 (.cells #[TakeF b2 b3] 54 (0, 0))] := hS.less (.cons _ (.cons _ (.cons _ (.cons _ (.cons_cons _ (.cons _ (.cons _ (.slnil))))))))
                  refine d_on (S := (fun w => St No w0 w [.blk b4 (.cells #[TakeF b2 b3] 54 (0, 0))])) hR ?_
                  refine d_one 3 rfl (by kernel_rfl) ?_
                  have hL1 := takeP_len (l := t5.2.1) (sh := t5.2.2) (n := (numL t5.1)); have hM1 := takeP_len1 (l := t5.2.1) (sh := t5.2.2) (n := (numL t5.1)); refine l_callV (first := []) (cap := [.pointer (some ⟨b2, 0, none⟩), .pointer (some ⟨b3, 0, none⟩)]) goes38 rfl rfl (pull_any b2 b3 hne t5.2.1 t5.2.2 (numL t5.1) _ (hS.block (i := 2) rfl) (hS.block (i := 3) rfl) (by omega)) rfl (fun e w hB => ?_)
                  generalize h_t6 : takeP t5.2.1 t5.2.2 (numL t5.1) = t6 at hB hL1 hM1; obtain ⟨rfl, hk1, hb1, hb2⟩ := hB; have hS := St.turn2 hS (i := 2) (j := 3) rfl rfl (by decide) hk1 hb1 hb2; refine ⟨_, rfl, ?_⟩
                  have hk6 := S_le (Nat.le_trans hM1 hn5)
                  have hz6 := S_size t6.1
                  refine l_end ?_
                  have hR : St No w0 _ [.blk b4 (.cells #[TakeF b2 b3] 54 (0, 0))] := hS.less (.cons _ (.cons _ (.cons _ (.cons _ (.cons_cons _ (.cons _ (.cons _ (.slnil))))))))
                  refine d_on (S := (fun w => St No w0 w [.blk b4 (.cells #[TakeF b2 b3] 54 (0, 0))])) hR ?_
                  refine d_one 4 rfl (by kernel_rfl) ?_
                  refine l_val (v_fieldX (o' := 1) field27_1 rfl rfl) rfl ?_
                  refine l_end ?_
                  have hR : St No w0 _ [.blk b4 (.cells #[TakeF b2 b3] 54 (0, 0))] := hS.less (.cons _ (.cons _ (.cons _ (.cons _ (.cons_cons _ (.cons _ (.cons _ (.slnil))))))))
                  refine d_on (S := (fun w => St No w0 w [.blk b4 (.cells #[TakeF b2 b3] 54 (0, 0))])) hR ?_
                  refine d_one 5 rfl (by kernel_rfl) ?_
                  refine l_storeX (cs' := #[_, _, _, _]) (L' := (_ :: _)) 0 hS ty9 rfl rfl rfl rfl rfl rfl rfl (fun w hS => ?_)
                  refine l_end ?_
                  have hR : St No w0 _ [.blk b4 (.cells #[TakeF b2 b3] 54 (0, 0))] := hS.less (.cons _ (.cons _ (.cons _ (.cons _ (.cons_cons _ (.cons _ (.cons _ (.slnil))))))))
                  refine d_on (S := (fun w => St No w0 w [.blk b4 (.cells #[TakeF b2 b3] 54 (0, 0))])) hR ?_
                  refine d_end (by kernel_rfl) ?_
                  refine k_code ?_
                  refine c_region ?_
                  refine l_val (v_fieldX (o' := 1) field27_1 rfl rfl) rfl ?_
                  refine l_val (v_load ty9 rfl (here (hS.cellX 0 (k := 1) rfl rfl))) rfl ?_
                  refine l_val (v_lenS Try.underlying9 rfl) rfl ?_
                  refine l_val (v_fieldX (o' := 3) field27_3 rfl rfl) rfl ?_
                  refine l_storeX (cs' := #[_, _, _, _]) (L' := (_ :: _)) 0 hS ty3 rfl rfl rfl rfl rfl rfl rfl (fun w hS => ?_)
                  refine l_end ?_
                  refine k_code ?_
                  refine c_seq ?_
                  refine c_seq ?_
                  refine c_region ?_
                  refine l_val (v_move rfl) rfl ?_
                  refine l_val (v_move rfl) rfl ?_
                  refine l_on rfl rfl rfl ?_
                  refine l_val (v_move rfl) rfl ?_
                  refine l_on rfl rfl rfl ?_
                  refine l_val (v_eql rfl rfl) rfl ?_
                  refine l_val (v_pickT rfl rfl) rfl ?_
                  refine l_val (v_move rfl) rfl ?_
                  refine l_part 58 rfl (fun p5 => ?_) (fun p5 => ?_)
                  · exact absurd p5 p3
                  · skip
                    refine l_skip rfl rfl rfl rfl rfl ?_
                    refine l_skip rfl rfl rfl rfl rfl ?_
                    refine l_skip rfl rfl rfl rfl rfl ?_
                    refine l_val (v_pickF rfl rfl) rfl ?_
                    refine l_end ?_
                    refine k_code ?_
                    refine c_no rfl ?_
                    refine c_skip ?_
                    refine k_code ?_
                    refine c_region ?_
                    refine l_val (v_fieldX (o' := 1) field24_1 rfl rfl) rfl ?_
                    refine l_val (v_load ty22 rfl (here (hS.cellX 5 (k := 1) rfl rfl))) rfl ?_
                    refine l_val (v_loadW tyN27 rfl rfl (hereN (hS.rowX 0 rfl))) rfl ?_
                    refine l_slice1 (bytes := 0) hS Try.underlying22 tyN27.size zero27 rfl (by decide) (by decide) rfl rfl rfl rfl (fun b7 w hS => ?_)
                    refine l_appendX (L' := fun _ => (_ :: (_ :: (_ :: _)))) 2 hS Try.underlying22 elem27 rfl rfl rfl rfl (hS.row 0 rfl) (enc_one ⟨_, _, _, _⟩) (by unfold maxLen; omega) (by omega) rfl (fun _ => rfl) (fun va9 w hS hvva9 => ?_)
                    refine l_val (v_fieldX (o' := 1) field24_1 rfl rfl) rfl ?_
                    refine l_storeX (cs' := #[_, _]) (L' := (_ :: (_ :: (_ :: (_ :: (_ :: (_ :: (_ :: _)))))))) 6 hS ty22 rfl rfl rfl rfl (row_one (hS.rowAt 2 rfl)) rfl rfl (fun w hS => ?_)
                    refine l_end ?_
                    refine k_code ?_
                    refine c_region ?_
                    refine l_val (v_add rfl rfl (by omega)) rfl ?_
                    refine l_val (v_move rfl) rfl ?_
                    refine l_end ?_
                    refine fun _ hFr => ⟨(k + 1, t6.2.1, t6.2.2, cs ++ [⟨S t2.1, S t6.1, 0, ((S t6.1).size : Nat)⟩], va9), (by dsimp only; omega), ⟨(row_snoc (hS.arr [2, 3, 4, 5, 6, 7]) rfl rfl), ⟨rounds_next hrn (by omega) p2 (cellP_c h_t1 h_t2 h_t4 (by omega) (by omega) h_t5 h_t6), by omega, by omega, by rw [List.length_append]; simp only [List.length_cons, List.length_nil]; omega, smalls_snoc hsm (small_of hk2 hk6)⟩⟩, Fr.sub hFr (kc rfl (kc rfl (kc rfl (kc rfl (kc rfl (kc rfl (kc rfl (kc rfl (kc rfl (kc rfl kn))))))))))⟩
                · skip
                  refine c_region ?_
                  refine l_storeX (cs' := #[_]) (L' := (_ :: (_ :: (_ :: (_ :: _))))) 3 hS ty4 rfl rfl rfl rfl rfl rfl rfl (fun w hS => ?_)
                  refine l_end ?_
                  refine k_code ?_
                  refine c_seq ?_
                  refine c_seq ?_
                  refine c_region ?_
                  refine l_val (v_move rfl) rfl ?_
                  refine l_val (v_move rfl) rfl ?_
                  refine l_on rfl rfl rfl ?_
                  refine l_val (v_move rfl) rfl ?_
                  refine l_on rfl rfl rfl ?_
                  refine l_val (v_eql rfl rfl) rfl ?_
                  refine l_val (v_pickT rfl rfl) rfl ?_
                  refine l_val (v_move rfl) rfl ?_
                  refine l_part 58 rfl (fun p5 => ?_) (fun p5 => ?_)
                  · exact absurd p5 p3
                  · skip
                    refine l_skip rfl rfl rfl rfl rfl ?_
                    refine l_skip rfl rfl rfl rfl rfl ?_
                    refine l_skip rfl rfl rfl rfl rfl ?_
                    refine l_val (v_pickF rfl rfl) rfl ?_
                    refine l_end ?_
                    refine k_code ?_
                    refine c_no rfl ?_
                    refine c_skip ?_
                    refine k_code ?_
                    refine c_region ?_
                    refine l_val (v_fieldX (o' := 1) field24_1 rfl rfl) rfl ?_
                    refine l_val (v_load ty22 rfl (here (hS.cellX 5 (k := 1) rfl rfl))) rfl ?_
                    refine l_val (v_loadW tyN27 rfl rfl (hereN (hS.rowX 0 rfl))) rfl ?_
                    refine l_slice1 (bytes := 0) hS Try.underlying22 tyN27.size zero27 rfl (by decide) (by decide) rfl rfl rfl rfl (fun b7 w hS => ?_)
                    refine l_appendX (L' := fun _ => (_ :: (_ :: (_ :: _)))) 2 hS Try.underlying22 elem27 rfl rfl rfl rfl (hS.row 0 rfl) (enc_one ⟨_, _, _, _⟩) (by unfold maxLen; omega) (by omega) rfl (fun _ => rfl) (fun va9 w hS hvva9 => ?_)
                    refine l_val (v_fieldX (o' := 1) field24_1 rfl rfl) rfl ?_
                    refine l_storeX (cs' := #[_, _]) (L' := (_ :: (_ :: (_ :: (_ :: (_ :: (_ :: (_ :: _)))))))) 6 hS ty22 rfl rfl rfl rfl (row_one (hS.rowAt 2 rfl)) rfl rfl (fun w hS => ?_)
                    refine l_end ?_
                    refine k_code ?_
                    refine c_region ?_
                    refine l_val (v_add rfl rfl (by omega)) rfl ?_
                    refine l_val (v_move rfl) rfl ?_
                    refine l_end ?_
                    refine fun _ hFr => ⟨(k + 1, t4.2.1, true, cs ++ [⟨S t2.1, ⟨#[]⟩, 0, 0⟩], va9), (by dsimp only; omega), ⟨(row_snoc (hS.arr [2, 3, 4, 5, 6, 7]) rfl rfl), ⟨rounds_next hrn (by omega) p2 (cellP_d h_t1 h_t2 h_t4 (by omega) (by omega)), by omega, by omega, by rw [List.length_append]; simp only [List.length_cons, List.length_nil]; omega, smalls_snoc hsm (small_of hk2 (Nat.zero_le _))⟩⟩, Fr.sub hFr (kc rfl (kc rfl (kc rfl (kc rfl (kc rfl (kc rfl (kc rfl (kc rfl (kc rfl (kc rfl kn))))))))))⟩
          · skip
            refine l_alloc (cs := #[_, _, _, _]) hS zero27 rfl rfl (fun b6 w hS => ?_)
            refine l_end ?_
            have hR : St No w0 _ [.blk b4 (.cells #[TakeF b2 b3] 54 (0, 0))] := hS.less (.cons _ (.cons _ (.cons _ (.cons _ (.cons_cons _ (.cons _ (.cons _ (.slnil))))))))
            refine d_on (S := (fun w => St No w0 w [.blk b4 (.cells #[TakeF b2 b3] 54 (0, 0))])) hR ?_
            refine d_one 3 rfl (by kernel_rfl) ?_
            have hL1 := takeP_len (l := t1.2.1) (sh := t1.2.2) (n := (numL t1.1)); have hM1 := takeP_len1 (l := t1.2.1) (sh := t1.2.2) (n := (numL t1.1)); refine l_callV (first := []) (cap := [.pointer (some ⟨b2, 0, none⟩), .pointer (some ⟨b3, 0, none⟩)]) goes38 rfl rfl (pull_any b2 b3 hne t1.2.1 t1.2.2 (numL t1.1) _ (hS.block (i := 2) rfl) (hS.block (i := 3) rfl) (by omega)) rfl (fun e w hB => ?_)
            generalize h_t2 : takeP t1.2.1 t1.2.2 (numL t1.1) = t2 at hB hL1 hM1; obtain ⟨rfl, hk1, hb1, hb2⟩ := hB; have hS := St.turn2 hS (i := 2) (j := 3) rfl rfl (by decide) hk1 hb1 hb2; refine ⟨_, rfl, ?_⟩
            have hk2 := S_le (Nat.le_trans hM1 hn1)
            refine l_end ?_
            have hR : St No w0 _ [.blk b4 (.cells #[TakeF b2 b3] 54 (0, 0))] := hS.less (.cons _ (.cons _ (.cons _ (.cons _ (.cons_cons _ (.cons _ (.cons _ (.slnil))))))))
            refine d_on (S := (fun w => St No w0 w [.blk b4 (.cells #[TakeF b2 b3] 54 (0, 0))])) hR ?_
            refine d_one 4 rfl (by kernel_rfl) ?_
            refine l_val (v_build (cells := #[_, _, _, _]) zero27 places27 rfl rfl) rfl ?_
            refine l_end ?_
            have hR : St No w0 _ [.blk b4 (.cells #[TakeF b2 b3] 54 (0, 0))] := hS.less (.cons _ (.cons _ (.cons _ (.cons _ (.cons_cons _ (.cons _ (.cons _ (.slnil))))))))
            refine d_on (S := (fun w => St No w0 w [.blk b4 (.cells #[TakeF b2 b3] 54 (0, 0))])) hR ?_
            refine d_one 6 rfl (by kernel_rfl) ?_
            refine l_storeNX (cs' := #[_, _, _, _]) (L' := (_ :: _)) 0 hS tyN27 rfl rfl rfl rfl rfl rfl rfl rfl (fun w hS => ?_)
            refine l_end ?_
            have hR : St No w0 _ [.blk b4 (.cells #[TakeF b2 b3] 54 (0, 0))] := hS.less (.cons _ (.cons _ (.cons _ (.cons _ (.cons_cons _ (.cons _ (.cons _ (.slnil))))))))
            refine d_on (S := (fun w => St No w0 w [.blk b4 (.cells #[TakeF b2 b3] 54 (0, 0))])) hR ?_
            refine d_end (by kernel_rfl) ?_
            refine k_code ?_
            refine c_seq ?_
            refine c_region ?_
            refine l_val (v_assign rfl) rfl ?_
            refine l_end ?_
            refine k_code ?_
            refine c_seq ?_
            refine c_seq ?_
            refine c_region ?_
            refine l_val (v_move rfl) rfl ?_
            refine l_end ?_
            refine k_code ?_
            refine c_yes rfl ?_
            refine c_region ?_
            refine l_val (v_move rfl) rfl ?_
            have hL1 := takeP_len (l := t2.2.1) (sh := t2.2.2) (n := 1); have hM1 := takeP_len1 (l := t2.2.1) (sh := t2.2.2) (n := 1); refine l_callV (first := []) (cap := [.pointer (some ⟨b4, 0, none⟩)]) goes39 rfl rfl (pnum_any b2 b3 b4 hne t2.2.1 t2.2.2 1 _ (hS.block (i := 2) rfl) (hS.block (i := 3) rfl) (hS.cellX 4 rfl rfl) (by omega) (by omega)) rfl (fun e w hB => ?_)
            generalize h_t4 : takeP t2.2.1 t2.2.2 1 = t4 at hB hL1 hM1; obtain ⟨rfl, hk1, hb1, hb2⟩ := hB; have hS := St.turn2 hS (i := 2) (j := 3) rfl rfl (by decide) hk1 hb1 hb2; refine ⟨_, rfl, ?_⟩
            refine l_val (v_assign rfl) rfl ?_
            refine l_end ?_
            refine k_code ?_
            refine c_seq ?_
            refine c_block ?_
            refine c_seq ?_
            refine c_region ?_
            refine l_val (v_move rfl) rfl ?_
            refine l_val (v_eql rfl rfl) rfl ?_
            refine l_val (v_assign rfl) rfl ?_
            refine l_end ?_
            refine k_code ?_
            refine c_if rfl (fun p3 => ?_) (fun p3 => ?_)
            · skip
              refine c_seq ?_
              refine c_region ?_
              refine l_val (v_move rfl) rfl ?_
              have hL1 := takeP_len (l := t4.2.1) (sh := t4.2.2) (n := 4); have hM1 := takeP_len1 (l := t4.2.1) (sh := t4.2.2) (n := 4); refine l_callV (first := []) (cap := [.pointer (some ⟨b4, 0, none⟩)]) goes39 rfl rfl (pnum_any b2 b3 b4 hne t4.2.1 t4.2.2 4 _ (hS.block (i := 2) rfl) (hS.block (i := 3) rfl) (hS.cellX 4 rfl rfl) (by omega) (by omega)) rfl (fun e w hB => ?_)
              generalize h_t5 : takeP t4.2.1 t4.2.2 4 = t5 at hB hL1 hM1; obtain ⟨rfl, hk1, hb1, hb2⟩ := hB; have hS := St.turn2 hS (i := 2) (j := 3) rfl rfl (by decide) hk1 hb1 hb2; refine ⟨_, rfl, ?_⟩
              refine l_val (v_fieldX (o' := 2) field27_2 rfl rfl) rfl ?_
              refine l_storeX (cs' := #[_, _, _, _]) (L' := (_ :: _)) 0 hS ty3 rfl rfl rfl rfl rfl rfl rfl (fun w hS => ?_)
              refine l_end ?_
              refine k_code ?_
              refine c_seq ?_
              refine c_region ?_
              refine l_val (v_move rfl) rfl ?_
              refine l_end ?_
              refine k_code ?_
              refine c_yes rfl ?_
              refine c_region ?_
              refine l_val (v_move rfl) rfl ?_
              have hL1 := takeP_len (l := t5.2.1) (sh := t5.2.2) (n := 4); have hM1 := takeP_len1 (l := t5.2.1) (sh := t5.2.2) (n := 4); refine l_callV (first := []) (cap := [.pointer (some ⟨b4, 0, none⟩)]) goes39 rfl rfl (pnum_any b2 b3 b4 hne t5.2.1 t5.2.2 4 _ (hS.block (i := 2) rfl) (hS.block (i := 3) rfl) (hS.cellX 4 rfl rfl) (by omega) (by omega)) rfl (fun e w hB => ?_)
              generalize h_t6 : takeP t5.2.1 t5.2.2 4 = t6 at hB hL1 hM1; obtain ⟨rfl, hk1, hb1, hb2⟩ := hB; have hS := St.turn2 hS (i := 2) (j := 3) rfl rfl (by decide) hk1 hb1 hb2; refine ⟨_, rfl, ?_⟩
              refine l_val (v_fieldX (o' := 3) field27_3 rfl rfl) rfl ?_
              refine l_storeX (cs' := #[_, _, _, _]) (L' := (_ :: _)) 0 hS ty3 rfl rfl rfl rfl rfl rfl rfl (fun w hS => ?_)
              refine l_end ?_
              refine k_code ?_
              refine c_seq ?_
              refine c_seq ?_
              refine c_region ?_
              refine l_val (v_move rfl) rfl ?_
              refine l_val (v_move rfl) rfl ?_
              refine l_on rfl rfl rfl ?_
              refine l_val (v_move rfl) rfl ?_
              refine l_on rfl rfl rfl ?_
              refine l_val (v_eql rfl rfl) rfl ?_
              refine l_val (v_pickT rfl rfl) rfl ?_
              refine l_val (v_move rfl) rfl ?_
              refine l_part 58 rfl (fun p4 => ?_) (fun p4 => ?_)
              · skip
                refine l_on rfl rfl rfl ?_
                refine l_val (v_fieldX (o' := 2) field27_2 rfl rfl) rfl ?_
                refine l_on rfl rfl rfl ?_
                refine l_val (v_load ty3 rfl (here (hS.cellX 0 (k := 2) rfl rfl))) rfl ?_
                refine l_on rfl rfl rfl ?_
                refine l_val (v_eql rfl rfl) rfl ?_
                refine l_val (v_pickT rfl rfl) rfl ?_
                refine l_end ?_
                refine k_code ?_
                refine c_if rfl (fun p5 => ?_) (fun p5 => ?_)
                · skip
                  refine c_region ?_
                  refine l_storeX (cs' := #[_]) (L' := (_ :: (_ :: (_ :: (_ :: _))))) 3 hS ty4 rfl rfl rfl rfl rfl rfl rfl (fun w hS => ?_)
                  refine l_end ?_
                  refine k_code ?_
                  refine c_region ?_
                  refine l_val (v_fieldX (o' := 1) field24_1 rfl rfl) rfl ?_
                  refine l_val (v_load ty22 rfl (here (hS.cellX 5 (k := 1) rfl rfl))) rfl ?_
                  refine l_val (v_loadW tyN27 rfl rfl (hereN (hS.rowX 0 rfl))) rfl ?_
                  refine l_slice1 (bytes := 0) hS Try.underlying22 tyN27.size zero27 rfl (by decide) (by decide) rfl rfl rfl rfl (fun b7 w hS => ?_)
                  refine l_appendX (L' := fun _ => (_ :: (_ :: (_ :: _)))) 2 hS Try.underlying22 elem27 rfl rfl rfl rfl (hS.row 0 rfl) (enc_one ⟨_, _, _, _⟩) (by unfold maxLen; omega) (by omega) rfl (fun _ => rfl) (fun va9 w hS hvva9 => ?_)
                  refine l_val (v_fieldX (o' := 1) field24_1 rfl rfl) rfl ?_
                  refine l_storeX (cs' := #[_, _]) (L' := (_ :: (_ :: (_ :: (_ :: (_ :: (_ :: (_ :: _)))))))) 6 hS ty22 rfl rfl rfl rfl (row_one (hS.rowAt 2 rfl)) rfl rfl (fun w hS => ?_)
                  refine l_end ?_
                  refine k_code ?_
                  refine c_region ?_
                  refine l_val (v_add rfl rfl (by omega)) rfl ?_
                  refine l_val (v_move rfl) rfl ?_
                  refine l_end ?_
                  refine fun _ hFr => ⟨(k + 1, t6.2.1, true, cs ++ [⟨S t2.1, ⟨#[]⟩, (numL t5.1 : Nat), (numL t6.1 : Nat)⟩], va9), (by dsimp only; omega), ⟨(row_snoc (hS.arr [2, 3, 4, 5, 6, 7]) rfl rfl), ⟨rounds_next hrn (by omega) p2 (cellP_b0 h_t1 h_t2 h_t4 (by omega) h_t5 h_t6 (by omega)), by omega, by omega, by rw [List.length_append]; simp only [List.length_cons, List.length_nil]; omega, smalls_snoc hsm (small_of hk2 (Nat.zero_le _))⟩⟩, Fr.sub hFr (kc rfl (kc rfl (kc rfl (kc rfl (kc rfl (kc rfl (kc rfl (kc rfl (kc rfl (kc rfl kn))))))))))⟩
                · skip
                  refine c_skip ?_
                  refine k_code ?_
                  refine c_region ?_
                  refine l_val (v_fieldX (o' := 1) field24_1 rfl rfl) rfl ?_
                  refine l_val (v_load ty22 rfl (here (hS.cellX 5 (k := 1) rfl rfl))) rfl ?_
                  refine l_val (v_loadW tyN27 rfl rfl (hereN (hS.rowX 0 rfl))) rfl ?_
                  refine l_slice1 (bytes := 0) hS Try.underlying22 tyN27.size zero27 rfl (by decide) (by decide) rfl rfl rfl rfl (fun b7 w hS => ?_)
                  refine l_appendX (L' := fun _ => (_ :: (_ :: (_ :: _)))) 2 hS Try.underlying22 elem27 rfl rfl rfl rfl (hS.row 0 rfl) (enc_one ⟨_, _, _, _⟩) (by unfold maxLen; omega) (by omega) rfl (fun _ => rfl) (fun va9 w hS hvva9 => ?_)
                  refine l_val (v_fieldX (o' := 1) field24_1 rfl rfl) rfl ?_
                  refine l_storeX (cs' := #[_, _]) (L' := (_ :: (_ :: (_ :: (_ :: (_ :: (_ :: (_ :: _)))))))) 6 hS ty22 rfl rfl rfl rfl (row_one (hS.rowAt 2 rfl)) rfl rfl (fun w hS => ?_)
                  refine l_end ?_
                  refine k_code ?_
                  refine c_region ?_
                  refine l_val (v_add rfl rfl (by omega)) rfl ?_
                  refine l_val (v_move rfl) rfl ?_
                  refine l_end ?_
                  refine fun _ hFr => ⟨(k + 1, t6.2.1, t6.2.2, cs ++ [⟨S t2.1, ⟨#[]⟩, (numL t5.1 : Nat), (numL t6.1 : Nat)⟩], va9), (by dsimp only; omega), ⟨(row_snoc (hS.arr [2, 3, 4, 5, 6, 7]) rfl rfl), ⟨rounds_next hrn (by omega) p2 (cellP_b h_t1 h_t2 h_t4 (by omega) h_t5 h_t6 (by omega)), by omega, by omega, by rw [List.length_append]; simp only [List.length_cons, List.length_nil]; omega, smalls_snoc hsm (small_of hk2 (Nat.zero_le _))⟩⟩, Fr.sub hFr (kc rfl (kc rfl (kc rfl (kc rfl (kc rfl (kc rfl (kc rfl (kc rfl (kc rfl (kc rfl kn))))))))))⟩
              · exact absurd p3 p4
            · skip
              refine c_seq ?_
              refine c_region ?_
              refine l_val (v_move rfl) rfl ?_
              refine l_val (v_eql rfl rfl) rfl ?_
              refine l_val (v_assign rfl) rfl ?_
              refine l_end ?_
              refine k_code ?_
              refine c_if rfl (fun p4 => ?_) (fun p4 => ?_)
              · skip
                refine c_seq ?_
                refine d_region (fun w => St No w0 w [.blk b4 (.cells #[TakeF b2 b3] 54 (0, 0))]) 6 mixed ?_
                have hS := hS.drew 1
                have hR : St No w0 _ [.blk b4 (.cells #[TakeF b2 b3] 54 (0, 0))] := hS.less (.cons _ (.cons _ (.cons _ (.cons _ (.cons_cons _ (.cons _ (.cons _ (.slnil))))))))
                refine d_take 0 rfl (by kernel_rfl) (by kernel_rfl) (by kernel_rfl) (by kernel_rfl) hR (v_load ty54 rfl (fun _ h => h.cellX 0 (k := 0) rfl rfl)) rfl ?_
                refine d_one 1 rfl (by kernel_rfl) ?_
                refine l_val (v_move rfl) rfl ?_
                refine l_end ?_
                have hR : St No w0 _ [.blk b4 (.cells #[TakeF b2 b3] 54 (0, 0))] := hS.less (.cons _ (.cons _ (.cons _ (.cons _ (.cons_cons _ (.cons _ (.cons _ (.slnil))))))))
                refine d_on (S := (fun w => St No w0 w [.blk b4 (.cells #[TakeF b2 b3] 54 (0, 0))])) hR ?_
                refine d_one 2 rfl (by kernel_rfl) ?_
                have hL1 := takeP_len (l := t4.2.1) (sh := t4.2.2) (n := 1); have hM1 := takeP_len1 (l := t4.2.1) (sh := t4.2.2) (n := 1); refine l_callV (first := []) (cap := [.pointer (some ⟨b4, 0, none⟩)]) goes39 rfl rfl (pnum_any b2 b3 b4 hne t4.2.1 t4.2.2 1 _ (hS.block (i := 2) rfl) (hS.block (i := 3) rfl) (hS.cellX 4 rfl rfl) (by omega) (by omega)) rfl (fun e w hB => ?_)
                generalize h_t5 : takeP t4.2.1 t4.2.2 1 = t5 at hB hL1 hM1; obtain ⟨rfl, hk1, hb1, hb2⟩ := hB; have hS := St.turn2 hS (i := 2) (j := 3) rfl rfl (by decide) hk1 hb1 hb2; refine ⟨_, rfl, ?_⟩
                have hn5 := num1_lt hM1
                refine l_end ?_
                have hR : St No w0 _ [.blk b4 (.cells #[TakeF b2 b3] 54 (0, 0))] := hS.less (.cons _ (.cons _ (.cons _ (.cons _ (.cons_cons _ (.cons _ (.cons _ (.slnil))))))))
                refine d_on (S := (fun w => St No w0 w [.blk b4 (.cells #[TakeF b2 b3] 54 (0, 0))])) hR ?_
                refine d_one 3 rfl (by kernel_rfl) ?_
                have hL1 := takeP_len (l := t5.2.1) (sh := t5.2.2) (n := (numL t5.1)); have hM1 := takeP_len1 (l := t5.2.1) (sh := t5.2.2) (n := (numL t5.1)); refine l_callV (first := []) (cap := [.pointer (some ⟨b2, 0, none⟩), .pointer (some ⟨b3, 0, none⟩)]) goes38 rfl rfl (pull_any b2 b3 hne t5.2.1 t5.2.2 (numL t5.1) _ (hS.block (i := 2) rfl) (hS.block (i := 3) rfl) (by omega)) rfl (fun e w hB => ?_)
                generalize h_t6 : takeP t5.2.1 t5.2.2 (numL t5.1) = t6 at hB hL1 hM1; obtain ⟨rfl, hk1, hb1, hb2⟩ := hB; have hS := St.turn2 hS (i := 2) (j := 3) rfl rfl (by decide) hk1 hb1 hb2; refine ⟨_, rfl, ?_⟩
                have hk6 := S_le (Nat.le_trans hM1 hn5)
                have hz6 := S_size t6.1
                refine l_end ?_
                have hR : St No w0 _ [.blk b4 (.cells #[TakeF b2 b3] 54 (0, 0))] := hS.less (.cons _ (.cons _ (.cons _ (.cons _ (.cons_cons _ (.cons _ (.cons _ (.slnil))))))))
                refine d_on (S := (fun w => St No w0 w [.blk b4 (.cells #[TakeF b2 b3] 54 (0, 0))])) hR ?_
                refine d_one 4 rfl (by kernel_rfl) ?_
                refine l_val (v_fieldX (o' := 1) field27_1 rfl rfl) rfl ?_
                refine l_end ?_
                have hR : St No w0 _ [.blk b4 (.cells #[TakeF b2 b3] 54 (0, 0))] := hS.less (.cons _ (.cons _ (.cons _ (.cons _ (.cons_cons _ (.cons _ (.cons _ (.slnil))))))))
                refine d_on (S := (fun w => St No w0 w [.blk b4 (.cells #[TakeF b2 b3] 54 (0, 0))])) hR ?_
                refine d_one 5 rfl (by kernel_rfl) ?_
                refine l_storeX (cs' := #[_, _, _, _]) (L' := (_ :: _)) 0 hS ty9 rfl rfl rfl rfl rfl rfl rfl (fun w hS => ?_)
                refine l_end ?_
                have hR : St No w0 _ [.blk b4 (.cells #[TakeF b2 b3] 54 (0, 0))] := hS.less (.cons _ (.cons _ (.cons _ (.cons _ (.cons_cons _ (.cons _ (.cons _ (.slnil))))))))
                refine d_on (S := (fun w => St No w0 w [.blk b4 (.cells #[TakeF b2 b3] 54 (0, 0))])) hR ?_
                refine d_end (by kernel_rfl) ?_
                refine k_code ?_
                refine c_region ?_
                refine l_val (v_fieldX (o' := 1) field27_1 rfl rfl) rfl ?_
                refine l_val (v_load ty9 rfl (here (hS.cellX 0 (k := 1) rfl rfl))) rfl ?_
                refine l_val (v_lenS Try.underlying9 rfl) rfl ?_
                refine l_val (v_fieldX (o' := 3) field27_3 rfl rfl) rfl ?_
                refine l_storeX (cs' := #[_, _, _, _]) (L' := (_ :: _)) 0 hS ty3 rfl rfl rfl rfl rfl rfl rfl (fun w hS => ?_)
                refine l_end ?_
                refine k_code ?_
                refine c_seq ?_
                refine c_seq ?_
                refine c_region ?_
                refine l_val (v_move rfl) rfl ?_
                refine l_val (v_move rfl) rfl ?_
                refine l_on rfl rfl rfl ?_
                refine l_val (v_move rfl) rfl ?_
                refine l_on rfl rfl rfl ?_
                refine l_val (v_eql rfl rfl) rfl ?_
                refine l_val (v_pickT rfl rfl) rfl ?_
                refine l_val (v_move rfl) rfl ?_
                refine l_part 58 rfl (fun p5 => ?_) (fun p5 => ?_)
                · exact absurd p5 p3
                · skip
                  refine l_skip rfl rfl rfl rfl rfl ?_
                  refine l_skip rfl rfl rfl rfl rfl ?_
                  refine l_skip rfl rfl rfl rfl rfl ?_
                  refine l_val (v_pickF rfl rfl) rfl ?_
                  refine l_end ?_
                  refine k_code ?_
                  refine c_no rfl ?_
                  refine c_skip ?_
                  refine k_code ?_
                  refine c_region ?_
                  refine l_val (v_fieldX (o' := 1) field24_1 rfl rfl) rfl ?_
                  refine l_val (v_load ty22 rfl (here (hS.cellX 5 (k := 1) rfl rfl))) rfl ?_
                  refine l_val (v_loadW tyN27 rfl rfl (hereN (hS.rowX 0 rfl))) rfl ?_
                  refine l_slice1 (bytes := 0) hS Try.underlying22 tyN27.size zero27 rfl (by decide) (by decide) rfl rfl rfl rfl (fun b7 w hS => ?_)
                  refine l_appendX (L' := fun _ => (_ :: (_ :: (_ :: _)))) 2 hS Try.underlying22 elem27 rfl rfl rfl rfl (hS.row 0 rfl) (enc_one ⟨_, _, _, _⟩) (by unfold maxLen; omega) (by omega) rfl (fun _ => rfl) (fun va9 w hS hvva9 => ?_)
                  refine l_val (v_fieldX (o' := 1) field24_1 rfl rfl) rfl ?_
                  refine l_storeX (cs' := #[_, _]) (L' := (_ :: (_ :: (_ :: (_ :: (_ :: (_ :: (_ :: _)))))))) 6 hS ty22 rfl rfl rfl rfl (row_one (hS.rowAt 2 rfl)) rfl rfl (fun w hS => ?_)
                  refine l_end ?_
                  refine k_code ?_
                  refine c_region ?_
                  refine l_val (v_add rfl rfl (by omega)) rfl ?_
                  refine l_val (v_move rfl) rfl ?_
                  refine l_end ?_
                  refine fun _ hFr => ⟨(k + 1, t6.2.1, t6.2.2, cs ++ [⟨S t2.1, S t6.1, 0, ((S t6.1).size : Nat)⟩], va9), (by dsimp only; omega), ⟨(row_snoc (hS.arr [2, 3, 4, 5, 6, 7]) rfl rfl), ⟨rounds_next hrn (by omega) p2 (cellP_c h_t1 h_t2 h_t4 (by omega) (by omega) h_t5 h_t6), by omega, by omega, by rw [List.length_append]; simp only [List.length_cons, List.length_nil]; omega, smalls_snoc hsm (small_of hk2 hk6)⟩⟩, Fr.sub hFr (kc rfl (kc rfl (kc rfl (kc rfl (kc rfl (kc rfl (kc rfl (kc rfl (kc rfl (kc rfl kn))))))))))⟩
              · skip
                refine c_region ?_
                refine l_storeX (cs' := #[_]) (L' := (_ :: (_ :: (_ :: (_ :: _))))) 3 hS ty4 rfl rfl rfl rfl rfl rfl rfl (fun w hS => ?_)
                refine l_end ?_
                refine k_code ?_
                refine c_seq ?_
                refine c_seq ?_
                refine c_region ?_
                refine l_val (v_move rfl) rfl ?_
                refine l_val (v_move rfl) rfl ?_
                refine l_on rfl rfl rfl ?_
                refine l_val (v_move rfl) rfl ?_
                refine l_on rfl rfl rfl ?_
                refine l_val (v_eql rfl rfl) rfl ?_
                refine l_val (v_pickT rfl rfl) rfl ?_
                refine l_val (v_move rfl) rfl ?_
                refine l_part 58 rfl (fun p5 => ?_) (fun p5 => ?_)
                · exact absurd p5 p3
                · skip
                  refine l_skip rfl rfl rfl rfl rfl ?_
                  refine l_skip rfl rfl rfl rfl rfl ?_
                  refine l_skip rfl rfl rfl rfl rfl ?_
                  refine l_val (v_pickF rfl rfl) rfl ?_
                  refine l_end ?_
                  refine k_code ?_
                  refine c_no rfl ?_
                  refine c_skip ?_
                  refine k_code ?_
                  refine c_region ?_
                  refine l_val (v_fieldX (o' := 1) field24_1 rfl rfl) rfl ?_
                  refine l_val (v_load ty22 rfl (here (hS.cellX 5 (k := 1) rfl rfl))) rfl ?_
                  refine l_val (v_loadW tyN27 rfl rfl (hereN (hS.rowX 0 rfl))) rfl ?_
                  refine l_slice1 (bytes := 0) hS Try.underlying22 tyN27.size zero27 rfl (by decide) (by decide) rfl rfl rfl rfl (fun b7 w hS => ?_)
                  refine l_appendX (L' := fun _ => (_ :: (_ :: (_ :: _)))) 2 hS Try.underlying22 elem27 rfl rfl rfl rfl (hS.row 0 rfl) (enc_one ⟨_, _, _, _⟩) (by unfold maxLen; omega) (by omega) rfl (fun _ => rfl) (fun va9 w hS hvva9 => ?_)
                  refine l_val (v_fieldX (o' := 1) field24_1 rfl rfl) rfl ?_
                  refine l_storeX (cs' := #[_, _]) (L' := (_ :: (_ :: (_ :: (_ :: (_ :: (_ :: (_ :: _)))))))) 6 hS ty22 rfl rfl rfl rfl (row_one (hS.rowAt 2 rfl)) rfl rfl (fun w hS => ?_)
                  refine l_end ?_
                  refine k_code ?_
                  refine c_region ?_
                  refine l_val (v_add rfl rfl (by omega)) rfl ?_
                  refine l_val (v_move rfl) rfl ?_
                  refine l_end ?_
                  refine fun _ hFr => ⟨(k + 1, t4.2.1, true, cs ++ [⟨S t2.1, ⟨#[]⟩, 0, 0⟩], va9), (by dsimp only; omega), ⟨(row_snoc (hS.arr [2, 3, 4, 5, 6, 7]) rfl rfl), ⟨rounds_next hrn (by omega) p2 (cellP_d h_t1 h_t2 h_t4 (by omega) (by omega)), by omega, by omega, by rw [List.length_append]; simp only [List.length_cons, List.length_nil]; omega, smalls_snoc hsm (small_of hk2 (Nat.zero_le _))⟩⟩, Fr.sub hFr (kc rfl (kc rfl (kc rfl (kc rfl (kc rfl (kc rfl (kc rfl (kc rfl (kc rfl (kc rfl kn))))))))))⟩
        · skip
          refine l_alloc (cs := #[_, _, _, _]) hS zero27 rfl rfl (fun b6 w hS => ?_)
          refine l_end ?_
          have hR : St No w0 _ [.blk b4 (.cells #[TakeF b2 b3] 54 (0, 0))] := hS.less (.cons _ (.cons _ (.cons _ (.cons _ (.cons_cons _ (.cons _ (.cons _ (.slnil))))))))
          refine d_on (S := (fun w => St No w0 w [.blk b4 (.cells #[TakeF b2 b3] 54 (0, 0))])) hR ?_
          refine d_one 2 rfl (by kernel_rfl) ?_
          have hL1 := takeP_len (l := l) (sh := sh) (n := 1); have hM1 := takeP_len1 (l := l) (sh := sh) (n := 1); refine l_callV (first := []) (cap := [.pointer (some ⟨b4, 0, none⟩)]) goes39 rfl rfl (pnum_any b2 b3 b4 hne l sh 1 _ (hS.block (i := 2) rfl) (hS.block (i := 3) rfl) (hS.cellX 4 rfl rfl) (by omega) (by omega)) rfl (fun e w hB => ?_)
          generalize h_t1 : takeP l sh 1 = t1 at hB hL1 hM1; obtain ⟨rfl, hk1, hb1, hb2⟩ := hB; have hS := St.turn2 hS (i := 2) (j := 3) rfl rfl (by decide) hk1 hb1 hb2; refine ⟨_, rfl, ?_⟩
          have hn1 := num1_lt hM1
          refine l_end ?_
          have hR : St No w0 _ [.blk b4 (.cells #[TakeF b2 b3] 54 (0, 0))] := hS.less (.cons _ (.cons _ (.cons _ (.cons _ (.cons_cons _ (.cons _ (.cons _ (.slnil))))))))
          refine d_on (S := (fun w => St No w0 w [.blk b4 (.cells #[TakeF b2 b3] 54 (0, 0))])) hR ?_
          refine d_one 3 rfl (by kernel_rfl) ?_
          have hL1 := takeP_len (l := t1.2.1) (sh := t1.2.2) (n := (numL t1.1)); have hM1 := takeP_len1 (l := t1.2.1) (sh := t1.2.2) (n := (numL t1.1)); refine l_callV (first := []) (cap := [.pointer (some ⟨b2, 0, none⟩), .pointer (some ⟨b3, 0, none⟩)]) goes38 rfl rfl (pull_any b2 b3 hne t1.2.1 t1.2.2 (numL t1.1) _ (hS.block (i := 2) rfl) (hS.block (i := 3) rfl) (by omega)) rfl (fun e w hB => ?_)
          generalize h_t2 : takeP t1.2.1 t1.2.2 (numL t1.1) = t2 at hB hL1 hM1; obtain ⟨rfl, hk1, hb1, hb2⟩ := hB; have hS := St.turn2 hS (i := 2) (j := 3) rfl rfl (by decide) hk1 hb1 hb2; refine ⟨_, rfl, ?_⟩
          have hk2 := S_le (Nat.le_trans hM1 hn1)
          refine l_end ?_
          have hR : St No w0 _ [.blk b4 (.cells #[TakeF b2 b3] 54 (0, 0))] := hS.less (.cons _ (.cons _ (.cons _ (.cons _ (.cons_cons _ (.cons _ (.cons _ (.slnil))))))))
          refine d_on (S := (fun w => St No w0 w [.blk b4 (.cells #[TakeF b2 b3] 54 (0, 0))])) hR ?_
          refine d_one 4 rfl (by kernel_rfl) ?_
          refine l_val (v_build (cells := #[_, _, _, _]) zero27 places27 rfl rfl) rfl ?_
          refine l_end ?_
          have hR : St No w0 _ [.blk b4 (.cells #[TakeF b2 b3] 54 (0, 0))] := hS.less (.cons _ (.cons _ (.cons _ (.cons _ (.cons_cons _ (.cons _ (.cons _ (.slnil))))))))
          refine d_on (S := (fun w => St No w0 w [.blk b4 (.cells #[TakeF b2 b3] 54 (0, 0))])) hR ?_
          refine d_one 6 rfl (by kernel_rfl) ?_
          refine l_storeNX (cs' := #[_, _, _, _]) (L' := (_ :: _)) 0 hS tyN27 rfl rfl rfl rfl rfl rfl rfl rfl (fun w hS => ?_)
          refine l_end ?_
          have hR : St No w0 _ [.blk b4 (.cells #[TakeF b2 b3] 54 (0, 0))] := hS.less (.cons _ (.cons _ (.cons _ (.cons _ (.cons_cons _ (.cons _ (.cons _ (.slnil))))))))
          refine d_on (S := (fun w => St No w0 w [.blk b4 (.cells #[TakeF b2 b3] 54 (0, 0))])) hR ?_
          refine d_end (by kernel_rfl) ?_
          refine k_code ?_
          refine c_seq ?_
          refine c_region ?_
          refine l_val (v_assign rfl) rfl ?_
          refine l_end ?_
          refine k_code ?_
          refine c_seq ?_
          refine c_seq ?_
          refine c_region ?_
          refine l_val (v_move rfl) rfl ?_
          refine l_end ?_
          refine k_code ?_
          refine c_yes rfl ?_
          refine c_region ?_
          refine l_val (v_move rfl) rfl ?_
          have hL1 := takeP_len (l := t2.2.1) (sh := t2.2.2) (n := 1); have hM1 := takeP_len1 (l := t2.2.1) (sh := t2.2.2) (n := 1); refine l_callV (first := []) (cap := [.pointer (some ⟨b4, 0, none⟩)]) goes39 rfl rfl (pnum_any b2 b3 b4 hne t2.2.1 t2.2.2 1 _ (hS.block (i := 2) rfl) (hS.block (i := 3) rfl) (hS.cellX 4 rfl rfl) (by omega) (by omega)) rfl (fun e w hB => ?_)
          generalize h_t4 : takeP t2.2.1 t2.2.2 1 = t4 at hB hL1 hM1; obtain ⟨rfl, hk1, hb1, hb2⟩ := hB; have hS := St.turn2 hS (i := 2) (j := 3) rfl rfl (by decide) hk1 hb1 hb2; refine ⟨_, rfl, ?_⟩
          refine l_val (v_assign rfl) rfl ?_
          refine l_end ?_
          refine k_code ?_
          refine c_seq ?_
          refine c_block ?_
          refine c_seq ?_
          refine c_region ?_
          refine l_val (v_move rfl) rfl ?_
          refine l_val (v_eql rfl rfl) rfl ?_
          refine l_val (v_assign rfl) rfl ?_
          refine l_end ?_
          refine k_code ?_
          refine c_if rfl (fun p3 => ?_) (fun p3 => ?_)
          · skip
            refine c_seq ?_
            refine c_region ?_
            refine l_val (v_move rfl) rfl ?_
            have hL1 := takeP_len (l := t4.2.1) (sh := t4.2.2) (n := 4); have hM1 := takeP_len1 (l := t4.2.1) (sh := t4.2.2) (n := 4); refine l_callV (first := []) (cap := [.pointer (some ⟨b4, 0, none⟩)]) goes39 rfl rfl (pnum_any b2 b3 b4 hne t4.2.1 t4.2.2 4 _ (hS.block (i := 2) rfl) (hS.block (i := 3) rfl) (hS.cellX 4 rfl rfl) (by omega) (by omega)) rfl (fun e w hB => ?_)
            generalize h_t5 : takeP t4.2.1 t4.2.2 4 = t5 at hB hL1 hM1; obtain ⟨rfl, hk1, hb1, hb2⟩ := hB; have hS := St.turn2 hS (i := 2) (j := 3) rfl rfl (by decide) hk1 hb1 hb2; refine ⟨_, rfl, ?_⟩
            refine l_val (v_fieldX (o' := 2) field27_2 rfl rfl) rfl ?_
            refine l_storeX (cs' := #[_, _, _, _]) (L' := (_ :: _)) 0 hS ty3 rfl rfl rfl rfl rfl rfl rfl (fun w hS => ?_)
            refine l_end ?_
            refine k_code ?_
            refine c_seq ?_
            refine c_region ?_
            refine l_val (v_move rfl) rfl ?_
            refine l_end ?_
            refine k_code ?_
            refine c_yes rfl ?_
            refine c_region ?_
            refine l_val (v_move rfl) rfl ?_
            have hL1 := takeP_len (l := t5.2.1) (sh := t5.2.2) (n := 4); have hM1 := takeP_len1 (l := t5.2.1) (sh := t5.2.2) (n := 4); refine l_callV (first := []) (cap := [.pointer (some ⟨b4, 0, none⟩)]) goes39 rfl rfl (pnum_any b2 b3 b4 hne t5.2.1 t5.2.2 4 _ (hS.block (i := 2) rfl) (hS.block (i := 3) rfl) (hS.cellX 4 rfl rfl) (by omega) (by omega)) rfl (fun e w hB => ?_)
            generalize h_t6 : takeP t5.2.1 t5.2.2 4 = t6 at hB hL1 hM1; obtain ⟨rfl, hk1, hb1, hb2⟩ := hB; have hS := St.turn2 hS (i := 2) (j := 3) rfl rfl (by decide) hk1 hb1 hb2; refine ⟨_, rfl, ?_⟩
            refine l_val (v_fieldX (o' := 3) field27_3 rfl rfl) rfl ?_
            refine l_storeX (cs' := #[_, _, _, _]) (L' := (_ :: _)) 0 hS ty3 rfl rfl rfl rfl rfl rfl rfl (fun w hS => ?_)
            refine l_end ?_
            refine k_code ?_
            refine c_seq ?_
            refine c_seq ?_
            refine c_region ?_
            refine l_val (v_move rfl) rfl ?_
            refine l_val (v_move rfl) rfl ?_
            refine l_on rfl rfl rfl ?_
            refine l_val (v_move rfl) rfl ?_
            refine l_on rfl rfl rfl ?_
            refine l_val (v_eql rfl rfl) rfl ?_
            refine l_val (v_pickT rfl rfl) rfl ?_
            refine l_val (v_move rfl) rfl ?_
            refine l_part 58 rfl (fun p4 => ?_) (fun p4 => ?_)
            · skip
              refine l_on rfl rfl rfl ?_
              refine l_val (v_fieldX (o' := 2) field27_2 rfl rfl) rfl ?_
              refine l_on rfl rfl rfl ?_
              refine l_val (v_load ty3 rfl (here (hS.cellX 0 (k := 2) rfl rfl))) rfl ?_
              refine l_on rfl rfl rfl ?_
              refine l_val (v_eql rfl rfl) rfl ?_
              refine l_val (v_pickT rfl rfl) rfl ?_
              refine l_end ?_
              refine k_code ?_
              refine c_if rfl (fun p5 => ?_) (fun p5 => ?_)
              · skip
                refine c_region ?_
                refine l_storeX (cs' := #[_]) (L' := (_ :: (_ :: (_ :: (_ :: _))))) 3 hS ty4 rfl rfl rfl rfl rfl rfl rfl (fun w hS => ?_)
                refine l_end ?_
                refine k_code ?_
                refine c_region ?_
                refine l_val (v_fieldX (o' := 1) field24_1 rfl rfl) rfl ?_
                refine l_val (v_load ty22 rfl (here (hS.cellX 5 (k := 1) rfl rfl))) rfl ?_
                refine l_val (v_loadW tyN27 rfl rfl (hereN (hS.rowX 0 rfl))) rfl ?_
                refine l_slice1 (bytes := 0) hS Try.underlying22 tyN27.size zero27 rfl (by decide) (by decide) rfl rfl rfl rfl (fun b7 w hS => ?_)
                refine l_appendX (L' := fun _ => (_ :: (_ :: (_ :: _)))) 2 hS Try.underlying22 elem27 rfl rfl rfl rfl (hS.row 0 rfl) (enc_one ⟨_, _, _, _⟩) (by unfold maxLen; omega) (by omega) rfl (fun _ => rfl) (fun va9 w hS hvva9 => ?_)
                refine l_val (v_fieldX (o' := 1) field24_1 rfl rfl) rfl ?_
                refine l_storeX (cs' := #[_, _]) (L' := (_ :: (_ :: (_ :: (_ :: (_ :: (_ :: (_ :: _)))))))) 6 hS ty22 rfl rfl rfl rfl (row_one (hS.rowAt 2 rfl)) rfl rfl (fun w hS => ?_)
                refine l_end ?_
                refine k_code ?_
                refine c_region ?_
                refine l_val (v_add rfl rfl (by omega)) rfl ?_
                refine l_val (v_move rfl) rfl ?_
                refine l_end ?_
                refine fun _ hFr => ⟨(k + 1, t6.2.1, true, cs ++ [⟨S t2.1, ⟨#[]⟩, (numL t5.1 : Nat), (numL t6.1 : Nat)⟩], va9), (by dsimp only; omega), ⟨(row_snoc (hS.arr [2, 3, 4, 5, 6, 7]) rfl rfl), ⟨rounds_next hrn (by omega) p2 (cellP_b0 h_t1 h_t2 h_t4 (by omega) h_t5 h_t6 (by omega)), by omega, by omega, by rw [List.length_append]; simp only [List.length_cons, List.length_nil]; omega, smalls_snoc hsm (small_of hk2 (Nat.zero_le _))⟩⟩, Fr.sub hFr (kc rfl (kc rfl (kc rfl (kc rfl (kc rfl (kc rfl (kc rfl (kc rfl (kc rfl (kc rfl kn))))))))))⟩
              · skip
                refine c_skip ?_
                refine k_code ?_
                refine c_region ?_
                refine l_val (v_fieldX (o' := 1) field24_1 rfl rfl) rfl ?_
                refine l_val (v_load ty22 rfl (here (hS.cellX 5 (k := 1) rfl rfl))) rfl ?_
                refine l_val (v_loadW tyN27 rfl rfl (hereN (hS.rowX 0 rfl))) rfl ?_
                refine l_slice1 (bytes := 0) hS Try.underlying22 tyN27.size zero27 rfl (by decide) (by decide) rfl rfl rfl rfl (fun b7 w hS => ?_)
                refine l_appendX (L' := fun _ => (_ :: (_ :: (_ :: _)))) 2 hS Try.underlying22 elem27 rfl rfl rfl rfl (hS.row 0 rfl) (enc_one ⟨_, _, _, _⟩) (by unfold maxLen; omega) (by omega) rfl (fun _ => rfl) (fun va9 w hS hvva9 => ?_)
                refine l_val (v_fieldX (o' := 1) field24_1 rfl rfl) rfl ?_
                refine l_storeX (cs' := #[_, _]) (L' := (_ :: (_ :: (_ :: (_ :: (_ :: (_ :: (_ :: _)))))))) 6 hS ty22 rfl rfl rfl rfl (row_one (hS.rowAt 2 rfl)) rfl rfl (fun w hS => ?_)
                refine l_end ?_
                refine k_code ?_
                refine c_region ?_
                refine l_val (v_add rfl rfl (by omega)) rfl ?_
                refine l_val (v_move rfl) rfl ?_
                refine l_end ?_
                refine fun _ hFr => ⟨(k + 1, t6.2.1, t6.2.2, cs ++ [⟨S t2.1, ⟨#[]⟩, (numL t5.1 : Nat), (numL t6.1 : Nat)⟩], va9), (by dsimp only; omega), ⟨(row_snoc (hS.arr [2, 3, 4, 5, 6, 7]) rfl rfl), ⟨rounds_next hrn (by omega) p2 (cellP_b h_t1 h_t2 h_t4 (by omega) h_t5 h_t6 (by omega)), by omega, by omega, by rw [List.length_append]; simp only [List.length_cons, List.length_nil]; omega, smalls_snoc hsm (small_of hk2 (Nat.zero_le _))⟩⟩, Fr.sub hFr (kc rfl (kc rfl (kc rfl (kc rfl (kc rfl (kc rfl (kc rfl (kc rfl (kc rfl (kc rfl kn))))))))))⟩
            · exact absurd p3 p4
          · skip
            refine c_seq ?_
            refine c_region ?_
            refine l_val (v_move rfl) rfl ?_
            refine l_val (v_eql rfl rfl) rfl ?_
            refine l_val (v_assign rfl) rfl ?_
            refine l_end ?_
            refine k_code ?_
            refine c_if rfl (fun p4 => ?_) (fun p4 => ?_)
            · skip
              refine c_seq ?_
              refine d_region (fun w => St No w0 w [.blk b4 (.cells #[TakeF b2 b3] 54 (0, 0))]) 6 mixed ?_
              have hS := hS.drew 1
              have hR : St No w0 _ [.blk b4 (.cells #[TakeF b2 b3] 54 (0, 0))] := hS.less (.cons _ (.cons _ (.cons _ (.cons _ (.cons_cons _ (.cons _ (.cons _ (.slnil))))))))
              refine d_take 0 rfl (by kernel_rfl) (by kernel_rfl) (by kernel_rfl) (by kernel_rfl) hR (v_load ty54 rfl (fun _ h => h.cellX 0 (k := 0) rfl rfl)) rfl ?_
              refine d_one 1 rfl (by kernel_rfl) ?_
              refine l_val (v_move rfl) rfl ?_
              refine l_end ?_
              have hR : St No w0 _ [.blk b4 (.cells #[TakeF b2 b3] 54 (0, 0))] := hS.less (.cons _ (.cons _ (.cons _ (.cons _ (.cons_cons _ (.cons _ (.cons _ (.slnil))))))))
              refine d_on (S := (fun w => St No w0 w [.blk b4 (.cells #[TakeF b2 b3] 54 (0, 0))])) hR ?_
              refine d_one 2 rfl (by kernel_rfl) ?_
              have hL1 := takeP_len (l := t4.2.1) (sh := t4.2.2) (n := 1); have hM1 := takeP_len1 (l := t4.2.1) (sh := t4.2.2) (n := 1); refine l_callV (first := []) (cap := [.pointer (some ⟨b4, 0, none⟩)]) goes39 rfl rfl (pnum_any b2 b3 b4 hne t4.2.1 t4.2.2 1 _ (hS.block (i := 2) rfl) (hS.block (i := 3) rfl) (hS.cellX 4 rfl rfl) (by omega) (by omega)) rfl (fun e w hB => ?_)
              generalize h_t5 : takeP t4.2.1 t4.2.2 1 = t5 at hB hL1 hM1; obtain ⟨rfl, hk1, hb1, hb2⟩ := hB; have hS := St.turn2 hS (i := 2) (j := 3) rfl rfl (by decide) hk1 hb1 hb2; refine ⟨_, rfl, ?_⟩
              have hn5 := num1_lt hM1
              refine l_end ?_
              have hR : St No w0 _ [.blk b4 (.cells #[TakeF b2 b3] 54 (0, 0))] := hS.less (.cons _ (.cons _ (.cons _ (.cons _ (.cons_cons _ (.cons _ (.cons _ (.slnil))))))))
              refine d_on (S := (fun w => St No w0 w [.blk b4 (.cells #[TakeF b2 b3] 54 (0, 0))])) hR ?_
              refine d_one 3 rfl (by kernel_rfl) ?_
              have hL1 := takeP_len (l := t5.2.1) (sh := t5.2.2) (n := (numL t5.1)); have hM1 := takeP_len1 (l := t5.2.1) (sh := t5.2.2) (n := (numL t5.1)); refine l_callV (first := []) (cap := [.pointer (some ⟨b2, 0, none⟩), .pointer (some ⟨b3, 0, none⟩)]) goes38 rfl rfl (pull_any b2 b3 hne t5.2.1 t5.2.2 (numL t5.1) _ (hS.block (i := 2) rfl) (hS.block (i := 3) rfl) (by omega)) rfl (fun e w hB => ?_)
              generalize h_t6 : takeP t5.2.1 t5.2.2 (numL t5.1) = t6 at hB hL1 hM1; obtain ⟨rfl, hk1, hb1, hb2⟩ := hB; have hS := St.turn2 hS (i := 2) (j := 3) rfl rfl (by decide) hk1 hb1 hb2; refine ⟨_, rfl, ?_⟩
              have hk6 := S_le (Nat.le_trans hM1 hn5)
              have hz6 := S_size t6.1
              refine l_end ?_
              have hR : St No w0 _ [.blk b4 (.cells #[TakeF b2 b3] 54 (0, 0))] := hS.less (.cons _ (.cons _ (.cons _ (.cons _ (.cons_cons _ (.cons _ (.cons _ (.slnil))))))))
              refine d_on (S := (fun w => St No w0 w [.blk b4 (.cells #[TakeF b2 b3] 54 (0, 0))])) hR ?_
              refine d_one 4 rfl (by kernel_rfl) ?_
              refine l_val (v_fieldX (o' := 1) field27_1 rfl rfl) rfl ?_
              refine l_end ?_
              have hR : St No w0 _ [.blk b4 (.cells #[TakeF b2 b3] 54 (0, 0))] := hS.less (.cons _ (.cons _ (.cons _ (.cons _ (.cons_cons _ (.cons _ (.cons _ (.slnil))))))))
              refine d_on (S := (fun w => St No w0 w [.blk b4 (.cells #[TakeF b2 b3] 54 (0, 0))])) hR ?_
              refine d_one 5 rfl (by kernel_rfl) ?_
              refine l_storeX (cs' := #[_, _, _, _]) (L' := (_ :: _)) 0 hS ty9 rfl rfl rfl rfl rfl rfl rfl (fun w hS => ?_)
              refine l_end ?_
              have hR : St No w0 _ [.blk b4 (.cells #[TakeF b2 b3] 54 (0, 0))] := hS.less (.cons _ (.cons _ (.cons _ (.cons _ (.cons_cons _ (.cons _ (.cons _ (.slnil))))))))
              refine d_on (S := (fun w => St No w0 w [.blk b4 (.cells #[TakeF b2 b3] 54 (0, 0))])) hR ?_
              refine d_end (by kernel_rfl) ?_
              refine k_code ?_
              refine c_region ?_
              refine l_val (v_fieldX (o' := 1) field27_1 rfl rfl) rfl ?_
              refine l_val (v_load ty9 rfl (here (hS.cellX 0 (k := 1) rfl rfl))) rfl ?_
              refine l_val (v_lenS Try.underlying9 rfl) rfl ?_
              refine l_val (v_fieldX (o' := 3) field27_3 rfl rfl) rfl ?_
              refine l_storeX (cs' := #[_, _, _, _]) (L' := (_ :: _)) 0 hS ty3 rfl rfl rfl rfl rfl rfl rfl (fun w hS => ?_)
              refine l_end ?_
              refine k_code ?_
              refine c_seq ?_
              refine c_seq ?_
              refine c_region ?_
              refine l_val (v_move rfl) rfl ?_
              refine l_val (v_move rfl) rfl ?_
              refine l_on rfl rfl rfl ?_
              refine l_val (v_move rfl) rfl ?_
              refine l_on rfl rfl rfl ?_
              refine l_val (v_eql rfl rfl) rfl ?_
              refine l_val (v_pickT rfl rfl) rfl ?_
              refine l_val (v_move rfl) rfl ?_
              refine l_part 58 rfl (fun p5 => ?_) (fun p5 => ?_)
              · exact absurd p5 p3
              · skip
                refine l_skip rfl rfl rfl rfl rfl ?_
                refine l_skip rfl rfl rfl rfl rfl ?_
                refine l_skip rfl rfl rfl rfl rfl ?_
                refine l_val (v_pickF rfl rfl) rfl ?_
                refine l_end ?_
                refine k_code ?_
                refine c_no rfl ?_
                refine c_skip ?_
                refine k_code ?_
                refine c_region ?_
                refine l_val (v_fieldX (o' := 1) field24_1 rfl rfl) rfl ?_
                refine l_val (v_load ty22 rfl (here (hS.cellX 5 (k := 1) rfl rfl))) rfl ?_
                refine l_val (v_loadW tyN27 rfl rfl (hereN (hS.rowX 0 rfl))) rfl ?_
                refine l_slice1 (bytes := 0) hS Try.underlying22 tyN27.size zero27 rfl (by decide) (by decide) rfl rfl rfl rfl (fun b7 w hS => ?_)
                refine l_appendX (L' := fun _ => (_ :: (_ :: (_ :: _)))) 2 hS Try.underlying22 elem27 rfl rfl rfl rfl (hS.row 0 rfl) (enc_one ⟨_, _, _, _⟩) (by unfold maxLen; omega) (by omega) rfl (fun _ => rfl) (fun va9 w hS hvva9 => ?_)
                refine l_val (v_fieldX (o' := 1) field24_1 rfl rfl) rfl ?_
                refine l_storeX (cs' := #[_, _]) (L' := (_ :: (_ :: (_ :: (_ :: (_ :: (_ :: (_ :: _)))))))) 6 hS ty22 rfl rfl rfl rfl (row_one (hS.rowAt 2 rfl)) rfl rfl (fun w hS => ?_)
                refine l_end ?_
                refine k_code ?_
                refine c_region ?_
                refine l_val (v_add rfl rfl (by omega)) rfl ?_
                refine l_val (v_move rfl) rfl ?_
                refine l_end ?_
                refine fun _ hFr => ⟨(k + 1, t6.2.1, t6.2.2, cs ++ [⟨S t2.1, S t6.1, 0, ((S t6.1).size : Nat)⟩], va9), (by dsimp only; omega), ⟨(row_snoc (hS.arr [2, 3, 4, 5, 6, 7]) rfl rfl), ⟨rounds_next hrn (by omega) p2 (cellP_c h_t1 h_t2 h_t4 (by omega) (by omega) h_t5 h_t6), by omega, by omega, by rw [List.length_append]; simp only [List.length_cons, List.length_nil]; omega, smalls_snoc hsm (small_of hk2 hk6)⟩⟩, Fr.sub hFr (kc rfl (kc rfl (kc rfl (kc rfl (kc rfl (kc rfl (kc rfl (kc rfl (kc rfl (kc rfl kn))))))))))⟩
            · skip
              refine c_region ?_
              refine l_storeX (cs' := #[_]) (L' := (_ :: (_ :: (_ :: (_ :: _))))) 3 hS ty4 rfl rfl rfl rfl rfl rfl rfl (fun w hS => ?_)
              refine l_end ?_
              refine k_code ?_
              refine c_seq ?_
              refine c_seq ?_
              refine c_region ?_
              refine l_val (v_move rfl) rfl ?_
              refine l_val (v_move rfl) rfl ?_
              refine l_on rfl rfl rfl ?_
              refine l_val (v_move rfl) rfl ?_
              refine l_on rfl rfl rfl ?_
              refine l_val (v_eql rfl rfl) rfl ?_
              refine l_val (v_pickT rfl rfl) rfl ?_
              refine l_val (v_move rfl) rfl ?_
              refine l_part 58 rfl (fun p5 => ?_) (fun p5 => ?_)
              · exact absurd p5 p3
              · skip
                refine l_skip rfl rfl rfl rfl rfl ?_
                refine l_skip rfl rfl rfl rfl rfl ?_
                refine l_skip rfl rfl rfl rfl rfl ?_
                refine l_val (v_pickF rfl rfl) rfl ?_
                refine l_end ?_
                refine k_code ?_
                refine c_no rfl ?_
                refine c_skip ?_
                refine k_code ?_
                refine c_region ?_
                refine l_val (v_fieldX (o' := 1) field24_1 rfl rfl) rfl ?_
                refine l_val (v_load ty22 rfl (here (hS.cellX 5 (k := 1) rfl rfl))) rfl ?_
                refine l_val (v_loadW tyN27 rfl rfl (hereN (hS.rowX 0 rfl))) rfl ?_
                refine l_slice1 (bytes := 0) hS Try.underlying22 tyN27.size zero27 rfl (by decide) (by decide) rfl rfl rfl rfl (fun b7 w hS => ?_)
                refine l_appendX (L' := fun _ => (_ :: (_ :: (_ :: _)))) 2 hS Try.underlying22 elem27 rfl rfl rfl rfl (hS.row 0 rfl) (enc_one ⟨_, _, _, _⟩) (by unfold maxLen; omega) (by omega) rfl (fun _ => rfl) (fun va9 w hS hvva9 => ?_)
                refine l_val (v_fieldX (o' := 1) field24_1 rfl rfl) rfl ?_
                refine l_storeX (cs' := #[_, _]) (L' := (_ :: (_ :: (_ :: (_ :: (_ :: (_ :: (_ :: _)))))))) 6 hS ty22 rfl rfl rfl rfl (row_one (hS.rowAt 2 rfl)) rfl rfl (fun w hS => ?_)
                refine l_end ?_
                refine k_code ?_
                refine c_region ?_
                refine l_val (v_add rfl rfl (by omega)) rfl ?_
                refine l_val (v_move rfl) rfl ?_
                refine l_end ?_
                refine fun _ hFr => ⟨(k + 1, t4.2.1, true, cs ++ [⟨S t2.1, ⟨#[]⟩, 0, 0⟩], va9), (by dsimp only; omega), ⟨(row_snoc (hS.arr [2, 3, 4, 5, 6, 7]) rfl rfl), ⟨rounds_next hrn (by omega) p2 (cellP_d h_t1 h_t2 h_t4 (by omega) (by omega)), by omega, by omega, by rw [List.length_append]; simp only [List.length_cons, List.length_nil]; omega, smalls_snoc hsm (small_of hk2 (Nat.zero_le _))⟩⟩, Fr.sub hFr (kc rfl (kc rfl (kc rfl (kc rfl (kc rfl (kc rfl (kc rfl (kc rfl (kc rfl (kc rfl kn))))))))))⟩
    · skip
      refine c_exit ex_here ?_
      refine fun _ hFr => ⟨(l, sh, cs, v), ⟨hS, ⟨hrn.symm.trans (rounds_end (Or.inl (by omega))), by omega, hsm⟩⟩, Fr.sub hFr (kc rfl (kc rfl (kc rfl (kc rfl (kc rfl kn)))))⟩
  · skip
    obtain ⟨l, sh, cs, v⟩ := xx
    obtain ⟨hS, ⟨hrn, hcl, hsm⟩⟩ := hI
    obtain ⟨A', c', rfl⟩ := row_form (hS.rowAt 0 rfl)
    refine c_seq ?_
    refine c_seq ?_
    refine c_region ?_
    refine l_val (v_load ty4 rfl (here (hS.cellX 2 (k := 0) rfl rfl))) rfl ?_
    refine l_val (v_move rfl) rfl ?_
    refine l_partB 71 rfl (fun p1 => ?_) (fun p1 => ?_)
    · skip
      refine l_skip rfl rfl rfl rfl rfl ?_
      refine l_skip rfl rfl rfl rfl rfl ?_
      refine l_val (v_pickT rfl rfl) rfl ?_
      refine l_val (v_move rfl) rfl ?_
      refine l_skip rfl rfl rfl rfl rfl ?_
      refine l_skip rfl rfl rfl rfl rfl ?_
      refine l_skip rfl rfl rfl rfl rfl ?_
      refine l_val (v_pickT rfl rfl) rfl ?_
      refine l_val (v_move rfl) rfl ?_
      refine l_skip rfl rfl rfl rfl rfl ?_
      refine l_skip rfl rfl rfl rfl rfl ?_
      refine l_skip rfl rfl rfl rfl rfl ?_
      refine l_val (v_pickT rfl rfl) rfl ?_
      refine l_end ?_
      refine k_code ?_
      refine c_yes rfl ?_
      refine c_seq ?_
      refine c_region ?_
      refine l_val (v_build (cells := #[_, _]) zero24 places24 rfl rfl) rfl ?_
      refine l_storeNX (cs' := #[_, _]) (L' := (_ :: (_ :: (_ :: (_ :: (_ :: (_ :: _))))))) 5 hS tyN24 rfl rfl rfl rfl rfl rfl rfl rfl (fun w hS => ?_)
      refine l_val (v_assign rfl) rfl ?_
      refine l_end ?_
      refine k_code ?_
      refine c_retCT 5 rfl tyN24 hS rfl rfl rfl rfl ?_
      exact givesRd_none (pread_no hrn (fun h => by rw [h.1] at p1; simp at p1)) hS.keep
    · skip
      refine l_on rfl rfl rfl ?_
      refine l_val (v_load ty9 rfl (here (hS.cellX 1 (k := 0) rfl rfl))) rfl ?_
      refine l_on rfl rfl rfl ?_
      refine l_val (v_sneq rfl rfl) rfl ?_
      refine l_val (v_pickF rfl rfl) rfl ?_
      refine l_val (v_move rfl) rfl ?_
      refine l_part 75 rfl (fun p2 => ?_) (fun p2 => ?_)
      · skip
        refine l_skip rfl rfl rfl rfl rfl ?_
        refine l_skip rfl rfl rfl rfl rfl ?_
        refine l_skip rfl rfl rfl rfl rfl ?_
        refine l_val (v_pickT rfl rfl) rfl ?_
        refine l_val (v_move rfl) rfl ?_
        refine l_skip rfl rfl rfl rfl rfl ?_
        refine l_skip rfl rfl rfl rfl rfl ?_
        refine l_skip rfl rfl rfl rfl rfl ?_
        refine l_val (v_pickT rfl rfl) rfl ?_
        refine l_end ?_
        refine k_code ?_
        refine c_yes rfl ?_
        refine c_seq ?_
        refine c_region ?_
        refine l_val (v_build (cells := #[_, _]) zero24 places24 rfl rfl) rfl ?_
        refine l_storeNX (cs' := #[_, _]) (L' := (_ :: (_ :: (_ :: (_ :: (_ :: (_ :: _))))))) 5 hS tyN24 rfl rfl rfl rfl rfl rfl rfl rfl (fun w hS => ?_)
        refine l_val (v_assign rfl) rfl ?_
        refine l_end ?_
        refine k_code ?_
        refine c_retCT 5 rfl tyN24 hS rfl rfl rfl rfl ?_
        exact givesRd_none (pread_no hrn (fun h => p2 (S_nil.2 h.2.1))) hS.keep
      · skip
        refine l_on rfl rfl rfl ?_
        refine l_val (v_loadW tyN24 rfl rfl (hereN (hS.rowX 4 rfl))) rfl ?_
        refine l_on rfl rfl rfl ?_
        refine l_callK goes12 rfl hS (check_any _ _ _ _ _ (Lies.row (hS.rowAt 0 rfl)) (by omega)) rfl (fun w hS => ?_)
        refine l_on rfl rfl rfl ?_
        refine l_val (v_neq rfl rfl) rfl ?_
        refine l_val (v_pickF rfl rfl) rfl ?_
        refine l_val (v_move rfl) rfl ?_
        refine l_part 80 rfl (fun p3 => ?_) (fun p3 => ?_)
        · skip
          refine l_skip rfl rfl rfl rfl rfl ?_
          refine l_skip rfl rfl rfl rfl rfl ?_
          refine l_skip rfl rfl rfl rfl rfl ?_
          refine l_val (v_pickT rfl rfl) rfl ?_
          refine l_end ?_
          refine k_code ?_
          refine c_yes rfl ?_
          refine c_seq ?_
          refine c_region ?_
          refine l_val (v_build (cells := #[_, _]) zero24 places24 rfl rfl) rfl ?_
          refine l_storeNX (cs' := #[_, _]) (L' := (_ :: (_ :: (_ :: (_ :: (_ :: (_ :: _))))))) 5 hS tyN24 rfl rfl rfl rfl rfl rfl rfl rfl (fun w hS => ?_)
          refine l_val (v_assign rfl) rfl ?_
          refine l_end ?_
          refine k_code ?_
          refine c_retCT 5 rfl tyN24 hS rfl rfl rfl rfl ?_
          exact givesRd_none (pread_no hrn (fun h => p3 h.2.2.1)) hS.keep
        · skip
          refine l_on rfl rfl rfl ?_
          refine l_val (v_loadW tyN24 rfl rfl (hereN (hS.rowX 4 rfl))) rfl ?_
          refine l_on rfl rfl rfl ?_
          refine l_callK goes16 rfl hS (fits_any _ _ _ _ _ (Lies.row (hS.rowAt 0 rfl)) ⟨hcl, hsm⟩) rfl (fun w hS => ?_)
          refine l_on rfl rfl rfl ?_
          refine l_val (v_not rfl) rfl ?_
          refine l_val (v_pickF rfl rfl) rfl ?_
          refine l_end ?_
          refine k_code ?_
          refine c_cond rfl (fun p4 => ?_) (fun p4 => ?_)
          · skip
            refine c_seq ?_
            refine c_region ?_
            refine l_val (v_build (cells := #[_, _]) zero24 places24 rfl rfl) rfl ?_
            refine l_storeNX (cs' := #[_, _]) (L' := (_ :: (_ :: (_ :: (_ :: (_ :: (_ :: _))))))) 5 hS tyN24 rfl rfl rfl rfl rfl rfl rfl rfl (fun w hS => ?_)
            refine l_val (v_assign rfl) rfl ?_
            refine l_end ?_
            refine k_code ?_
            refine c_retCT 5 rfl tyN24 hS rfl rfl rfl rfl ?_
            exact givesRd_none (pread_no hrn (fun h => by have := h.2.2.2; simp at p4; omega)) hS.keep
          · skip
            refine c_skip ?_
            refine k_code ?_
            refine c_seq ?_
            refine c_region ?_
            refine l_val (v_loadW tyN24 rfl rfl (hereN (hS.rowX 4 rfl))) rfl ?_
            refine l_storeNX (cs' := #[_, _]) (L' := (_ :: (_ :: (_ :: (_ :: (_ :: (_ :: _))))))) 5 hS tyN24 rfl rfl rfl rfl rfl rfl rfl rfl (fun w hS => ?_)
            refine l_val (v_assign rfl) rfl ?_
            refine l_end ?_
            refine k_code ?_
            refine c_retCT 5 rfl tyN24 hS rfl rfl rfl rfl ?_
            exact givesRd_row (pread_yes hrn p1 (S_nil.1 (by simpa using p2)) (by omega) (by simpa using p4)) hS (i := 0) rfl
end Go.Proofs.Ytndchgmgcjebiaa
