/- Cells and nodes: what they are in memory; which may be; how many bytes they have: the walks of both sides' small functions. -/
import Derived.Test.YtndchgmgcjebiaaFacts
import Derived.Test.YtndchgmgcjebiaaEngStr
namespace Go.Proofs.Ytndchgmgcjebiaa
open Go Go.RowKit E
set_option maxRecDepth 100000
set_option linter.unusedVariables false
set_option linter.unusedSimpArgs false

/-- A cell of a node. -/
structure Cel where
  key : ByteArray
  val : ByteArray
  page : Int
  size : Int
deriving DecidableEq
def enc (c : Cel) : List Value := [.string c.key, .string c.val, .int .i64 c.page, .int .i64 c.size]
def cellsOf (cs : List Cel) : List Value := cs.flatMap enc
theorem enc_len (c : Cel) : (enc c).length = 4 := rfl
theorem enc_one (c : Cel) : ∀ u ∈ enc c, u.oneCell' = true := by
  intro u hu
  simp only [enc, List.mem_cons, List.not_mem_nil, or_false] at hu
  rcases hu with rfl | rfl | rfl | rfl <;> rfl
theorem cells_len (cs : List Cel) : (cellsOf cs).length = cs.length * 4 := by
  induction cs with
  | nil => rfl
  | cons c r ih => unfold cellsOf at ih ⊢; rw [List.flatMap_cons, List.length_append, ih, enc_len, List.length_cons]; omega
theorem cells_one (cs : List Cel) : ∀ u ∈ cellsOf cs, u.oneCell' = true := by
  intro u hu
  obtain ⟨c, -, h⟩ := List.mem_flatMap.1 hu
  exact enc_one c u h
theorem cells_app (a b : List Cel) : cellsOf (a ++ b) = cellsOf a ++ cellsOf b := by simp [cellsOf]
theorem cells_take (cs : List Cel) (k : Nat) : (cellsOf cs).take (k * 4) = cellsOf (cs.take k) := by
  induction cs generalizing k with
  | nil => simp [cellsOf]
  | cons c r ih =>
    cases k with
    | zero => simp [cellsOf]
    | succ k =>
      have e : cellsOf (c :: r) = enc c ++ cellsOf r := by simp [cellsOf]
      rw [e, List.take_append, enc_len, List.take_of_length_le (by rw [enc_len]; omega), show (k + 1) * 4 - 4 = k * 4 by omega, ih, List.take_succ_cons]
      simp [cellsOf]
theorem cells_drop (cs : List Cel) (k : Nat) : (cellsOf cs).drop (k * 4) = cellsOf (cs.drop k) := by
  induction cs generalizing k with
  | nil => simp [cellsOf]
  | cons c r ih =>
    cases k with
    | zero => simp [cellsOf]
    | succ k =>
      have e : cellsOf (c :: r) = enc c ++ cellsOf r := by simp [cellsOf]
      rw [e, List.drop_append, enc_len, List.drop_of_length_le (by rw [enc_len]; omega), show (k + 1) * 4 - 4 = k * 4 by omega, ih, List.drop_succ_cons]; rfl
theorem cells_nil {cs : List Cel} (h : cellsOf cs = []) : cs = [] := by
  have := congrArg List.length h
  rw [cells_len] at this
  exact List.eq_nil_of_length_eq_zero (by simp only [List.length_nil] at this; omega)
/-- A cell of a slice of cells. -/
theorem cell_at {w : World} {A : Option Addr} {cs : List Cel} (h : Lies w A (cellsOf cs)) {k : Nat} {c : Cel} (hk : cs[k]? = some c) :
    ∃ ad, A = some ad ∧ ∀ j v, (enc c)[j]? = some v → w.cell? ((ad.add (k * 4)).add j) = some v := by
  obtain ⟨hlt, rfl⟩ := List.getElem?_eq_some_iff.1 hk
  refine h.elem (k * 4) (fun j u hj => ?_) (fun e => by rw [cells_nil e] at hlt; simp at hlt)
  have e : (cellsOf cs).drop (k * 4) = enc cs[k] ++ cellsOf (cs.drop (k + 1)) := by rw [cells_drop, List.drop_eq_getElem_cons hlt]; rfl
  have hjl := (List.getElem?_eq_some_iff.1 hj).1
  rw [← List.getElem?_drop, e, List.getElem?_append_left hjl]
  exact hj
theorem cell_in {w : World} {A : Option Addr} {cs : List Cel} (h : Lies w A (cellsOf cs)) {k : Nat} (hk : k < cs.length) :
    ∃ ad c, A = some ad ∧ cs[k]? = some c ∧ ∀ j v, (enc c)[j]? = some v → w.cell? ((ad.add (k * 4)).add j) = some v := by
  obtain ⟨ad, h1, h2⟩ := cell_at h (List.getElem?_eq_getElem hk)
  exact ⟨ad, cs[k], h1, List.getElem?_eq_getElem hk, h2⟩

/-- No text is longer than this: what a law lets in. -/
def Small (c : Cel) : Prop := c.key.size ≤ 65536 ∧ c.val.size ≤ 65536
def Smalls (cs : List Cel) : Prop := cs.length ≤ 65536 ∧ ∀ c ∈ cs, Small c
theorem Smalls.at {cs : List Cel} (h : Smalls cs) {k : Nat} {c : Cel} (hk : cs[k]? = some c) : Small c := h.2 c (List.mem_of_getElem? hk)

/-- May a cell be? -/
def mayS (leaf : Bool) (c : Cel) : Bool :=
  if 128 < c.key.size then false
  else if leaf = false then decide (1 ≤ c.page) && decide (c.page ≤ 2147483647) && decide (c.val = ⟨#[]⟩) && decide (c.size = 0)
  else if c.page = 0 then decide (c.val.size ≤ 200) && decide (c.size = c.val.size)
  else decide (1 ≤ c.page) && decide (c.page ≤ 2147483647) && decide (c.val = ⟨#[]⟩) && decide (0 ≤ c.size) && decide (c.size ≤ 60000)
/-- How many bytes a cell has. -/
def bytesS (leaf : Bool) (c : Cel) : Nat := 1 + c.key.size + if leaf = false then 4 else if c.page = 0 then 2 + c.val.size else 9
theorem bytesS_le {leaf : Bool} {c : Cel} (h : Small c) : bytesS leaf c ≤ 200000 := by
  have h1 := h.1; have h2 := h.2
  unfold bytesS; split
  · omega
  · split <;> omega

theorem bytes_any (leaf : Bool) (c : Cel) (w0 : World) (hs : Small c) :
    Calls Try.prog 36 [.bool leaf, .agg (enc c).toArray].toArray w0 fun e w' => e = .returned (.int .i64 (bytesS leaf c : Nat)) ∧ Keep No w0 w' := by
  have h1 := hs.1; have h2 := hs.2
  refine enter (n := 27) Try.func36 rfl rfl rfl ?_
  have hS := St.start No w0
  refine c_seq ?_
  refine c_region ?_
  refine l_box (cs := #[_, _, _, _]) hS rfl rfl rfl (fun b1 w hS => ?_)
  refine l_val (v_assign rfl) rfl ?_
  refine l_end ?_
  refine k_code ?_
  refine c_seq ?_
  refine c_region ?_
  refine l_val (v_fieldX (o' := 0) field27_0 rfl rfl) rfl ?_
  refine l_val (v_load ty9 rfl (here (hS.cellX 0 (k := 0) rfl rfl))) rfl ?_
  refine l_val (v_lenS Try.underlying9 rfl) rfl ?_
  refine l_val (v_add rfl rfl (by omega)) rfl ?_
  refine l_val (v_assign rfl) rfl ?_
  refine l_end ?_
  refine k_code ?_
  refine c_seq ?_
  refine c_block ?_
  refine c_seq ?_
  refine c_region ?_
  refine l_val (v_move rfl) rfl ?_
  refine l_val (v_not rfl) rfl ?_
  refine l_val (v_assign rfl) rfl ?_
  refine l_end ?_
  refine k_code ?_
  refine c_cond rfl (fun p1 => ?_) (fun p1 => ?_)
  · skip
    refine c_seq ?_
    refine c_region ?_
    refine l_val (v_move rfl) rfl ?_
    refine l_val (v_add rfl rfl (by omega)) rfl ?_
    refine l_val (v_assign rfl) rfl ?_
    refine l_end ?_
    refine k_code ?_
    refine c_ret1 rfl rfl ?_
    exact ⟨ri (by unfold bytesS; rw [if_pos (by simpa using p1)]; omega), hS.keep⟩
  · skip
    refine c_seq ?_
    refine c_region ?_
    refine l_val (v_fieldX (o' := 2) field27_2 rfl rfl) rfl ?_
    refine l_val (v_load ty3 rfl (here (hS.cellX 0 (k := 2) rfl rfl))) rfl ?_
    refine l_val (v_neq rfl rfl) rfl ?_
    refine l_val (v_assign rfl) rfl ?_
    refine l_end ?_
    refine k_code ?_
    refine c_if rfl (fun p2 => ?_) (fun p2 => ?_)
    · skip
      refine c_seq ?_
      refine c_region ?_
      refine l_val (v_move rfl) rfl ?_
      refine l_val (v_add rfl rfl (by omega)) rfl ?_
      refine l_val (v_assign rfl) rfl ?_
      refine l_end ?_
      refine k_code ?_
      refine c_ret1 rfl rfl ?_
      exact ⟨ri (by unfold bytesS; rw [if_neg (by simpa using p1), if_neg p2]; omega), hS.keep⟩
    · skip
      refine c_skip ?_
      refine k_code ?_
      refine c_seq ?_
      refine c_region ?_
      refine l_val (v_move rfl) rfl ?_
      refine l_val (v_add rfl rfl (by omega)) rfl ?_
      refine l_val (v_fieldX (o' := 1) field27_1 rfl rfl) rfl ?_
      refine l_val (v_load ty9 rfl (here (hS.cellX 0 (k := 1) rfl rfl))) rfl ?_
      refine l_val (v_lenS Try.underlying9 rfl) rfl ?_
      refine l_val (v_add rfl rfl (by omega)) rfl ?_
      refine l_val (v_assign rfl) rfl ?_
      refine l_end ?_
      refine k_code ?_
      refine c_ret1 rfl rfl ?_
      exact ⟨ri (by unfold bytesS; rw [if_neg (by simpa using p1), if_pos (by omega)]; omega), hS.keep⟩
theorem rcell_any (leaf : Bool) (c : Cel) (w0 : World) (hs : Small c) :
    Calls Try.prog 37 [.bool leaf, .agg (enc c).toArray].toArray w0 fun e w' => e = .returned (.int .i64 (bytesS leaf c : Nat)) ∧ Keep No w0 w' := by
  have h1 := hs.1; have h2 := hs.2
  refine enter (n := 25) Try.func37 rfl rfl rfl ?_
  have hS := St.start No w0
  refine c_seq ?_
  refine c_region ?_
  refine l_box (cs := #[_, _, _, _]) hS rfl rfl rfl (fun b1 w hS => ?_)
  refine l_val (v_assign rfl) rfl ?_
  refine l_end ?_
  refine k_code ?_
  refine c_seq ?_
  refine c_region ?_
  refine l_val (v_fieldX (o' := 0) field27_0 rfl rfl) rfl ?_
  refine l_val (v_load ty9 rfl (here (hS.cellX 0 (k := 0) rfl rfl))) rfl ?_
  refine l_val (v_lenS Try.underlying9 rfl) rfl ?_
  refine l_val (v_add rfl rfl (by omega)) rfl ?_
  refine l_val (v_assign rfl) rfl ?_
  refine l_end ?_
  refine k_code ?_
  refine c_seq ?_
  refine c_seq ?_
  refine c_region ?_
  refine l_val (v_move rfl) rfl ?_
  refine l_val (v_not rfl) rfl ?_
  refine l_end ?_
  refine k_code ?_
  refine c_cond rfl (fun p1 => ?_) (fun p1 => ?_)
  · skip
    refine c_seq ?_
    refine c_region ?_
    refine l_val (v_move rfl) rfl ?_
    refine l_val (v_add rfl rfl (by omega)) rfl ?_
    refine l_val (v_assign rfl) rfl ?_
    refine l_end ?_
    refine k_code ?_
    refine c_ret1 rfl rfl ?_
    exact ⟨ri (by unfold bytesS; rw [if_pos (by simpa using p1)]; omega), hS.keep⟩
  · skip
    refine c_skip ?_
    refine k_code ?_
    refine c_seq ?_
    refine c_seq ?_
    refine c_region ?_
    refine l_val (v_fieldX (o' := 2) field27_2 rfl rfl) rfl ?_
    refine l_val (v_load ty3 rfl (here (hS.cellX 0 (k := 2) rfl rfl))) rfl ?_
    refine l_val (v_neq rfl rfl) rfl ?_
    refine l_end ?_
    refine k_code ?_
    refine c_if rfl (fun p2 => ?_) (fun p2 => ?_)
    · skip
      refine c_seq ?_
      refine c_region ?_
      refine l_val (v_move rfl) rfl ?_
      refine l_val (v_add rfl rfl (by omega)) rfl ?_
      refine l_val (v_assign rfl) rfl ?_
      refine l_end ?_
      refine k_code ?_
      refine c_ret1 rfl rfl ?_
      exact ⟨ri (by unfold bytesS; rw [if_neg (by simpa using p1), if_neg p2]; omega), hS.keep⟩
    · skip
      refine c_skip ?_
      refine k_code ?_
      refine c_seq ?_
      refine c_region ?_
      refine l_val (v_move rfl) rfl ?_
      refine l_val (v_add rfl rfl (by omega)) rfl ?_
      refine l_val (v_fieldX (o' := 1) field27_1 rfl rfl) rfl ?_
      refine l_val (v_load ty9 rfl (here (hS.cellX 0 (k := 1) rfl rfl))) rfl ?_
      refine l_val (v_lenS Try.underlying9 rfl) rfl ?_
      refine l_val (v_add rfl rfl (by omega)) rfl ?_
      refine l_val (v_assign rfl) rfl ?_
      refine l_end ?_
      refine k_code ?_
      refine c_ret1 rfl rfl ?_
      exact ⟨ri (by unfold bytesS; rw [if_neg (by simpa using p1), if_pos (by omega)]; omega), hS.keep⟩
set_option maxHeartbeats 1000000 in
theorem may_any (leaf : Bool) (c : Cel) (w0 : World) :
    Calls Try.prog 34 [.bool leaf, .agg (enc c).toArray].toArray w0 fun e w' => e = .returned (.bool (mayS leaf c)) ∧ Keep No w0 w' := by
  refine enter (n := 60) Try.func34 rfl rfl rfl ?_
  have hS := St.start No w0
  refine c_seq ?_
  refine c_region ?_
  refine l_box (cs := #[_, _, _, _]) hS rfl rfl rfl (fun b1 w hS => ?_)
  refine l_val (v_assign rfl) rfl ?_
  refine l_end ?_
  refine k_code ?_
  refine c_seq ?_
  refine c_region ?_
  refine l_val (v_fieldX (o' := 2) field27_2 rfl rfl) rfl ?_
  refine l_val (v_load ty3 rfl (here (hS.cellX 0 (k := 2) rfl rfl))) rfl ?_
  refine l_val (v_geq rfl rfl) rfl ?_
  refine l_val (v_move rfl) rfl ?_
  refine l_part 9 rfl (fun p1 => ?_) (fun p1 => ?_)
  · skip
    refine l_on rfl rfl rfl ?_
    refine l_val (v_fieldX (o' := 2) field27_2 rfl rfl) rfl ?_
    refine l_on rfl rfl rfl ?_
    refine l_val (v_load ty3 rfl (here (hS.cellX 0 (k := 2) rfl rfl))) rfl ?_
    refine l_on rfl rfl rfl ?_
    refine l_val (v_leq rfl rfl) rfl ?_
    refine l_val (v_pickT rfl rfl) rfl ?_
    refine l_val (v_move rfl) rfl ?_
    refine l_part 14 rfl (fun p2 => ?_) (fun p2 => ?_)
    · skip
      refine l_on rfl rfl rfl ?_
      refine l_val (v_fieldX (o' := 1) field27_1 rfl rfl) rfl ?_
      refine l_on rfl rfl rfl ?_
      refine l_val (v_load ty9 rfl (here (hS.cellX 0 (k := 1) rfl rfl))) rfl ?_
      refine l_on rfl rfl rfl ?_
      refine l_val (v_seql rfl rfl) rfl ?_
      refine l_val (v_pickT rfl rfl) rfl ?_
      refine l_val (v_assign rfl) rfl ?_
      refine l_end ?_
      refine k_code ?_
      refine c_seq ?_
      refine c_block ?_
      refine c_seq ?_
      refine c_region ?_
      refine l_val (v_fieldX (o' := 0) field27_0 rfl rfl) rfl ?_
      refine l_val (v_load ty9 rfl (here (hS.cellX 0 (k := 0) rfl rfl))) rfl ?_
      refine l_val (v_lenS Try.underlying9 rfl) rfl ?_
      refine l_val (v_gtr rfl rfl) rfl ?_
      refine l_val (v_assign rfl) rfl ?_
      refine l_end ?_
      refine k_code ?_
      refine c_if rfl (fun p3 => ?_) (fun p3 => ?_)
      · skip
        refine c_seq ?_
        refine c_region ?_
        refine l_val (v_assign rfl) rfl ?_
        refine l_end ?_
        refine k_code ?_
        refine c_ret1 rfl rfl ?_
        exact ⟨rb (by first | (unfold mayS; simp_all; done) | (unfold mayS; simp_all; omega) | (unfold mayS; rw [if_neg (by omega), if_neg (by simp_all), if_pos (by omega)]; simp [show c.val.size ≤ 200 by omega])), hS.keep⟩
      · skip
        refine c_seq ?_
        refine c_region ?_
        refine l_val (v_move rfl) rfl ?_
        refine l_val (v_not rfl) rfl ?_
        refine l_val (v_assign rfl) rfl ?_
        refine l_end ?_
        refine k_code ?_
        refine c_cond rfl (fun p4 => ?_) (fun p4 => ?_)
        · skip
          refine c_seq ?_
          refine c_region ?_
          refine l_val (v_move rfl) rfl ?_
          refine l_val (v_move rfl) rfl ?_
          refine l_part 28 rfl (fun p5 => ?_) (fun p5 => ?_)
          · skip
            refine l_on rfl rfl rfl ?_
            refine l_val (v_fieldX (o' := 3) field27_3 rfl rfl) rfl ?_
            refine l_on rfl rfl rfl ?_
            refine l_val (v_load ty3 rfl (here (hS.cellX 0 (k := 3) rfl rfl))) rfl ?_
            refine l_on rfl rfl rfl ?_
            refine l_val (v_eql rfl rfl) rfl ?_
            refine l_val (v_pickT rfl rfl) rfl ?_
            refine l_val (v_assign rfl) rfl ?_
            refine l_end ?_
            refine k_code ?_
            refine c_ret1 rfl rfl ?_
            exact ⟨rb (by first | (unfold mayS; simp_all; done) | (unfold mayS; simp_all; omega) | (unfold mayS; rw [if_neg (by omega), if_neg (by simp_all), if_pos (by omega)]; simp [show c.val.size ≤ 200 by omega])), hS.keep⟩
          · skip
            refine l_skip rfl rfl rfl rfl rfl ?_
            refine l_skip rfl rfl rfl rfl rfl ?_
            refine l_skip rfl rfl rfl rfl rfl ?_
            refine l_val (v_pickF rfl rfl) rfl ?_
            refine l_val (v_assign rfl) rfl ?_
            refine l_end ?_
            refine k_code ?_
            refine c_ret1 rfl rfl ?_
            exact ⟨rb (by first | (unfold mayS; simp_all; done) | (unfold mayS; simp_all; omega) | (unfold mayS; rw [if_neg (by omega), if_neg (by simp_all), if_pos (by omega)]; simp [show c.val.size ≤ 200 by omega])), hS.keep⟩
        · skip
          refine c_seq ?_
          refine c_region ?_
          refine l_val (v_fieldX (o' := 2) field27_2 rfl rfl) rfl ?_
          refine l_val (v_load ty3 rfl (here (hS.cellX 0 (k := 2) rfl rfl))) rfl ?_
          refine l_val (v_eql rfl rfl) rfl ?_
          refine l_val (v_assign rfl) rfl ?_
          refine l_end ?_
          refine k_code ?_
          refine c_if rfl (fun p5 => ?_) (fun p5 => ?_)
          · skip
            refine c_seq ?_
            refine c_region ?_
            refine l_val (v_fieldX (o' := 1) field27_1 rfl rfl) rfl ?_
            refine l_val (v_load ty9 rfl (here (hS.cellX 0 (k := 1) rfl rfl))) rfl ?_
            refine l_val (v_lenS Try.underlying9 rfl) rfl ?_
            refine l_val (v_leq rfl rfl) rfl ?_
            refine l_val (v_move rfl) rfl ?_
            refine l_part 41 rfl (fun p6 => ?_) (fun p6 => ?_)
            · skip
              refine l_on rfl rfl rfl ?_
              refine l_val (v_fieldX (o' := 3) field27_3 rfl rfl) rfl ?_
              refine l_on rfl rfl rfl ?_
              refine l_val (v_load ty3 rfl (here (hS.cellX 0 (k := 3) rfl rfl))) rfl ?_
              refine l_on rfl rfl rfl ?_
              refine l_val (v_fieldX (o' := 1) field27_1 rfl rfl) rfl ?_
              refine l_on rfl rfl rfl ?_
              refine l_val (v_load ty9 rfl (here (hS.cellX 0 (k := 1) rfl rfl))) rfl ?_
              refine l_on rfl rfl rfl ?_
              refine l_val (v_lenS Try.underlying9 rfl) rfl ?_
              refine l_on rfl rfl rfl ?_
              refine l_val (v_eql rfl rfl) rfl ?_
              refine l_val (v_pickT rfl rfl) rfl ?_
              refine l_val (v_assign rfl) rfl ?_
              refine l_end ?_
              refine k_code ?_
              refine c_ret1 rfl rfl ?_
              exact ⟨rb (by first | (unfold mayS; simp_all; done) | (unfold mayS; simp_all; omega) | (unfold mayS; rw [if_neg (by omega), if_neg (by simp_all), if_pos (by omega)]; simp [show c.val.size ≤ 200 by omega])), hS.keep⟩
            · skip
              refine l_skip rfl rfl rfl rfl rfl ?_
              refine l_skip rfl rfl rfl rfl rfl ?_
              refine l_skip rfl rfl rfl rfl rfl ?_
              refine l_skip rfl rfl rfl rfl rfl ?_
              refine l_skip rfl rfl rfl rfl rfl ?_
              refine l_skip rfl rfl rfl rfl rfl ?_
              refine l_val (v_pickF rfl rfl) rfl ?_
              refine l_val (v_assign rfl) rfl ?_
              refine l_end ?_
              refine k_code ?_
              refine c_ret1 rfl rfl ?_
              exact ⟨rb (by first | (unfold mayS; simp_all; done) | (unfold mayS; simp_all; omega) | (unfold mayS; rw [if_neg (by omega), if_neg (by simp_all), if_pos (by omega)]; simp [show c.val.size ≤ 200 by omega])), hS.keep⟩
          · skip
            refine c_skip ?_
            refine k_code ?_
            refine c_seq ?_
            refine c_region ?_
            refine l_val (v_move rfl) rfl ?_
            refine l_val (v_move rfl) rfl ?_
            refine l_part 50 rfl (fun p6 => ?_) (fun p6 => ?_)
            · skip
              refine l_on rfl rfl rfl ?_
              refine l_val (v_fieldX (o' := 3) field27_3 rfl rfl) rfl ?_
              refine l_on rfl rfl rfl ?_
              refine l_val (v_load ty3 rfl (here (hS.cellX 0 (k := 3) rfl rfl))) rfl ?_
              refine l_on rfl rfl rfl ?_
              refine l_val (v_geq rfl rfl) rfl ?_
              refine l_val (v_pickT rfl rfl) rfl ?_
              refine l_val (v_move rfl) rfl ?_
              refine l_part 55 rfl (fun p7 => ?_) (fun p7 => ?_)
              · skip
                refine l_on rfl rfl rfl ?_
                refine l_val (v_fieldX (o' := 3) field27_3 rfl rfl) rfl ?_
                refine l_on rfl rfl rfl ?_
                refine l_val (v_load ty3 rfl (here (hS.cellX 0 (k := 3) rfl rfl))) rfl ?_
                refine l_on rfl rfl rfl ?_
                refine l_val (v_leq rfl rfl) rfl ?_
                refine l_val (v_pickT rfl rfl) rfl ?_
                refine l_val (v_assign rfl) rfl ?_
                refine l_end ?_
                refine k_code ?_
                refine c_ret1 rfl rfl ?_
                exact ⟨rb (by first | (unfold mayS; simp_all; done) | (unfold mayS; simp_all; omega) | (unfold mayS; rw [if_neg (by omega), if_neg (by simp_all), if_pos (by omega)]; simp [show c.val.size ≤ 200 by omega])), hS.keep⟩
              · skip
                refine l_skip rfl rfl rfl rfl rfl ?_
                refine l_skip rfl rfl rfl rfl rfl ?_
                refine l_skip rfl rfl rfl rfl rfl ?_
                refine l_val (v_pickF rfl rfl) rfl ?_
                refine l_val (v_assign rfl) rfl ?_
                refine l_end ?_
                refine k_code ?_
                refine c_ret1 rfl rfl ?_
                exact ⟨rb (by first | (unfold mayS; simp_all; done) | (unfold mayS; simp_all; omega) | (unfold mayS; rw [if_neg (by omega), if_neg (by simp_all), if_pos (by omega)]; simp [show c.val.size ≤ 200 by omega])), hS.keep⟩
            · skip
              refine l_skip rfl rfl rfl rfl rfl ?_
              refine l_skip rfl rfl rfl rfl rfl ?_
              refine l_skip rfl rfl rfl rfl rfl ?_
              refine l_val (v_pickF rfl rfl) rfl ?_
              refine l_val (v_move rfl) rfl ?_
              refine l_skip rfl rfl rfl rfl rfl ?_
              refine l_skip rfl rfl rfl rfl rfl ?_
              refine l_skip rfl rfl rfl rfl rfl ?_
              refine l_val (v_pickF rfl rfl) rfl ?_
              refine l_val (v_assign rfl) rfl ?_
              refine l_end ?_
              refine k_code ?_
              refine c_ret1 rfl rfl ?_
              exact ⟨rb (by first | (unfold mayS; simp_all; done) | (unfold mayS; simp_all; omega) | (unfold mayS; rw [if_neg (by omega), if_neg (by simp_all), if_pos (by omega)]; simp [show c.val.size ≤ 200 by omega])), hS.keep⟩
    · skip
      refine l_skip rfl rfl rfl rfl rfl ?_
      refine l_skip rfl rfl rfl rfl rfl ?_
      refine l_skip rfl rfl rfl rfl rfl ?_
      refine l_val (v_pickF rfl rfl) rfl ?_
      refine l_val (v_assign rfl) rfl ?_
      refine l_end ?_
      refine k_code ?_
      refine c_seq ?_
      refine c_block ?_
      refine c_seq ?_
      refine c_region ?_
      refine l_val (v_fieldX (o' := 0) field27_0 rfl rfl) rfl ?_
      refine l_val (v_load ty9 rfl (here (hS.cellX 0 (k := 0) rfl rfl))) rfl ?_
      refine l_val (v_lenS Try.underlying9 rfl) rfl ?_
      refine l_val (v_gtr rfl rfl) rfl ?_
      refine l_val (v_assign rfl) rfl ?_
      refine l_end ?_
      refine k_code ?_
      refine c_if rfl (fun p3 => ?_) (fun p3 => ?_)
      · skip
        refine c_seq ?_
        refine c_region ?_
        refine l_val (v_assign rfl) rfl ?_
        refine l_end ?_
        refine k_code ?_
        refine c_ret1 rfl rfl ?_
        exact ⟨rb (by first | (unfold mayS; simp_all; done) | (unfold mayS; simp_all; omega) | (unfold mayS; rw [if_neg (by omega), if_neg (by simp_all), if_pos (by omega)]; simp [show c.val.size ≤ 200 by omega])), hS.keep⟩
      · skip
        refine c_seq ?_
        refine c_region ?_
        refine l_val (v_move rfl) rfl ?_
        refine l_val (v_not rfl) rfl ?_
        refine l_val (v_assign rfl) rfl ?_
        refine l_end ?_
        refine k_code ?_
        refine c_cond rfl (fun p4 => ?_) (fun p4 => ?_)
        · skip
          refine c_seq ?_
          refine c_region ?_
          refine l_val (v_move rfl) rfl ?_
          refine l_val (v_move rfl) rfl ?_
          refine l_skip rfl rfl rfl rfl rfl ?_
          refine l_skip rfl rfl rfl rfl rfl ?_
          refine l_skip rfl rfl rfl rfl rfl ?_
          refine l_val (v_pickF rfl rfl) rfl ?_
          refine l_val (v_assign rfl) rfl ?_
          refine l_end ?_
          refine k_code ?_
          refine c_ret1 rfl rfl ?_
          exact ⟨rb (by first | (unfold mayS; simp_all; done) | (unfold mayS; simp_all; omega) | (unfold mayS; rw [if_neg (by omega), if_neg (by simp_all), if_pos (by omega)]; simp [show c.val.size ≤ 200 by omega])), hS.keep⟩
        · skip
          refine c_seq ?_
          refine c_region ?_
          refine l_val (v_fieldX (o' := 2) field27_2 rfl rfl) rfl ?_
          refine l_val (v_load ty3 rfl (here (hS.cellX 0 (k := 2) rfl rfl))) rfl ?_
          refine l_val (v_eql rfl rfl) rfl ?_
          refine l_val (v_assign rfl) rfl ?_
          refine l_end ?_
          refine k_code ?_
          refine c_if rfl (fun p5 => ?_) (fun p5 => ?_)
          · skip
            refine c_seq ?_
            refine c_region ?_
            refine l_val (v_fieldX (o' := 1) field27_1 rfl rfl) rfl ?_
            refine l_val (v_load ty9 rfl (here (hS.cellX 0 (k := 1) rfl rfl))) rfl ?_
            refine l_val (v_lenS Try.underlying9 rfl) rfl ?_
            refine l_val (v_leq rfl rfl) rfl ?_
            refine l_val (v_move rfl) rfl ?_
            refine l_part 41 rfl (fun p6 => ?_) (fun p6 => ?_)
            · skip
              refine l_on rfl rfl rfl ?_
              refine l_val (v_fieldX (o' := 3) field27_3 rfl rfl) rfl ?_
              refine l_on rfl rfl rfl ?_
              refine l_val (v_load ty3 rfl (here (hS.cellX 0 (k := 3) rfl rfl))) rfl ?_
              refine l_on rfl rfl rfl ?_
              refine l_val (v_fieldX (o' := 1) field27_1 rfl rfl) rfl ?_
              refine l_on rfl rfl rfl ?_
              refine l_val (v_load ty9 rfl (here (hS.cellX 0 (k := 1) rfl rfl))) rfl ?_
              refine l_on rfl rfl rfl ?_
              refine l_val (v_lenS Try.underlying9 rfl) rfl ?_
              refine l_on rfl rfl rfl ?_
              refine l_val (v_eql rfl rfl) rfl ?_
              refine l_val (v_pickT rfl rfl) rfl ?_
              refine l_val (v_assign rfl) rfl ?_
              refine l_end ?_
              refine k_code ?_
              refine c_ret1 rfl rfl ?_
              exact ⟨rb (by first | (unfold mayS; simp_all; done) | (unfold mayS; simp_all; omega) | (unfold mayS; rw [if_neg (by omega), if_neg (by simp_all), if_pos (by omega)]; simp [show c.val.size ≤ 200 by omega])), hS.keep⟩
            · skip
              refine l_skip rfl rfl rfl rfl rfl ?_
              refine l_skip rfl rfl rfl rfl rfl ?_
              refine l_skip rfl rfl rfl rfl rfl ?_
              refine l_skip rfl rfl rfl rfl rfl ?_
              refine l_skip rfl rfl rfl rfl rfl ?_
              refine l_skip rfl rfl rfl rfl rfl ?_
              refine l_val (v_pickF rfl rfl) rfl ?_
              refine l_val (v_assign rfl) rfl ?_
              refine l_end ?_
              refine k_code ?_
              refine c_ret1 rfl rfl ?_
              exact ⟨rb (by first | (unfold mayS; simp_all; done) | (unfold mayS; simp_all; omega) | (unfold mayS; rw [if_neg (by omega), if_neg (by simp_all), if_pos (by omega)]; simp [show c.val.size ≤ 200 by omega])), hS.keep⟩
          · skip
            refine c_skip ?_
            refine k_code ?_
            refine c_seq ?_
            refine c_region ?_
            refine l_val (v_move rfl) rfl ?_
            refine l_val (v_move rfl) rfl ?_
            refine l_skip rfl rfl rfl rfl rfl ?_
            refine l_skip rfl rfl rfl rfl rfl ?_
            refine l_skip rfl rfl rfl rfl rfl ?_
            refine l_val (v_pickF rfl rfl) rfl ?_
            refine l_val (v_move rfl) rfl ?_
            refine l_skip rfl rfl rfl rfl rfl ?_
            refine l_skip rfl rfl rfl rfl rfl ?_
            refine l_skip rfl rfl rfl rfl rfl ?_
            refine l_val (v_pickF rfl rfl) rfl ?_
            refine l_val (v_assign rfl) rfl ?_
            refine l_end ?_
            refine k_code ?_
            refine c_ret1 rfl rfl ?_
            exact ⟨rb (by first | (unfold mayS; simp_all; done) | (unfold mayS; simp_all; omega) | (unfold mayS; rw [if_neg (by omega), if_neg (by simp_all), if_pos (by omega)]; simp [show c.val.size ≤ 200 by omega])), hS.keep⟩
  · skip
    refine l_skip rfl rfl rfl rfl rfl ?_
    refine l_skip rfl rfl rfl rfl rfl ?_
    refine l_skip rfl rfl rfl rfl rfl ?_
    refine l_val (v_pickF rfl rfl) rfl ?_
    refine l_val (v_move rfl) rfl ?_
    refine l_skip rfl rfl rfl rfl rfl ?_
    refine l_skip rfl rfl rfl rfl rfl ?_
    refine l_skip rfl rfl rfl rfl rfl ?_
    refine l_val (v_pickF rfl rfl) rfl ?_
    refine l_val (v_assign rfl) rfl ?_
    refine l_end ?_
    refine k_code ?_
    refine c_seq ?_
    refine c_block ?_
    refine c_seq ?_
    refine c_region ?_
    refine l_val (v_fieldX (o' := 0) field27_0 rfl rfl) rfl ?_
    refine l_val (v_load ty9 rfl (here (hS.cellX 0 (k := 0) rfl rfl))) rfl ?_
    refine l_val (v_lenS Try.underlying9 rfl) rfl ?_
    refine l_val (v_gtr rfl rfl) rfl ?_
    refine l_val (v_assign rfl) rfl ?_
    refine l_end ?_
    refine k_code ?_
    refine c_if rfl (fun p2 => ?_) (fun p2 => ?_)
    · skip
      refine c_seq ?_
      refine c_region ?_
      refine l_val (v_assign rfl) rfl ?_
      refine l_end ?_
      refine k_code ?_
      refine c_ret1 rfl rfl ?_
      exact ⟨rb (by first | (unfold mayS; simp_all; done) | (unfold mayS; simp_all; omega) | (unfold mayS; rw [if_neg (by omega), if_neg (by simp_all), if_pos (by omega)]; simp [show c.val.size ≤ 200 by omega])), hS.keep⟩
    · skip
      refine c_seq ?_
      refine c_region ?_
      refine l_val (v_move rfl) rfl ?_
      refine l_val (v_not rfl) rfl ?_
      refine l_val (v_assign rfl) rfl ?_
      refine l_end ?_
      refine k_code ?_
      refine c_cond rfl (fun p3 => ?_) (fun p3 => ?_)
      · skip
        refine c_seq ?_
        refine c_region ?_
        refine l_val (v_move rfl) rfl ?_
        refine l_val (v_move rfl) rfl ?_
        refine l_skip rfl rfl rfl rfl rfl ?_
        refine l_skip rfl rfl rfl rfl rfl ?_
        refine l_skip rfl rfl rfl rfl rfl ?_
        refine l_val (v_pickF rfl rfl) rfl ?_
        refine l_val (v_assign rfl) rfl ?_
        refine l_end ?_
        refine k_code ?_
        refine c_ret1 rfl rfl ?_
        exact ⟨rb (by first | (unfold mayS; simp_all; done) | (unfold mayS; simp_all; omega) | (unfold mayS; rw [if_neg (by omega), if_neg (by simp_all), if_pos (by omega)]; simp [show c.val.size ≤ 200 by omega])), hS.keep⟩
      · skip
        refine c_seq ?_
        refine c_region ?_
        refine l_val (v_fieldX (o' := 2) field27_2 rfl rfl) rfl ?_
        refine l_val (v_load ty3 rfl (here (hS.cellX 0 (k := 2) rfl rfl))) rfl ?_
        refine l_val (v_eql rfl rfl) rfl ?_
        refine l_val (v_assign rfl) rfl ?_
        refine l_end ?_
        refine k_code ?_
        refine c_if rfl (fun p4 => ?_) (fun p4 => ?_)
        · skip
          refine c_seq ?_
          refine c_region ?_
          refine l_val (v_fieldX (o' := 1) field27_1 rfl rfl) rfl ?_
          refine l_val (v_load ty9 rfl (here (hS.cellX 0 (k := 1) rfl rfl))) rfl ?_
          refine l_val (v_lenS Try.underlying9 rfl) rfl ?_
          refine l_val (v_leq rfl rfl) rfl ?_
          refine l_val (v_move rfl) rfl ?_
          refine l_part 41 rfl (fun p5 => ?_) (fun p5 => ?_)
          · skip
            refine l_on rfl rfl rfl ?_
            refine l_val (v_fieldX (o' := 3) field27_3 rfl rfl) rfl ?_
            refine l_on rfl rfl rfl ?_
            refine l_val (v_load ty3 rfl (here (hS.cellX 0 (k := 3) rfl rfl))) rfl ?_
            refine l_on rfl rfl rfl ?_
            refine l_val (v_fieldX (o' := 1) field27_1 rfl rfl) rfl ?_
            refine l_on rfl rfl rfl ?_
            refine l_val (v_load ty9 rfl (here (hS.cellX 0 (k := 1) rfl rfl))) rfl ?_
            refine l_on rfl rfl rfl ?_
            refine l_val (v_lenS Try.underlying9 rfl) rfl ?_
            refine l_on rfl rfl rfl ?_
            refine l_val (v_eql rfl rfl) rfl ?_
            refine l_val (v_pickT rfl rfl) rfl ?_
            refine l_val (v_assign rfl) rfl ?_
            refine l_end ?_
            refine k_code ?_
            refine c_ret1 rfl rfl ?_
            exact ⟨rb (by first | (unfold mayS; simp_all; done) | (unfold mayS; simp_all; omega) | (unfold mayS; rw [if_neg (by omega), if_neg (by simp_all), if_pos (by omega)]; simp [show c.val.size ≤ 200 by omega])), hS.keep⟩
          · skip
            refine l_skip rfl rfl rfl rfl rfl ?_
            refine l_skip rfl rfl rfl rfl rfl ?_
            refine l_skip rfl rfl rfl rfl rfl ?_
            refine l_skip rfl rfl rfl rfl rfl ?_
            refine l_skip rfl rfl rfl rfl rfl ?_
            refine l_skip rfl rfl rfl rfl rfl ?_
            refine l_val (v_pickF rfl rfl) rfl ?_
            refine l_val (v_assign rfl) rfl ?_
            refine l_end ?_
            refine k_code ?_
            refine c_ret1 rfl rfl ?_
            exact ⟨rb (by first | (unfold mayS; simp_all; done) | (unfold mayS; simp_all; omega) | (unfold mayS; rw [if_neg (by omega), if_neg (by simp_all), if_pos (by omega)]; simp [show c.val.size ≤ 200 by omega])), hS.keep⟩
        · skip
          refine c_skip ?_
          refine k_code ?_
          refine c_seq ?_
          refine c_region ?_
          refine l_val (v_move rfl) rfl ?_
          refine l_val (v_move rfl) rfl ?_
          refine l_skip rfl rfl rfl rfl rfl ?_
          refine l_skip rfl rfl rfl rfl rfl ?_
          refine l_skip rfl rfl rfl rfl rfl ?_
          refine l_val (v_pickF rfl rfl) rfl ?_
          refine l_val (v_move rfl) rfl ?_
          refine l_skip rfl rfl rfl rfl rfl ?_
          refine l_skip rfl rfl rfl rfl rfl ?_
          refine l_skip rfl rfl rfl rfl rfl ?_
          refine l_val (v_pickF rfl rfl) rfl ?_
          refine l_val (v_assign rfl) rfl ?_
          refine l_end ?_
          refine k_code ?_
          refine c_ret1 rfl rfl ?_
          exact ⟨rb (by first | (unfold mayS; simp_all; done) | (unfold mayS; simp_all; omega) | (unfold mayS; rw [if_neg (by omega), if_neg (by simp_all), if_pos (by omega)]; simp [show c.val.size ≤ 200 by omega])), hS.keep⟩
set_option maxHeartbeats 1000000 in
theorem rmay_any (leaf : Bool) (c : Cel) (w0 : World) :
    Calls Try.prog 35 [.bool leaf, .agg (enc c).toArray].toArray w0 fun e w' => e = .returned (.bool (mayS leaf c)) ∧ Keep No w0 w' := by
  refine enter (n := 57) Try.func35 rfl rfl rfl ?_
  have hS := St.start No w0
  refine c_seq ?_
  refine c_region ?_
  refine l_box (cs := #[_, _, _, _]) hS rfl rfl rfl (fun b1 w hS => ?_)
  refine l_val (v_assign rfl) rfl ?_
  refine l_end ?_
  refine k_code ?_
  refine c_seq ?_
  refine c_region ?_
  refine l_val (v_fieldX (o' := 2) field27_2 rfl rfl) rfl ?_
  refine l_val (v_load ty3 rfl (here (hS.cellX 0 (k := 2) rfl rfl))) rfl ?_
  refine l_val (v_geq rfl rfl) rfl ?_
  refine l_val (v_move rfl) rfl ?_
  refine l_part 9 rfl (fun p1 => ?_) (fun p1 => ?_)
  · skip
    refine l_on rfl rfl rfl ?_
    refine l_val (v_fieldX (o' := 2) field27_2 rfl rfl) rfl ?_
    refine l_on rfl rfl rfl ?_
    refine l_val (v_load ty3 rfl (here (hS.cellX 0 (k := 2) rfl rfl))) rfl ?_
    refine l_on rfl rfl rfl ?_
    refine l_val (v_leq rfl rfl) rfl ?_
    refine l_val (v_pickT rfl rfl) rfl ?_
    refine l_val (v_move rfl) rfl ?_
    refine l_part 14 rfl (fun p2 => ?_) (fun p2 => ?_)
    · skip
      refine l_on rfl rfl rfl ?_
      refine l_val (v_fieldX (o' := 1) field27_1 rfl rfl) rfl ?_
      refine l_on rfl rfl rfl ?_
      refine l_val (v_load ty9 rfl (here (hS.cellX 0 (k := 1) rfl rfl))) rfl ?_
      refine l_on rfl rfl rfl ?_
      refine l_val (v_seql rfl rfl) rfl ?_
      refine l_val (v_pickT rfl rfl) rfl ?_
      refine l_val (v_assign rfl) rfl ?_
      refine l_end ?_
      refine k_code ?_
      refine c_seq ?_
      refine c_seq ?_
      refine c_region ?_
      refine l_val (v_fieldX (o' := 0) field27_0 rfl rfl) rfl ?_
      refine l_val (v_load ty9 rfl (here (hS.cellX 0 (k := 0) rfl rfl))) rfl ?_
      refine l_val (v_lenS Try.underlying9 rfl) rfl ?_
      refine l_val (v_gtr rfl rfl) rfl ?_
      refine l_end ?_
      refine k_code ?_
      refine c_if rfl (fun p3 => ?_) (fun p3 => ?_)
      · skip
        refine c_seq ?_
        refine c_region ?_
        refine l_val (v_assign rfl) rfl ?_
        refine l_end ?_
        refine k_code ?_
        refine c_ret1 rfl rfl ?_
        exact ⟨rb (by first | (unfold mayS; simp_all; done) | (unfold mayS; simp_all; omega) | (unfold mayS; rw [if_neg (by omega), if_neg (by simp_all), if_pos (by omega)]; simp [show c.val.size ≤ 200 by omega])), hS.keep⟩
      · skip
        refine c_skip ?_
        refine k_code ?_
        refine c_seq ?_
        refine c_seq ?_
        refine c_region ?_
        refine l_val (v_move rfl) rfl ?_
        refine l_val (v_not rfl) rfl ?_
        refine l_end ?_
        refine k_code ?_
        refine c_cond rfl (fun p4 => ?_) (fun p4 => ?_)
        · skip
          refine c_seq ?_
          refine c_region ?_
          refine l_val (v_move rfl) rfl ?_
          refine l_val (v_move rfl) rfl ?_
          refine l_part 26 rfl (fun p5 => ?_) (fun p5 => ?_)
          · skip
            refine l_on rfl rfl rfl ?_
            refine l_val (v_fieldX (o' := 3) field27_3 rfl rfl) rfl ?_
            refine l_on rfl rfl rfl ?_
            refine l_val (v_load ty3 rfl (here (hS.cellX 0 (k := 3) rfl rfl))) rfl ?_
            refine l_on rfl rfl rfl ?_
            refine l_val (v_eql rfl rfl) rfl ?_
            refine l_val (v_pickT rfl rfl) rfl ?_
            refine l_val (v_assign rfl) rfl ?_
            refine l_end ?_
            refine k_code ?_
            refine c_ret1 rfl rfl ?_
            exact ⟨rb (by first | (unfold mayS; simp_all; done) | (unfold mayS; simp_all; omega) | (unfold mayS; rw [if_neg (by omega), if_neg (by simp_all), if_pos (by omega)]; simp [show c.val.size ≤ 200 by omega])), hS.keep⟩
          · skip
            refine l_skip rfl rfl rfl rfl rfl ?_
            refine l_skip rfl rfl rfl rfl rfl ?_
            refine l_skip rfl rfl rfl rfl rfl ?_
            refine l_val (v_pickF rfl rfl) rfl ?_
            refine l_val (v_assign rfl) rfl ?_
            refine l_end ?_
            refine k_code ?_
            refine c_ret1 rfl rfl ?_
            exact ⟨rb (by first | (unfold mayS; simp_all; done) | (unfold mayS; simp_all; omega) | (unfold mayS; rw [if_neg (by omega), if_neg (by simp_all), if_pos (by omega)]; simp [show c.val.size ≤ 200 by omega])), hS.keep⟩
        · skip
          refine c_skip ?_
          refine k_code ?_
          refine c_seq ?_
          refine c_seq ?_
          refine c_region ?_
          refine l_val (v_fieldX (o' := 2) field27_2 rfl rfl) rfl ?_
          refine l_val (v_load ty3 rfl (here (hS.cellX 0 (k := 2) rfl rfl))) rfl ?_
          refine l_val (v_eql rfl rfl) rfl ?_
          refine l_end ?_
          refine k_code ?_
          refine c_if rfl (fun p5 => ?_) (fun p5 => ?_)
          · skip
            refine c_seq ?_
            refine c_region ?_
            refine l_val (v_fieldX (o' := 1) field27_1 rfl rfl) rfl ?_
            refine l_val (v_load ty9 rfl (here (hS.cellX 0 (k := 1) rfl rfl))) rfl ?_
            refine l_val (v_lenS Try.underlying9 rfl) rfl ?_
            refine l_val (v_leq rfl rfl) rfl ?_
            refine l_val (v_move rfl) rfl ?_
            refine l_part 38 rfl (fun p6 => ?_) (fun p6 => ?_)
            · skip
              refine l_on rfl rfl rfl ?_
              refine l_val (v_fieldX (o' := 3) field27_3 rfl rfl) rfl ?_
              refine l_on rfl rfl rfl ?_
              refine l_val (v_load ty3 rfl (here (hS.cellX 0 (k := 3) rfl rfl))) rfl ?_
              refine l_on rfl rfl rfl ?_
              refine l_val (v_fieldX (o' := 1) field27_1 rfl rfl) rfl ?_
              refine l_on rfl rfl rfl ?_
              refine l_val (v_load ty9 rfl (here (hS.cellX 0 (k := 1) rfl rfl))) rfl ?_
              refine l_on rfl rfl rfl ?_
              refine l_val (v_lenS Try.underlying9 rfl) rfl ?_
              refine l_on rfl rfl rfl ?_
              refine l_val (v_eql rfl rfl) rfl ?_
              refine l_val (v_pickT rfl rfl) rfl ?_
              refine l_val (v_assign rfl) rfl ?_
              refine l_end ?_
              refine k_code ?_
              refine c_ret1 rfl rfl ?_
              exact ⟨rb (by first | (unfold mayS; simp_all; done) | (unfold mayS; simp_all; omega) | (unfold mayS; rw [if_neg (by omega), if_neg (by simp_all), if_pos (by omega)]; simp [show c.val.size ≤ 200 by omega])), hS.keep⟩
            · skip
              refine l_skip rfl rfl rfl rfl rfl ?_
              refine l_skip rfl rfl rfl rfl rfl ?_
              refine l_skip rfl rfl rfl rfl rfl ?_
              refine l_skip rfl rfl rfl rfl rfl ?_
              refine l_skip rfl rfl rfl rfl rfl ?_
              refine l_skip rfl rfl rfl rfl rfl ?_
              refine l_val (v_pickF rfl rfl) rfl ?_
              refine l_val (v_assign rfl) rfl ?_
              refine l_end ?_
              refine k_code ?_
              refine c_ret1 rfl rfl ?_
              exact ⟨rb (by first | (unfold mayS; simp_all; done) | (unfold mayS; simp_all; omega) | (unfold mayS; rw [if_neg (by omega), if_neg (by simp_all), if_pos (by omega)]; simp [show c.val.size ≤ 200 by omega])), hS.keep⟩
          · skip
            refine c_skip ?_
            refine k_code ?_
            refine c_seq ?_
            refine c_region ?_
            refine l_val (v_move rfl) rfl ?_
            refine l_val (v_move rfl) rfl ?_
            refine l_part 47 rfl (fun p6 => ?_) (fun p6 => ?_)
            · skip
              refine l_on rfl rfl rfl ?_
              refine l_val (v_fieldX (o' := 3) field27_3 rfl rfl) rfl ?_
              refine l_on rfl rfl rfl ?_
              refine l_val (v_load ty3 rfl (here (hS.cellX 0 (k := 3) rfl rfl))) rfl ?_
              refine l_on rfl rfl rfl ?_
              refine l_val (v_geq rfl rfl) rfl ?_
              refine l_val (v_pickT rfl rfl) rfl ?_
              refine l_val (v_move rfl) rfl ?_
              refine l_part 52 rfl (fun p7 => ?_) (fun p7 => ?_)
              · skip
                refine l_on rfl rfl rfl ?_
                refine l_val (v_fieldX (o' := 3) field27_3 rfl rfl) rfl ?_
                refine l_on rfl rfl rfl ?_
                refine l_val (v_load ty3 rfl (here (hS.cellX 0 (k := 3) rfl rfl))) rfl ?_
                refine l_on rfl rfl rfl ?_
                refine l_val (v_leq rfl rfl) rfl ?_
                refine l_val (v_pickT rfl rfl) rfl ?_
                refine l_val (v_assign rfl) rfl ?_
                refine l_end ?_
                refine k_code ?_
                refine c_ret1 rfl rfl ?_
                exact ⟨rb (by first | (unfold mayS; simp_all; done) | (unfold mayS; simp_all; omega) | (unfold mayS; rw [if_neg (by omega), if_neg (by simp_all), if_pos (by omega)]; simp [show c.val.size ≤ 200 by omega])), hS.keep⟩
              · skip
                refine l_skip rfl rfl rfl rfl rfl ?_
                refine l_skip rfl rfl rfl rfl rfl ?_
                refine l_skip rfl rfl rfl rfl rfl ?_
                refine l_val (v_pickF rfl rfl) rfl ?_
                refine l_val (v_assign rfl) rfl ?_
                refine l_end ?_
                refine k_code ?_
                refine c_ret1 rfl rfl ?_
                exact ⟨rb (by first | (unfold mayS; simp_all; done) | (unfold mayS; simp_all; omega) | (unfold mayS; rw [if_neg (by omega), if_neg (by simp_all), if_pos (by omega)]; simp [show c.val.size ≤ 200 by omega])), hS.keep⟩
            · skip
              refine l_skip rfl rfl rfl rfl rfl ?_
              refine l_skip rfl rfl rfl rfl rfl ?_
              refine l_skip rfl rfl rfl rfl rfl ?_
              refine l_val (v_pickF rfl rfl) rfl ?_
              refine l_val (v_move rfl) rfl ?_
              refine l_skip rfl rfl rfl rfl rfl ?_
              refine l_skip rfl rfl rfl rfl rfl ?_
              refine l_skip rfl rfl rfl rfl rfl ?_
              refine l_val (v_pickF rfl rfl) rfl ?_
              refine l_val (v_assign rfl) rfl ?_
              refine l_end ?_
              refine k_code ?_
              refine c_ret1 rfl rfl ?_
              exact ⟨rb (by first | (unfold mayS; simp_all; done) | (unfold mayS; simp_all; omega) | (unfold mayS; rw [if_neg (by omega), if_neg (by simp_all), if_pos (by omega)]; simp [show c.val.size ≤ 200 by omega])), hS.keep⟩
    · skip
      refine l_skip rfl rfl rfl rfl rfl ?_
      refine l_skip rfl rfl rfl rfl rfl ?_
      refine l_skip rfl rfl rfl rfl rfl ?_
      refine l_val (v_pickF rfl rfl) rfl ?_
      refine l_val (v_assign rfl) rfl ?_
      refine l_end ?_
      refine k_code ?_
      refine c_seq ?_
      refine c_seq ?_
      refine c_region ?_
      refine l_val (v_fieldX (o' := 0) field27_0 rfl rfl) rfl ?_
      refine l_val (v_load ty9 rfl (here (hS.cellX 0 (k := 0) rfl rfl))) rfl ?_
      refine l_val (v_lenS Try.underlying9 rfl) rfl ?_
      refine l_val (v_gtr rfl rfl) rfl ?_
      refine l_end ?_
      refine k_code ?_
      refine c_if rfl (fun p3 => ?_) (fun p3 => ?_)
      · skip
        refine c_seq ?_
        refine c_region ?_
        refine l_val (v_assign rfl) rfl ?_
        refine l_end ?_
        refine k_code ?_
        refine c_ret1 rfl rfl ?_
        exact ⟨rb (by first | (unfold mayS; simp_all; done) | (unfold mayS; simp_all; omega) | (unfold mayS; rw [if_neg (by omega), if_neg (by simp_all), if_pos (by omega)]; simp [show c.val.size ≤ 200 by omega])), hS.keep⟩
      · skip
        refine c_skip ?_
        refine k_code ?_
        refine c_seq ?_
        refine c_seq ?_
        refine c_region ?_
        refine l_val (v_move rfl) rfl ?_
        refine l_val (v_not rfl) rfl ?_
        refine l_end ?_
        refine k_code ?_
        refine c_cond rfl (fun p4 => ?_) (fun p4 => ?_)
        · skip
          refine c_seq ?_
          refine c_region ?_
          refine l_val (v_move rfl) rfl ?_
          refine l_val (v_move rfl) rfl ?_
          refine l_skip rfl rfl rfl rfl rfl ?_
          refine l_skip rfl rfl rfl rfl rfl ?_
          refine l_skip rfl rfl rfl rfl rfl ?_
          refine l_val (v_pickF rfl rfl) rfl ?_
          refine l_val (v_assign rfl) rfl ?_
          refine l_end ?_
          refine k_code ?_
          refine c_ret1 rfl rfl ?_
          exact ⟨rb (by first | (unfold mayS; simp_all; done) | (unfold mayS; simp_all; omega) | (unfold mayS; rw [if_neg (by omega), if_neg (by simp_all), if_pos (by omega)]; simp [show c.val.size ≤ 200 by omega])), hS.keep⟩
        · skip
          refine c_skip ?_
          refine k_code ?_
          refine c_seq ?_
          refine c_seq ?_
          refine c_region ?_
          refine l_val (v_fieldX (o' := 2) field27_2 rfl rfl) rfl ?_
          refine l_val (v_load ty3 rfl (here (hS.cellX 0 (k := 2) rfl rfl))) rfl ?_
          refine l_val (v_eql rfl rfl) rfl ?_
          refine l_end ?_
          refine k_code ?_
          refine c_if rfl (fun p5 => ?_) (fun p5 => ?_)
          · skip
            refine c_seq ?_
            refine c_region ?_
            refine l_val (v_fieldX (o' := 1) field27_1 rfl rfl) rfl ?_
            refine l_val (v_load ty9 rfl (here (hS.cellX 0 (k := 1) rfl rfl))) rfl ?_
            refine l_val (v_lenS Try.underlying9 rfl) rfl ?_
            refine l_val (v_leq rfl rfl) rfl ?_
            refine l_val (v_move rfl) rfl ?_
            refine l_part 38 rfl (fun p6 => ?_) (fun p6 => ?_)
            · skip
              refine l_on rfl rfl rfl ?_
              refine l_val (v_fieldX (o' := 3) field27_3 rfl rfl) rfl ?_
              refine l_on rfl rfl rfl ?_
              refine l_val (v_load ty3 rfl (here (hS.cellX 0 (k := 3) rfl rfl))) rfl ?_
              refine l_on rfl rfl rfl ?_
              refine l_val (v_fieldX (o' := 1) field27_1 rfl rfl) rfl ?_
              refine l_on rfl rfl rfl ?_
              refine l_val (v_load ty9 rfl (here (hS.cellX 0 (k := 1) rfl rfl))) rfl ?_
              refine l_on rfl rfl rfl ?_
              refine l_val (v_lenS Try.underlying9 rfl) rfl ?_
              refine l_on rfl rfl rfl ?_
              refine l_val (v_eql rfl rfl) rfl ?_
              refine l_val (v_pickT rfl rfl) rfl ?_
              refine l_val (v_assign rfl) rfl ?_
              refine l_end ?_
              refine k_code ?_
              refine c_ret1 rfl rfl ?_
              exact ⟨rb (by first | (unfold mayS; simp_all; done) | (unfold mayS; simp_all; omega) | (unfold mayS; rw [if_neg (by omega), if_neg (by simp_all), if_pos (by omega)]; simp [show c.val.size ≤ 200 by omega])), hS.keep⟩
            · skip
              refine l_skip rfl rfl rfl rfl rfl ?_
              refine l_skip rfl rfl rfl rfl rfl ?_
              refine l_skip rfl rfl rfl rfl rfl ?_
              refine l_skip rfl rfl rfl rfl rfl ?_
              refine l_skip rfl rfl rfl rfl rfl ?_
              refine l_skip rfl rfl rfl rfl rfl ?_
              refine l_val (v_pickF rfl rfl) rfl ?_
              refine l_val (v_assign rfl) rfl ?_
              refine l_end ?_
              refine k_code ?_
              refine c_ret1 rfl rfl ?_
              exact ⟨rb (by first | (unfold mayS; simp_all; done) | (unfold mayS; simp_all; omega) | (unfold mayS; rw [if_neg (by omega), if_neg (by simp_all), if_pos (by omega)]; simp [show c.val.size ≤ 200 by omega])), hS.keep⟩
          · skip
            refine c_skip ?_
            refine k_code ?_
            refine c_seq ?_
            refine c_region ?_
            refine l_val (v_move rfl) rfl ?_
            refine l_val (v_move rfl) rfl ?_
            refine l_skip rfl rfl rfl rfl rfl ?_
            refine l_skip rfl rfl rfl rfl rfl ?_
            refine l_skip rfl rfl rfl rfl rfl ?_
            refine l_val (v_pickF rfl rfl) rfl ?_
            refine l_val (v_move rfl) rfl ?_
            refine l_skip rfl rfl rfl rfl rfl ?_
            refine l_skip rfl rfl rfl rfl rfl ?_
            refine l_skip rfl rfl rfl rfl rfl ?_
            refine l_val (v_pickF rfl rfl) rfl ?_
            refine l_val (v_assign rfl) rfl ?_
            refine l_end ?_
            refine k_code ?_
            refine c_ret1 rfl rfl ?_
            exact ⟨rb (by first | (unfold mayS; simp_all; done) | (unfold mayS; simp_all; omega) | (unfold mayS; rw [if_neg (by omega), if_neg (by simp_all), if_pos (by omega)]; simp [show c.val.size ≤ 200 by omega])), hS.keep⟩
  · skip
    refine l_skip rfl rfl rfl rfl rfl ?_
    refine l_skip rfl rfl rfl rfl rfl ?_
    refine l_skip rfl rfl rfl rfl rfl ?_
    refine l_val (v_pickF rfl rfl) rfl ?_
    refine l_val (v_move rfl) rfl ?_
    refine l_skip rfl rfl rfl rfl rfl ?_
    refine l_skip rfl rfl rfl rfl rfl ?_
    refine l_skip rfl rfl rfl rfl rfl ?_
    refine l_val (v_pickF rfl rfl) rfl ?_
    refine l_val (v_assign rfl) rfl ?_
    refine l_end ?_
    refine k_code ?_
    refine c_seq ?_
    refine c_seq ?_
    refine c_region ?_
    refine l_val (v_fieldX (o' := 0) field27_0 rfl rfl) rfl ?_
    refine l_val (v_load ty9 rfl (here (hS.cellX 0 (k := 0) rfl rfl))) rfl ?_
    refine l_val (v_lenS Try.underlying9 rfl) rfl ?_
    refine l_val (v_gtr rfl rfl) rfl ?_
    refine l_end ?_
    refine k_code ?_
    refine c_if rfl (fun p2 => ?_) (fun p2 => ?_)
    · skip
      refine c_seq ?_
      refine c_region ?_
      refine l_val (v_assign rfl) rfl ?_
      refine l_end ?_
      refine k_code ?_
      refine c_ret1 rfl rfl ?_
      exact ⟨rb (by first | (unfold mayS; simp_all; done) | (unfold mayS; simp_all; omega) | (unfold mayS; rw [if_neg (by omega), if_neg (by simp_all), if_pos (by omega)]; simp [show c.val.size ≤ 200 by omega])), hS.keep⟩
    · skip
      refine c_skip ?_
      refine k_code ?_
      refine c_seq ?_
      refine c_seq ?_
      refine c_region ?_
      refine l_val (v_move rfl) rfl ?_
      refine l_val (v_not rfl) rfl ?_
      refine l_end ?_
      refine k_code ?_
      refine c_cond rfl (fun p3 => ?_) (fun p3 => ?_)
      · skip
        refine c_seq ?_
        refine c_region ?_
        refine l_val (v_move rfl) rfl ?_
        refine l_val (v_move rfl) rfl ?_
        refine l_skip rfl rfl rfl rfl rfl ?_
        refine l_skip rfl rfl rfl rfl rfl ?_
        refine l_skip rfl rfl rfl rfl rfl ?_
        refine l_val (v_pickF rfl rfl) rfl ?_
        refine l_val (v_assign rfl) rfl ?_
        refine l_end ?_
        refine k_code ?_
        refine c_ret1 rfl rfl ?_
        exact ⟨rb (by first | (unfold mayS; simp_all; done) | (unfold mayS; simp_all; omega) | (unfold mayS; rw [if_neg (by omega), if_neg (by simp_all), if_pos (by omega)]; simp [show c.val.size ≤ 200 by omega])), hS.keep⟩
      · skip
        refine c_skip ?_
        refine k_code ?_
        refine c_seq ?_
        refine c_seq ?_
        refine c_region ?_
        refine l_val (v_fieldX (o' := 2) field27_2 rfl rfl) rfl ?_
        refine l_val (v_load ty3 rfl (here (hS.cellX 0 (k := 2) rfl rfl))) rfl ?_
        refine l_val (v_eql rfl rfl) rfl ?_
        refine l_end ?_
        refine k_code ?_
        refine c_if rfl (fun p4 => ?_) (fun p4 => ?_)
        · skip
          refine c_seq ?_
          refine c_region ?_
          refine l_val (v_fieldX (o' := 1) field27_1 rfl rfl) rfl ?_
          refine l_val (v_load ty9 rfl (here (hS.cellX 0 (k := 1) rfl rfl))) rfl ?_
          refine l_val (v_lenS Try.underlying9 rfl) rfl ?_
          refine l_val (v_leq rfl rfl) rfl ?_
          refine l_val (v_move rfl) rfl ?_
          refine l_part 38 rfl (fun p5 => ?_) (fun p5 => ?_)
          · skip
            refine l_on rfl rfl rfl ?_
            refine l_val (v_fieldX (o' := 3) field27_3 rfl rfl) rfl ?_
            refine l_on rfl rfl rfl ?_
            refine l_val (v_load ty3 rfl (here (hS.cellX 0 (k := 3) rfl rfl))) rfl ?_
            refine l_on rfl rfl rfl ?_
            refine l_val (v_fieldX (o' := 1) field27_1 rfl rfl) rfl ?_
            refine l_on rfl rfl rfl ?_
            refine l_val (v_load ty9 rfl (here (hS.cellX 0 (k := 1) rfl rfl))) rfl ?_
            refine l_on rfl rfl rfl ?_
            refine l_val (v_lenS Try.underlying9 rfl) rfl ?_
            refine l_on rfl rfl rfl ?_
            refine l_val (v_eql rfl rfl) rfl ?_
            refine l_val (v_pickT rfl rfl) rfl ?_
            refine l_val (v_assign rfl) rfl ?_
            refine l_end ?_
            refine k_code ?_
            refine c_ret1 rfl rfl ?_
            exact ⟨rb (by first | (unfold mayS; simp_all; done) | (unfold mayS; simp_all; omega) | (unfold mayS; rw [if_neg (by omega), if_neg (by simp_all), if_pos (by omega)]; simp [show c.val.size ≤ 200 by omega])), hS.keep⟩
          · skip
            refine l_skip rfl rfl rfl rfl rfl ?_
            refine l_skip rfl rfl rfl rfl rfl ?_
            refine l_skip rfl rfl rfl rfl rfl ?_
            refine l_skip rfl rfl rfl rfl rfl ?_
            refine l_skip rfl rfl rfl rfl rfl ?_
            refine l_skip rfl rfl rfl rfl rfl ?_
            refine l_val (v_pickF rfl rfl) rfl ?_
            refine l_val (v_assign rfl) rfl ?_
            refine l_end ?_
            refine k_code ?_
            refine c_ret1 rfl rfl ?_
            exact ⟨rb (by first | (unfold mayS; simp_all; done) | (unfold mayS; simp_all; omega) | (unfold mayS; rw [if_neg (by omega), if_neg (by simp_all), if_pos (by omega)]; simp [show c.val.size ≤ 200 by omega])), hS.keep⟩
        · skip
          refine c_skip ?_
          refine k_code ?_
          refine c_seq ?_
          refine c_region ?_
          refine l_val (v_move rfl) rfl ?_
          refine l_val (v_move rfl) rfl ?_
          refine l_skip rfl rfl rfl rfl rfl ?_
          refine l_skip rfl rfl rfl rfl rfl ?_
          refine l_skip rfl rfl rfl rfl rfl ?_
          refine l_val (v_pickF rfl rfl) rfl ?_
          refine l_val (v_move rfl) rfl ?_
          refine l_skip rfl rfl rfl rfl rfl ?_
          refine l_skip rfl rfl rfl rfl rfl ?_
          refine l_skip rfl rfl rfl rfl rfl ?_
          refine l_val (v_pickF rfl rfl) rfl ?_
          refine l_val (v_assign rfl) rfl ?_
          refine l_end ?_
          refine k_code ?_
          refine c_ret1 rfl rfl ?_
          exact ⟨rb (by first | (unfold mayS; simp_all; done) | (unfold mayS; simp_all; omega) | (unfold mayS; rw [if_neg (by omega), if_neg (by simp_all), if_pos (by omega)]; simp [show c.val.size ≤ 200 by omega])), hS.keep⟩
end Go.Proofs.Ytndchgmgcjebiaa
