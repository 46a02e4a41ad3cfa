/- The walks of part, Put, Drop, Join, of both sides. -/
import Derived.Test.YtndchgmgcjebiaaNodeFind
namespace Go.Proofs.Ytndchgmgcjebiaa
open Go Go.RowKit E
set_option maxRecDepth 100000
set_option linter.unusedVariables false
set_option linter.unusedSimpArgs false

/-- A node is handed back. -/
def GivesN (w0 : World) (As : List (Option Addr × List Value)) (leaf : Bool) (cs : List Cel) (e : Ending) (w' : World) : Prop :=
  ∃ A c, e = .returned (.agg #[.bool leaf, .slice A cs.length c]) ∧ cs.length ≤ c ∧ Lies w' A (cellsOf cs) ∧ Keep No w0 w' ∧ From w0 As A (cellsOf cs)
theorem row_cap {w : World} {e size m c : Nat} {A : Option Addr} {xs : List Value} (h : w.ownsRow 0 e size (.slice A m c) m xs) : m ≤ c := by
  rcases h.2 with ⟨e1, e2⟩ | ⟨g, cap, cur, e1, -, -, h2, -⟩
  · cases e1; exact Nat.le_refl _
  · cases e1; exact h2
theorem givesN_row {w0 w : World} {L : List Ent} {As : List (Option Addr × List Value)} {leaf : Bool} {cs : List Cel} {i e m c : Nat} {A : Option Addr} {xs : List Value} (hS : St No w0 w L) (hi : L[i]? = some (.row e 4 (.slice A m c) m xs)) (hx : xs = cellsOf cs) :
    GivesN w0 As leaf cs (.returned (.agg #[.bool leaf, .slice A m c])) w := by
  subst hx
  have hr := hS.rowAt i hi
  have hm : m = cs.length := by have := hr.1; rw [cells_len] at this; omega
  subst hm
  exact ⟨A, c, rfl, row_cap hr, Lies.row hr, hS.keep, hS.fromRow i hi _⟩
theorem givesN_lies {w0 w : World} {L : List Ent} {As : List (Option Addr × List Value)} {leaf : Bool} {cs : List Cel} {i m c : Nat} {A : Option Addr} {xs : List Value} (hS : St No w0 w L) (hi : L[i]? = some (.lies A xs)) (hx : xs = cellsOf cs) (hm : m = cs.length) (hc : m ≤ c) (hf : From w0 As A xs) :
    GivesN w0 As leaf cs (.returned (.agg #[.bool leaf, .slice A m c])) w := by
  subst hx; subst hm
  exact ⟨A, c, rfl, hc, hS.lies i hi, hS.keep, hf⟩
theorem givesN_self {w0 w : World} {leaf : Bool} {A : Option Addr} {cs : List Cel} {c : Nat} (hc : cs.length ≤ c) (hl : Lies w0 A (cellsOf cs)) (hk : Keep No w0 w) : GivesN w0 [(A, cellsOf cs)] leaf cs (.returned (.agg #[.bool leaf, .slice A cs.length c])) w :=
  ⟨A, c, rfl, hc, hl.keep hk, hk, From.same _ List.mem_cons_self⟩
theorem lies_part {w : World} {A : Option Addr} {cs : List Cel} (h : Lies w A (cellsOf cs)) {f t : Nat} (hft : f ≤ t) (ht : t ≤ cs.length) : Lies w (fromA A t f 4) (cellsOf ((cs.take t).drop f)) := by
  have := Lies.from (l := t) (c := t) (p := f) (z := 4) (xs := (cellsOf cs).take (t * 4)) (by rw [List.length_take, cells_len]; omega) (Nat.le_refl _) hft (h.take (t * 4))
  rwa [cells_take, cells_drop] at this
theorem lies_rest {w : World} {A : Option Addr} {cs : List Cel} {c : Nat} (h : Lies w A (cellsOf cs)) (hc : cs.length ≤ c) {k : Nat} (hk : k ≤ cs.length) : Lies w (fromA A c k 4) (cellsOf (cs.drop k)) := by
  have := Lies.from (l := cs.length) (c := c) (p := k) (z := 4) (cells_len cs) hc hk h
  rwa [cells_drop] at this
theorem liesF_from {A : Option Addr} {c p z b : Nat} {xs ys : List Value} (h : liesF (fromA A c p z) ys b) (hne : ys ≠ [] → xs ≠ []) : liesF A xs b := by
  obtain ⟨h1, ad, h2, h3⟩ := h
  refine ⟨hne h1, ?_⟩
  cases A with
  | none => cases h2
  | some a =>
    refine ⟨a, rfl, ?_⟩
    simp only [fromA, Option.map_some, Option.some.injEq] at h2
    subst h2
    rw [← h3]
    split
    · rfl
    · unfold Addr.add; split <;> simp_all
theorem sub_ne {cs ds : List Cel} (h : ds ≠ [] → cs ≠ []) : cellsOf ds ≠ [] → cellsOf cs ≠ [] := fun h1 h2 => by
  rw [cells_nil h2] at h
  exact h (fun e => h1 (by rw [e]; rfl)) rfl
theorem take_ne {cs : List Cel} {k : Nat} (h : cs.take k ≠ []) : cs ≠ [] := fun e => h (by rw [e]; simp)
theorem drop_ne {cs : List Cel} {k : Nat} (h : cs.drop k ≠ []) : cs ≠ [] := fun e => h (by rw [e]; simp)

theorem part_any (leaf : Bool) (A : Option Addr) (cs : List Cel) (c f t : Nat) (w0 : World) (hft : f ≤ t) (ht : t ≤ cs.length) (hc : cs.length ≤ c) :
    Calls Try.prog 44 [.agg #[.bool leaf, .slice A cs.length c], .int .i64 f, .int .i64 t].toArray w0 fun e w' => e = .returned (.agg #[.bool leaf, .slice (fromA A t f 4) (t - f) (t - f)]) ∧ Keep No w0 w' := by
  refine enter (n := 16) Try.func44 rfl rfl rfl ?_
  have hS := St.start No w0
  refine c_seq ?_
  refine c_region ?_
  refine l_box (cs := #[_, _]) hS rfl rfl rfl (fun b1 w hS => ?_)
  refine l_alloc (cs := #[_, _]) hS zero24 rfl rfl (fun b2 w hS => ?_)
  refine l_end ?_
  refine k_code ?_
  refine c_seq ?_
  refine d_region (fun w => St No w0 w [.blk b1 (.cells #[.bool leaf, .slice A cs.length c] 24 (0, 0))]) 9 mixed ?_
  have hS := hS.drew 1
  have hR : St No w0 _ [.blk b1 (.cells #[.bool leaf, .slice A cs.length c] 24 (0, 0))] := hS.less (.cons _ (.cons_cons _ (.slnil)))
  refine d_take 0 rfl (by kernel_rfl) (by kernel_rfl) (by kernel_rfl) (by kernel_rfl) hR (v_fieldX (o' := 0) field24_0 rfl rfl) rfl ?_
  refine d_take 1 rfl (by kernel_rfl) (by kernel_rfl) (by kernel_rfl) (by kernel_rfl) hR (v_load ty4 rfl (fun _ h => h.cellX 0 (k := 0) rfl rfl)) rfl ?_
  refine d_take 2 rfl (by kernel_rfl) (by kernel_rfl) (by kernel_rfl) (by kernel_rfl) hR (v_fieldX (o' := 1) field24_1 rfl rfl) rfl ?_
  refine d_take 3 rfl (by kernel_rfl) (by kernel_rfl) (by kernel_rfl) (by kernel_rfl) hR (v_load ty22 rfl (fun _ h => h.cellX 0 (k := 1) rfl rfl)) rfl ?_
  refine d_take 4 rfl (by kernel_rfl) (by kernel_rfl) (by kernel_rfl) (by kernel_rfl) hR (v_move rfl) rfl ?_
  refine d_take 5 rfl (by kernel_rfl) (by kernel_rfl) (by kernel_rfl) (by kernel_rfl) hR (v_move rfl) rfl ?_
  refine d_one 6 rfl (by kernel_rfl) ?_
  refine l_val (v_move rfl) rfl ?_
  refine l_end ?_
  have hR : St No w0 _ [.blk b1 (.cells #[.bool leaf, .slice A cs.length c] 24 (0, 0))] := hS.less (.cons _ (.cons_cons _ (.slnil)))
  refine d_on (S := (fun w => St No w0 w [.blk b1 (.cells #[.bool leaf, .slice A cs.length c] 24 (0, 0))])) hR ?_
  refine d_one 7 rfl (by kernel_rfl) ?_
  refine l_val (v_sliceLo3 Try.underlying22 tyN27.size rfl rfl rfl rfl (by omega) (by omega) (by omega) (by omega) ) rfl ?_
  refine l_end ?_
  have hR : St No w0 _ [.blk b1 (.cells #[.bool leaf, .slice A cs.length c] 24 (0, 0))] := hS.less (.cons _ (.cons_cons _ (.slnil)))
  refine d_on (S := (fun w => St No w0 w [.blk b1 (.cells #[.bool leaf, .slice A cs.length c] 24 (0, 0))])) hR ?_
  refine d_one 8 rfl (by kernel_rfl) ?_
  refine l_val (v_build (cells := #[_, _]) zero24 places24 rfl rfl) rfl ?_
  refine l_end ?_
  have hR : St No w0 _ [.blk b1 (.cells #[.bool leaf, .slice A cs.length c] 24 (0, 0))] := hS.less (.cons _ (.cons_cons _ (.slnil)))
  refine d_on (S := (fun w => St No w0 w [.blk b1 (.cells #[.bool leaf, .slice A cs.length c] 24 (0, 0))])) hR ?_
  refine d_one 9 rfl (by kernel_rfl) ?_
  refine l_storeNX (cs' := #[_, _]) (L' := (_ :: _)) 0 hS tyN24 rfl rfl rfl rfl rfl rfl rfl rfl (fun w hS => ?_)
  refine l_end ?_
  refine d_last (S := (fun w => St No w0 w [.blk b1 (.cells #[.bool leaf, .slice A cs.length c] 24 (0, 0))])) ?_
  refine d_end (by kernel_rfl) ?_
  refine k_code ?_
  refine c_retC 0 rfl tyN24 hS rfl rfl rfl ?_
  exact ⟨rfl, hS.keep⟩

/-- Where the cells behind a key begin. -/
def afterK (cs : List Cel) (k : ByteArray) : Nat := lbnd cs k + if hasK cs k then 1 else 0
def putS (cs : List Cel) (x : Cel) : List Cel := cs.take (lbnd cs x.key) ++ [x] ++ cs.drop (afterK cs x.key)
theorem afterK_le (cs : List Cel) (k : ByteArray) : afterK cs k ≤ cs.length := by
  have := lbnd_le cs k
  unfold afterK
  split
  · rename_i h; have := (hasK_iff.1 h).1; omega
  · omega
theorem enc_cells (x : Cel) : cellsOf [x] = enc x := by simp [cellsOf]

set_option maxHeartbeats 2000000 in
theorem put_any (leaf : Bool) (A : Option Addr) (cs : List Cel) (c : Nat) (x : Cel) (w0 : World) (hl : Lies w0 A (cellsOf cs)) (hc : cs.length ≤ c) (hn : cs.length ≤ 1073741824) (hs : Sorted cs) :
    Calls Try.prog 27 [.agg #[.bool leaf, .slice A cs.length c], .agg (enc x).toArray].toArray w0 (GivesN w0 [(A, cellsOf cs)] leaf (putS cs x)) := by
  have hle := lbnd_le cs x.key
  have hal := afterK_le cs x.key
  refine enter (n := 34) Try.func27 rfl rfl rfl ?_
  have hS := St.start No w0
  refine c_seq ?_
  refine c_region ?_
  refine l_box (cs := #[_, _]) hS rfl rfl rfl (fun b1 w hS => ?_)
  refine l_box (cs := #[_, _, _, _]) hS rfl rfl rfl (fun b2 w hS => ?_)
  refine l_alloc (cs := #[_, _]) hS zero24 rfl rfl (fun b3 w hS => ?_)
  refine l_end ?_
  refine k_code ?_
  refine c_seq ?_
  refine c_region ?_
  refine l_val (v_loadW tyN24 rfl rfl (hereN (hS.rowX 2 rfl))) rfl ?_
  refine l_val (v_fieldX (o' := 0) field27_0 rfl rfl) rfl ?_
  refine l_val (v_load ty9 rfl (here (hS.cellX 1 (k := 0) rfl rfl))) rfl ?_
  refine l_callK goes21 rfl hS (find_any _ _ _ _ _ _ (hl.keep hS.keep) hn hs) rfl (fun w hS => ?_)
  refine l_val (v_move rfl) rfl ?_
  refine l_val (v_extractX rfl rfl) rfl ?_
  refine l_val (v_extractX rfl rfl) rfl ?_
  refine l_val (v_assign rfl) rfl ?_
  refine l_val (v_assign rfl) rfl ?_
  refine l_end ?_
  refine k_code ?_
  refine c_seq ?_
  refine c_region ?_
  refine l_val (v_fieldX (o' := 1) field24_1 rfl rfl) rfl ?_
  refine l_val (v_load ty22 rfl (here (hS.cellX 2 (k := 1) rfl rfl))) rfl ?_
  refine l_val (v_move rfl) rfl ?_
  refine l_val (v_sliceFrom Try.underlying22 tyN27.size rfl rfl (by omega) (by omega) (by omega) ) rfl ?_
  refine l_val (v_assign rfl) rfl ?_
  refine l_end ?_
  refine k_code ?_
  refine c_cutV [(2, _), (3, _), (4, _), (5, _)] (fun ((Ar, lr, cr) : Option Addr × Nat × Nat) => [(7, .slice Ar lr cr)]) (fun ((Ar, lr, cr) : Option Addr × Nat × Nat) w => St No w0 w (Lof hS) ∧ (Lies w0 Ar (cellsOf (cs.drop (afterK cs x.key))) ∧ lr = cs.length - afterK cs x.key)) (kc rfl (kc rfl (kc rfl (kc rfl kn)))) ?_ (fun xx w hI => ?_)
  · skip
    refine c_seq ?_
    refine c_region ?_
    refine l_val (v_move rfl) rfl ?_
    refine l_end ?_
    refine k_code ?_
    refine c_cond rfl (fun p1 => ?_) (fun p1 => ?_)
    · skip
      have hkl := (hasK_iff.1 p1).1
      have haf : afterK cs x.key = lbnd cs x.key + 1 := by unfold afterK; rw [if_pos p1]
      have hrest := lies_rest hl hc hle
      refine c_region ?_
      refine l_val (v_move rfl) rfl ?_
      refine l_val (v_sliceFrom Try.underlying22 tyN27.size rfl rfl (by omega) (by omega) (by omega) ) rfl ?_
      refine l_val (v_assign rfl) rfl ?_
      refine l_end ?_
      refine fun _ hFr => ⟨(fromA (fromA A c (lbnd cs x.key) 4) (c - lbnd cs x.key) 1 4, cs.length - lbnd cs x.key - 1, c - lbnd cs x.key - 1), ⟨hS, ⟨by have := lies_rest (c := c - lbnd cs x.key) hrest (by rw [List.length_drop]; omega) (k := 1) (by rw [List.length_drop]; omega); rw [List.drop_drop, ← haf] at this; exact this, by omega⟩⟩, Fr.sub hFr (kc rfl (kc rfl (kc rfl (kc rfl (kc rfl kn)))))⟩
    · skip
      have haf : afterK cs x.key = lbnd cs x.key := by unfold afterK; rw [if_neg (by rw [p1]; simp)]; rfl
      have hrest := lies_rest hl hc hle
      refine c_skip ?_
      refine fun _ hFr => ⟨(fromA A c (lbnd cs x.key) 4, cs.length - lbnd cs x.key, c - lbnd cs x.key), ⟨hS, ⟨by rw [haf]; exact hrest, by omega⟩⟩, Fr.sub hFr (kc rfl (kc rfl (kc rfl (kc rfl (kc rfl kn)))))⟩
  · skip
    obtain ⟨Ar, lr, cr⟩ := xx
    obtain ⟨hS, ⟨hlr, hlr2⟩⟩ := hI
    refine c_seq ?_
    refine d_region (fun w => St No w0 w [.blk b2 (.cells (enc x).toArray 27 (0, 0)), .blk b1 (.cells #[.bool leaf, .slice A cs.length c] 24 (0, 0))]) 12 mixed ?_
    have hS := hS.drew 1
    have hR : St No w0 _ [.blk b2 (.cells (enc x).toArray 27 (0, 0)), .blk b1 (.cells #[.bool leaf, .slice A cs.length c] 24 (0, 0))] := hS.less (.cons _ (.cons_cons _ (.cons_cons _ (.slnil))))
    refine d_take 0 rfl (by kernel_rfl) (by kernel_rfl) (by kernel_rfl) (by kernel_rfl) hR (v_fieldX (o' := 0) field24_0 rfl rfl) rfl ?_
    refine d_take 1 rfl (by kernel_rfl) (by kernel_rfl) (by kernel_rfl) (by kernel_rfl) hR (v_load ty4 rfl (fun _ h => h.cellX 1 (k := 0) rfl rfl)) rfl ?_
    refine d_take 2 rfl (by kernel_rfl) (by kernel_rfl) (by kernel_rfl) (by kernel_rfl) hR (v_loadW tyN24 rfl rfl (fun _ h => h.rowX 1 rfl)) rfl ?_
    refine d_take 3 rfl (by kernel_rfl) (by kernel_rfl) (by kernel_rfl) (by kernel_rfl) hR (v_move rfl) rfl ?_
    refine d_take 6 rfl (by kernel_rfl) (by kernel_rfl) (by kernel_rfl) (by kernel_rfl) hR (v_loadW tyN27 rfl rfl (fun _ h => h.rowX 0 rfl)) rfl ?_
    refine d_take 9 rfl (by kernel_rfl) (by kernel_rfl) (by kernel_rfl) (by kernel_rfl) hR (v_move rfl) rfl ?_
    refine d_two 4 7 rfl rfl (by kernel_rfl) ?_ ?_
    · skip
      refine l_callK goes44 rfl hS (part_any _ _ _ _ 0 (lbnd cs x.key) _ (Nat.zero_le _) hle hc) rfl (fun w hS => ?_)
      refine l_end ?_
      have hR : St No w0 _ [.blk b2 (.cells (enc x).toArray 27 (0, 0)), .blk b1 (.cells #[.bool leaf, .slice A cs.length c] 24 (0, 0))] := hS.less (.cons _ (.cons_cons _ (.cons_cons _ (.slnil))))
      refine d_on (S := (fun w => St No w0 w [.blk b2 (.cells (enc x).toArray 27 (0, 0)), .blk b1 (.cells #[.bool leaf, .slice A cs.length c] 24 (0, 0))])) hR ?_
      refine d_two 5 7 rfl rfl (by kernel_rfl) ?_ ?_
      · skip
        refine l_val (v_field rfl (FieldOf.mk Try.underlying24 rfl ty22 rfl)) rfl ?_
        refine l_end ?_
        have hR : St No w0 _ [.blk b2 (.cells (enc x).toArray 27 (0, 0)), .blk b1 (.cells #[.bool leaf, .slice A cs.length c] 24 (0, 0))] := hS.less (.cons _ (.cons_cons _ (.cons_cons _ (.slnil))))
        refine d_on (S := (fun w => St No w0 w [.blk b2 (.cells (enc x).toArray 27 (0, 0)), .blk b1 (.cells #[.bool leaf, .slice A cs.length c] 24 (0, 0))])) hR ?_
        refine d_one 7 rfl (by kernel_rfl) ?_
        refine l_slice1 (bytes := 0) hS Try.underlying22 tyN27.size zero27 rfl (by decide) (by decide) rfl rfl rfl rfl (fun b4 w hS => ?_)
        refine l_end ?_
        have hR : St No w0 _ [.blk b2 (.cells (enc x).toArray 27 (0, 0)), .blk b1 (.cells #[.bool leaf, .slice A cs.length c] 24 (0, 0))] := hS.less (.cons _ (.cons _ (.cons_cons _ (.cons_cons _ (.slnil)))))
        refine d_on (S := (fun w => St No w0 w [.blk b2 (.cells (enc x).toArray 27 (0, 0)), .blk b1 (.cells #[.bool leaf, .slice A cs.length c] 24 (0, 0))])) hR ?_
        refine d_one 8 rfl (by kernel_rfl) ?_
        refine l_appendF (m := lbnd cs x.key) (l := 1) (xs := cellsOf (cs.take (lbnd cs x.key))) (news := enc x) hS Try.underlying22 elem27 rfl rfl (by have := lies_part (hl.keep hS.keep) (Nat.zero_le _) hle; rwa [List.drop_zero] at this) (by rw [cells_len, List.length_take]; omega) (Lies.src (by decide) Try.underlying22 (Or.inr ⟨_, rfl, hS.row 0 rfl⟩) rfl (enc_one x)) (by omega) (by unfold maxLen; omega) (by omega) rfl (fun va2 w hS hn2 => ?_)
        refine l_end ?_
        have hR : St No w0 _ [.blk b2 (.cells (enc x).toArray 27 (0, 0)), .blk b1 (.cells #[.bool leaf, .slice A cs.length c] 24 (0, 0))] := hS.less (.cons _ (.cons _ (.cons _ (.cons_cons _ (.cons_cons _ (.slnil))))))
        refine d_on (S := (fun w => St No w0 w [.blk b2 (.cells (enc x).toArray 27 (0, 0)), .blk b1 (.cells #[.bool leaf, .slice A cs.length c] 24 (0, 0))])) hR ?_
        refine d_one 10 rfl (by kernel_rfl) ?_
        refine l_appendS (l := lr) 0 hS Try.underlying22 elem27 rfl rfl rfl (Lies.src (by decide) Try.underlying22 (hlr.keep hS.keep) (by rw [cells_len, List.length_drop, hlr2]) (cells_one _)) (by unfold maxLen; omega) (by omega) rfl (fun va3 w hS hn3 => ?_)
        obtain ⟨A', c', rfl⟩ := row_form (hS.rowAt 0 rfl)
        refine l_end ?_
        have hR : St No w0 _ [.blk b2 (.cells (enc x).toArray 27 (0, 0)), .blk b1 (.cells #[.bool leaf, .slice A cs.length c] 24 (0, 0))] := hS.less (.cons _ (.cons _ (.cons _ (.cons_cons _ (.cons_cons _ (.slnil))))))
        refine d_on (S := (fun w => St No w0 w [.blk b2 (.cells (enc x).toArray 27 (0, 0)), .blk b1 (.cells #[.bool leaf, .slice A cs.length c] 24 (0, 0))])) hR ?_
        refine d_one 11 rfl (by kernel_rfl) ?_
        refine l_val (v_build (cells := #[_, _]) zero24 places24 rfl rfl) rfl ?_
        refine l_end ?_
        have hR : St No w0 _ [.blk b2 (.cells (enc x).toArray 27 (0, 0)), .blk b1 (.cells #[.bool leaf, .slice A cs.length c] 24 (0, 0))] := hS.less (.cons _ (.cons _ (.cons _ (.cons_cons _ (.cons_cons _ (.slnil))))))
        refine d_on (S := (fun w => St No w0 w [.blk b2 (.cells (enc x).toArray 27 (0, 0)), .blk b1 (.cells #[.bool leaf, .slice A cs.length c] 24 (0, 0))])) hR ?_
        refine d_one 12 rfl (by kernel_rfl) ?_
        refine l_storeNX (cs' := #[_, _]) (L' := (_ :: (_ :: (_ :: _)))) 2 hS tyN24 rfl rfl rfl rfl rfl rfl rfl rfl (fun w hS => ?_)
        refine l_end ?_
        refine d_last (S := (fun w => St No w0 w [.blk b2 (.cells (enc x).toArray 27 (0, 0)), .blk b1 (.cells #[.bool leaf, .slice A cs.length c] 24 (0, 0))])) ?_
        refine d_end (by kernel_rfl) ?_
        refine k_code ?_
        refine c_retC 2 rfl tyN24 hS rfl rfl rfl ?_
        exact givesN_row hS (i := 0) rfl (by unfold putS; rw [cells_app, cells_app, enc_cells])
      · skip
        refine l_slice1 (bytes := 0) hS Try.underlying22 tyN27.size zero27 rfl (by decide) (by decide) rfl rfl rfl rfl (fun b4 w hS => ?_)
        refine l_end ?_
        have hR : St No w0 _ [.blk b2 (.cells (enc x).toArray 27 (0, 0)), .blk b1 (.cells #[.bool leaf, .slice A cs.length c] 24 (0, 0))] := hS.less (.cons _ (.cons _ (.cons_cons _ (.cons_cons _ (.slnil)))))
        refine d_on (S := (fun w => St No w0 w [.blk b2 (.cells (enc x).toArray 27 (0, 0)), .blk b1 (.cells #[.bool leaf, .slice A cs.length c] 24 (0, 0))])) hR ?_
        refine d_one 5 rfl (by kernel_rfl) ?_
        refine l_val (v_field rfl (FieldOf.mk Try.underlying24 rfl ty22 rfl)) rfl ?_
        refine l_end ?_
        have hR : St No w0 _ [.blk b2 (.cells (enc x).toArray 27 (0, 0)), .blk b1 (.cells #[.bool leaf, .slice A cs.length c] 24 (0, 0))] := hS.less (.cons _ (.cons _ (.cons_cons _ (.cons_cons _ (.slnil)))))
        refine d_on (S := (fun w => St No w0 w [.blk b2 (.cells (enc x).toArray 27 (0, 0)), .blk b1 (.cells #[.bool leaf, .slice A cs.length c] 24 (0, 0))])) hR ?_
        refine d_one 8 rfl (by kernel_rfl) ?_
        refine l_appendF (m := lbnd cs x.key) (l := 1) (xs := cellsOf (cs.take (lbnd cs x.key))) (news := enc x) hS Try.underlying22 elem27 rfl rfl (by have := lies_part (hl.keep hS.keep) (Nat.zero_le _) hle; rwa [List.drop_zero] at this) (by rw [cells_len, List.length_take]; omega) (Lies.src (by decide) Try.underlying22 (Or.inr ⟨_, rfl, hS.row 0 rfl⟩) rfl (enc_one x)) (by omega) (by unfold maxLen; omega) (by omega) rfl (fun va2 w hS hn2 => ?_)
        refine l_end ?_
        have hR : St No w0 _ [.blk b2 (.cells (enc x).toArray 27 (0, 0)), .blk b1 (.cells #[.bool leaf, .slice A cs.length c] 24 (0, 0))] := hS.less (.cons _ (.cons _ (.cons _ (.cons_cons _ (.cons_cons _ (.slnil))))))
        refine d_on (S := (fun w => St No w0 w [.blk b2 (.cells (enc x).toArray 27 (0, 0)), .blk b1 (.cells #[.bool leaf, .slice A cs.length c] 24 (0, 0))])) hR ?_
        refine d_one 10 rfl (by kernel_rfl) ?_
        refine l_appendS (l := lr) 0 hS Try.underlying22 elem27 rfl rfl rfl (Lies.src (by decide) Try.underlying22 (hlr.keep hS.keep) (by rw [cells_len, List.length_drop, hlr2]) (cells_one _)) (by unfold maxLen; omega) (by omega) rfl (fun va3 w hS hn3 => ?_)
        obtain ⟨A', c', rfl⟩ := row_form (hS.rowAt 0 rfl)
        refine l_end ?_
        have hR : St No w0 _ [.blk b2 (.cells (enc x).toArray 27 (0, 0)), .blk b1 (.cells #[.bool leaf, .slice A cs.length c] 24 (0, 0))] := hS.less (.cons _ (.cons _ (.cons _ (.cons_cons _ (.cons_cons _ (.slnil))))))
        refine d_on (S := (fun w => St No w0 w [.blk b2 (.cells (enc x).toArray 27 (0, 0)), .blk b1 (.cells #[.bool leaf, .slice A cs.length c] 24 (0, 0))])) hR ?_
        refine d_one 11 rfl (by kernel_rfl) ?_
        refine l_val (v_build (cells := #[_, _]) zero24 places24 rfl rfl) rfl ?_
        refine l_end ?_
        have hR : St No w0 _ [.blk b2 (.cells (enc x).toArray 27 (0, 0)), .blk b1 (.cells #[.bool leaf, .slice A cs.length c] 24 (0, 0))] := hS.less (.cons _ (.cons _ (.cons _ (.cons_cons _ (.cons_cons _ (.slnil))))))
        refine d_on (S := (fun w => St No w0 w [.blk b2 (.cells (enc x).toArray 27 (0, 0)), .blk b1 (.cells #[.bool leaf, .slice A cs.length c] 24 (0, 0))])) hR ?_
        refine d_one 12 rfl (by kernel_rfl) ?_
        refine l_storeNX (cs' := #[_, _]) (L' := (_ :: (_ :: (_ :: _)))) 2 hS tyN24 rfl rfl rfl rfl rfl rfl rfl rfl (fun w hS => ?_)
        refine l_end ?_
        refine d_last (S := (fun w => St No w0 w [.blk b2 (.cells (enc x).toArray 27 (0, 0)), .blk b1 (.cells #[.bool leaf, .slice A cs.length c] 24 (0, 0))])) ?_
        refine d_end (by kernel_rfl) ?_
        refine k_code ?_
        refine c_retC 2 rfl tyN24 hS rfl rfl rfl ?_
        exact givesN_row hS (i := 0) rfl (by unfold putS; rw [cells_app, cells_app, enc_cells])
    · skip
      refine l_slice1 (bytes := 0) hS Try.underlying22 tyN27.size zero27 rfl (by decide) (by decide) rfl rfl rfl rfl (fun b4 w hS => ?_)
      refine l_end ?_
      have hR : St No w0 _ [.blk b2 (.cells (enc x).toArray 27 (0, 0)), .blk b1 (.cells #[.bool leaf, .slice A cs.length c] 24 (0, 0))] := hS.less (.cons _ (.cons _ (.cons_cons _ (.cons_cons _ (.slnil)))))
      refine d_on (S := (fun w => St No w0 w [.blk b2 (.cells (enc x).toArray 27 (0, 0)), .blk b1 (.cells #[.bool leaf, .slice A cs.length c] 24 (0, 0))])) hR ?_
      refine d_one 4 rfl (by kernel_rfl) ?_
      refine l_callK goes44 rfl hS (part_any _ _ _ _ 0 (lbnd cs x.key) _ (Nat.zero_le _) hle hc) rfl (fun w hS => ?_)
      refine l_end ?_
      have hR : St No w0 _ [.blk b2 (.cells (enc x).toArray 27 (0, 0)), .blk b1 (.cells #[.bool leaf, .slice A cs.length c] 24 (0, 0))] := hS.less (.cons _ (.cons _ (.cons_cons _ (.cons_cons _ (.slnil)))))
      refine d_on (S := (fun w => St No w0 w [.blk b2 (.cells (enc x).toArray 27 (0, 0)), .blk b1 (.cells #[.bool leaf, .slice A cs.length c] 24 (0, 0))])) hR ?_
      refine d_one 5 rfl (by kernel_rfl) ?_
      refine l_val (v_field rfl (FieldOf.mk Try.underlying24 rfl ty22 rfl)) rfl ?_
      refine l_end ?_
      have hR : St No w0 _ [.blk b2 (.cells (enc x).toArray 27 (0, 0)), .blk b1 (.cells #[.bool leaf, .slice A cs.length c] 24 (0, 0))] := hS.less (.cons _ (.cons _ (.cons_cons _ (.cons_cons _ (.slnil)))))
      refine d_on (S := (fun w => St No w0 w [.blk b2 (.cells (enc x).toArray 27 (0, 0)), .blk b1 (.cells #[.bool leaf, .slice A cs.length c] 24 (0, 0))])) hR ?_
      refine d_one 8 rfl (by kernel_rfl) ?_
      refine l_appendF (m := lbnd cs x.key) (l := 1) (xs := cellsOf (cs.take (lbnd cs x.key))) (news := enc x) hS Try.underlying22 elem27 rfl rfl (by have := lies_part (hl.keep hS.keep) (Nat.zero_le _) hle; rwa [List.drop_zero] at this) (by rw [cells_len, List.length_take]; omega) (Lies.src (by decide) Try.underlying22 (Or.inr ⟨_, rfl, hS.row 0 rfl⟩) rfl (enc_one x)) (by omega) (by unfold maxLen; omega) (by omega) rfl (fun va2 w hS hn2 => ?_)
      refine l_end ?_
      have hR : St No w0 _ [.blk b2 (.cells (enc x).toArray 27 (0, 0)), .blk b1 (.cells #[.bool leaf, .slice A cs.length c] 24 (0, 0))] := hS.less (.cons _ (.cons _ (.cons _ (.cons_cons _ (.cons_cons _ (.slnil))))))
      refine d_on (S := (fun w => St No w0 w [.blk b2 (.cells (enc x).toArray 27 (0, 0)), .blk b1 (.cells #[.bool leaf, .slice A cs.length c] 24 (0, 0))])) hR ?_
      refine d_one 10 rfl (by kernel_rfl) ?_
      refine l_appendS (l := lr) 0 hS Try.underlying22 elem27 rfl rfl rfl (Lies.src (by decide) Try.underlying22 (hlr.keep hS.keep) (by rw [cells_len, List.length_drop, hlr2]) (cells_one _)) (by unfold maxLen; omega) (by omega) rfl (fun va3 w hS hn3 => ?_)
      obtain ⟨A', c', rfl⟩ := row_form (hS.rowAt 0 rfl)
      refine l_end ?_
      have hR : St No w0 _ [.blk b2 (.cells (enc x).toArray 27 (0, 0)), .blk b1 (.cells #[.bool leaf, .slice A cs.length c] 24 (0, 0))] := hS.less (.cons _ (.cons _ (.cons _ (.cons_cons _ (.cons_cons _ (.slnil))))))
      refine d_on (S := (fun w => St No w0 w [.blk b2 (.cells (enc x).toArray 27 (0, 0)), .blk b1 (.cells #[.bool leaf, .slice A cs.length c] 24 (0, 0))])) hR ?_
      refine d_one 11 rfl (by kernel_rfl) ?_
      refine l_val (v_build (cells := #[_, _]) zero24 places24 rfl rfl) rfl ?_
      refine l_end ?_
      have hR : St No w0 _ [.blk b2 (.cells (enc x).toArray 27 (0, 0)), .blk b1 (.cells #[.bool leaf, .slice A cs.length c] 24 (0, 0))] := hS.less (.cons _ (.cons _ (.cons _ (.cons_cons _ (.cons_cons _ (.slnil))))))
      refine d_on (S := (fun w => St No w0 w [.blk b2 (.cells (enc x).toArray 27 (0, 0)), .blk b1 (.cells #[.bool leaf, .slice A cs.length c] 24 (0, 0))])) hR ?_
      refine d_one 12 rfl (by kernel_rfl) ?_
      refine l_storeNX (cs' := #[_, _]) (L' := (_ :: (_ :: (_ :: _)))) 2 hS tyN24 rfl rfl rfl rfl rfl rfl rfl rfl (fun w hS => ?_)
      refine l_end ?_
      refine d_last (S := (fun w => St No w0 w [.blk b2 (.cells (enc x).toArray 27 (0, 0)), .blk b1 (.cells #[.bool leaf, .slice A cs.length c] 24 (0, 0))])) ?_
      refine d_end (by kernel_rfl) ?_
      refine k_code ?_
      refine c_retC 2 rfl tyN24 hS rfl rfl rfl ?_
      exact givesN_row hS (i := 0) rfl (by unfold putS; rw [cells_app, cells_app, enc_cells])

set_option maxHeartbeats 2000000 in
theorem rput_any (leaf : Bool) (A : Option Addr) (cs : List Cel) (c : Nat) (x : Cel) (w0 : World) (hl : Lies w0 A (cellsOf cs)) (hc : cs.length ≤ c) (hn : cs.length ≤ 1073741824) (As : List (Option Addr × List Value)) :
    Calls Try.prog 28 [.agg #[.bool leaf, .slice A cs.length c], .agg (enc x).toArray].toArray w0 (GivesN w0 As leaf (putS cs x)) := by
  have hle := lbnd_le cs x.key
  have hal := afterK_le cs x.key
  refine enter (n := 44) Try.func28 rfl rfl rfl ?_
  have hS := St.start No w0
  refine c_seq ?_
  refine c_region ?_
  refine l_box (cs := #[_, _]) hS rfl rfl rfl (fun b1 w hS => ?_)
  refine l_box (cs := #[_, _, _, _]) hS rfl rfl rfl (fun b2 w hS => ?_)
  refine l_alloc (cs := #[_, _]) hS zero24 rfl rfl (fun b3 w hS => ?_)
  refine l_end ?_
  refine k_code ?_
  refine c_seq ?_
  refine c_region ?_
  refine l_val (v_loadW tyN24 rfl rfl (hereN (hS.rowX 2 rfl))) rfl ?_
  refine l_val (v_fieldX (o' := 0) field27_0 rfl rfl) rfl ?_
  refine l_val (v_load ty9 rfl (here (hS.cellX 1 (k := 0) rfl rfl))) rfl ?_
  refine l_callK goes23 rfl hS (rfind_any _ _ _ _ _ _ (hl.keep hS.keep) hn) rfl (fun w hS => ?_)
  refine l_val (v_move rfl) rfl ?_
  refine l_val (v_extractX rfl rfl) rfl ?_
  refine l_val (v_extractX rfl rfl) rfl ?_
  refine l_val (v_assign rfl) rfl ?_
  refine l_val (v_assign rfl) rfl ?_
  refine l_end ?_
  refine k_code ?_
  refine c_seq ?_
  refine c_region ?_
  refine l_val (v_fieldX (o' := 0) field24_0 rfl rfl) rfl ?_
  refine l_val (v_load ty4 rfl (here (hS.cellX 2 (k := 0) rfl rfl))) rfl ?_
  refine l_val (v_build (cells := #[_, _]) zero24 places24 rfl rfl) rfl ?_
  refine l_alloc (cs := #[_, _]) hS zero24 rfl rfl (fun b4 w hS => ?_)
  refine l_storeNX (cs' := #[_, _]) (L' := (_ :: _)) 0 hS tyN24 rfl rfl rfl rfl rfl rfl rfl rfl (fun w hS => ?_)
  refine l_end ?_
  refine k_code ?_
  refine c_seq ?_
  refine d_region (fun w => St No w0 w [.blk b4 (.cells #[.bool leaf, .slice none 0 0] 24 (0, 0)), .blk b1 (.cells #[.bool leaf, .slice A cs.length c] 24 (0, 0))]) 8 mixed ?_
  have hS := hS.drew 1
  have hR : St No w0 _ [.blk b4 (.cells #[.bool leaf, .slice none 0 0] 24 (0, 0)), .blk b1 (.cells #[.bool leaf, .slice A cs.length c] 24 (0, 0))] := hS.less (.cons_cons _ (.cons _ (.cons _ (.cons_cons _ (.slnil)))))
  refine d_take 0 rfl (by kernel_rfl) (by kernel_rfl) (by kernel_rfl) (by kernel_rfl) hR (v_fieldX (o' := 1) field24_1 rfl rfl) rfl ?_
  refine d_take 1 rfl (by kernel_rfl) (by kernel_rfl) (by kernel_rfl) (by kernel_rfl) hR (v_load ty22 rfl (fun _ h => h.cellX 0 (k := 1) rfl rfl)) rfl ?_
  refine d_take 2 rfl (by kernel_rfl) (by kernel_rfl) (by kernel_rfl) (by kernel_rfl) hR (v_fieldX (o' := 1) field24_1 rfl rfl) rfl ?_
  refine d_take 3 rfl (by kernel_rfl) (by kernel_rfl) (by kernel_rfl) (by kernel_rfl) hR (v_load ty22 rfl (fun _ h => h.cellX 1 (k := 1) rfl rfl)) rfl ?_
  refine d_one 4 rfl (by kernel_rfl) ?_
  refine l_val (v_move rfl) rfl ?_
  refine l_end ?_
  have hR : St No w0 _ [.blk b4 (.cells #[.bool leaf, .slice none 0 0] 24 (0, 0)), .blk b1 (.cells #[.bool leaf, .slice A cs.length c] 24 (0, 0))] := hS.less (.cons_cons _ (.cons _ (.cons _ (.cons_cons _ (.slnil)))))
  refine d_on (S := (fun w => St No w0 w [.blk b4 (.cells #[.bool leaf, .slice none 0 0] 24 (0, 0)), .blk b1 (.cells #[.bool leaf, .slice A cs.length c] 24 (0, 0))])) hR ?_
  refine d_one 5 rfl (by kernel_rfl) ?_
  refine l_val (v_sliceTo Try.underlying22 (fun w => ⟨_, tyN27.size w⟩) rfl rfl (by omega) (by omega)) rfl ?_
  refine l_end ?_
  have hR : St No w0 _ [.blk b4 (.cells #[.bool leaf, .slice none 0 0] 24 (0, 0)), .blk b1 (.cells #[.bool leaf, .slice A cs.length c] 24 (0, 0))] := hS.less (.cons_cons _ (.cons _ (.cons _ (.cons_cons _ (.slnil)))))
  refine d_on (S := (fun w => St No w0 w [.blk b4 (.cells #[.bool leaf, .slice none 0 0] 24 (0, 0)), .blk b1 (.cells #[.bool leaf, .slice A cs.length c] 24 (0, 0))])) hR ?_
  refine d_one 6 rfl (by kernel_rfl) ?_
  have hS := hS.nil 27 4
  refine l_appendS (l := lbnd cs x.key) 0 hS Try.underlying22 elem27 rfl rfl rfl (Lies.src (xs := cellsOf (cs.take (lbnd cs x.key))) (by decide) Try.underlying22 (by have := (hl.keep hS.keep).take (lbnd cs x.key * 4); rwa [cells_take] at this) (by rw [cells_len, List.length_take]; omega) (cells_one _)) (by unfold maxLen; omega) (by omega) rfl (fun va1 w hS hn1 => ?_)
  refine l_end ?_
  have hR : St No w0 _ [.blk b4 (.cells #[.bool leaf, .slice none 0 0] 24 (0, 0)), .blk b1 (.cells #[.bool leaf, .slice A cs.length c] 24 (0, 0))] := hS.less (.cons _ (.cons_cons _ (.cons _ (.cons _ (.cons_cons _ (.slnil))))))
  refine d_on (S := (fun w => St No w0 w [.blk b4 (.cells #[.bool leaf, .slice none 0 0] 24 (0, 0)), .blk b1 (.cells #[.bool leaf, .slice A cs.length c] 24 (0, 0))])) hR ?_
  refine d_one 7 rfl (by kernel_rfl) ?_
  refine l_val (v_fieldX (o' := 1) field24_1 rfl rfl) rfl ?_
  refine l_end ?_
  have hR : St No w0 _ [.blk b4 (.cells #[.bool leaf, .slice none 0 0] 24 (0, 0)), .blk b1 (.cells #[.bool leaf, .slice A cs.length c] 24 (0, 0))] := hS.less (.cons _ (.cons_cons _ (.cons _ (.cons _ (.cons_cons _ (.slnil))))))
  refine d_on (S := (fun w => St No w0 w [.blk b4 (.cells #[.bool leaf, .slice none 0 0] 24 (0, 0)), .blk b1 (.cells #[.bool leaf, .slice A cs.length c] 24 (0, 0))])) hR ?_
  refine d_one 8 rfl (by kernel_rfl) ?_
  refine l_storeX (cs' := #[_, _]) (L' := (_ :: (_ :: _))) 1 hS ty22 rfl rfl rfl rfl (row_one (hS.rowAt 0 rfl)) rfl rfl (fun w hS => ?_)
  refine l_end ?_
  refine d_last (S := (fun w => St No w0 w [.blk b4 (.cells #[.bool leaf, .slice none 0 0] 24 (0, 0)), .blk b1 (.cells #[.bool leaf, .slice A cs.length c] 24 (0, 0))])) ?_
  refine d_end (by kernel_rfl) ?_
  refine k_code ?_
  refine c_seq ?_
  refine c_region ?_
  refine l_val (v_fieldX (o' := 1) field24_1 rfl rfl) rfl ?_
  refine l_val (v_load ty22 rfl (here (hS.cellX 1 (k := 1) rfl rfl))) rfl ?_
  refine l_val (v_loadW tyN27 rfl rfl (hereN (hS.rowX 3 rfl))) rfl ?_
  refine l_slice1 (bytes := 0) hS Try.underlying22 tyN27.size zero27 rfl (by decide) (by decide) rfl rfl rfl rfl (fun b5 w hS => ?_)
  refine l_appendX (L' := fun _ => (_ :: (_ :: _))) 1 hS Try.underlying22 elem27 rfl rfl rfl rfl (hS.row 0 rfl) (enc_one x) (by unfold maxLen; omega) (by omega) rfl (fun _ => rfl) (fun va2 w hS hvva2 => ?_)
  refine l_val (v_fieldX (o' := 1) field24_1 rfl rfl) rfl ?_
  refine l_storeX (cs' := #[_, _]) (L' := (_ :: (_ :: (_ :: _)))) 2 hS ty22 rfl rfl rfl rfl (row_one (hS.rowAt 1 rfl)) rfl rfl (fun w hS => ?_)
  refine l_end ?_
  refine k_code ?_
  refine c_cutV [(2, _), (4, _), (7, _)] (fun (u : Unit) => [(5, .int .i64 (afterK cs x.key : Nat))]) (fun (u : Unit) w => St No w0 w (Lof hS) ∧ True) (kc rfl (kc rfl (kc rfl kn))) ?_ (fun u w hI => ?_)
  · skip
    refine c_seq ?_
    refine c_region ?_
    refine l_val (v_move rfl) rfl ?_
    refine l_end ?_
    refine k_code ?_
    refine c_cond rfl (fun p1 => ?_) (fun p1 => ?_)
    · skip
      have haf : afterK cs x.key = lbnd cs x.key + 1 := by unfold afterK; rw [if_pos p1]
      have hkl := (hasK_iff.1 p1).1
      refine c_region ?_
      refine l_val (v_move rfl) rfl ?_
      refine l_val (v_add rfl rfl (by omega)) rfl ?_
      refine l_val (v_assign rfl) rfl ?_
      refine l_end ?_
      refine fun _ hFr => ⟨(), ⟨hS, trivial⟩, Fr.sub hFr (kc (by rw [haf]; rfl) (kc rfl (kc rfl (kc rfl kn))))⟩
    · skip
      have haf : afterK cs x.key = lbnd cs x.key := by unfold afterK; rw [if_neg (by rw [p1]; simp)]; rfl
      refine c_skip ?_
      refine fun _ hFr => ⟨(), ⟨hS, trivial⟩, Fr.sub hFr (kc (by rw [haf]; rfl) (kc rfl (kc rfl (kc rfl kn))))⟩
  · skip
    obtain ⟨hS, hI⟩ := hI
    refine c_seq ?_
    refine d_region (fun w => St No w0 w [.blk b4 (.cells #[.bool leaf, va2] 24 (0, 0)), .blk b1 (.cells #[.bool leaf, .slice A cs.length c] 24 (0, 0))]) 8 mixed ?_
    have hS := hS.drew 1
    have hR : St No w0 _ [.blk b4 (.cells #[.bool leaf, va2] 24 (0, 0)), .blk b1 (.cells #[.bool leaf, .slice A cs.length c] 24 (0, 0))] := hS.less (.cons _ (.cons _ (.cons_cons _ (.cons _ (.cons _ (.cons_cons _ (.slnil)))))))
    refine d_take 0 rfl (by kernel_rfl) (by kernel_rfl) (by kernel_rfl) (by kernel_rfl) hR (v_fieldX (o' := 1) field24_1 rfl rfl) rfl ?_
    refine d_take 1 rfl (by kernel_rfl) (by kernel_rfl) (by kernel_rfl) (by kernel_rfl) hR (v_load ty22 rfl (fun _ h => h.cellX 0 (k := 1) rfl rfl)) rfl ?_
    refine d_take 2 rfl (by kernel_rfl) (by kernel_rfl) (by kernel_rfl) (by kernel_rfl) hR (v_fieldX (o' := 1) field24_1 rfl rfl) rfl ?_
    refine d_take 3 rfl (by kernel_rfl) (by kernel_rfl) (by kernel_rfl) (by kernel_rfl) hR (v_load ty22 rfl (fun _ h => h.cellX 1 (k := 1) rfl rfl)) rfl ?_
    refine d_one 4 rfl (by kernel_rfl) ?_
    refine l_val (v_move rfl) rfl ?_
    refine l_end ?_
    have hR : St No w0 _ [.blk b4 (.cells #[.bool leaf, va2] 24 (0, 0)), .blk b1 (.cells #[.bool leaf, .slice A cs.length c] 24 (0, 0))] := hS.less (.cons _ (.cons _ (.cons_cons _ (.cons _ (.cons _ (.cons_cons _ (.slnil)))))))
    refine d_on (S := (fun w => St No w0 w [.blk b4 (.cells #[.bool leaf, va2] 24 (0, 0)), .blk b1 (.cells #[.bool leaf, .slice A cs.length c] 24 (0, 0))])) hR ?_
    refine d_one 5 rfl (by kernel_rfl) ?_
    refine l_val (v_sliceFrom Try.underlying22 tyN27.size rfl rfl (by omega) (by omega) (by omega) ) rfl ?_
    refine l_end ?_
    have hR : St No w0 _ [.blk b4 (.cells #[.bool leaf, va2] 24 (0, 0)), .blk b1 (.cells #[.bool leaf, .slice A cs.length c] 24 (0, 0))] := hS.less (.cons _ (.cons _ (.cons_cons _ (.cons _ (.cons _ (.cons_cons _ (.slnil)))))))
    refine d_on (S := (fun w => St No w0 w [.blk b4 (.cells #[.bool leaf, va2] 24 (0, 0)), .blk b1 (.cells #[.bool leaf, .slice A cs.length c] 24 (0, 0))])) hR ?_
    refine d_one 6 rfl (by kernel_rfl) ?_
    refine l_appendS (l := cs.length - afterK cs x.key) 1 hS Try.underlying22 elem27 rfl rfl rfl (Lies.src (xs := cellsOf (cs.drop (afterK cs x.key))) (by decide) Try.underlying22 (lies_rest (hl.keep hS.keep) hc hal) (by rw [cells_len, List.length_drop]; rfl) (cells_one _)) (by unfold maxLen; omega) (by omega) rfl (fun va3 w hS hn3 => ?_)
    obtain ⟨A', c', rfl⟩ := row_form (hS.rowAt 1 rfl)
    refine l_end ?_
    have hR : St No w0 _ [.blk b4 (.cells #[.bool leaf, va2] 24 (0, 0)), .blk b1 (.cells #[.bool leaf, .slice A cs.length c] 24 (0, 0))] := hS.less (.cons _ (.cons _ (.cons_cons _ (.cons _ (.cons _ (.cons_cons _ (.slnil)))))))
    refine d_on (S := (fun w => St No w0 w [.blk b4 (.cells #[.bool leaf, va2] 24 (0, 0)), .blk b1 (.cells #[.bool leaf, .slice A cs.length c] 24 (0, 0))])) hR ?_
    refine d_one 7 rfl (by kernel_rfl) ?_
    refine l_val (v_fieldX (o' := 1) field24_1 rfl rfl) rfl ?_
    refine l_end ?_
    have hR : St No w0 _ [.blk b4 (.cells #[.bool leaf, va2] 24 (0, 0)), .blk b1 (.cells #[.bool leaf, .slice A cs.length c] 24 (0, 0))] := hS.less (.cons _ (.cons _ (.cons_cons _ (.cons _ (.cons _ (.cons_cons _ (.slnil)))))))
    refine d_on (S := (fun w => St No w0 w [.blk b4 (.cells #[.bool leaf, va2] 24 (0, 0)), .blk b1 (.cells #[.bool leaf, .slice A cs.length c] 24 (0, 0))])) hR ?_
    refine d_one 8 rfl (by kernel_rfl) ?_
    refine l_storeX (cs' := #[_, _]) (L' := (_ :: (_ :: (_ :: _)))) 2 hS ty22 rfl rfl rfl rfl rfl rfl rfl (fun w hS => ?_)
    refine l_end ?_
    refine d_last (S := (fun w => St No w0 w [.blk b4 (.cells #[.bool leaf, va2] 24 (0, 0)), .blk b1 (.cells #[.bool leaf, .slice A cs.length c] 24 (0, 0))])) ?_
    refine d_end (by kernel_rfl) ?_
    refine k_code ?_
    refine c_seq ?_
    refine c_region ?_
    refine l_val (v_loadW tyN24 rfl rfl (hereN (hS.rowX 2 rfl))) rfl ?_
    refine l_storeNX (cs' := #[_, _]) (L' := (_ :: (_ :: (_ :: (_ :: _))))) 3 hS tyN24 rfl rfl rfl rfl rfl rfl rfl rfl (fun w hS => ?_)
    refine l_end ?_
    refine k_code ?_
    refine c_retC 3 rfl tyN24 hS rfl rfl rfl ?_
    exact givesN_row hS (i := 1) rfl (by unfold putS; rw [cells_app, cells_app, enc_cells]; rfl)

/-! ### Join, Drop -/

def dropS (cs : List Cel) (a : Int) : List Cel := if 0 ≤ a ∧ a < cs.length then cs.take a.toNat ++ cs.drop (a.toNat + 1) else cs

set_option maxHeartbeats 2000000 in
theorem join_any (la lb : Bool) (A D : Option Addr) (xs1 ys1 : List Cel) (ca cb : Nat) (w0 : World) (hl : Lies w0 A (cellsOf xs1)) (hl' : Lies w0 D (cellsOf ys1)) (hc : xs1.length ≤ ca) (hn : xs1.length ≤ 1073741824) (hn' : ys1.length ≤ 1073741824) :
    Calls Try.prog 31 [.agg #[.bool la, .slice A xs1.length ca], .agg #[.bool lb, .slice D ys1.length cb]].toArray w0 (GivesN w0 [(A, cellsOf xs1)] la (xs1 ++ ys1)) := by
  refine enter (n := 17) Try.func31 rfl rfl rfl ?_
  have hS := St.start No w0
  have hS := hS.gainOld hl (fun _ _ h => h)
  refine c_seq ?_
  refine c_region ?_
  refine l_box (cs := #[_, _]) hS rfl rfl rfl (fun b1 w hS => ?_)
  refine l_box (cs := #[_, _]) hS rfl rfl rfl (fun b2 w hS => ?_)
  refine l_alloc (cs := #[_, _]) hS zero24 rfl rfl (fun b3 w hS => ?_)
  refine l_end ?_
  refine k_code ?_
  refine c_seq ?_
  refine d_region (fun w => St No w0 w [.blk b2 (.cells #[.bool lb, .slice D ys1.length cb] 24 (0, 0)), .blk b1 (.cells #[.bool la, .slice A xs1.length ca] 24 (0, 0))]) 12 mixed ?_
  have hS := hS.drew 1
  have hR : St No w0 _ [.blk b2 (.cells #[.bool lb, .slice D ys1.length cb] 24 (0, 0)), .blk b1 (.cells #[.bool la, .slice A xs1.length ca] 24 (0, 0))] := hS.less (.cons _ (.cons_cons _ (.cons_cons _ (.cons _ (.slnil)))))
  refine d_take 0 rfl (by kernel_rfl) (by kernel_rfl) (by kernel_rfl) (by kernel_rfl) hR (v_fieldX (o' := 0) field24_0 rfl rfl) rfl ?_
  refine d_take 1 rfl (by kernel_rfl) (by kernel_rfl) (by kernel_rfl) (by kernel_rfl) hR (v_load ty4 rfl (fun _ h => h.cellX 1 (k := 0) rfl rfl)) rfl ?_
  refine d_take 2 rfl (by kernel_rfl) (by kernel_rfl) (by kernel_rfl) (by kernel_rfl) hR (v_loadW tyN24 rfl rfl (fun _ h => h.rowX 1 rfl)) rfl ?_
  refine d_take 3 rfl (by kernel_rfl) (by kernel_rfl) (by kernel_rfl) (by kernel_rfl) hR (v_fieldX (o' := 1) field24_1 rfl rfl) rfl ?_
  refine d_take 4 rfl (by kernel_rfl) (by kernel_rfl) (by kernel_rfl) (by kernel_rfl) hR (v_load ty22 rfl (fun _ h => h.cellX 1 (k := 1) rfl rfl)) rfl ?_
  refine d_take 5 rfl (by kernel_rfl) (by kernel_rfl) (by kernel_rfl) (by kernel_rfl) hR (v_len Try.underlying22 rfl) rfl ?_
  refine d_take 8 rfl (by kernel_rfl) (by kernel_rfl) (by kernel_rfl) (by kernel_rfl) hR (v_fieldX (o' := 1) field24_1 rfl rfl) rfl ?_
  refine d_take 9 rfl (by kernel_rfl) (by kernel_rfl) (by kernel_rfl) (by kernel_rfl) hR (v_load ty22 rfl (fun _ h => h.cellX 0 (k := 1) rfl rfl)) rfl ?_
  refine d_one 6 rfl (by kernel_rfl) ?_
  refine l_callK goes44 rfl hS (part_any _ _ _ _ 0 xs1.length _ (Nat.zero_le _) (Nat.le_refl _) hc) rfl (fun w hS => ?_)
  refine l_end ?_
  have hR : St No w0 _ [.blk b2 (.cells #[.bool lb, .slice D ys1.length cb] 24 (0, 0)), .blk b1 (.cells #[.bool la, .slice A xs1.length ca] 24 (0, 0))] := hS.less (.cons _ (.cons_cons _ (.cons_cons _ (.cons _ (.slnil)))))
  refine d_on (S := (fun w => St No w0 w [.blk b2 (.cells #[.bool lb, .slice D ys1.length cb] 24 (0, 0)), .blk b1 (.cells #[.bool la, .slice A xs1.length ca] 24 (0, 0))])) hR ?_
  refine d_one 7 rfl (by kernel_rfl) ?_
  refine l_val (v_field rfl (FieldOf.mk Try.underlying24 rfl ty22 rfl)) rfl ?_
  refine l_end ?_
  have hR : St No w0 _ [.blk b2 (.cells #[.bool lb, .slice D ys1.length cb] 24 (0, 0)), .blk b1 (.cells #[.bool la, .slice A xs1.length ca] 24 (0, 0))] := hS.less (.cons _ (.cons_cons _ (.cons_cons _ (.cons _ (.slnil)))))
  refine d_on (S := (fun w => St No w0 w [.blk b2 (.cells #[.bool lb, .slice D ys1.length cb] 24 (0, 0)), .blk b1 (.cells #[.bool la, .slice A xs1.length ca] 24 (0, 0))])) hR ?_
  refine d_one 10 rfl (by kernel_rfl) ?_
  have hkk := hS.keep.size
  refine l_appendG (m := xs1.length) (l := ys1.length) (A0 := A) (xs := cellsOf xs1) (xs0 := cellsOf xs1) 3 hS rfl (fun b hb => liesF_from hb id) Try.underlying22 elem27 rfl rfl (by have := lies_part (hl.keep hS.keep) (Nat.zero_le _) (Nat.le_refl xs1.length); rwa [List.drop_zero, List.take_length] at this) (cells_len xs1) (Lies.src (by decide) Try.underlying22 (hl'.keep hS.keep) (cells_len ys1) (cells_one _)) (by unfold maxLen; omega) (by omega) rfl (fun A' c' w hS hc' hf' => ?_)
  refine l_end ?_
  have hR : St No w0 _ [.blk b2 (.cells #[.bool lb, .slice D ys1.length cb] 24 (0, 0)), .blk b1 (.cells #[.bool la, .slice A xs1.length ca] 24 (0, 0))] := hS.less (.cons _ (.cons _ (.cons_cons _ (.cons_cons _ (.cons _ (.slnil))))))
  refine d_on (S := (fun w => St No w0 w [.blk b2 (.cells #[.bool lb, .slice D ys1.length cb] 24 (0, 0)), .blk b1 (.cells #[.bool la, .slice A xs1.length ca] 24 (0, 0))])) hR ?_
  refine d_one 11 rfl (by kernel_rfl) ?_
  refine l_val (v_build (cells := #[_, _]) zero24 places24 rfl rfl) rfl ?_
  refine l_end ?_
  have hR : St No w0 _ [.blk b2 (.cells #[.bool lb, .slice D ys1.length cb] 24 (0, 0)), .blk b1 (.cells #[.bool la, .slice A xs1.length ca] 24 (0, 0))] := hS.less (.cons _ (.cons _ (.cons_cons _ (.cons_cons _ (.cons _ (.slnil))))))
  refine d_on (S := (fun w => St No w0 w [.blk b2 (.cells #[.bool lb, .slice D ys1.length cb] 24 (0, 0)), .blk b1 (.cells #[.bool la, .slice A xs1.length ca] 24 (0, 0))])) hR ?_
  refine d_one 12 rfl (by kernel_rfl) ?_
  refine l_storeNX (cs' := #[_, _]) (L' := (_ :: (_ :: _))) 1 hS tyN24 rfl rfl rfl rfl rfl rfl rfl rfl (fun w hS => ?_)
  refine l_end ?_
  refine d_last (S := (fun w => St No w0 w [.blk b2 (.cells #[.bool lb, .slice D ys1.length cb] 24 (0, 0)), .blk b1 (.cells #[.bool la, .slice A xs1.length ca] 24 (0, 0))])) ?_
  refine d_end (by kernel_rfl) ?_
  refine k_code ?_
  refine c_retC 1 rfl tyN24 hS rfl rfl rfl ?_
  exact givesN_lies hS (i := 0) rfl (cells_app _ _).symm List.length_append.symm hc' (fun b hb => (hf' b hb).imp (fun h => Nat.le_trans hkk h) (fun h => ⟨_, List.mem_cons_self, h⟩))

set_option maxHeartbeats 2000000 in
theorem drop_any (leaf : Bool) (A : Option Addr) (cs : List Cel) (c : Nat) (a : Int) (w0 : World) (hl : Lies w0 A (cellsOf cs)) (hc : cs.length ≤ c) (hn : cs.length ≤ 1073741824) :
    Calls Try.prog 24 [.agg #[.bool leaf, .slice A cs.length c], .int .i64 a].toArray w0 (GivesN w0 [(A, cellsOf cs)] leaf (dropS cs a)) := by
  refine enter (n := 28) Try.func24 rfl rfl rfl ?_
  have hS := St.start No w0
  have hS := hS.gainOld hl (fun _ _ h => h)
  refine c_seq ?_
  refine c_region ?_
  refine l_box (cs := #[_, _]) hS rfl rfl rfl (fun b1 w hS => ?_)
  refine l_alloc (cs := #[_, _]) hS zero24 rfl rfl (fun b2 w hS => ?_)
  refine l_end ?_
  refine k_code ?_
  refine c_seq ?_
  refine c_seq ?_
  refine c_region ?_
  refine l_val (v_move rfl) rfl ?_
  refine l_val (v_lss rfl rfl) rfl ?_
  refine l_val (v_move rfl) rfl ?_
  refine l_part 7 rfl (fun p1 => ?_) (fun p1 => ?_)
  · skip
    refine l_skip rfl rfl rfl rfl rfl ?_
    refine l_skip rfl rfl rfl rfl rfl ?_
    refine l_skip rfl rfl rfl rfl rfl ?_
    refine l_skip rfl rfl rfl rfl rfl ?_
    refine l_skip rfl rfl rfl rfl rfl ?_
    refine l_val (v_pickT rfl rfl) rfl ?_
    refine l_end ?_
    refine k_code ?_
    refine c_yes rfl ?_
    refine c_seq ?_
    refine c_region ?_
    refine l_val (v_loadW tyN24 rfl rfl (hereN (hS.rowX 1 rfl))) rfl ?_
    refine l_storeNX (cs' := #[_, _]) (L' := (_ :: _)) 0 hS tyN24 rfl rfl rfl rfl rfl rfl rfl rfl (fun w hS => ?_)
    refine l_end ?_
    refine k_code ?_
    refine c_retC 0 rfl tyN24 hS rfl rfl rfl ?_
    exact (by rw [show dropS cs a = cs from if_neg (by omega)]; exact givesN_self hc hl hS.keep)
  · skip
    refine l_on rfl rfl rfl ?_
    refine l_val (v_move rfl) rfl ?_
    refine l_on rfl rfl rfl ?_
    refine l_val (v_fieldX (o' := 1) field24_1 rfl rfl) rfl ?_
    refine l_on rfl rfl rfl ?_
    refine l_val (v_load ty22 rfl (here (hS.cellX 1 (k := 1) rfl rfl))) rfl ?_
    refine l_on rfl rfl rfl ?_
    refine l_val (v_len Try.underlying22 rfl) rfl ?_
    refine l_on rfl rfl rfl ?_
    refine l_val (v_geq rfl rfl) rfl ?_
    refine l_val (v_pickF rfl rfl) rfl ?_
    refine l_end ?_
    refine k_code ?_
    refine c_if rfl (fun p2 => ?_) (fun p2 => ?_)
    · skip
      refine c_seq ?_
      refine c_region ?_
      refine l_val (v_loadW tyN24 rfl rfl (hereN (hS.rowX 1 rfl))) rfl ?_
      refine l_storeNX (cs' := #[_, _]) (L' := (_ :: _)) 0 hS tyN24 rfl rfl rfl rfl rfl rfl rfl rfl (fun w hS => ?_)
      refine l_end ?_
      refine k_code ?_
      refine c_retC 0 rfl tyN24 hS rfl rfl rfl ?_
      exact (by rw [show dropS cs a = cs from if_neg (by omega)]; exact givesN_self hc hl hS.keep)
    · skip
      obtain ⟨k, rfl⟩ := Int.eq_ofNat_of_zero_le (show 0 ≤ a by omega)
      have hd : dropS cs (k : Int) = cs.take k ++ cs.drop (k + 1) := if_pos ⟨by omega, by omega⟩
      refine c_skip ?_
      refine k_code ?_
      refine c_seq ?_
      refine d_region (fun w => St No w0 w [.blk b1 (.cells #[.bool leaf, .slice A cs.length c] 24 (0, 0))]) 13 mixed ?_
      have hS := hS.drew 1
      have hR : St No w0 _ [.blk b1 (.cells #[.bool leaf, .slice A cs.length c] 24 (0, 0))] := hS.less (.cons _ (.cons_cons _ (.cons _ (.slnil))))
      refine d_take 0 rfl (by kernel_rfl) (by kernel_rfl) (by kernel_rfl) (by kernel_rfl) hR (v_fieldX (o' := 0) field24_0 rfl rfl) rfl ?_
      refine d_take 1 rfl (by kernel_rfl) (by kernel_rfl) (by kernel_rfl) (by kernel_rfl) hR (v_load ty4 rfl (fun _ h => h.cellX 0 (k := 0) rfl rfl)) rfl ?_
      refine d_take 2 rfl (by kernel_rfl) (by kernel_rfl) (by kernel_rfl) (by kernel_rfl) hR (v_loadW tyN24 rfl rfl (fun _ h => h.rowX 0 rfl)) rfl ?_
      refine d_take 3 rfl (by kernel_rfl) (by kernel_rfl) (by kernel_rfl) (by kernel_rfl) hR (v_move rfl) rfl ?_
      refine d_take 6 rfl (by kernel_rfl) (by kernel_rfl) (by kernel_rfl) (by kernel_rfl) hR (v_fieldX (o' := 1) field24_1 rfl rfl) rfl ?_
      refine d_take 7 rfl (by kernel_rfl) (by kernel_rfl) (by kernel_rfl) (by kernel_rfl) hR (v_load ty22 rfl (fun _ h => h.cellX 0 (k := 1) rfl rfl)) rfl ?_
      refine d_take 8 rfl (by kernel_rfl) (by kernel_rfl) (by kernel_rfl) (by kernel_rfl) hR (v_move rfl) rfl ?_
      refine d_take 9 rfl (by kernel_rfl) (by kernel_rfl) (by kernel_rfl) (by kernel_rfl) hR (v_add rfl rfl (by omega)) rfl ?_
      refine d_take 10 rfl (by kernel_rfl) (by kernel_rfl) (by kernel_rfl) (by kernel_rfl) hR (v_sliceFrom Try.underlying22 tyN27.size rfl rfl (by omega) (by omega) (by omega) ) rfl ?_
      refine d_one 4 rfl (by kernel_rfl) ?_
      refine l_callK goes44 rfl hS (part_any _ _ _ _ 0 k _ (Nat.zero_le _) (by omega) hc) rfl (fun w hS => ?_)
      refine l_end ?_
      have hR : St No w0 _ [.blk b1 (.cells #[.bool leaf, .slice A cs.length c] 24 (0, 0))] := hS.less (.cons _ (.cons_cons _ (.cons _ (.slnil))))
      refine d_on (S := (fun w => St No w0 w [.blk b1 (.cells #[.bool leaf, .slice A cs.length c] 24 (0, 0))])) hR ?_
      refine d_one 5 rfl (by kernel_rfl) ?_
      refine l_val (v_field rfl (FieldOf.mk Try.underlying24 rfl ty22 rfl)) rfl ?_
      refine l_end ?_
      have hR : St No w0 _ [.blk b1 (.cells #[.bool leaf, .slice A cs.length c] 24 (0, 0))] := hS.less (.cons _ (.cons_cons _ (.cons _ (.slnil))))
      refine d_on (S := (fun w => St No w0 w [.blk b1 (.cells #[.bool leaf, .slice A cs.length c] 24 (0, 0))])) hR ?_
      refine d_one 11 rfl (by kernel_rfl) ?_
      have hkk := hS.keep.size
      refine l_appendG (m := k) (l := cs.length - (k + 1)) (A0 := A) (xs := cellsOf (cs.take k)) (xs0 := cellsOf cs) 2 hS rfl (fun b hb => liesF_from hb (sub_ne take_ne)) Try.underlying22 elem27 rfl rfl (by have := lies_part (hl.keep hS.keep) (Nat.zero_le _) (show k ≤ cs.length by omega); rwa [List.drop_zero] at this) (by rw [cells_len, List.length_take]; omega) (Lies.src (by decide) Try.underlying22 (lies_rest (hl.keep hS.keep) hc (show k + 1 ≤ cs.length by omega)) (by rw [cells_len, List.length_drop]) (cells_one _)) (by unfold maxLen; omega) (by omega) rfl (fun A' c' w hS hc' hf' => ?_)
      refine l_end ?_
      have hR : St No w0 _ [.blk b1 (.cells #[.bool leaf, .slice A cs.length c] 24 (0, 0))] := hS.less (.cons _ (.cons _ (.cons_cons _ (.cons _ (.slnil)))))
      refine d_on (S := (fun w => St No w0 w [.blk b1 (.cells #[.bool leaf, .slice A cs.length c] 24 (0, 0))])) hR ?_
      refine d_one 12 rfl (by kernel_rfl) ?_
      refine l_val (v_build (cells := #[_, _]) zero24 places24 rfl rfl) rfl ?_
      refine l_end ?_
      have hR : St No w0 _ [.blk b1 (.cells #[.bool leaf, .slice A cs.length c] 24 (0, 0))] := hS.less (.cons _ (.cons _ (.cons_cons _ (.cons _ (.slnil)))))
      refine d_on (S := (fun w => St No w0 w [.blk b1 (.cells #[.bool leaf, .slice A cs.length c] 24 (0, 0))])) hR ?_
      refine d_one 13 rfl (by kernel_rfl) ?_
      refine l_storeNX (cs' := #[_, _]) (L' := (_ :: (_ :: _))) 1 hS tyN24 rfl rfl rfl rfl rfl rfl rfl rfl (fun w hS => ?_)
      refine l_end ?_
      refine d_last (S := (fun w => St No w0 w [.blk b1 (.cells #[.bool leaf, .slice A cs.length c] 24 (0, 0))])) ?_
      refine d_end (by kernel_rfl) ?_
      refine k_code ?_
      refine c_retC 1 rfl tyN24 hS rfl rfl rfl ?_
      exact (by rw [hd]; exact givesN_lies hS (i := 0) rfl (cells_app _ _).symm (by rw [List.length_append, List.length_take, List.length_drop]; omega) hc' (fun b hb => (hf' b hb).imp (fun h => Nat.le_trans hkk h) (fun h => ⟨_, List.mem_cons_self, h⟩)))

def dropTo (cs : List Cel) (a : Int) : Nat → List Cel
  | 0 => []
  | k + 1 => if ¬ (k : Int) = a then dropTo cs a k ++ [cAt cs k] else dropTo cs a k
theorem dropTo_eq {cs : List Cel} {a : Int} : dropTo cs a cs.length = dropS cs a := by
  have key : ∀ k, k ≤ cs.length → dropTo cs a k = if 0 ≤ a ∧ a < k then cs.take a.toNat ++ (cs.take k).drop (a.toNat + 1) else cs.take k := by
    intro k
    induction k with
    | zero => intro _; rw [if_neg (by omega)]; simp [dropTo]
    | succ k ih =>
      intro hk
      have hs : cs.take (k + 1) = cs.take k ++ [cAt cs k] := by rw [List.take_succ_eq_append_getElem (by omega), cAt_get (by omega)]
      simp only [dropTo]
      by_cases e : (k : Int) = a
      · rw [if_neg (by simpa using e), ih (by omega), if_neg (by omega), if_pos (by omega)]
        subst e
        rw [Int.toNat_natCast, List.drop_of_length_le (by rw [List.length_take]; omega), List.append_nil]
      · rw [if_pos e, ih (by omega)]
        by_cases h : 0 ≤ a ∧ a < k
        · rw [if_pos h, if_pos (by omega), hs, List.drop_append_of_le_length (by rw [List.length_take]; omega), List.append_assoc]
        · rw [if_neg h, if_neg (by omega), hs]
  rw [key _ (Nat.le_refl _), List.take_length]
  rfl

set_option maxHeartbeats 2000000 in
theorem rdrop_any (leaf : Bool) (A : Option Addr) (cs : List Cel) (c : Nat) (a : Int) (w0 : World) (hl : Lies w0 A (cellsOf cs)) (hn : cs.length ≤ 1073741824) (As : List (Option Addr × List Value)) :
    Calls Try.prog 25 [.agg #[.bool leaf, .slice A cs.length c], .int .i64 a].toArray w0 (GivesN w0 As leaf (dropS cs a)) := by
  refine enter (n := 31) Try.func25 rfl rfl rfl ?_
  have hS := St.start No w0
  refine c_seq ?_
  refine c_region ?_
  refine l_box (cs := #[_, _]) hS rfl rfl rfl (fun b1 w hS => ?_)
  refine l_alloc (cs := #[_, _]) hS zero24 rfl rfl (fun b2 w hS => ?_)
  refine l_end ?_
  refine k_code ?_
  refine c_seq ?_
  refine c_region ?_
  refine l_val (v_fieldX (o' := 0) field24_0 rfl rfl) rfl ?_
  refine l_val (v_load ty4 rfl (here (hS.cellX 1 (k := 0) rfl rfl))) rfl ?_
  refine l_val (v_build (cells := #[_, _]) zero24 places24 rfl rfl) rfl ?_
  refine l_alloc (cs := #[_, _]) hS zero24 rfl rfl (fun b3 w hS => ?_)
  refine l_storeNX (cs' := #[_, _]) (L' := (_ :: _)) 0 hS tyN24 rfl rfl rfl rfl rfl rfl rfl rfl (fun w hS => ?_)
  refine l_end ?_
  refine k_code ?_
  refine c_seq ?_
  refine c_seq ?_
  refine c_region ?_
  refine l_val (v_assign rfl) rfl ?_
  refine l_end ?_
  refine k_code ?_
  refine c_block ?_
  refine c_loopV [(1, _), (2, _), (4, _), (5, _)] (fun ((k, v, m) : Nat × Value × Nat) => [(6, .int .i64 k)]) (fun ((k, v, m) : Nat × Value × Nat) w => St No w0 w [.row 27 4 v m (cellsOf (dropTo cs a k)), .blk b3 (.cells #[.bool leaf, v] 24 (0, 0)), .blk b2 (.cells #[.bool false, .slice none 0 0] 24 (0, 0)), .blk b1 (.cells #[.bool leaf, .slice A cs.length c] 24 (0, 0))] ∧ (k ≤ cs.length ∧ m ≤ k)) (fun ((k, v, m) : Nat × Value × Nat) => cs.length - k) ((0 : Nat), Value.slice none 0 0, (0 : Nat)) ⟨(hS.nil _ _), ⟨Nat.zero_le _, Nat.le_refl _⟩⟩ (kc rfl (kc rfl (kc rfl (kc rfl (kc rfl kn))))) (fun xx w hI => ?_)
  obtain ⟨k, v, m⟩ := xx
  obtain ⟨hS, ⟨hk, hm⟩⟩ := hI
  refine c_seq ?_
  refine c_seq ?_
  refine c_region ?_
  refine l_val (v_move rfl) rfl ?_
  refine l_val (v_fieldX (o' := 1) field24_1 rfl rfl) rfl ?_
  refine l_val (v_load ty22 rfl (here (hS.cellX 3 (k := 1) rfl rfl))) rfl ?_
  refine l_val (v_len Try.underlying22 rfl) rfl ?_
  refine l_val (v_lss rfl rfl) rfl ?_
  refine l_end ?_
  refine k_code ?_
  refine c_if rfl (fun p1 => ?_) (fun p1 => ?_)
  · skip
    obtain ⟨ad, hA, hcell⟩ := cell_k hl (k := k) (by omega)
    refine c_skip ?_
    refine k_code ?_
    refine c_seq ?_
    refine c_block ?_
    refine c_seq ?_
    refine c_region ?_
    refine l_val (v_move rfl) rfl ?_
    refine l_val (v_move rfl) rfl ?_
    refine l_val (v_neq rfl rfl) rfl ?_
    refine l_end ?_
    refine k_code ?_
    refine c_if rfl (fun p2 => ?_) (fun p2 => ?_)
    · skip
      refine d_region (fun w => St No w0 w [.blk b3 (.cells #[.bool leaf, v] 24 (0, 0)), .blk b1 (.cells #[.bool leaf, .slice A cs.length c] 24 (0, 0))]) 10 mixed ?_
      have hS := hS.drew 1
      have hR : St No w0 _ [.blk b3 (.cells #[.bool leaf, v] 24 (0, 0)), .blk b1 (.cells #[.bool leaf, .slice A cs.length c] 24 (0, 0))] := hS.less (.cons _ (.cons_cons _ (.cons _ (.cons_cons _ (.slnil)))))
      refine d_take 0 rfl (by kernel_rfl) (by kernel_rfl) (by kernel_rfl) (by kernel_rfl) hR (v_fieldX (o' := 1) field24_1 rfl rfl) rfl ?_
      refine d_take 1 rfl (by kernel_rfl) (by kernel_rfl) (by kernel_rfl) (by kernel_rfl) hR (v_load ty22 rfl (fun _ h => h.cellX 0 (k := 1) rfl rfl)) rfl ?_
      refine d_take 2 rfl (by kernel_rfl) (by kernel_rfl) (by kernel_rfl) (by kernel_rfl) hR (v_fieldX (o' := 1) field24_1 rfl rfl) rfl ?_
      refine d_take 3 rfl (by kernel_rfl) (by kernel_rfl) (by kernel_rfl) (by kernel_rfl) hR (v_load ty22 rfl (fun _ h => h.cellX 1 (k := 1) rfl rfl)) rfl ?_
      refine d_one 4 rfl (by kernel_rfl) ?_
      refine l_val (v_move rfl) rfl ?_
      refine l_end ?_
      have hR : St No w0 _ [.blk b3 (.cells #[.bool leaf, v] 24 (0, 0)), .blk b1 (.cells #[.bool leaf, .slice A cs.length c] 24 (0, 0))] := hS.less (.cons _ (.cons_cons _ (.cons _ (.cons_cons _ (.slnil)))))
      refine d_on (S := (fun w => St No w0 w [.blk b3 (.cells #[.bool leaf, v] 24 (0, 0)), .blk b1 (.cells #[.bool leaf, .slice A cs.length c] 24 (0, 0))])) hR ?_
      refine d_one 5 rfl (by kernel_rfl) ?_
      refine l_val (v_indexAddrO hA Try.underlying22 tyN27.size rfl rfl (by omega) (by omega)) rfl ?_
      refine l_end ?_
      have hR : St No w0 _ [.blk b3 (.cells #[.bool leaf, v] 24 (0, 0)), .blk b1 (.cells #[.bool leaf, .slice A cs.length c] 24 (0, 0))] := hS.less (.cons _ (.cons_cons _ (.cons _ (.cons_cons _ (.slnil)))))
      refine d_on (S := (fun w => St No w0 w [.blk b3 (.cells #[.bool leaf, v] 24 (0, 0)), .blk b1 (.cells #[.bool leaf, .slice A cs.length c] 24 (0, 0))])) hR ?_
      refine d_one 6 rfl (by kernel_rfl) ?_
      refine l_val (v_loadN (cs := enc (cAt cs k)) tyN27 rfl rfl (hereN (fun j v hj => hS.old (hcell j v hj)))) rfl ?_
      refine l_end ?_
      have hR : St No w0 _ [.blk b3 (.cells #[.bool leaf, v] 24 (0, 0)), .blk b1 (.cells #[.bool leaf, .slice A cs.length c] 24 (0, 0))] := hS.less (.cons _ (.cons_cons _ (.cons _ (.cons_cons _ (.slnil)))))
      refine d_on (S := (fun w => St No w0 w [.blk b3 (.cells #[.bool leaf, v] 24 (0, 0)), .blk b1 (.cells #[.bool leaf, .slice A cs.length c] 24 (0, 0))])) hR ?_
      refine d_one 7 rfl (by kernel_rfl) ?_
      refine l_slice1 (bytes := 0) hS Try.underlying22 tyN27.size zero27 rfl (by decide) (by decide) rfl rfl rfl rfl (fun b4 w hS => ?_)
      refine l_end ?_
      have hR : St No w0 _ [.blk b3 (.cells #[.bool leaf, v] 24 (0, 0)), .blk b1 (.cells #[.bool leaf, .slice A cs.length c] 24 (0, 0))] := hS.less (.cons _ (.cons _ (.cons_cons _ (.cons _ (.cons_cons _ (.slnil))))))
      refine d_on (S := (fun w => St No w0 w [.blk b3 (.cells #[.bool leaf, v] 24 (0, 0)), .blk b1 (.cells #[.bool leaf, .slice A cs.length c] 24 (0, 0))])) hR ?_
      refine d_one 8 rfl (by kernel_rfl) ?_
      refine l_appendS (l := 1) 1 hS Try.underlying22 elem27 rfl rfl rfl (Lies.src (xs := enc (cAt cs k)) (by decide) Try.underlying22 (Or.inr ⟨_, rfl, hS.row 0 rfl⟩) rfl (enc_one _)) (by unfold maxLen; omega) (by omega) rfl (fun va1 w hS hn1 => ?_)
      refine l_end ?_
      have hR : St No w0 _ [.blk b3 (.cells #[.bool leaf, v] 24 (0, 0)), .blk b1 (.cells #[.bool leaf, .slice A cs.length c] 24 (0, 0))] := hS.less (.cons _ (.cons _ (.cons_cons _ (.cons _ (.cons_cons _ (.slnil))))))
      refine d_on (S := (fun w => St No w0 w [.blk b3 (.cells #[.bool leaf, v] 24 (0, 0)), .blk b1 (.cells #[.bool leaf, .slice A cs.length c] 24 (0, 0))])) hR ?_
      refine d_one 9 rfl (by kernel_rfl) ?_
      refine l_val (v_fieldX (o' := 1) field24_1 rfl rfl) rfl ?_
      refine l_end ?_
      have hR : St No w0 _ [.blk b3 (.cells #[.bool leaf, v] 24 (0, 0)), .blk b1 (.cells #[.bool leaf, .slice A cs.length c] 24 (0, 0))] := hS.less (.cons _ (.cons _ (.cons_cons _ (.cons _ (.cons_cons _ (.slnil))))))
      refine d_on (S := (fun w => St No w0 w [.blk b3 (.cells #[.bool leaf, v] 24 (0, 0)), .blk b1 (.cells #[.bool leaf, .slice A cs.length c] 24 (0, 0))])) hR ?_
      refine d_one 10 rfl (by kernel_rfl) ?_
      refine l_storeX (cs' := #[_, _]) (L' := (_ :: (_ :: (_ :: _)))) 2 hS ty22 rfl rfl rfl rfl (row_one (hS.rowAt 1 rfl)) rfl rfl (fun w hS => ?_)
      refine l_end ?_
      refine d_last (S := (fun w => St No w0 w [.blk b3 (.cells #[.bool leaf, v] 24 (0, 0)), .blk b1 (.cells #[.bool leaf, .slice A cs.length c] 24 (0, 0))])) ?_
      refine d_end (by kernel_rfl) ?_
      refine k_code ?_
      refine c_region ?_
      refine l_val (v_move rfl) rfl ?_
      refine l_val (v_add rfl rfl (by omega)) rfl ?_
      refine l_val (v_assign rfl) rfl ?_
      refine l_end ?_
      refine fun _ hFr => ⟨(k + 1, va1, m + 1), (by dsimp only; omega), ⟨(St.cast (hS.less (.cons _ (List.Sublist.refl _))) (by rw [show dropTo cs a (k + 1) = dropTo cs a k ++ [cAt cs k] from if_pos p2, cells_app, enc_cells])), ⟨by omega, by omega⟩⟩, Fr.sub hFr (kc rfl (kc rfl (kc rfl (kc rfl (kc rfl kn)))))⟩
    · skip
      refine c_skip ?_
      refine k_code ?_
      refine c_region ?_
      refine l_val (v_move rfl) rfl ?_
      refine l_val (v_add rfl rfl (by omega)) rfl ?_
      refine l_val (v_assign rfl) rfl ?_
      refine l_end ?_
      refine fun _ hFr => ⟨(k + 1, v, m), (by dsimp only; omega), ⟨(St.cast hS (by rw [show dropTo cs a (k + 1) = dropTo cs a k from if_neg p2])), ⟨by omega, by omega⟩⟩, Fr.sub hFr (kc rfl (kc rfl (kc rfl (kc rfl (kc rfl kn)))))⟩
  · skip
    obtain ⟨A', c', rfl⟩ := row_form (hS.rowAt 0 rfl)
    obtain rfl : k = cs.length := by omega
    rw [dropTo_eq] at hS
    refine c_exit ex_here ?_
    refine k_code ?_
    refine c_seq ?_
    refine c_region ?_
    refine l_val (v_loadW tyN24 rfl rfl (hereN (hS.rowX 1 rfl))) rfl ?_
    refine l_storeNX (cs' := #[_, _]) (L' := (_ :: (_ :: (_ :: _)))) 2 hS tyN24 rfl rfl rfl rfl rfl rfl rfl rfl (fun w hS => ?_)
    refine l_end ?_
    refine k_code ?_
    refine c_retC 2 rfl tyN24 hS rfl rfl rfl ?_
    exact givesN_row hS (i := 0) rfl rfl
end Go.Proofs.Ytndchgmgcjebiaa
