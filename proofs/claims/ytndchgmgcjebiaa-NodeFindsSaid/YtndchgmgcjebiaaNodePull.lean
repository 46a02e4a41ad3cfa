/- The walks of node.Read's two closures: a piece from the front, a number from the front. -/
import Derived.Test.YtndchgmgcjebiaaNodeTake
import Derived.Laws.BitsAllLaws
namespace Go.Proofs.Ytndchgmgcjebiaa
open Go Go.RowKit E
set_option maxRecDepth 100000
set_option linter.unusedVariables false
set_option linter.unusedSimpArgs false

abbrev Two (p q : Nat) : Nat → Prop := fun k => k = p ∨ k = q
abbrev strB (b : Nat) (l : List UInt8) : Ent := .blk b (.cells #[.string (S l)] 9 (0, 0))
abbrev boolB (b : Nat) (sh : Bool) : Ent := .blk b (.cells #[.bool sh] 4 (0, 0))
theorem E.St.two {w : World} {p q : Nat} {o o' : Obj} (h1 : w.heap[p]? = some o) (h2 : w.heap[q]? = some o') (hne : p ≠ q) : St (Two p q) w w [.blk p o, .blk q o'] :=
  ((St.start _ _).more (y := .blk q o') h2 (fun _ h => Or.inr (Or.inr h)) (fun _ h => absurd h List.not_mem_nil)).more (y := .blk p o) h1 (fun _ h => Or.inr (Or.inl h)) (fun x hx => by
    rw [List.mem_singleton.1 hx]
    exact ⟨fun b hb hf => hne (by simp only [Ent.mut, Ent.foot] at hb hf; omega), fun b hb hf => hne (by simp only [Ent.mut, Ent.foot] at hb hf; omega)⟩)
/-- A callee has turned two blocks. -/
theorem E.St.turn2 {S : Nat → Prop} {w0 w w' : World} {L : List Ent} (h : St S w0 w L) {i j p q : Nat} {o o' u u' : Obj} (hi : L[i]? = some (.blk p o)) (hj : L[j]? = some (.blk q o')) (hij : i ≠ j) (hk : Keep (Two p q) w w') (h1 : w'.heap[p]? = some u) (h2 : w'.heap[q]? = some u') : St S w0 w' ((L.set i (.blk p u)).set j (.blk q u')) := by
  have hap := apart_at h.apart hi hj hij
  have hmi := List.mem_of_getElem? hi
  have hmj := List.mem_of_getElem? hj
  -- both blocks as one step
  refine ⟨⟨hk.os.trans h.keep.os, hk.tape.trans h.keep.tape, hk.output.trans h.keep.output, Nat.le_trans h.keep.size hk.size, fun k hk0 hS => ?_⟩, fun z hz => ?_, ?_, fun z hz => ?_⟩
  · rw [hk.block k (Nat.lt_of_lt_of_le hk0 h.keep.size) ?_, h.keep.block k hk0 hS]
    rintro (e | e)
    · rcases h.own _ hmi k e with h3 | h3
      · omega
      · exact hS h3
    · rcases h.own _ hmj k e with h3 | h3
      · omega
      · exact hS h3
  · obtain ⟨m, hm⟩ := List.mem_iff_getElem?.1 hz
    rw [List.getElem?_set] at hm
    split at hm
    · split at hm
      · cases hm; exact h2
      · cases hm
    · rename_i hjm
      rw [List.getElem?_set] at hm
      split at hm
      · split at hm
        · cases hm; exact h1
        · cases hm
      · rename_i him
        have hz' := h.at_ z (List.mem_of_getElem? hm)
        refine Ent.stable hz' hk.size fun b hb => hk.block b (Ent.lt hz' hb) ?_
        rintro (e | e)
        · exact (apart_at h.apart hi hm him).1 b e hb
        · exact (apart_at h.apart hj hm hjm).1 b e hb
  · rw [List.pairwise_iff_getElem]
    intro a c ha hc hac
    have key : ∀ m (hm : m < ((L.set i (.blk p u)).set j (.blk q u')).length), ∃ z, L[m]? = some z ∧ (((L.set i (.blk p u)).set j (.blk q u'))[m]).mut = z.mut ∧ (((L.set i (.blk p u)).set j (.blk q u'))[m]).foot = z.foot := by
      intro m hm
      have hm' : m < L.length := by simpa using hm
      rw [List.getElem_set]
      split
      · rename_i e; subst e; exact ⟨_, hj, rfl, rfl⟩
      · rw [List.getElem_set]
        split
        · rename_i e; subst e; exact ⟨_, hi, rfl, rfl⟩
        · exact ⟨_, List.getElem?_eq_getElem hm', rfl, rfl⟩
    obtain ⟨z1, e1, m1, f1⟩ := key a ha
    obtain ⟨z2, e2, m2, f2⟩ := key c hc
    have := apart_at h.apart e1 e2 (by omega)
    unfold Apart
    rw [m1, m2, f1, f2]
    exact this
  · obtain ⟨m, hm⟩ := List.mem_iff_getElem?.1 hz
    rw [List.getElem?_set] at hm
    split at hm
    · split at hm
      · cases hm; exact fun b hb => h.own _ hmj b hb
      · cases hm
    · rw [List.getElem?_set] at hm
      split at hm
      · split at hm
        · cases hm; exact fun b hb => h.own _ hmi b hb
        · cases hm
      · exact h.own z (List.mem_of_getElem? hm)

abbrev TakeF (p q : Nat) : Value := .func (.func 38) #[] #[.pointer (some ⟨p, 0, none⟩), .pointer (some ⟨q, 0, none⟩)]
abbrev NumF (f : Nat) : Value := .func (.func 39) #[] #[.pointer (some ⟨f, 0, none⟩)]
theorem pull_any (p q : Nat) (hne : p ≠ q) (l : List UInt8) (sh : Bool) (n : Nat) (w0 : World) (h1 : w0.heap[p]? = some (.cells #[.string (S l)] 9 (0, 0))) (h2 : w0.heap[q]? = some (.cells #[.bool sh] 4 (0, 0))) (hl : l.length ≤ 1073741824) :
    Calls Try.prog 38 [.int .i64 n, .pointer (some ⟨p, 0, none⟩), .pointer (some ⟨q, 0, none⟩)].toArray w0 fun e w' => e = .returned (.string (S (takeP l sh n).1)) ∧ Keep (Two p q) w0 w' ∧
      w'.heap[p]? = some (.cells #[.string (S (takeP l sh n).2.1)] 9 (0, 0)) ∧ w'.heap[q]? = some (.cells #[.bool (takeP l sh n).2.2] 4 (0, 0)) := by
  have hz := S_size l
  refine enter (n := 17) Try.func38 rfl rfl rfl ?_
  have hS := St.two h1 h2 hne
  refine c_seq ?_
  refine c_region ?_
  refine l_val (v_assign rfl) rfl ?_
  refine l_end ?_
  refine k_code ?_
  refine c_seq ?_
  refine c_seq ?_
  refine c_region ?_
  refine l_val (v_load ty9 rfl (here (hS.cellX 0 (k := 0) rfl rfl))) rfl ?_
  refine l_val (v_lenS Try.underlying9 rfl) rfl ?_
  refine l_val (v_move rfl) rfl ?_
  refine l_val (v_lss rfl rfl) rfl ?_
  refine l_end ?_
  refine k_code ?_
  refine c_if rfl (fun p1 => ?_) (fun p1 => ?_)
  · skip
    have tk : takeP l sh n = ([], [], true) := if_pos (by omega)
    refine c_seq ?_
    refine c_region ?_
    refine l_storeX (cs' := _) (L' := (_ :: _)) 0 hS ty9 rfl rfl rfl rfl rfl rfl rfl (fun w hS => ?_)
    refine l_storeX (cs' := _) (L' := (_ :: (_ :: _))) 1 hS ty4 rfl rfl rfl rfl rfl rfl rfl (fun w hS => ?_)
    refine l_end ?_
    refine k_code ?_
    refine c_seq ?_
    refine c_region ?_
    refine l_val (v_assign rfl) rfl ?_
    refine l_end ?_
    refine k_code ?_
    refine c_ret1 rfl rfl ?_
    exact ⟨by rw [tk]; rfl, hS.keep, by rw [tk]; exact hS.block (i := 0) rfl, by rw [tk]; exact hS.block (i := 1) rfl⟩
  · skip
    have tk : takeP l sh n = (l.take n, l.drop n, sh) := if_neg (by omega)
    refine c_skip ?_
    refine k_code ?_
    refine c_seq ?_
    refine c_region ?_
    refine l_val (v_load ty9 rfl (here (hS.cellX 0 (k := 0) rfl rfl))) rfl ?_
    refine l_val (v_move rfl) rfl ?_
    refine l_val (v_sliceSTo Try.underlying9 rfl rfl (by omega) (by omega) ) rfl ?_
    refine l_val (v_assign rfl) rfl ?_
    refine l_end ?_
    refine k_code ?_
    refine c_seq ?_
    refine c_region ?_
    refine l_val (v_load ty9 rfl (here (hS.cellX 0 (k := 0) rfl rfl))) rfl ?_
    refine l_val (v_move rfl) rfl ?_
    refine l_val (v_sliceSFrom Try.underlying9 rfl rfl (by omega) (by omega) ) rfl ?_
    refine l_storeX (cs' := _) (L' := (_ :: _)) 0 hS ty9 rfl rfl rfl rfl rfl rfl rfl (fun w hS => ?_)
    refine l_end ?_
    refine k_code ?_
    refine c_seq ?_
    refine c_region ?_
    refine l_val (v_move rfl) rfl ?_
    refine l_val (v_assign rfl) rfl ?_
    refine l_end ?_
    refine k_code ?_
    refine c_ret1 rfl rfl ?_
    exact ⟨by rw [tk]; exact rs (by rw [S_ext]; simp), hS.keep, by rw [tk]; refine (hS.block (i := 0) rfl).trans ?_; rw [S_ext, Int.toNat_natCast, List.take_of_length_le (by rw [List.length_drop]; omega)]; rfl, by rw [tk]; exact hS.block (i := 1) rfl⟩
theorem ofInt_i64 (a : Nat) (h : a < 9223372036854775808) : (BitVec.ofInt 64 (a : Int)).toNat = a := by
  rw [BitVec.toNat_ofInt]
  have : (2 : Nat) ^ 64 = 18446744073709551616 := by decide
  omega
theorem i64_or256 {x b : Nat} (hx : x < 4294967296) (hb : b < 256) : bits .or .i64 (IntKind.i64.wrap ((x : Int) * 2 ^ min (8 : Int).toNat IntKind.i64.bits)) (b : Int) = ((x * 256 + b : Nat) : Int) := by
  have e : IntKind.i64.wrap ((x : Int) * 2 ^ min (8 : Int).toNat IntKind.i64.bits) = ((x * 256 : Nat) : Int) := by
    have : min (8 : Int).toNat IntKind.i64.bits = 8 := by decide
    rw [this]
    rw [IntKind.wrap_i64]; omega
  rw [e]
  show IntKind.i64.wrap ((BitVec.ofInt 64 ((x * 256 : Nat) : Int) ||| BitVec.ofInt 64 (b : Int)).toNat : Int) = _
  rw [BitVec.toNat_or, ofInt_i64 _ (by omega), ofInt_i64 _ (by omega)]
  have h2 : x * 256 ||| b = x * 256 + b := by
    have := Nat.two_pow_add_eq_or_of_lt (i := 8) hb x
    rw [Nat.mul_comm x]
    exact this.symm
  rw [h2]
  rw [IntKind.wrap_i64]; omega
theorem takeP_len1 {l : List UInt8} {sh : Bool} {n : Nat} : (takeP l sh n).1.length ≤ n := by
  unfold takeP; split
  · exact Nat.zero_le _
  · show (l.take n).length ≤ _; rw [List.length_take]; omega
theorem takeP_len {l : List UInt8} {sh : Bool} {n : Nat} : (takeP l sh n).2.1.length ≤ l.length := by
  unfold takeP; split
  · exact Nat.zero_le _
  · show (l.drop n).length ≤ _; rw [List.length_drop]; omega

set_option maxHeartbeats 1000000 in
theorem pnum_any (p q f : Nat) (hne : p ≠ q) (l : List UInt8) (sh : Bool) (n : Nat) (w0 : World) (h1 : w0.heap[p]? = some (.cells #[.string (S l)] 9 (0, 0))) (h2 : w0.heap[q]? = some (.cells #[.bool sh] 4 (0, 0)))
    (hf : w0.cell? ⟨f, 0, none⟩ = some (TakeF p q)) (hl : l.length ≤ 1073741824) (hn : n ≤ 4) :
    Calls Try.prog 39 [.int .i64 n, .pointer (some ⟨f, 0, none⟩)].toArray w0 fun e w' => e = .returned (.int .i64 (numL (takeP l sh n).1 : Nat)) ∧ Keep (Two p q) w0 w' ∧
      w'.heap[p]? = some (.cells #[.string (S (takeP l sh n).2.1)] 9 (0, 0)) ∧ w'.heap[q]? = some (.cells #[.bool (takeP l sh n).2.2] 4 (0, 0)) := by
  have hlen := takeP_len1 (l := l) (sh := sh) (n := n)
  generalize htk : takeP l sh n = tk at hlen
  refine enter (n := 23) Try.func39 rfl rfl rfl ?_
  have hS := St.two h1 h2 hne
  refine c_seq ?_
  refine c_region ?_
  refine l_val (v_assign rfl) rfl ?_
  refine l_end ?_
  refine k_code ?_
  refine c_seq ?_
  refine c_region ?_
  refine l_val (v_assign rfl) rfl ?_
  refine l_end ?_
  refine k_code ?_
  refine c_seq ?_
  refine c_seq ?_
  refine c_region ?_
  refine l_val (v_load ty54 rfl (here (hf))) rfl ?_
  refine l_val (v_move rfl) rfl ?_
  refine l_callV (first := []) (cap := [.pointer (some ⟨p, 0, none⟩), .pointer (some ⟨q, 0, none⟩)]) goes38 rfl rfl (pull_any p q hne l sh n _ (hS.block (i := 0) rfl) (hS.block (i := 1) rfl) hl) rfl (fun e w hB => ?_)
  rw [htk] at hB
  obtain ⟨rfl, hk1, hb1, hb2⟩ := hB
  have hS := hS.turn2 (i := 0) (j := 1) rfl rfl (by decide) hk1 hb1 hb2
  refine ⟨_, rfl, ?_⟩
  have hz := S_size tk.1
  refine l_s2b hS Try.underlying9 Try.underlying52 Try.underlying5 rfl rfl (fun b1 csb1 capb1 w hS hcsb1 => ?_)
  refine l_val (v_len Try.underlying52 rfl) rfl ?_
  refine l_val (v_move rfl) rfl ?_
  refine l_end ?_
  refine k_code ?_
  refine c_block ?_
  refine c_loopV [(3, _), (10, _), (11, _)] (fun (i : Nat) => [(4, .int .i64 (numL (tk.1.take i) : Nat)), (12, .int .i64 i)]) (fun (i : Nat) w => St (Two p q) w0 w [.blk b1 (.cells csb1 5 (csb1.size, csb1.size + 1)), strB p tk.2.1, boolB q tk.2.2] ∧ i ≤ tk.1.length) (fun (i : Nat) => tk.1.length - i) (0 : Nat) ⟨hS, Nat.zero_le _⟩ (kc rfl (kc rfl (kc rfl (kc rfl (kc rfl kn))))) (fun i w hI => ?_)
  obtain ⟨hS, hI⟩ := hI
  have hlt := Nat.lt_of_lt_of_le (numL_lt (tk.1.take i)) (pow_le4 (by rw [List.length_take]; omega))
  refine c_seq ?_
  refine c_region ?_
  refine l_val (v_lss rfl rfl) rfl ?_
  refine l_end ?_
  refine k_code ?_
  refine c_seq ?_
  refine c_if rfl (fun p1 => ?_) (fun p1 => ?_)
  · skip
    refine c_skip ?_
    refine k_code ?_
    refine c_seq ?_
    refine c_block ?_
    refine c_seq ?_
    refine c_region ?_
    refine l_val (v_indexAddr Try.underlying52 ty5.size rfl rfl (by omega) (by omega)) rfl ?_
    refine l_val (v_load (v := B (tk.1.getD i 0)) ty5 rfl (here (hS.cellA 0 rfl (by rw [Int.toNat_natCast, Nat.mul_one]; exact hcsb1 i _ (by show (tk.1.map B)[i]? = _; rw [List.getElem?_map, List.getElem?_eq_getElem (by omega), List.getD, List.getElem?_eq_getElem (by omega)]; rfl))))) rfl ?_
    have hbb := (tk.1.getD i 0).toNat_lt
    simp only [Nat.reducePow] at hbb
    refine l_val (v_assign rfl) rfl ?_
    refine l_end ?_
    refine k_code ?_
    refine c_region ?_
    refine l_val (v_move rfl) rfl ?_
    refine l_val (v_shl rfl rfl (by decide)) rfl ?_
    refine l_val (v_move rfl) rfl ?_
    refine l_val (v_conv Try.underlying5 Try.underlying3 rfl) rfl ?_
    rw [byte_i64]
    refine l_val (v_int rfl rfl rfl) rfl ?_
    rw [i64_or256 (by omega) (by omega)]
    refine l_val (v_assign rfl) rfl ?_
    refine l_end ?_
    refine k_code ?_
    refine c_region ?_
    refine l_val (v_add rfl rfl (by omega)) rfl ?_
    refine l_val (v_move rfl) rfl ?_
    refine l_end ?_
    refine fun _ hFr => ⟨(i + 1), (by omega), ⟨hS, by omega⟩, Fr.sub hFr (kc (by rw [List.take_succ_eq_append_getElem (show i < tk.1.length by omega), numL_snoc, num_get (show i < tk.1.length by omega)]; rfl) (kc rfl (kc rfl (kc rfl (kc rfl kn)))))⟩
  · skip
    refine c_exit ex_here ?_
    refine k_code ?_
    refine c_seq ?_
    refine c_region ?_
    refine l_val (v_move rfl) rfl ?_
    refine l_val (v_assign rfl) rfl ?_
    refine l_end ?_
    refine k_code ?_
    refine c_ret1 rfl rfl ?_
    exact ⟨by rw [show i = tk.1.length by omega, List.take_length], hS.keep, hS.block (i := 1) rfl, hS.block (i := 2) rfl⟩
end Go.Proofs.Ytndchgmgcjebiaa
