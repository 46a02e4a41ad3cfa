/- The walks of the readers of both sides: a piece from the front, a number from the front. -/
import Derived.Test.YtndchgmgcjebiaaNodeRBytes
namespace Go.Proofs.Ytndchgmgcjebiaa
open Go Go.RowKit E
set_option maxRecDepth 100000
set_option linter.unusedVariables false
set_option linter.unusedSimpArgs false

/-- A number's value, the greatest byte first. -/
def numL (l : List UInt8) : Nat := l.foldl (fun a b => a * 256 + b.toNat) 0
theorem numL_snoc (l : List UInt8) (b : UInt8) : numL (l ++ [b]) = numL l * 256 + b.toNat := by simp [numL]
theorem numL_acc : ∀ (l : List UInt8) (a : Nat), l.foldl (fun a b => a * 256 + b.toNat) a < (a + 1) * 256 ^ l.length
  | [], a => by simp
  | b :: r, a => by
    have h := numL_acc r (a * 256 + b.toNat)
    have hb := b.toNat_lt
    simp only [Nat.reducePow] at hb
    simp only [List.foldl_cons, List.length_cons, Nat.pow_succ]
    refine Nat.lt_of_lt_of_le h ?_
    rw [Nat.mul_comm (256 ^ r.length) 256, ← Nat.mul_assoc]
    exact Nat.mul_le_mul_right _ (by omega)
theorem numL_lt (l : List UInt8) : numL l < 256 ^ l.length := by
  have := numL_acc l 0
  simpa [numL] using this
theorem pow_le4 {n : Nat} (h : n ≤ 4) : 256 ^ n ≤ 4294967296 := by
  have := Nat.pow_le_pow_right (n := 256) (by omega) h
  simpa using this
/-- What is taken from the front; what is left; were there too few? -/
def takeR (l : List UInt8) (sh : Bool) (n : Nat) : List UInt8 × List UInt8 × Bool := if l.length < n then ([], l, true) else (l.take n, l.drop n, sh)
def takeP (l : List UInt8) (sh : Bool) (n : Nat) : List UInt8 × List UInt8 × Bool := if l.length < n then ([], [], true) else (l.take n, l.drop n, sh)
abbrev RD : Nat := 61
abbrev rdC (l : List UInt8) (sh : Bool) : Array Value := #[.string (S l), .bool sh]
theorem S_ext (l : List UInt8) (p q : Nat) : (S l).extract p q = S ((l.drop p).take (q - p)) := by
  apply ByteArray.ext
  apply Array.toList_inj.1
  have := extract_S l p q
  exact this
where
  extract_S (l : List UInt8) (p q : Nat) : ((S l).extract p q).data.toList = (S ((l.drop p).take (q - p))).data.toList := by
    simp [S, ByteArray.extract, ByteArray.copySlice]

theorem take_any (b : Nat) (l : List UInt8) (sh : Bool) (n : Nat) (w0 : World) (hb : w0.heap[b]? = some (.cells (rdC l sh) RD (0, 0))) (hl : l.length ≤ 1073741824) :
    Calls Try.prog 41 [.pointer (some ⟨b, 0, none⟩), .int .i64 n].toArray w0 fun e w' => e = .returned (.string (S (takeR l sh n).1)) ∧ Keep (· = b) w0 w' ∧ w'.heap[b]? = some (.cells (rdC (takeR l sh n).2.1 (takeR l sh n).2.2) RD (0, 0)) := by
  have hz := S_size l
  refine enter (n := 32) Try.func41 rfl rfl rfl ?_
  have hS : St (· = b) w0 w0 [.blk b (.cells (rdC l sh) RD (0, 0))] := (St.start _ _).more hb (fun _ h => Or.inr h) (fun _ h => absurd h List.not_mem_nil)
  refine c_seq ?_
  refine c_region ?_
  refine l_val (v_assign rfl) rfl ?_
  refine l_end ?_
  refine k_code ?_
  refine c_seq ?_
  refine c_seq ?_
  refine c_region ?_
  refine l_val (v_move rfl) rfl ?_
  refine l_val (v_nilCheck rfl) rfl ?_
  refine l_val (v_fieldX (o' := 0) field61_0 rfl rfl) rfl ?_
  refine l_val (v_load ty9 rfl (here (hS.cellX 0 (k := 0) rfl rfl))) rfl ?_
  refine l_val (v_lenS Try.underlying9 rfl) rfl ?_
  refine l_val (v_move rfl) rfl ?_
  refine l_val (v_lss rfl rfl) rfl ?_
  refine l_end ?_
  refine k_code ?_
  refine c_if rfl (fun p1 => ?_) (fun p1 => ?_)
  · skip
    have tk : takeR l sh n = ([], l, true) := if_pos (by omega)
    refine c_seq ?_
    refine c_region ?_
    refine l_val (v_move rfl) rfl ?_
    refine l_val (v_nilCheck rfl) rfl ?_
    refine l_val (v_fieldX (o' := 1) field61_1 rfl rfl) rfl ?_
    refine l_storeX (cs' := _) (L' := (_ :: _)) 0 hS ty4 rfl rfl rfl rfl rfl rfl rfl (fun w hS => ?_)
    refine l_end ?_
    refine k_code ?_
    refine c_seq ?_
    refine c_region ?_
    refine l_val (v_assign rfl) rfl ?_
    refine l_end ?_
    refine k_code ?_
    refine c_ret1 rfl rfl ?_
    exact ⟨by rw [tk]; rfl, hS.keep, by rw [tk]; exact hS.block (i := 0) rfl⟩
  · skip
    have tk : takeR l sh n = (l.take n, l.drop n, sh) := if_neg (by omega)
    refine c_skip ?_
    refine k_code ?_
    refine c_seq ?_
    refine c_region ?_
    refine l_val (v_move rfl) rfl ?_
    refine l_val (v_nilCheck rfl) rfl ?_
    refine l_val (v_fieldX (o' := 0) field61_0 rfl rfl) rfl ?_
    refine l_val (v_load ty9 rfl (here (hS.cellX 0 (k := 0) rfl rfl))) rfl ?_
    refine l_val (v_move rfl) rfl ?_
    refine l_val (v_sliceSTo Try.underlying9 rfl rfl (by omega) (by omega) ) rfl ?_
    refine l_val (v_assign rfl) rfl ?_
    refine l_end ?_
    refine k_code ?_
    refine c_seq ?_
    refine c_region ?_
    refine l_val (v_move rfl) rfl ?_
    refine l_val (v_move rfl) rfl ?_
    refine l_val (v_nilCheck rfl) rfl ?_
    refine l_val (v_fieldX (o' := 0) field61_0 rfl rfl) rfl ?_
    refine l_val (v_load ty9 rfl (here (hS.cellX 0 (k := 0) rfl rfl))) rfl ?_
    refine l_val (v_move rfl) rfl ?_
    refine l_val (v_sliceSFrom Try.underlying9 rfl rfl (by omega) (by omega) ) rfl ?_
    refine l_val (v_nilCheck rfl) rfl ?_
    refine l_val (v_fieldX (o' := 0) field61_0 rfl rfl) rfl ?_
    refine l_storeX (cs' := _) (L' := (_ :: _)) 0 hS ty9 rfl rfl rfl rfl rfl rfl rfl (fun w hS => ?_)
    refine l_end ?_
    refine k_code ?_
    refine c_seq ?_
    refine c_region ?_
    refine l_val (v_move rfl) rfl ?_
    refine l_val (v_assign rfl) rfl ?_
    refine l_end ?_
    refine k_code ?_
    refine c_ret1 rfl rfl ?_
    exact ⟨by rw [tk]; exact rs (by rw [S_ext]; simp), hS.keep, by rw [tk]; refine (hS.block (i := 0) rfl).trans ?_; rw [S_ext, Int.toNat_natCast, List.take_of_length_le (by rw [List.length_drop]; omega)]; rfl⟩
theorem takeR_len {l : List UInt8} {sh : Bool} {n : Nat} : (takeR l sh n).2.1.length ≤ l.length := by
  unfold takeR; split
  · exact Nat.le_refl _
  · show (l.drop n).length ≤ _; rw [List.length_drop]; omega
theorem takeR_len1 {l : List UInt8} {sh : Bool} {n : Nat} : (takeR l sh n).1.length ≤ n := by
  unfold takeR; split
  · exact Nat.zero_le _
  · show (l.take n).length ≤ _; rw [List.length_take]; omega
theorem S_get {l : List UInt8} {i : Nat} (h : i < (S l).size) : (S l)[i] = l.getD i 0 := by
  have h2 : i < l.length := by rw [S_size] at h; exact h
  show l.toArray[i]'(by simpa using h2) = _
  rw [List.getD, List.getElem?_eq_getElem h2]; simp

theorem byte_i64 (b : UInt8) : IntKind.i64.wrap (b.toNat : Int) = (b.toNat : Int) := by
  have hbb := b.toNat_lt
  simp only [Nat.reducePow] at hbb
  exact IntWalk.i64_in _ (by omega)
theorem num_get {l : List UInt8} {i : Nat} (h : i < l.length) : l[i] = l.getD ((i : Nat) : Int).toNat 0 := by rw [Int.toNat_natCast, List.getD, List.getElem?_eq_getElem h]; rfl
set_option maxHeartbeats 1000000 in
theorem number_any (b : Nat) (l : List UInt8) (sh : Bool) (n : Nat) (w0 : World) (hb : w0.heap[b]? = some (.cells (rdC l sh) RD (0, 0))) (hl : l.length ≤ 1073741824) (hn : n ≤ 4) :
    Calls Try.prog 40 [.pointer (some ⟨b, 0, none⟩), .int .i64 n].toArray w0 fun e w' => e = .returned (.int .i64 (numL (takeR l sh n).1 : Nat)) ∧ Keep (· = b) w0 w' ∧ w'.heap[b]? = some (.cells (rdC (takeR l sh n).2.1 (takeR l sh n).2.2) RD (0, 0)) := by
  have hlen := takeR_len1 (l := l) (sh := sh) (n := n)
  generalize htk : takeR l sh n = tk at hlen
  refine enter (n := 25) Try.func40 rfl rfl rfl ?_
  have hS : St (· = b) w0 w0 [.blk b (.cells (rdC l sh) RD (0, 0))] := (St.start _ _).more hb (fun _ h => Or.inr h) (fun _ h => absurd h List.not_mem_nil)
  refine c_seq ?_
  refine c_region ?_
  refine l_val (v_assign rfl) rfl ?_
  refine l_end ?_
  refine k_code ?_
  refine c_seq ?_
  refine c_region ?_
  refine l_val (v_move rfl) rfl ?_
  refine l_val (v_move rfl) rfl ?_
  refine l_call goes41 rfl (take_any b l sh n _ (hS.block (i := 0) rfl) hl) rfl (fun e w hB => ?_)
  rw [htk] at hB
  obtain ⟨rfl, hk1, hb1⟩ := hB
  have hS := hS.turn (i := 0) rfl hk1 hb1
  refine ⟨_, rfl, ?_⟩
  have hz := S_size tk.1
  refine l_val (v_assign rfl) rfl ?_
  refine l_end ?_
  refine k_code ?_
  refine c_seq ?_
  refine c_region ?_
  refine l_val (v_assign rfl) rfl ?_
  refine l_end ?_
  refine k_code ?_
  refine c_seq ?_
  refine c_seq ?_
  refine c_region ?_
  refine l_val (v_assign rfl) rfl ?_
  refine l_end ?_
  refine k_code ?_
  refine c_block ?_
  refine c_loopV [(4, _), (5, _)] (fun (i : Nat) => [(6, .int .i64 (numL (tk.1.take i) : Nat)), (7, .int .i64 i)]) (fun (i : Nat) w => St (· = b) w0 w [.blk b (.cells (rdC tk.2.1 tk.2.2) RD (0, 0))] ∧ i ≤ tk.1.length) (fun (i : Nat) => tk.1.length - i) (0 : Nat) ⟨hS, Nat.zero_le _⟩ (kc rfl (kc rfl (kc rfl (kc rfl kn)))) (fun i w hI => ?_)
  obtain ⟨hS, hI⟩ := hI
  have hlt := Nat.lt_of_lt_of_le (numL_lt (tk.1.take i)) (pow_le4 (by rw [List.length_take]; omega))
  refine c_seq ?_
  refine c_seq ?_
  refine c_region ?_
  refine l_val (v_move rfl) rfl ?_
  refine l_val (v_move rfl) rfl ?_
  refine l_val (v_lenS Try.underlying9 rfl) rfl ?_
  refine l_val (v_lss rfl rfl) rfl ?_
  refine l_end ?_
  refine k_code ?_
  refine c_if rfl (fun p1 => ?_) (fun p1 => ?_)
  · skip
    refine c_skip ?_
    refine k_code ?_
    refine c_seq ?_
    refine c_block ?_
    refine c_region ?_
    refine l_val (v_move rfl) rfl ?_
    refine l_val (v_mul rfl rfl (by omega)) rfl ?_
    refine l_val (v_move rfl) rfl ?_
    refine l_val (v_move rfl) rfl ?_
    refine l_val (v_byteAt Try.underlying9 rfl rfl (by omega) (by omega)) rfl ?_
    refine l_val (v_conv Try.underlying5 Try.underlying3 rfl) rfl ?_
    rw [S_get, byte_i64]
    have hbb := (tk.1.getD ((i : Nat) : Int).toNat 0).toNat_lt
    simp only [Nat.reducePow] at hbb
    refine l_val (v_add rfl rfl (by omega)) rfl ?_
    refine l_val (v_assign rfl) rfl ?_
    refine l_end ?_
    refine k_code ?_
    refine c_region ?_
    refine l_val (v_move rfl) rfl ?_
    refine l_val (v_add rfl rfl (by omega)) rfl ?_
    refine l_val (v_assign rfl) rfl ?_
    refine l_end ?_
    refine fun _ hFr => ⟨(i + 1), (by omega), ⟨hS, by omega⟩, Fr.sub hFr (kc (by rw [List.take_succ_eq_append_getElem (show i < tk.1.length by omega), numL_snoc, num_get (show i < tk.1.length by omega)]; rfl) (kc rfl (kc rfl (kc rfl kn))))⟩
  · skip
    refine c_exit ex_here ?_
    refine k_code ?_
    refine c_seq ?_
    refine c_region ?_
    refine l_val (v_move rfl) rfl ?_
    refine l_val (v_assign rfl) rfl ?_
    refine l_end ?_
    refine k_code ?_
    refine c_ret1 rfl rfl ?_
    exact ⟨by rw [show i = tk.1.length by omega, List.take_length], hS.keep, hS.block (i := 0) rfl⟩
end Go.Proofs.Ytndchgmgcjebiaa
