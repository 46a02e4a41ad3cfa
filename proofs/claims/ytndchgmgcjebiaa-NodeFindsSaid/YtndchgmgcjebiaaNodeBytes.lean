/- The walks of the writing of numbers and nodes. -/
import Derived.Test.YtndchgmgcjebiaaNodeSplit
namespace Go.Proofs.Ytndchgmgcjebiaa
open Go Go.RowKit E
set_option maxRecDepth 100000
set_option linter.unusedVariables false
set_option linter.unusedSimpArgs false

/-- A number's byte, so many bits up. -/
def byteAt (n : Int) (k : Nat) : UInt8 := UInt8.ofNat ((n / 2 ^ k) % 256).toNat
/-- A number in so many bytes, the greatest first. -/
def beI (w : Nat) (n : Int) : List UInt8 := (List.range w).map fun i => byteAt n (8 * (w - 1 - i))
theorem beI_len (w : Nat) (n : Int) : (beI w n).length = w := by simp [beI]
theorem beI_get {w : Nat} {n : Int} {j : Nat} (h : j < w) : (beI w n)[j]? = some (byteAt n (8 * (w - 1 - j))) := by
  unfold beI; rw [List.getElem?_map, List.getElem?_range h]; rfl
theorem byte_raw {n : Int} {k : Nat} (hk : k ≤ 56) : IntKind.u8.wrap (n.fdiv (2 ^ min k IntKind.i64.bits)) = ((byteAt n k).toNat : Int) := by
  rw [show min k IntKind.i64.bits = k from Nat.min_eq_left (by show k ≤ 64; omega), IntKind.wrap_u8', Int.fdiv_eq_ediv_of_nonneg _ (Int.le_of_lt (Int.pow_pos (by decide)))]
  unfold byteAt
  rw [UInt8.toNat_ofNat']
  have h1 := Int.emod_nonneg (n / 2 ^ k) (show (256 : Int) ≠ 0 by decide)
  have h2 := Int.emod_lt_of_pos (n / 2 ^ k) (show (0 : Int) < 256 by decide)
  omega
theorem ints_at {w : World} {A : Option Addr} {l : List Int} (h : Lies w A (l.map fun n => Value.int .i64 n)) {k : Nat} (hk : k < l.length) :
    ∃ ad, A = some ad ∧ w.cell? (ad.add (((k : Nat) : Int).toNat * 1)) = some (.int .i64 (l.getD k 0)) := by
  rcases h with h | ⟨ad, hA, hc⟩
  · have := congrArg List.length h
    rw [List.length_map, List.length_nil] at this
    omega
  · exact ⟨ad, hA, by rw [Int.toNat_natCast, Nat.mul_one]; exact hc k _ (by rw [List.getElem?_map, List.getElem?_eq_getElem hk, List.getD, List.getElem?_eq_getElem hk]; rfl)⟩
def putL (w : Nat) (l : List Int) : List UInt8 := l.flatMap (beI w)
theorem putL_len (w : Nat) (l : List Int) : (putL w l).length = l.length * w := by
  unfold putL
  induction l with
  | nil => simp
  | cons a r ih => rw [List.flatMap_cons, List.length_append, beI_len, ih, List.length_cons, Nat.add_mul]; omega

theorem put_step {w k : Nat} {l : List Int} (h : k < l.length) : putL w (l.take k) ++ (beI w (l.getD k 0)).take w = putL w (l.take (k + 1)) := by
  rw [List.take_of_length_le (l := beI w (l.getD k 0)) (by rw [beI_len]; exact Nat.le_refl _), List.take_succ_eq_append_getElem h, List.getD, List.getElem?_eq_getElem h]
  unfold putL
  rw [List.flatMap_append]
  simp only [List.flatMap_cons, List.flatMap_nil, List.append_nil]
  rfl
set_option maxHeartbeats 2000000 in
theorem put_any' (v0 : Value) (m : Nat) (xs : List Value) (wd : Nat) (A : Option Addr) (l : List Int) (c : Nat) (w0 : World) (hw : wd ≤ 8) (hm : m ≤ 16777216) (hn : l.length ≤ 65536)
    (h0 : St (fun k => v0.ownBlock = some k) w0 w0 [.row 5 1 v0 m xs, .lies A (l.map fun n => Value.int .i64 n)]) :
    Calls Try.prog 32 [v0, .int .i64 wd, .slice A l.length c].toArray w0 fun e w' => ∃ v', e = .returned v' ∧ w'.ownsRow 0 5 1 v' (m + l.length * wd) (xs ++ (putL wd l).map B) ∧
      Keep (fun k => v0.ownBlock = some k) w0 w' ∧ ∀ b, v'.ownBlock = some b → v0.ownBlock = some b ∨ w0.heap.size ≤ b := by
  refine enter (n := 34) Try.func32 rfl rfl rfl ?_
  have hS := h0
  refine c_seq ?_
  refine c_region ?_
  refine l_val (v_assign rfl) rfl ?_
  refine l_end ?_
  refine k_code ?_
  refine c_seq ?_
  refine c_seq ?_
  refine c_region ?_
  refine l_val (v_move rfl) rfl ?_
  refine l_val (v_len Try.underlying65 rfl) rfl ?_
  refine l_val (v_move rfl) rfl ?_
  refine l_end ?_
  refine k_code ?_
  refine c_block ?_
  refine c_loopV [(1, _), (6, _), (10, _), (11, _)] (fun ((k, v) : Nat × Value) => [(0, v), (12, .int .i64 k)]) (fun ((k, v) : Nat × Value) w => St (fun k => v0.ownBlock = some k) w0 w [.row 5 1 v (m + k * wd) (xs ++ (putL wd (l.take k)).map B), .lies A (l.map fun n => Value.int .i64 n)] ∧ k ≤ l.length) (fun ((k, v) : Nat × Value) => l.length - k) ((0 : Nat), v0) ⟨(St.cast hS (by simp [putL])), Nat.zero_le _⟩ (kc rfl (kc rfl (kc rfl (kc rfl (kc rfl (kc rfl kn)))))) (fun xx w hI => ?_)
  obtain ⟨k, v⟩ := xx
  obtain ⟨hS, hI⟩ := hI
  refine c_seq ?_
  refine c_region ?_
  refine l_val (v_lss rfl rfl) rfl ?_
  refine l_end ?_
  refine k_code ?_
  refine c_seq ?_
  refine c_if rfl (fun p1 => ?_) (fun p1 => ?_)
  · skip
    obtain ⟨ad, hA, hcell⟩ := ints_at (hS.lies 1 rfl) (k := k) (by omega)
    have hkw : k * wd ≤ 65536 * 8 := Nat.mul_le_mul (by omega) hw
    refine c_skip ?_
    refine k_code ?_
    refine c_seq ?_
    refine c_block ?_
    refine c_seq ?_
    refine c_region ?_
    refine l_val (v_indexAddrO hA Try.underlying65 ty3.size rfl rfl (by omega) (by omega)) rfl ?_
    refine l_val (v_load ty3 rfl (here (hcell))) rfl ?_
    refine l_val (v_assign rfl) rfl ?_
    refine l_end ?_
    refine k_code ?_
    refine c_seq ?_
    refine c_region ?_
    refine l_val (v_move rfl) rfl ?_
    refine l_val (v_move rfl) rfl ?_
    refine l_end ?_
    refine k_code ?_
    refine c_block ?_
    refine c_loopV [(1, _), (6, _), (8, _), (10, _), (11, _), (12, _), (13, _), (14, _), (15, _), (16, _)] (fun ((j, v) : Nat × Value) => [(0, v), (17, .int .i64 j)]) (fun ((j, v) : Nat × Value) w => St (fun k => v0.ownBlock = some k) w0 w [.row 5 1 v (m + k * wd + j) (xs ++ (putL wd (l.take k) ++ (beI wd (l.getD k 0)).take j).map B), .lies A (l.map fun n => Value.int .i64 n)] ∧ j ≤ wd) (fun ((j, v) : Nat × Value) => wd - j) ((0 : Nat), v) ⟨(St.cast hS (by simp)), Nat.zero_le _⟩ (kc rfl (kc rfl (kc rfl (kc rfl (kc rfl (kc rfl (kc rfl (kc rfl (kc rfl (kc rfl (kc rfl (kc rfl kn)))))))))))) (fun xx w hI => ?_)
    obtain ⟨j, v⟩ := xx
    obtain ⟨hS, hI⟩ := hI
    refine c_seq ?_
    refine c_region ?_
    refine l_val (v_lss rfl rfl) rfl ?_
    refine l_end ?_
    refine k_code ?_
    refine c_seq ?_
    refine c_if rfl (fun p2 => ?_) (fun p2 => ?_)
    · skip
      refine c_skip ?_
      refine k_code ?_
      refine c_seq ?_
      refine c_block ?_
      refine c_seq ?_
      refine c_region ?_
      refine l_val (v_move rfl) rfl ?_
      refine l_val (v_assign rfl) rfl ?_
      refine l_end ?_
      refine k_code ?_
      refine c_region ?_
      refine l_val (v_move rfl) rfl ?_
      refine l_val (v_move rfl) rfl ?_
      refine l_val (v_move rfl) rfl ?_
      refine l_val (v_sub rfl rfl (by omega)) rfl ?_
      refine l_val (v_move rfl) rfl ?_
      refine l_val (v_sub rfl rfl (by omega)) rfl ?_
      refine l_val (v_mul rfl rfl (by omega)) rfl ?_
      refine l_val (v_shr rfl rfl (by omega)) rfl ?_
      refine l_val (v_conv Try.underlying3 Try.underlying5 rfl) rfl ?_
      rw [show (8 * ((wd : Int) - 1 - (j : Int))).toNat = 8 * (wd - 1 - j) by omega, byte_raw (by omega)]
      refine l_sliceN (xs := [.tmp 28]) hS Try.underlying52 ty5 zero5 rfl rfl rfl (by simp [Value.cells, B]) rfl rfl rfl rfl (fun b1 w hS => ?_)
      refine l_appendX (L' := fun _ => (_ :: (_ :: _))) 1 hS Try.underlying52 elem5 rfl rfl rfl rfl (hS.row 0 rfl) (B_one [_]) (by unfold maxLen; omega) (by omega) rfl (fun _ => rfl) (fun va1 w hS hvva1 => ?_)
      refine l_val (v_assign rfl) rfl ?_
      refine l_end ?_
      refine k_code ?_
      refine c_region ?_
      refine l_val (v_add rfl rfl (by omega)) rfl ?_
      refine l_val (v_move rfl) rfl ?_
      refine l_end ?_
      refine fun _ hFr => ⟨(j + 1, va1), (by dsimp only; omega), ⟨(St.cast (hS.less (.cons _ (List.Sublist.refl _))) (by rw [List.take_add_one, beI_get (by omega)]; simp [B, Nat.add_assoc])), by omega⟩, Fr.sub hFr (kc rfl (kc rfl (kc rfl (kc rfl (kc rfl (kc rfl (kc rfl (kc rfl (kc rfl (kc rfl (kc rfl (kc rfl kn))))))))))))⟩
    · skip
      refine c_exit ex_here ?_
      refine k_code ?_
      refine c_region ?_
      refine l_val (v_add rfl rfl (by omega)) rfl ?_
      refine l_val (v_move rfl) rfl ?_
      refine l_end ?_
      refine fun _ hFr => ⟨(k + 1, v), (by dsimp only; omega), ⟨(St.cast hS (by rw [show j = wd by omega, put_step (by omega), Nat.add_mul, Nat.one_mul, Nat.add_assoc])), by omega⟩, Fr.sub hFr (kc rfl (kc rfl (kc rfl (kc rfl (kc rfl (kc rfl kn))))))⟩
  · skip
    refine c_exit ex_here ?_
    refine k_code ?_
    refine c_seq ?_
    refine c_region ?_
    refine l_val (v_move rfl) rfl ?_
    refine l_val (v_assign rfl) rfl ?_
    refine l_end ?_
    refine k_code ?_
    refine c_ret1 rfl rfl ?_
    exact ⟨v, rfl, by have := hS.rowAt 0 rfl; rw [show k = l.length by omega, List.take_length] at this; exact this, hS.keep, hS.rowFrom 0 rfl⟩
/-! ### Bytes -/

def cellB (leaf : Bool) (c : Cel) : List UInt8 := beI 1 c.key.size ++ c.key.data.toList ++
  if leaf = false then beI 4 c.page else if c.page = 0 then beI 1 0 ++ beI 1 c.val.size ++ c.val.data.toList else beI 1 1 ++ beI 4 c.page ++ beI 4 c.size
def bytesTo (leaf : Bool) (cs : List Cel) (k : Nat) : List UInt8 := beI 2 cs.length ++ (cs.take k).flatMap (cellB leaf)
def bytesL (leaf : Bool) (cs : List Cel) : List UInt8 := beI 2 cs.length ++ cs.flatMap (cellB leaf)
/-- A node's bytes, and an error. -/
def bytesR (leaf : Bool) (cs : List Cel) : ByteArray × Int := if chkI leaf cs = 0 then (if sizeS leaf cs ≤ 1013 then (⟨(bytesL leaf cs).toArray⟩, 0) else (⟨#[]⟩, 11)) else (⟨#[]⟩, chkI leaf cs)
theorem bytesTo_step {leaf : Bool} {cs : List Cel} {k : Nat} (h : k < cs.length) : bytesTo leaf cs (k + 1) = bytesTo leaf cs k ++ cellB leaf (cAt cs k) := by
  unfold bytesTo; rw [List.take_succ_eq_append_getElem h, ← cAt_get h]; simp
theorem cellB_len {leaf : Bool} {c : Cel} : (cellB leaf c).length = bytesS leaf c := by
  have hk : c.key.data.toList.length = c.key.size := Array.length_toList
  have hv : c.val.data.toList.length = c.val.size := Array.length_toList
  unfold cellB bytesS
  split
  · simp only [List.length_append, beI_len, hk]
  · split
    · simp only [List.length_append, beI_len, hk, hv]
    · simp only [List.length_append, beI_len, hk]
theorem bytesTo_len {leaf : Bool} {cs : List Cel} : ∀ {k : Nat}, k ≤ cs.length → (bytesTo leaf cs k).length = sizeTo leaf cs k
  | 0, _ => by simp [bytesTo, beI_len, sizeTo]
  | k + 1, h => by rw [bytesTo_step (by omega), List.length_append, bytesTo_len (by omega), cellB_len]; rfl
theorem bytesTo_all {leaf : Bool} {cs : List Cel} : bytesTo leaf cs cs.length = bytesL leaf cs := by unfold bytesTo bytesL; rw [List.take_length]
theorem sizeTo_mono {leaf : Bool} {cs : List Cel} {j k : Nat} (h : j ≤ k) : sizeTo leaf cs j ≤ sizeTo leaf cs k := by
  induction k with
  | zero => obtain rfl : j = 0 := by omega
            exact Nat.le_refl _
  | succ k ih =>
    by_cases e : j = k + 1
    · subst e; exact Nat.le_refl _
    · have := ih (by omega); simp only [sizeTo]; omega
theorem good_of {leaf : Bool} {cs : List Cel} (h : chkI leaf cs = 0) : Good leaf cs := by
  unfold chkI at h; split at h
  · assumption
  · cases h
theorem byteCells_eq (s : ByteArray) : byteCells s = s.data.toList.map B := rfl
theorem ent2 {e s m m' : Nat} {v : Value} {xs xs' : List Value} {N : List Ent} (hm : m = m') (hx : xs = xs') : Ent.row e s v m xs :: N = Ent.row e s v m' xs' :: N := by rw [hm, hx]
section
variable {leaf : Bool} {cs : List Cel} {k : Nat}
theorem size_a (h : leaf = false) : sizeTo leaf cs k + [((cAt cs k).key.size : Int)].length * 1 + (cAt cs k).key.size + [(cAt cs k).page].length * 4 = sizeTo leaf cs (k + 1) := by
  have e : bytesS leaf (cAt cs k) = 1 + (cAt cs k).key.size + 4 := by unfold bytesS; rw [if_pos h]
  show _ = sizeTo leaf cs k + bytesS leaf (cAt cs k)
  rw [e]; simp only [List.length_cons, List.length_nil]; omega
theorem bytes_a (hk : k < cs.length) (h : leaf = false) : (bytesTo leaf cs k).map B ++ (putL 1 [((cAt cs k).key.size : Int)]).map B ++ byteCells (cAt cs k).key ++ (putL 4 [(cAt cs k).page]).map B = (bytesTo leaf cs (k + 1)).map B := by
  rw [bytesTo_step hk]; unfold cellB; rw [if_pos h]; simp [putL, byteCells_eq]
theorem size_b (h : leaf = true) (hp : ¬ (cAt cs k).page = 0) : sizeTo leaf cs k + [((cAt cs k).key.size : Int)].length * 1 + (cAt cs k).key.size + [(1 : Int)].length * 1 + [(cAt cs k).page, (cAt cs k).size].length * 4 = sizeTo leaf cs (k + 1) := by
  have e : bytesS leaf (cAt cs k) = 1 + (cAt cs k).key.size + 9 := by unfold bytesS; rw [if_neg (by rw [h]; simp), if_neg hp]
  show _ = sizeTo leaf cs k + bytesS leaf (cAt cs k)
  rw [e]; simp only [List.length_cons, List.length_nil]; omega
theorem bytes_b (hk : k < cs.length) (h : leaf = true) (hp : ¬ (cAt cs k).page = 0) : (bytesTo leaf cs k).map B ++ (putL 1 [((cAt cs k).key.size : Int)]).map B ++ byteCells (cAt cs k).key ++ (putL 1 [1]).map B ++ (putL 4 [(cAt cs k).page, (cAt cs k).size]).map B = (bytesTo leaf cs (k + 1)).map B := by
  rw [bytesTo_step hk]; unfold cellB; rw [if_neg (by rw [h]; simp), if_neg hp]; simp [putL, byteCells_eq]
theorem size_c (h : leaf = true) (hp : (cAt cs k).page = 0) : sizeTo leaf cs k + [((cAt cs k).key.size : Int)].length * 1 + (cAt cs k).key.size + [0, ((cAt cs k).val.size : Int)].length * 1 + (cAt cs k).val.size = sizeTo leaf cs (k + 1) := by
  have e : bytesS leaf (cAt cs k) = 1 + (cAt cs k).key.size + (2 + (cAt cs k).val.size) := by unfold bytesS; rw [if_neg (by rw [h]; simp), if_pos hp]
  show _ = sizeTo leaf cs k + bytesS leaf (cAt cs k)
  rw [e]; simp only [List.length_cons, List.length_nil]; omega
theorem bytes_c (hk : k < cs.length) (h : leaf = true) (hp : (cAt cs k).page = 0) : (bytesTo leaf cs k).map B ++ (putL 1 [((cAt cs k).key.size : Int)]).map B ++ byteCells (cAt cs k).key ++ (putL 1 [0, ((cAt cs k).val.size : Int)]).map B ++ byteCells (cAt cs k).val = (bytesTo leaf cs (k + 1)).map B := by
  rw [bytesTo_step hk]; unfold cellB; rw [if_neg (by rw [h]; simp), if_pos hp]; simp [putL, byteCells_eq]
end
theorem lies1 {w : World} {b : Nat} {n : Int} {L : List Ent} {S : Nat → Prop} {w0 : World} (h : St S w0 w L) (i : Nat) (hi : L[i]? = some (.lies (some ⟨b, 0, none⟩) [Value.int .i64 n])) : True := trivial

set_option maxHeartbeats 4000000 in
theorem nbytes_any (leaf : Bool) (A : Option Addr) (cs : List Cel) (c : Nat) (w0 : World) (hl : Lies w0 A (cellsOf cs)) (hs : Smalls cs) :
    Calls Try.prog 10 [.agg #[.bool leaf, .slice A cs.length c]].toArray w0 fun e w' => e = .returned (.tuple #[.string (bytesR leaf cs).1, .int .i64 (bytesR leaf cs).2]) ∧ Keep No w0 w' := by
  have hn := hs.1
  refine enter (n := 73) Try.func10 rfl rfl rfl ?_
  have hS := St.start No w0
  refine c_seq ?_
  refine c_region ?_
  refine l_box (cs := #[_, _]) hS rfl rfl rfl (fun b1 w hS => ?_)
  refine l_val (v_assign rfl) rfl ?_
  refine l_val (v_assign rfl) rfl ?_
  refine l_end ?_
  refine k_code ?_
  refine c_seq ?_
  refine c_region ?_
  refine l_val (v_loadW tyN24 rfl rfl (hereN (hS.rowX 0 rfl))) rfl ?_
  refine l_callK goes12 rfl hS (check_any _ _ _ _ _ (hl.keep hS.keep) (by omega)) rfl (fun w hS => ?_)
  refine l_val (v_assign rfl) rfl ?_
  refine l_end ?_
  refine k_code ?_
  refine c_seq ?_
  refine c_block ?_
  refine c_seq ?_
  refine c_region ?_
  refine l_val (v_move rfl) rfl ?_
  refine l_val (v_neq rfl rfl) rfl ?_
  refine l_val (v_assign rfl) rfl ?_
  refine l_end ?_
  refine k_code ?_
  refine c_if rfl (fun p1 => ?_) (fun p1 => ?_)
  · skip
    refine c_seq ?_
    refine c_region ?_
    refine l_val (v_move rfl) rfl ?_
    refine l_val (v_assign rfl) rfl ?_
    refine l_val (v_assign rfl) rfl ?_
    refine l_end ?_
    refine k_code ?_
    refine c_ret2 rfl rfl rfl ?_
    exact ⟨by rw [show bytesR leaf cs = (⟨#[]⟩, chkI leaf cs) from if_neg p1], hS.keep⟩
  · skip
    refine c_seq ?_
    refine c_region ?_
    refine l_val (v_loadW tyN24 rfl rfl (hereN (hS.rowX 0 rfl))) rfl ?_
    refine l_callK goes16 rfl hS (fits_any _ _ _ _ _ (hl.keep hS.keep) hs) rfl (fun w hS => ?_)
    refine l_val (v_not rfl) rfl ?_
    refine l_val (v_assign rfl) rfl ?_
    refine l_end ?_
    refine k_code ?_
    refine c_cond rfl (fun p2 => ?_) (fun p2 => ?_)
    · skip
      have hc0 : chkI leaf cs = 0 := by omega
      refine c_seq ?_
      refine c_region ?_
      refine l_val (v_assign rfl) rfl ?_
      refine l_val (v_assign rfl) rfl ?_
      refine l_end ?_
      refine k_code ?_
      refine c_ret2 rfl rfl rfl ?_
      exact ⟨by rw [show bytesR leaf cs = (⟨#[]⟩, 11) from by unfold bytesR; rw [if_pos hc0, if_neg (by simpa using p2)]], hS.keep⟩
    · skip
      have hc0 : chkI leaf cs = 0 := by omega
      have hfit : sizeS leaf cs ≤ 1013 := by simpa using p2
      have hgood := good_of hc0
      refine c_skip ?_
      refine k_code ?_
      refine c_seq ?_
      refine c_region ?_
      refine l_val (v_fieldX (o' := 1) field24_1 rfl rfl) rfl ?_
      refine l_val (v_load ty22 rfl (here (hS.cellX 0 (k := 1) rfl rfl))) rfl ?_
      refine l_val (v_len Try.underlying22 rfl) rfl ?_
      refine l_sliceN (xs := [.tmp 20]) hS Try.underlying65 ty3 zero3 rfl rfl rfl (by simp [Value.cells, B]) rfl rfl rfl rfl (fun b2 w hS => ?_)
      have hS := (hS.nil 5 1)
      refine l_call goes32 rfl (put_any' (.slice none 0 0) 0 [] 2 (some ⟨b2, 0, none⟩) [(cs.length : Int)] 1 _ (by omega) (by omega) (by simp) ((hS.freezeB 1 rfl).focusRow 0 1 rfl rfl)) rfl (fun e w hB => ?_)
      obtain ⟨v5, rfl, hrow, hk5, hf5⟩ := hB
      have hS := hS.turned (i := 0) rfl hk5 hrow hf5
      refine ⟨_, rfl, ?_⟩
      refine l_val (v_assign rfl) rfl ?_
      refine l_end ?_
      refine k_code ?_
      refine c_seq ?_
      refine c_seq ?_
      refine c_region ?_
      refine l_val (v_fieldX (o' := 1) field24_1 rfl rfl) rfl ?_
      refine l_val (v_load ty22 rfl (here (hS.cellX 2 (k := 1) rfl rfl))) rfl ?_
      refine l_val (v_len Try.underlying22 rfl) rfl ?_
      refine l_val (v_move rfl) rfl ?_
      refine l_end ?_
      refine k_code ?_
      refine c_block ?_
      refine c_loopV [(1, _), (2, _), (3, _), (24, _), (25, _)] (fun ((k, v) : Nat × Value) => [(5, v), (26, .int .i64 k)]) (fun ((k, v) : Nat × Value) w => St No w0 w [.row 5 1 v (sizeTo leaf cs k) ((bytesTo leaf cs k).map B), .blk b1 (.cells #[.bool leaf, .slice A cs.length c] 24 (0, 0))] ∧ k ≤ cs.length) (fun ((k, v) : Nat × Value) => cs.length - k) ((0 : Nat), v5) ⟨(St.cast (hS.arr [0, 2]) (by simp [putL, bytesTo, sizeTo]; rfl)), Nat.zero_le _⟩ (kc rfl (kc rfl (kc rfl (kc rfl (kc rfl (kc rfl (kc rfl kn))))))) (fun xx w hI => ?_)
      obtain ⟨k, v⟩ := xx
      obtain ⟨hS, hI⟩ := hI
      have hsz : sizeTo leaf cs k ≤ 1013 := Nat.le_trans (sizeTo_mono hI) hfit
      refine c_seq ?_
      refine c_region ?_
      refine l_val (v_lss rfl rfl) rfl ?_
      refine l_end ?_
      refine k_code ?_
      refine c_seq ?_
      refine c_if rfl (fun p3 => ?_) (fun p3 => ?_)
      · skip
        obtain ⟨ad, hA, hcell⟩ := cell_k hl (k := k) (by omega)
        have hsm := hs.2 _ (cAt_mem (show k < cs.length by omega))
        have hs1 := hsm.1; have hs2 := hsm.2
        refine c_skip ?_
        refine k_code ?_
        refine c_cutV [(1, _), (2, _), (3, _), (24, _), (25, _), (26, _), (27, _)] (fun (v : Value) => [(5, v)]) (fun (v : Value) w => St No w0 w [.row 5 1 v (sizeTo leaf cs (k + 1)) ((bytesTo leaf cs (k + 1)).map B), .blk b1 (.cells #[.bool leaf, .slice A cs.length c] 24 (0, 0))] ∧ True) (kc rfl (kc rfl (kc rfl (kc rfl (kc rfl (kc rfl (kc rfl kn))))))) ?_ (fun v w hI => ?_)
        · skip
          refine c_block ?_
          refine c_seq ?_
          refine c_region ?_
          refine l_val (v_indexAddrO hA Try.underlying22 tyN27.size rfl rfl (by omega) (by omega)) rfl ?_
          refine l_val (v_loadN (cs := enc (cAt cs k)) tyN27 rfl rfl (hereN (fun j v hj => hS.old (hcell j v hj)))) rfl ?_
          refine l_alloc (cs := #[_, _, _, _]) hS zero27 rfl rfl (fun b3 w hS => ?_)
          refine l_storeNX (cs' := #[_, _, _, _]) (L' := (_ :: _)) 0 hS tyN27 rfl rfl rfl rfl rfl rfl rfl rfl (fun w hS => ?_)
          refine l_end ?_
          refine k_code ?_
          refine c_seq ?_
          refine d_region (fun w => St No w0 w [.blk b3 (.cells (enc (cAt cs k)).toArray 27 (0, 0))]) 10 mixed ?_
          have hS := hS.drew 1
          have hR : St No w0 _ [.blk b3 (.cells (enc (cAt cs k)).toArray 27 (0, 0))] := hS.less (.cons_cons _ (.cons _ (.cons _ (.slnil))))
          refine d_take 0 rfl (by kernel_rfl) (by kernel_rfl) (by kernel_rfl) (by kernel_rfl) hR (v_move rfl) rfl ?_
          refine d_take 1 rfl (by kernel_rfl) (by kernel_rfl) (by kernel_rfl) (by kernel_rfl) hR (v_fieldX (o' := 0) field27_0 rfl rfl) rfl ?_
          refine d_take 2 rfl (by kernel_rfl) (by kernel_rfl) (by kernel_rfl) (by kernel_rfl) hR (v_load ty9 rfl (fun _ h => h.cellX 0 (k := 0) rfl rfl)) rfl ?_
          refine d_take 3 rfl (by kernel_rfl) (by kernel_rfl) (by kernel_rfl) (by kernel_rfl) hR (v_lenS Try.underlying9 rfl) rfl ?_
          refine d_take 6 rfl (by kernel_rfl) (by kernel_rfl) (by kernel_rfl) (by kernel_rfl) hR (v_fieldX (o' := 0) field27_0 rfl rfl) rfl ?_
          refine d_take 7 rfl (by kernel_rfl) (by kernel_rfl) (by kernel_rfl) (by kernel_rfl) hR (v_load ty9 rfl (fun _ h => h.cellX 0 (k := 0) rfl rfl)) rfl ?_
          refine d_one 4 rfl (by kernel_rfl) ?_
          refine l_sliceN (xs := [.tmp 33]) hS Try.underlying65 ty3 zero3 rfl rfl rfl (by simp [Value.cells, B]) rfl rfl rfl rfl (fun b4 w hS => ?_)
          refine l_end ?_
          have hR : St No w0 _ [.blk b3 (.cells (enc (cAt cs k)).toArray 27 (0, 0))] := hS.less (.cons _ (.cons_cons _ (.cons _ (.cons _ (.slnil)))))
          refine d_on (S := (fun w => St No w0 w [.blk b3 (.cells (enc (cAt cs k)).toArray 27 (0, 0))])) hR ?_
          refine d_one 5 rfl (by kernel_rfl) ?_
          refine l_call goes32 rfl (put_any' _ _ _ 1 _ [((cAt cs k).key.size : Int)] _ _ (by omega) (by first | omega | (simp only [List.length_cons, List.length_nil]; omega)) (by simp) ((hS.freezeB 0 rfl).focusRow 2 0 rfl rfl)) rfl (fun e w hB => ?_)
          obtain ⟨v5, rfl, hrow, hk5, hf5⟩ := hB; have hS := (hS.freezeB 0 rfl).turned (i := 2) rfl hk5 hrow hf5; refine ⟨_, rfl, ?_⟩
          refine l_end ?_
          have hR : St No w0 _ [.blk b3 (.cells (enc (cAt cs k)).toArray 27 (0, 0))] := hS.less (.cons _ (.cons_cons _ (.cons _ (.cons _ (.slnil)))))
          refine d_on (S := (fun w => St No w0 w [.blk b3 (.cells (enc (cAt cs k)).toArray 27 (0, 0))])) hR ?_
          refine d_one 8 rfl (by kernel_rfl) ?_
          refine l_appendS 2 hS Try.underlying52 elem5 rfl rfl rfl (Src.ofString _ Try.underlying9 (cAt cs k).key) (by unfold maxLen; simp only [List.length_cons, List.length_nil]; omega) (by simp only [List.length_cons, List.length_nil]; omega) rfl (fun v5 w hS _ => ?_)
          refine l_end ?_
          have hR : St No w0 _ [.blk b3 (.cells (enc (cAt cs k)).toArray 27 (0, 0))] := hS.less (.cons _ (.cons_cons _ (.cons _ (.cons _ (.slnil)))))
          refine d_on (S := (fun w => St No w0 w [.blk b3 (.cells (enc (cAt cs k)).toArray 27 (0, 0))])) hR ?_
          refine d_one 9 rfl (by kernel_rfl) ?_
          refine l_val (v_assign rfl) rfl ?_
          refine l_end ?_
          have hR : St No w0 _ [.blk b3 (.cells (enc (cAt cs k)).toArray 27 (0, 0))] := hS.less (.cons _ (.cons_cons _ (.cons _ (.cons _ (.slnil)))))
          refine d_on (S := (fun w => St No w0 w [.blk b3 (.cells (enc (cAt cs k)).toArray 27 (0, 0))])) hR ?_
          refine d_end (by kernel_rfl) ?_
          refine k_code ?_
          refine c_block ?_
          refine c_seq ?_
          refine c_region ?_
          refine l_val (v_fieldX (o' := 0) field24_0 rfl rfl) rfl ?_
          refine l_val (v_load ty4 rfl (here (hS.cellX 3 (k := 0) rfl rfl))) rfl ?_
          refine l_val (v_not rfl) rfl ?_
          refine l_val (v_assign rfl) rfl ?_
          refine l_end ?_
          refine k_code ?_
          refine c_cond rfl (fun p4 => ?_) (fun p4 => ?_)
          · skip
            refine c_region ?_
            refine l_val (v_move rfl) rfl ?_
            refine l_val (v_fieldX (o' := 2) field27_2 rfl rfl) rfl ?_
            refine l_val (v_load ty3 rfl (here (hS.cellX 1 (k := 2) rfl rfl))) rfl ?_
            refine l_sliceN (xs := [.tmp 54]) hS Try.underlying65 ty3 zero3 rfl rfl rfl (by simp [Value.cells, B]) rfl rfl rfl rfl (fun b5 w hS => ?_)
            refine l_call goes32 rfl (put_any' _ _ _ 4 _ [(cAt cs k).page] _ _ (by omega) (by first | omega | (simp only [List.length_cons, List.length_nil]; omega)) (by simp) ((hS.freezeB 0 rfl).focusRow 3 0 rfl rfl)) rfl (fun e w hB => ?_)
            obtain ⟨v5, rfl, hrow, hk5, hf5⟩ := hB; have hS := (hS.freezeB 0 rfl).turned (i := 3) rfl hk5 hrow hf5; refine ⟨_, rfl, ?_⟩
            refine l_val (v_assign rfl) rfl ?_
            refine l_end ?_
            refine fun _ hFr => ⟨v5, ⟨(St.cast (hS.arr [3, 4]) (ent2 (size_a (not_tt p4)) (bytes_a (by omega) (not_tt p4)))), trivial⟩, Fr.sub hFr (kc rfl (kc rfl (kc rfl (kc rfl (kc rfl (kc rfl (kc rfl (kc rfl kn))))))))⟩
          · skip
            refine c_seq ?_
            refine c_region ?_
            refine l_val (v_fieldX (o' := 2) field27_2 rfl rfl) rfl ?_
            refine l_val (v_load ty3 rfl (here (hS.cellX 1 (k := 2) rfl rfl))) rfl ?_
            refine l_val (v_neq rfl rfl) rfl ?_
            refine l_val (v_assign rfl) rfl ?_
            refine l_end ?_
            refine k_code ?_
            refine c_if rfl (fun p5 => ?_) (fun p5 => ?_)
            · skip
              refine d_region (fun w => St No w0 w [.blk b3 (.cells (enc (cAt cs k)).toArray 27 (0, 0))]) 10 mixed ?_
              have hS := hS.drew 1
              have hR : St No w0 _ [.blk b3 (.cells (enc (cAt cs k)).toArray 27 (0, 0))] := hS.less (.cons _ (.cons_cons _ (.cons _ (.cons _ (.slnil)))))
              refine d_take 0 rfl (by kernel_rfl) (by kernel_rfl) (by kernel_rfl) (by kernel_rfl) hR (v_move rfl) rfl ?_
              refine d_take 3 rfl (by kernel_rfl) (by kernel_rfl) (by kernel_rfl) (by kernel_rfl) hR (v_fieldX (o' := 2) field27_2 rfl rfl) rfl ?_
              refine d_take 4 rfl (by kernel_rfl) (by kernel_rfl) (by kernel_rfl) (by kernel_rfl) hR (v_load ty3 rfl (fun _ h => h.cellX 0 (k := 2) rfl rfl)) rfl ?_
              refine d_take 5 rfl (by kernel_rfl) (by kernel_rfl) (by kernel_rfl) (by kernel_rfl) hR (v_fieldX (o' := 3) field27_3 rfl rfl) rfl ?_
              refine d_take 6 rfl (by kernel_rfl) (by kernel_rfl) (by kernel_rfl) (by kernel_rfl) hR (v_load ty3 rfl (fun _ h => h.cellX 0 (k := 3) rfl rfl)) rfl ?_
              refine d_two 1 7 rfl rfl (by kernel_rfl) ?_ ?_
              · skip
                refine l_sliceN (xs := [.const (.int .i64 1)]) hS Try.underlying65 ty3 zero3 rfl rfl rfl (by simp [Value.cells, B]) rfl rfl rfl rfl (fun b5 w hS => ?_)
                refine l_end ?_
                have hR : St No w0 _ [.blk b3 (.cells (enc (cAt cs k)).toArray 27 (0, 0))] := hS.less (.cons _ (.cons _ (.cons_cons _ (.cons _ (.cons _ (.slnil))))))
                refine d_on (S := (fun w => St No w0 w [.blk b3 (.cells (enc (cAt cs k)).toArray 27 (0, 0))])) hR ?_
                refine d_two 2 7 rfl rfl (by kernel_rfl) ?_ ?_
                · skip
                  refine l_call goes32 rfl (put_any' _ _ _ 1 _ [1] _ _ (by omega) (by first | omega | (simp only [List.length_cons, List.length_nil]; omega)) (by simp) ((hS.freezeB 0 rfl).focusRow 3 0 rfl rfl)) rfl (fun e w hB => ?_)
                  obtain ⟨v5, rfl, hrow, hk5, hf5⟩ := hB; have hS := (hS.freezeB 0 rfl).turned (i := 3) rfl hk5 hrow hf5; refine ⟨_, rfl, ?_⟩
                  refine l_end ?_
                  have hR : St No w0 _ [.blk b3 (.cells (enc (cAt cs k)).toArray 27 (0, 0))] := hS.less (.cons _ (.cons _ (.cons_cons _ (.cons _ (.cons _ (.slnil))))))
                  refine d_on (S := (fun w => St No w0 w [.blk b3 (.cells (enc (cAt cs k)).toArray 27 (0, 0))])) hR ?_
                  refine d_one 7 rfl (by kernel_rfl) ?_
                  refine l_sliceN (xs := [.tmp 65, .tmp 67]) hS Try.underlying65 ty3 zero3 rfl rfl rfl (by simp [Value.cells, B]) rfl rfl rfl rfl (fun b6 w hS => ?_)
                  refine l_end ?_
                  have hR : St No w0 _ [.blk b3 (.cells (enc (cAt cs k)).toArray 27 (0, 0))] := hS.less (.cons _ (.cons _ (.cons _ (.cons_cons _ (.cons _ (.cons _ (.slnil)))))))
                  refine d_on (S := (fun w => St No w0 w [.blk b3 (.cells (enc (cAt cs k)).toArray 27 (0, 0))])) hR ?_
                  refine d_one 8 rfl (by kernel_rfl) ?_
                  refine l_call goes32 rfl (put_any' _ _ _ 4 _ [(cAt cs k).page, (cAt cs k).size] _ _ (by omega) (by first | omega | (simp only [List.length_cons, List.length_nil]; omega)) (by simp) ((hS.freezeB 0 rfl).focusRow 4 0 rfl rfl)) rfl (fun e w hB => ?_)
                  obtain ⟨v5, rfl, hrow, hk5, hf5⟩ := hB; have hS := (hS.freezeB 0 rfl).turned (i := 4) rfl hk5 hrow hf5; refine ⟨_, rfl, ?_⟩
                  refine l_end ?_
                  have hR : St No w0 _ [.blk b3 (.cells (enc (cAt cs k)).toArray 27 (0, 0))] := hS.less (.cons _ (.cons _ (.cons _ (.cons_cons _ (.cons _ (.cons _ (.slnil)))))))
                  refine d_on (S := (fun w => St No w0 w [.blk b3 (.cells (enc (cAt cs k)).toArray 27 (0, 0))])) hR ?_
                  refine d_one 9 rfl (by kernel_rfl) ?_
                  refine l_val (v_assign rfl) rfl ?_
                  refine l_end ?_
                  have hR : St No w0 _ [.blk b3 (.cells (enc (cAt cs k)).toArray 27 (0, 0))] := hS.less (.cons _ (.cons _ (.cons _ (.cons_cons _ (.cons _ (.cons _ (.slnil)))))))
                  refine d_on (S := (fun w => St No w0 w [.blk b3 (.cells (enc (cAt cs k)).toArray 27 (0, 0))])) hR ?_
                  refine d_end (by kernel_rfl) ?_
                  refine fun _ hFr => ⟨v5, ⟨(St.cast (hS.arr [4, 5]) (ent2 (size_b (notnot p4) p5) (bytes_b (by omega) (notnot p4) p5))), trivial⟩, Fr.sub hFr (kc rfl (kc rfl (kc rfl (kc rfl (kc rfl (kc rfl (kc rfl (kc rfl kn))))))))⟩
                · skip
                  refine l_sliceN (xs := [.tmp 65, .tmp 67]) hS Try.underlying65 ty3 zero3 rfl rfl rfl (by simp [Value.cells, B]) rfl rfl rfl rfl (fun b6 w hS => ?_)
                  refine l_end ?_
                  have hR : St No w0 _ [.blk b3 (.cells (enc (cAt cs k)).toArray 27 (0, 0))] := hS.less (.cons _ (.cons _ (.cons _ (.cons_cons _ (.cons _ (.cons _ (.slnil)))))))
                  refine d_on (S := (fun w => St No w0 w [.blk b3 (.cells (enc (cAt cs k)).toArray 27 (0, 0))])) hR ?_
                  refine d_one 2 rfl (by kernel_rfl) ?_
                  refine l_call goes32 rfl (put_any' _ _ _ 1 _ [1] _ _ (by omega) (by first | omega | (simp only [List.length_cons, List.length_nil]; omega)) (by simp) ((hS.freezeB 1 rfl).focusRow 4 1 rfl rfl)) rfl (fun e w hB => ?_)
                  obtain ⟨v5, rfl, hrow, hk5, hf5⟩ := hB; have hS := (hS.freezeB 1 rfl).turned (i := 4) rfl hk5 hrow hf5; refine ⟨_, rfl, ?_⟩
                  refine l_end ?_
                  have hR : St No w0 _ [.blk b3 (.cells (enc (cAt cs k)).toArray 27 (0, 0))] := hS.less (.cons _ (.cons _ (.cons _ (.cons_cons _ (.cons _ (.cons _ (.slnil)))))))
                  refine d_on (S := (fun w => St No w0 w [.blk b3 (.cells (enc (cAt cs k)).toArray 27 (0, 0))])) hR ?_
                  refine d_one 8 rfl (by kernel_rfl) ?_
                  refine l_call goes32 rfl (put_any' _ _ _ 4 _ [(cAt cs k).page, (cAt cs k).size] _ _ (by omega) (by first | omega | (simp only [List.length_cons, List.length_nil]; omega)) (by simp) ((hS.freezeB 0 rfl).focusRow 4 0 rfl rfl)) rfl (fun e w hB => ?_)
                  obtain ⟨v5, rfl, hrow, hk5, hf5⟩ := hB; have hS := (hS.freezeB 0 rfl).turned (i := 4) rfl hk5 hrow hf5; refine ⟨_, rfl, ?_⟩
                  refine l_end ?_
                  have hR : St No w0 _ [.blk b3 (.cells (enc (cAt cs k)).toArray 27 (0, 0))] := hS.less (.cons _ (.cons _ (.cons _ (.cons_cons _ (.cons _ (.cons _ (.slnil)))))))
                  refine d_on (S := (fun w => St No w0 w [.blk b3 (.cells (enc (cAt cs k)).toArray 27 (0, 0))])) hR ?_
                  refine d_one 9 rfl (by kernel_rfl) ?_
                  refine l_val (v_assign rfl) rfl ?_
                  refine l_end ?_
                  have hR : St No w0 _ [.blk b3 (.cells (enc (cAt cs k)).toArray 27 (0, 0))] := hS.less (.cons _ (.cons _ (.cons _ (.cons_cons _ (.cons _ (.cons _ (.slnil)))))))
                  refine d_on (S := (fun w => St No w0 w [.blk b3 (.cells (enc (cAt cs k)).toArray 27 (0, 0))])) hR ?_
                  refine d_end (by kernel_rfl) ?_
                  refine fun _ hFr => ⟨v5, ⟨(St.cast (hS.arr [4, 5]) (ent2 (size_b (notnot p4) p5) (bytes_b (by omega) (notnot p4) p5))), trivial⟩, Fr.sub hFr (kc rfl (kc rfl (kc rfl (kc rfl (kc rfl (kc rfl (kc rfl (kc rfl kn))))))))⟩
              · skip
                refine l_sliceN (xs := [.tmp 65, .tmp 67]) hS Try.underlying65 ty3 zero3 rfl rfl rfl (by simp [Value.cells, B]) rfl rfl rfl rfl (fun b5 w hS => ?_)
                refine l_end ?_
                have hR : St No w0 _ [.blk b3 (.cells (enc (cAt cs k)).toArray 27 (0, 0))] := hS.less (.cons _ (.cons _ (.cons_cons _ (.cons _ (.cons _ (.slnil))))))
                refine d_on (S := (fun w => St No w0 w [.blk b3 (.cells (enc (cAt cs k)).toArray 27 (0, 0))])) hR ?_
                refine d_one 1 rfl (by kernel_rfl) ?_
                refine l_sliceN (xs := [.const (.int .i64 1)]) hS Try.underlying65 ty3 zero3 rfl rfl rfl (by simp [Value.cells, B]) rfl rfl rfl rfl (fun b6 w hS => ?_)
                refine l_end ?_
                have hR : St No w0 _ [.blk b3 (.cells (enc (cAt cs k)).toArray 27 (0, 0))] := hS.less (.cons _ (.cons _ (.cons _ (.cons_cons _ (.cons _ (.cons _ (.slnil)))))))
                refine d_on (S := (fun w => St No w0 w [.blk b3 (.cells (enc (cAt cs k)).toArray 27 (0, 0))])) hR ?_
                refine d_one 2 rfl (by kernel_rfl) ?_
                refine l_call goes32 rfl (put_any' _ _ _ 1 _ [1] _ _ (by omega) (by first | omega | (simp only [List.length_cons, List.length_nil]; omega)) (by simp) ((hS.freezeB 0 rfl).focusRow 4 0 rfl rfl)) rfl (fun e w hB => ?_)
                obtain ⟨v5, rfl, hrow, hk5, hf5⟩ := hB; have hS := (hS.freezeB 0 rfl).turned (i := 4) rfl hk5 hrow hf5; refine ⟨_, rfl, ?_⟩
                refine l_end ?_
                have hR : St No w0 _ [.blk b3 (.cells (enc (cAt cs k)).toArray 27 (0, 0))] := hS.less (.cons _ (.cons _ (.cons _ (.cons_cons _ (.cons _ (.cons _ (.slnil)))))))
                refine d_on (S := (fun w => St No w0 w [.blk b3 (.cells (enc (cAt cs k)).toArray 27 (0, 0))])) hR ?_
                refine d_one 8 rfl (by kernel_rfl) ?_
                refine l_call goes32 rfl (put_any' _ _ _ 4 _ [(cAt cs k).page, (cAt cs k).size] _ _ (by omega) (by first | omega | (simp only [List.length_cons, List.length_nil]; omega)) (by simp) ((hS.freezeB 1 rfl).focusRow 4 1 rfl rfl)) rfl (fun e w hB => ?_)
                obtain ⟨v5, rfl, hrow, hk5, hf5⟩ := hB; have hS := (hS.freezeB 1 rfl).turned (i := 4) rfl hk5 hrow hf5; refine ⟨_, rfl, ?_⟩
                refine l_end ?_
                have hR : St No w0 _ [.blk b3 (.cells (enc (cAt cs k)).toArray 27 (0, 0))] := hS.less (.cons _ (.cons _ (.cons _ (.cons_cons _ (.cons _ (.cons _ (.slnil)))))))
                refine d_on (S := (fun w => St No w0 w [.blk b3 (.cells (enc (cAt cs k)).toArray 27 (0, 0))])) hR ?_
                refine d_one 9 rfl (by kernel_rfl) ?_
                refine l_val (v_assign rfl) rfl ?_
                refine l_end ?_
                have hR : St No w0 _ [.blk b3 (.cells (enc (cAt cs k)).toArray 27 (0, 0))] := hS.less (.cons _ (.cons _ (.cons _ (.cons_cons _ (.cons _ (.cons _ (.slnil)))))))
                refine d_on (S := (fun w => St No w0 w [.blk b3 (.cells (enc (cAt cs k)).toArray 27 (0, 0))])) hR ?_
                refine d_end (by kernel_rfl) ?_
                refine fun _ hFr => ⟨v5, ⟨(St.cast (hS.arr [4, 5]) (ent2 (size_b (notnot p4) p5) (bytes_b (by omega) (notnot p4) p5))), trivial⟩, Fr.sub hFr (kc rfl (kc rfl (kc rfl (kc rfl (kc rfl (kc rfl (kc rfl (kc rfl kn))))))))⟩
            · skip
              refine d_region (fun w => St No w0 w [.blk b3 (.cells (enc (cAt cs k)).toArray 27 (0, 0))]) 10 mixed ?_
              have hS := hS.drew 1
              have hR : St No w0 _ [.blk b3 (.cells (enc (cAt cs k)).toArray 27 (0, 0))] := hS.less (.cons _ (.cons_cons _ (.cons _ (.cons _ (.slnil)))))
              refine d_take 0 rfl (by kernel_rfl) (by kernel_rfl) (by kernel_rfl) (by kernel_rfl) hR (v_move rfl) rfl ?_
              refine d_take 1 rfl (by kernel_rfl) (by kernel_rfl) (by kernel_rfl) (by kernel_rfl) hR (v_fieldX (o' := 1) field27_1 rfl rfl) rfl ?_
              refine d_take 2 rfl (by kernel_rfl) (by kernel_rfl) (by kernel_rfl) (by kernel_rfl) hR (v_load ty9 rfl (fun _ h => h.cellX 0 (k := 1) rfl rfl)) rfl ?_
              refine d_take 3 rfl (by kernel_rfl) (by kernel_rfl) (by kernel_rfl) (by kernel_rfl) hR (v_lenS Try.underlying9 rfl) rfl ?_
              refine d_take 6 rfl (by kernel_rfl) (by kernel_rfl) (by kernel_rfl) (by kernel_rfl) hR (v_fieldX (o' := 1) field27_1 rfl rfl) rfl ?_
              refine d_take 7 rfl (by kernel_rfl) (by kernel_rfl) (by kernel_rfl) (by kernel_rfl) hR (v_load ty9 rfl (fun _ h => h.cellX 0 (k := 1) rfl rfl)) rfl ?_
              refine d_one 4 rfl (by kernel_rfl) ?_
              refine l_sliceN (xs := [.const (.int .i64 0), .tmp 42]) hS Try.underlying65 ty3 zero3 rfl rfl rfl (by simp [Value.cells, B]) rfl rfl rfl rfl (fun b5 w hS => ?_)
              refine l_end ?_
              have hR : St No w0 _ [.blk b3 (.cells (enc (cAt cs k)).toArray 27 (0, 0))] := hS.less (.cons _ (.cons _ (.cons_cons _ (.cons _ (.cons _ (.slnil))))))
              refine d_on (S := (fun w => St No w0 w [.blk b3 (.cells (enc (cAt cs k)).toArray 27 (0, 0))])) hR ?_
              refine d_one 5 rfl (by kernel_rfl) ?_
              refine l_call goes32 rfl (put_any' _ _ _ 1 _ [0, ((cAt cs k).val.size : Int)] _ _ (by omega) (by first | omega | (simp only [List.length_cons, List.length_nil]; omega)) (by simp) ((hS.freezeB 0 rfl).focusRow 3 0 rfl rfl)) rfl (fun e w hB => ?_)
              obtain ⟨v5, rfl, hrow, hk5, hf5⟩ := hB; have hS := (hS.freezeB 0 rfl).turned (i := 3) rfl hk5 hrow hf5; refine ⟨_, rfl, ?_⟩
              refine l_end ?_
              have hR : St No w0 _ [.blk b3 (.cells (enc (cAt cs k)).toArray 27 (0, 0))] := hS.less (.cons _ (.cons _ (.cons_cons _ (.cons _ (.cons _ (.slnil))))))
              refine d_on (S := (fun w => St No w0 w [.blk b3 (.cells (enc (cAt cs k)).toArray 27 (0, 0))])) hR ?_
              refine d_one 8 rfl (by kernel_rfl) ?_
              refine l_appendS 3 hS Try.underlying52 elem5 rfl rfl rfl (Src.ofString _ Try.underlying9 (cAt cs k).val) (by unfold maxLen; simp only [List.length_cons, List.length_nil]; omega) (by simp only [List.length_cons, List.length_nil]; omega) rfl (fun v5 w hS _ => ?_)
              refine l_end ?_
              have hR : St No w0 _ [.blk b3 (.cells (enc (cAt cs k)).toArray 27 (0, 0))] := hS.less (.cons _ (.cons _ (.cons_cons _ (.cons _ (.cons _ (.slnil))))))
              refine d_on (S := (fun w => St No w0 w [.blk b3 (.cells (enc (cAt cs k)).toArray 27 (0, 0))])) hR ?_
              refine d_one 9 rfl (by kernel_rfl) ?_
              refine l_val (v_assign rfl) rfl ?_
              refine l_end ?_
              have hR : St No w0 _ [.blk b3 (.cells (enc (cAt cs k)).toArray 27 (0, 0))] := hS.less (.cons _ (.cons _ (.cons_cons _ (.cons _ (.cons _ (.slnil))))))
              refine d_on (S := (fun w => St No w0 w [.blk b3 (.cells (enc (cAt cs k)).toArray 27 (0, 0))])) hR ?_
              refine d_end (by kernel_rfl) ?_
              refine fun _ hFr => ⟨v5, ⟨(St.cast (hS.arr [3, 4]) (ent2 (size_c (notnot p4) (by omega)) (bytes_c (by omega) (notnot p4) (by omega)))), trivial⟩, Fr.sub hFr (kc rfl (kc rfl (kc rfl (kc rfl (kc rfl (kc rfl (kc rfl (kc rfl kn))))))))⟩
        · skip
          obtain ⟨hS, hI⟩ := hI
          refine c_region ?_
          refine l_val (v_add rfl rfl (by omega)) rfl ?_
          refine l_val (v_move rfl) rfl ?_
          refine l_end ?_
          refine fun _ hFr => ⟨(k + 1, v), (by dsimp only; omega), ⟨hS, by omega⟩, Fr.sub hFr (kc rfl (kc rfl (kc rfl (kc rfl (kc rfl (kc rfl (kc rfl kn)))))))⟩
      · skip
        refine c_exit ex_here ?_
        refine k_code ?_
        refine c_seq ?_
        refine c_region ?_
        refine l_val (v_move rfl) rfl ?_
        refine l_val (v_b2sRow (bs := bytesTo leaf cs k) Try.underlying52 Try.underlying5 Try.underlying9 rfl (fun _ e => e ▸ hS.rowAt 0 rfl) ⟨_, rfl⟩) rfl ?_
        refine l_val (v_assign rfl) rfl ?_
        refine l_val (v_assign rfl) rfl ?_
        refine l_end ?_
        refine k_code ?_
        refine c_ret2 rfl rfl rfl ?_
        exact ⟨by rw [show bytesR leaf cs = (⟨(bytesL leaf cs).toArray⟩, 0) from by unfold bytesR; rw [if_pos hc0, if_pos hfit], show k = cs.length by omega, bytesTo_all], hS.keep⟩
end Go.Proofs.Ytndchgmgcjebiaa
