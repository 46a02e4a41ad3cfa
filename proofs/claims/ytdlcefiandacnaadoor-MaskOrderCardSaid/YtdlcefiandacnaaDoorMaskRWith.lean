/- The walk of the document's With: a branch with another nibble. -/
import Derived.Test.YtdlcefiandacnaaDoorMaskSet
import Derived.Test.YtdlcefiandacnaaDoorEngLies
import Derived.Test.YtdlcefiandacnaaDoorMaskBl
namespace Go.Proofs.YtdlcefiandacnaaDoor
open Go Go.RowKit E MM
set_option maxRecDepth 100000
set_option linter.unusedVariables false
set_option linter.unusedSimpArgs false

/-- Is a ref a hash? -/
def hashed (s : ByteArray) : Bool := decide ((s.size : Int) = 33) && decide (((s.data.toList.getD 0 0).toNat : Int) = 160)
def refH (s : ByteArray) : List UInt8 := (s.data.toList.drop 1).take 32
def full (s : ByteArray) : Bool := decide (¬ s = ⟨#[]⟩)
/-- The hashes of a mask's nibbles, one of them the ref's. -/
def hsW (ha : Int) (hs : List (List UInt8)) (n : Int) (s : ByteArray) (l : List Int) : List (List UInt8) :=
  l.map fun i => if i = n then refH s else (hashS ha hs i).1
/-- A branch with another nibble. -/
def withS (b : Int × Int × Int × List (List UInt8)) (n : Int) (tree : Bool) (s : ByteArray) : Int × Int × Int × List (List UInt8) :=
  if 0 ≤ n ∧ n < 16 then (setS b.1 n (full s), setS b.2.1 n (full s && tree), setS b.2.2.1 n (hashed s), hsW b.2.2.1 b.2.2.2 n s (bl (setS b.2.2.1 n (hashed s)).toNat 16)) else b

/-- What hands back a branch. -/
def GivesB (w0 : World) (A0 : Option Addr) (hs0 : List (List UInt8)) (r : Int × Int × Int × List (List UInt8)) (e : Ending) (w' : World) : Prop :=
  ∃ A c, e = .returned (.agg #[.int .u16 r.1, .int .u16 r.2.1, .int .u16 r.2.2.1, .slice A r.2.2.2.length c]) ∧ HsAt w' A r.2.2.2 ∧ Keep No w0 w' ∧ From w0 [(A0, hs0.flatten.map B)] A (r.2.2.2.flatten.map B)

theorem flatT {hs : List (List UInt8)} (h : ∀ x ∈ hs, x.length = 32) (k : Nat) : hs.flatten.take (k * 32) = (hs.take k).flatten := by
  induction hs generalizing k with
  | nil => simp
  | cons x r ih =>
    have hx := h x List.mem_cons_self
    cases k with
    | zero => simp
    | succ k =>
      simp only [List.flatten_cons, List.take_succ_cons]
      rw [List.take_append, hx, List.take_of_length_le (by omega), show (k + 1) * 32 - 32 = k * 32 by omega, ih (fun y hy => h y (List.mem_cons_of_mem _ hy))]
theorem flatD {hs : List (List UInt8)} (h : ∀ x ∈ hs, x.length = 32) (k : Nat) : hs.flatten.drop (k * 32) = (hs.drop k).flatten := by
  induction hs generalizing k with
  | nil => simp
  | cons x r ih =>
    have hx := h x List.mem_cons_self
    cases k with
    | zero => simp
    | succ k =>
      simp only [List.flatten_cons, List.drop_succ_cons]
      rw [List.drop_append, hx, List.drop_of_length_le (by omega), show (k + 1) * 32 - 32 = k * 32 by omega, ih (fun y hy => h y (List.mem_cons_of_mem _ hy))]; rfl
theorem flat_at {hs : List (List UInt8)} (h : ∀ x ∈ hs, x.length = 32) {i : Nat} {x : List UInt8} (hi : hs[i]? = some x) {j : Nat} {v : Value} (hj : (x.map B)[j]? = some v) : (hs.flatten.map B)[i * 32 + j]? = some v := by
  obtain ⟨hlt, rfl⟩ := List.getElem?_eq_some_iff.1 hi
  have e : hs.flatten.drop (i * 32) = hs[i] ++ (hs.drop (i + 1)).flatten := by rw [flatD h, List.drop_eq_getElem_cons hlt, List.flatten_cons]
  have hjl := (List.getElem?_eq_some_iff.1 hj).1
  rw [← List.getElem?_drop, ← List.map_drop, e, List.map_append, List.getElem?_append_left hjl]
  exact hj
theorem HsAt.of_lies {w : World} {A : Option Addr} {hs : List (List UInt8)} (h32 : ∀ x ∈ hs, x.length = 32) (h : Lies w A (hs.flatten.map B)) : HsAt w A hs := by
  refine ⟨h32, ?_⟩
  rcases h with h | ⟨ad, hA, hc⟩
  · cases hs with
    | nil => exact Or.inl rfl
    | cons x r =>
      have := h32 x List.mem_cons_self
      have h2 := congrArg List.length h
      rw [List.length_map, List.flatten_cons, List.length_append, this, List.length_nil] at h2; omega
  · exact Or.inr ⟨ad, hA, fun i x hi j v hj => by rw [Addr.add_add]; exact hc _ _ (flat_at h32 hi hj)⟩
theorem HsAt.lies {w : World} {A : Option Addr} {hs : List (List UInt8)} (h : HsAt w A hs) : Lies w A (hs.flatten.map B) := by
  obtain ⟨h32, h2⟩ := h
  rcases h2 with rfl | ⟨ad, hA, hc⟩
  · exact Or.inl rfl
  · refine Or.inr ⟨ad, hA, fun j u hj => ?_⟩
    have hlt : j < hs.flatten.length := by have := (List.getElem?_eq_some_iff.1 hj).1; rw [List.length_map] at this; exact this
    rw [flat_len h32] at hlt
    have hq : j / 32 < hs.length := by omega
    have hx : hs[j / 32]? = some hs[j / 32] := List.getElem?_eq_getElem hq
    have hl := h32 _ (List.getElem_mem hq)
    have hm : j % 32 < hs[j / 32].length := by rw [hl]; omega
    have hj' : (hs[j / 32].map B)[j % 32]? = some (B hs[j / 32][j % 32]) := by rw [List.getElem?_map, List.getElem?_eq_getElem hm]; rfl
    have e := flat_at h32 hx hj'
    rw [show j / 32 * 32 + j % 32 = j by omega, hj] at e
    cases e
    have := hc _ _ hx _ _ hj'
    rwa [Addr.add_add, show j / 32 * 32 + j % 32 = j by omega] at this

theorem setS_range {m n : Int} {is : Bool} (m0 : 0 ≤ m) (m1 : m < 65536) (h0 : 0 ≤ n) (h1 : n < 16) : 0 ≤ setS m n is ∧ setS m n is < 65536 := by
  unfold setS
  split
  · exact ⟨m0, m1⟩
  · rename_i h
    cases is with
    | true =>
      have hb : hasB m n = false := by cases hh : hasB m n <;> simp_all
      have := add_lt m0 m1 h0 h1 hb
      rw [if_pos rfl]
      generalize 2 ^ n.toNat = p at this ⊢
      omega
    | false =>
      have hb : hasB m n = true := by cases hh : hasB m n <;> simp_all
      have := has_le m0 hb
      rw [if_neg (by simp)]
      generalize 2 ^ n.toNat = p at this ⊢
      omega

theorem hashed_yes {s : ByteArray} (h : (s.size : Int) = 33) : hashed s = decide (((s[(0 : Int).toNat]'(by omega)).toNat : Int) = 160) := by
  unfold hashed
  rw [decide_eq_true h, Bool.true_and, ← byte_getD]
  rfl
theorem hashed_no {s : ByteArray} (h : ¬ (s.size : Int) = 33) : hashed s = false := by unfold hashed; rw [decide_eq_false h]; rfl

theorem has_set {m n : Int} {is : Bool} (m0 : 0 ≤ m) (m1 : m < 65536) (h0 : 0 ≤ n) (h1 : n < 16) : hasB (setS m n is) n = is := by
  by_cases h : hasB m n = is
  · rw [set_keep h, h]
  · have hr := setS_range (is := is) m0 m1 h0 h1
    have e : hasB (setS m n is) n = (setS m n is).toNat.testBit n.toNat := by unfold hasB; rw [decide_eq_true h0, decide_eq_true h1]; rfl
    have e2 : hasB m n = m.toNat.testBit n.toNat := by unfold hasB; rw [decide_eq_true h0, decide_eq_true h1]; rfl
    rw [e]
    cases is with
    | true =>
      have hb : hasB m n = false := by cases hh : hasB m n <;> simp_all
      have : (setS m n true).toNat = 2 ^ n.toNat + m.toNat := by
        unfold setS
        rw [if_neg h, if_pos rfl]
        generalize 2 ^ n.toNat = p
        omega
      rw [this, Nat.testBit_two_pow_add_eq, ← e2, hb]; rfl
    | false =>
      have hb : hasB m n = true := by cases hh : hasB m n <;> simp_all
      have hle := has_le m0 hb
      have : m.toNat = 2 ^ n.toNat + (setS m n false).toNat := by
        unfold setS
        rw [if_neg h, if_neg (by simp)]
        generalize 2 ^ n.toNat = p at hle ⊢
        omega
      rw [e2, this, Nat.testBit_two_pow_add_eq] at hb
      simpa using hb
theorem hashed_size {s : ByteArray} (h : hashed s = true) : s.size = 33 := by
  unfold hashed at h
  simp only [Bool.and_eq_true, decide_eq_true_eq] at h
  omega
theorem withS_out {b : Int × Int × Int × List (List UInt8)} {n : Int} {tree : Bool} {s : ByteArray} (h : ¬ (0 ≤ n ∧ n < 16)) : withS b n tree s = b := if_neg h
/-- A hash that the ref's bytes are put over. -/
def mixW (y x : List UInt8) (j : Nat) : Array Value := ((y.take j ++ x.drop j).map B).toArray
theorem mixW_size {y x : List UInt8} {j : Nat} (hy : y.length = 32) (hx : x.length = 32) (hj : j ≤ 32) : (mixW y x j).size = 32 := by simp [mixW, hx, hy]; omega
theorem mixW_start {y x : List UInt8} : mixW y x 0 = (x.map B).toArray := by simp [mixW]
theorem mixW_full {y x : List UInt8} (hy : y.length = 32) (hx : x.length = 32) : mixW y x 32 = (y.map B).toArray := by
  unfold mixW; rw [List.take_of_length_le (by omega), List.drop_of_length_le (by omega)]; simp
theorem mixW_step {y x : List UInt8} {j : Nat} (hy : y.length = 32) (hx : x.length = 32) (hj : j < 32) : (mixW y x j).setIfInBounds (((j : Nat) : Int).toNat * 1) (B (y.getD j 0)) = mixW y x (j + 1) := by
  rw [Int.toNat_natCast, Nat.mul_one]
  apply Array.ext'
  unfold mixW
  rw [Array.toList_setIfInBounds]
  apply List.ext_getElem?
  intro i
  rw [List.getElem?_set]
  simp only [List.getElem?_map, List.getElem?_append, List.length_take, hy, Nat.min_eq_left (Nat.le_of_lt hj), Nat.min_eq_left hj, List.length_map, List.length_append, List.length_drop, hx]
  by_cases e : j = i
  · subst e
    simp [hj, List.getD, hy]
    omega
  · rw [if_neg e]
    congr 1
    by_cases h1 : i < j
    · simp [h1, show i < j + 1 by omega]
    · have h2 : ¬ i < j + 1 := by omega
      rw [if_neg h1, if_neg h2]
      simp only [List.getElem?_drop]
      congr 1
      omega
theorem refH_len {s : ByteArray} (h : s.size = 33) : (refH s).length = 32 := by
  have : s.data.toList.length = 33 := by rw [Array.length_toList]; exact h
  unfold refH; rw [List.length_take, List.length_drop]; omega
theorem refH_get {s : ByteArray} {j q : Nat} (h : s.size = 33) (hj : j < 32) (hq : q < s.size) (e : q = 1 + j) : s[q] = (refH s).getD j 0 := by
  subst e
  rw [byte_getD]
  unfold refH
  simp [List.getD, List.getElem?_take, hj, List.getElem?_drop, Nat.add_comm 1 j]
theorem hsW_32 {ha n : Int} {hs : List (List UInt8)} {s : ByteArray} {l : List Int} (hh : ∀ x ∈ hs, x.length = 32) (hn : n ∈ l → s.size = 33) : ∀ x ∈ hsW ha hs n s l, x.length = 32 := by
  intro x hx
  obtain ⟨i, hi, rfl⟩ := List.mem_map.1 hx
  split
  · rename_i e; subst e; exact refH_len (hn hi)
  · exact hashS_32 hh
theorem hsW_len {ha n : Int} {hs : List (List UInt8)} {s : ByteArray} {l : List Int} : (hsW ha hs n s l).length = l.length := by simp [hsW]
theorem hsW_snoc {ha n : Int} {hs : List (List UInt8)} {s : ByteArray} {l : List Int} {k : Int} : hsW ha hs n s (l ++ [k]) = hsW ha hs n s l ++ [if k = n then refH s else (hashS ha hs k).1] := by simp [hsW]
theorem mix_32 {ha n k : Int} {hs : List (List UInt8)} {s : ByteArray} (hh : ∀ x ∈ hs, x.length = 32) (hn : k = n → s.size = 33) : (if k = n then refH s else (hashS ha hs k).1).length = 32 := by
  split
  · rename_i e; exact refH_len (hn e)
  · exact hashS_32 hh

theorem with_leaf {st tr ha n : Int} {hs : List (List UInt8)} {tree : Bool} {s : ByteArray} {w0 w : World} {A A' : Option Addr} {c' e : Nat} {M : List Ent} (s0 : 0 ≤ st) (s1 : st < 65536) (t0 : 0 ≤ tr) (t1 : tr < 65536) (h0 : 0 ≤ ha) (h1 : ha < 65536) (n0 : 0 ≤ n) (n1 : n < 16) (hh : ∀ x ∈ hs, x.length = 32)
    (hS : St No w0 w (.row e 32 (.slice A' (cnt (setS ha n (hashed s)).toNat 16) c') (cnt (setS ha n (hashed s)).toNat 16) ((hsW ha hs n s (bl (setS ha n (hashed s)).toNat 16)).flatten.map B) :: M)) :
    GivesB w0 A hs (withS (st, tr, ha, hs) n tree s) (.returned (.agg #[.int .u16 (setS st n (full s)), .int .u16 (setS tr n (full s && tree)), .int .u16 (setS ha n (hashed s)), .slice A' (cnt (setS ha n (hashed s)).toNat 16) c'])) w := by
  unfold withS
  rw [if_pos ⟨n0, n1⟩]
  refine ⟨A', c', by simp only [hsW_len, bl_len], HsAt.of_row (hsW_32 hh ?_) (hS.rowAt 0 rfl), hS.keep, hS.fromRow 0 rfl _⟩
  intro hm
  have hb : ((n.toNat : Nat) : Int) ∈ bl (setS ha n (hashed s)).toNat 16 := by rw [show ((n.toNat : Nat) : Int) = n by omega]; exact hm
  have h2 := (bl_mem _ _ _).1 hb
  refine hashed_size ((has_set (n := n) (is := hashed s) h0 h1 n0 n1).symm.trans ?_)
  unfold hasB; rw [decide_eq_true n0, decide_eq_true n1]; exact h2.2

set_option maxHeartbeats 2000000 in
theorem rwith_any (st tr ha : Int) (A : Option Addr) (hs : List (List UInt8)) (c : Nat) (n : Int) (tree : Bool) (s : ByteArray) (w0 : World) (s0 : 0 ≤ st) (s1 : st < 65536) (t0 : 0 ≤ tr) (t1 : tr < 65536) (h0 : 0 ≤ ha) (h1 : ha < 65536)
    (hh : HsAt w0 A hs) (hn : hs.length ≤ 4611686018427387904) (hsz : s.size ≤ 4611686018427387904) :
    Calls Tryd.prog 12 [.agg #[.int .u16 st, .int .u16 tr, .int .u16 ha, .slice A hs.length c], .int .i64 n, .bool tree, .string s].toArray w0 (GivesB w0 A hs (withS (st, tr, ha, hs) n tree s)) := by
  refine enter (n := 88) Tryd.func12 rfl rfl rfl ?_
  have hS := St.start No w0
  refine c_seq ?_
  refine c_region ?_
  refine l_box hS rfl rfl rfl (fun b1 w hS => ?_)
  refine l_alloc hS zero25 rfl rfl (fun b2 w hS => ?_)
  refine l_end ?_
  refine k_code ?_
  refine c_seq ?_
  refine c_seq ?_
  refine c_region ?_
  refine l_val (v_move rfl) rfl ?_
  refine l_val (v_lss rfl rfl) rfl ?_
  refine l_val (v_move rfl) rfl ?_
  refine l_part 18 rfl (fun p1 => ?_) (fun p1 => ?_)
  · skip
    refine l_skip rfl rfl rfl rfl rfl ?_
    refine l_skip rfl rfl rfl rfl rfl ?_
    refine l_val (v_pickT rfl rfl) rfl ?_
    refine l_end ?_
    refine k_code ?_
    refine c_yes rfl ?_
    refine c_seq ?_
    refine c_region ?_
    refine l_val (v_loadN tyN25 rfl rfl (hereN (hS.row 1 rfl))) rfl ?_
    refine l_storeN 0 hS tyN25 rfl rfl rfl rfl rfl rfl (fun w hS => ?_)
    refine l_end ?_
    refine k_code ?_
    refine c_retC 0 rfl tyN25 hS rfl rfl rfl ?_
    exact ⟨A, c, by rw [withS_out (by omega)]; rfl, by rw [withS_out (by omega)]; exact hh.keep hS.keep, hS.keep, by rw [withS_out (by omega)]; exact From.same _ List.mem_cons_self⟩
  · skip
    refine l_on rfl rfl rfl ?_
    refine l_val (v_move rfl) rfl ?_
    refine l_on rfl rfl rfl ?_
    refine l_val (v_gtr rfl rfl) rfl ?_
    refine l_val (v_pickF rfl rfl) rfl ?_
    refine l_end ?_
    refine k_code ?_
    refine c_if rfl (fun p2 => ?_) (fun p2 => ?_)
    · skip
      refine c_seq ?_
      refine c_region ?_
      refine l_val (v_loadN tyN25 rfl rfl (hereN (hS.row 1 rfl))) rfl ?_
      refine l_storeN 0 hS tyN25 rfl rfl rfl rfl rfl rfl (fun w hS => ?_)
      refine l_end ?_
      refine k_code ?_
      refine c_retC 0 rfl tyN25 hS rfl rfl rfl ?_
      exact ⟨A, c, by rw [withS_out (by omega)]; rfl, by rw [withS_out (by omega)]; exact hh.keep hS.keep, hS.keep, by rw [withS_out (by omega)]; exact From.same _ List.mem_cons_self⟩
    · skip
      refine c_skip ?_
      refine k_code ?_
      refine c_cutV [(1, _), (2, _), (3, _), (4, _), (8, _)] (fun (u : Unit) => [(9, .bool (hashed s))]) (fun (u : Unit) w => St No w0 w (Lof hS) ∧ True) (kc rfl (kc rfl (kc rfl (kc rfl (kc rfl kn))))) ?_ (fun u w hI => ?_)
      · skip
        refine c_region ?_
        refine l_val (v_move rfl) rfl ?_
        refine l_val (v_lenS Tryd.underlying9 rfl) rfl ?_
        refine l_val (v_eql rfl rfl) rfl ?_
        refine l_val (v_move rfl) rfl ?_
        refine l_part 26 rfl (fun p3 => ?_) (fun p3 => ?_)
        · skip
          refine l_on rfl rfl rfl ?_
          refine l_val (v_move rfl) rfl ?_
          refine l_on rfl rfl rfl ?_
          refine l_val (v_byteAt Tryd.underlying9 rfl rfl (by omega) (by omega)) rfl ?_
          refine l_on rfl rfl rfl ?_
          refine l_val (v_eql rfl rfl) rfl ?_
          refine l_val (v_pickT rfl rfl) rfl ?_
          refine l_val (v_assign rfl) rfl ?_
          refine l_end ?_
          refine fun _ hFr => ⟨(), ⟨hS, trivial⟩, Fr.sub hFr (kc (by rw [hashed_yes (by omega)]; rfl) (kc rfl (kc rfl (kc rfl (kc rfl (kc rfl kn))))))⟩
        · skip
          refine l_skip rfl rfl rfl rfl rfl ?_
          refine l_skip rfl rfl rfl rfl rfl ?_
          refine l_skip rfl rfl rfl rfl rfl ?_
          refine l_val (v_pickF rfl rfl) rfl ?_
          refine l_val (v_assign rfl) rfl ?_
          refine l_end ?_
          refine fun _ hFr => ⟨(), ⟨hS, trivial⟩, Fr.sub hFr (kc (by rw [hashed_no (by omega)]; rfl) (kc rfl (kc rfl (kc rfl (kc rfl (kc rfl kn))))))⟩
      · skip
        obtain ⟨hS, hI⟩ := hI
        refine c_cutV [(1, _), (3, _), (4, _), (8, _)] (fun (bq : Nat) => [(10, .pointer (some ⟨bq, 0, none⟩))]) (fun (bq : Nat) w => St No w0 w [.blk bq (.cells #[.int .u16 (setS st n (full s)), .int .u16 (setS tr n (full s && tree)), .int .u16 (setS ha n (hashed s)), .slice none 0 0] 25 (0, 0)), .blk b2 (.cells #[.int .u16 0, .int .u16 0, .int .u16 0, .slice none 0 0] 25 (0, 0)), .blk b1 (.cells #[.int .u16 st, .int .u16 tr, .int .u16 ha, .slice A hs.length c] 25 (0, 0))] ∧ True) (kc rfl (kc rfl (kc rfl (kc rfl kn)))) ?_ (fun bq w hI => ?_)
        · skip
          refine d_region (fun w => St No w0 w [.blk b1 (.cells #[.int .u16 st, .int .u16 tr, .int .u16 ha, .slice A hs.length c] 25 (0, 0))]) 22 mixed ?_
          have hS := hS.drew 1
          have hR : St No w0 _ [.blk b1 (.cells #[.int .u16 st, .int .u16 tr, .int .u16 ha, .slice A hs.length c] 25 (0, 0))] := hS.less (.cons _ (.cons_cons _ (.slnil)))
          refine d_take 0 rfl (by kernel_rfl) (by kernel_rfl) (by kernel_rfl) (by kernel_rfl) hR (v_fieldAddr field25_0 rfl) rfl ?_
          refine d_take 1 rfl (by kernel_rfl) (by kernel_rfl) (by kernel_rfl) (by kernel_rfl) hR (v_load ty22 rfl (fun _ h => h.cell 0 rfl rfl)) rfl ?_
          refine d_take 2 rfl (by kernel_rfl) (by kernel_rfl) (by kernel_rfl) (by kernel_rfl) hR (v_move rfl) rfl ?_
          refine d_take 3 rfl (by kernel_rfl) (by kernel_rfl) (by kernel_rfl) (by kernel_rfl) hR (v_move rfl) rfl ?_
          refine d_take 4 rfl (by kernel_rfl) (by kernel_rfl) (by kernel_rfl) (by kernel_rfl) hR (v_sneq rfl rfl) rfl ?_
          refine d_call 5 rfl (by kernel_rfl) (by kernel_rfl) (by kernel_rfl) (by kernel_rfl) hR goes24 rfl (fun w hS => rset_any _ _ _ _ s0 s1 (by omega) (by omega)) rfl ?_
          refine d_take 6 rfl (by kernel_rfl) (by kernel_rfl) (by kernel_rfl) (by kernel_rfl) hR (v_fieldAddr field25_1 rfl) rfl ?_
          refine d_take 7 rfl (by kernel_rfl) (by kernel_rfl) (by kernel_rfl) (by kernel_rfl) hR (v_load ty22 rfl (fun _ h => h.cell 0 rfl rfl)) rfl ?_
          refine d_take 8 rfl (by kernel_rfl) (by kernel_rfl) (by kernel_rfl) (by kernel_rfl) hR (v_move rfl) rfl ?_
          refine d_take 9 rfl (by kernel_rfl) (by kernel_rfl) (by kernel_rfl) (by kernel_rfl) hR (v_move rfl) rfl ?_
          refine d_take 10 rfl (by kernel_rfl) (by kernel_rfl) (by kernel_rfl) (by kernel_rfl) hR (v_sneq rfl rfl) rfl ?_
          refine d_take 11 rfl (by kernel_rfl) (by kernel_rfl) (by kernel_rfl) (by kernel_rfl) hR (v_move rfl) rfl ?_
          refine d_part 42 rfl (fun p3 => ?_) (fun p3 => ?_)
          · skip
            refine d_takeG 12 rfl (by kernel_rfl) (by kernel_rfl) (by kernel_rfl) (by kernel_rfl) hR rfl rfl rfl (v_move rfl) rfl ?_
            refine d_take 13 rfl (by kernel_rfl) (by kernel_rfl) (by kernel_rfl) (by kernel_rfl) hR (v_pickT rfl rfl) rfl ?_
            refine d_call 14 rfl (by kernel_rfl) (by kernel_rfl) (by kernel_rfl) (by kernel_rfl) hR goes24 rfl (fun w hS => rset_any _ _ _ _ t0 t1 (by omega) (by omega)) rfl ?_
            refine d_take 15 rfl (by kernel_rfl) (by kernel_rfl) (by kernel_rfl) (by kernel_rfl) hR (v_fieldAddr field25_2 rfl) rfl ?_
            refine d_take 16 rfl (by kernel_rfl) (by kernel_rfl) (by kernel_rfl) (by kernel_rfl) hR (v_load ty22 rfl (fun _ h => h.cell 0 rfl rfl)) rfl ?_
            refine d_take 17 rfl (by kernel_rfl) (by kernel_rfl) (by kernel_rfl) (by kernel_rfl) hR (v_move rfl) rfl ?_
            refine d_take 18 rfl (by kernel_rfl) (by kernel_rfl) (by kernel_rfl) (by kernel_rfl) hR (v_move rfl) rfl ?_
            refine d_call 19 rfl (by kernel_rfl) (by kernel_rfl) (by kernel_rfl) (by kernel_rfl) hR goes24 rfl (fun w hS => rset_any _ _ _ _ h0 h1 (by omega) (by omega)) rfl ?_
            refine d_take 20 rfl (by kernel_rfl) (by kernel_rfl) (by kernel_rfl) (by kernel_rfl) hR (v_build zero25 places25 rfl rfl) rfl ?_
            refine d_one 21 rfl (by kernel_rfl) ?_
            refine l_alloc hS zero25 rfl rfl (fun b3 w hS => ?_)
            refine l_end ?_
            have hR : St No w0 _ [.blk b1 (.cells #[.int .u16 st, .int .u16 tr, .int .u16 ha, .slice A hs.length c] 25 (0, 0))] := hS.less (.cons _ (.cons _ (.cons_cons _ (.slnil))))
            refine d_on (S := (fun w => St No w0 w [.blk b1 (.cells #[.int .u16 st, .int .u16 tr, .int .u16 ha, .slice A hs.length c] 25 (0, 0))])) hR ?_
            refine d_one 22 rfl (by kernel_rfl) ?_
            refine l_storeN 0 hS tyN25 rfl rfl rfl rfl rfl rfl (fun w hS => ?_)
            refine l_end ?_
            refine d_last (S := (fun w => St No w0 w [.blk b1 (.cells #[.int .u16 st, .int .u16 tr, .int .u16 ha, .slice A hs.length c] 25 (0, 0))])) ?_
            refine d_end (by kernel_rfl) ?_
            refine fun _ hFr => ⟨b3, ⟨(St.cast hS (by rw [show (full s && tree) = tree by rw [show full s = true from decide_eq_true p3]; rfl]; rfl)), trivial⟩, Fr.sub hFr (kc rfl (kc rfl (kc rfl (kc rfl (kc rfl kn)))))⟩
          · skip
            refine d_skip 12 rfl (by kernel_rfl) (by kernel_rfl) (by kernel_rfl) (by kernel_rfl) hR rfl rfl rfl rfl rfl ?_
            refine d_take 13 rfl (by kernel_rfl) (by kernel_rfl) (by kernel_rfl) (by kernel_rfl) hR (v_pickF rfl rfl) rfl ?_
            refine d_call 14 rfl (by kernel_rfl) (by kernel_rfl) (by kernel_rfl) (by kernel_rfl) hR goes24 rfl (fun w hS => rset_any _ _ _ _ t0 t1 (by omega) (by omega)) rfl ?_
            refine d_take 15 rfl (by kernel_rfl) (by kernel_rfl) (by kernel_rfl) (by kernel_rfl) hR (v_fieldAddr field25_2 rfl) rfl ?_
            refine d_take 16 rfl (by kernel_rfl) (by kernel_rfl) (by kernel_rfl) (by kernel_rfl) hR (v_load ty22 rfl (fun _ h => h.cell 0 rfl rfl)) rfl ?_
            refine d_take 17 rfl (by kernel_rfl) (by kernel_rfl) (by kernel_rfl) (by kernel_rfl) hR (v_move rfl) rfl ?_
            refine d_take 18 rfl (by kernel_rfl) (by kernel_rfl) (by kernel_rfl) (by kernel_rfl) hR (v_move rfl) rfl ?_
            refine d_call 19 rfl (by kernel_rfl) (by kernel_rfl) (by kernel_rfl) (by kernel_rfl) hR goes24 rfl (fun w hS => rset_any _ _ _ _ h0 h1 (by omega) (by omega)) rfl ?_
            refine d_take 20 rfl (by kernel_rfl) (by kernel_rfl) (by kernel_rfl) (by kernel_rfl) hR (v_build zero25 places25 rfl rfl) rfl ?_
            refine d_one 21 rfl (by kernel_rfl) ?_
            refine l_alloc hS zero25 rfl rfl (fun b3 w hS => ?_)
            refine l_end ?_
            have hR : St No w0 _ [.blk b1 (.cells #[.int .u16 st, .int .u16 tr, .int .u16 ha, .slice A hs.length c] 25 (0, 0))] := hS.less (.cons _ (.cons _ (.cons_cons _ (.slnil))))
            refine d_on (S := (fun w => St No w0 w [.blk b1 (.cells #[.int .u16 st, .int .u16 tr, .int .u16 ha, .slice A hs.length c] 25 (0, 0))])) hR ?_
            refine d_one 22 rfl (by kernel_rfl) ?_
            refine l_storeN 0 hS tyN25 rfl rfl rfl rfl rfl rfl (fun w hS => ?_)
            refine l_end ?_
            refine d_last (S := (fun w => St No w0 w [.blk b1 (.cells #[.int .u16 st, .int .u16 tr, .int .u16 ha, .slice A hs.length c] 25 (0, 0))])) ?_
            refine d_end (by kernel_rfl) ?_
            refine fun _ hFr => ⟨b3, ⟨(St.cast hS (by rw [show (full s && tree) = false by rw [show full s = false from decide_eq_false p3]; rfl]; rfl)), trivial⟩, Fr.sub hFr (kc rfl (kc rfl (kc rfl (kc rfl (kc rfl kn)))))⟩
        · skip
          obtain ⟨hS, hI⟩ := hI
          refine c_seq ?_
          refine c_seq ?_
          refine c_region ?_
          refine l_val (v_assign rfl) rfl ?_
          refine l_end ?_
          refine k_code ?_
          refine c_block ?_
          refine c_loopV [(1, _), (3, _), (4, _), (8, _), (10, _)] (fun ((k, v) : Nat × Value) => [(11, .int .i64 k)]) (fun ((k, v) : Nat × Value) w => St No w0 w [.row 30 32 v (cnt (setS ha n (hashed s)).toNat k) ((hsW ha hs n s (bl (setS ha n (hashed s)).toNat k)).flatten.map B), .blk bq (.cells #[.int .u16 (setS st n (full s)), .int .u16 (setS tr n (full s && tree)), .int .u16 (setS ha n (hashed s)), v] 25 (0, 0)), .blk b2 (.cells #[.int .u16 0, .int .u16 0, .int .u16 0, .slice none 0 0] 25 (0, 0)), .blk b1 (.cells #[.int .u16 st, .int .u16 tr, .int .u16 ha, .slice A hs.length c] 25 (0, 0))] ∧ k ≤ 16) (fun ((k, v) : Nat × Value) => 16 - k) ((0 : Nat), Value.slice none 0 0) ⟨(hS.nil _ _), by omega⟩ (kc rfl (kc rfl (kc rfl (kc rfl (kc rfl (kc rfl kn)))))) (fun xx w hI => ?_)
          obtain ⟨k, v⟩ := xx
          obtain ⟨hS, hI⟩ := hI
          refine c_seq ?_
          refine c_seq ?_
          refine c_region ?_
          refine l_val (v_move rfl) rfl ?_
          refine l_val (v_lss rfl rfl) rfl ?_
          refine l_end ?_
          refine k_code ?_
          refine c_if rfl (fun p3 => ?_) (fun p3 => ?_)
          · skip
            refine c_skip ?_
            refine k_code ?_
            refine c_seq ?_
            refine c_block ?_
            refine c_seq ?_
            refine c_region ?_
            refine l_val (v_fieldAddr field25_2 rfl) rfl ?_
            refine l_val (v_load ty22 rfl (here (hS.cell 1 rfl rfl))) rfl ?_
            refine l_val (v_move rfl) rfl ?_
            refine l_callK goes21 rfl hS (sames (rhas_any _ _ _ (setS_range h0 h1 (by omega) (by omega)).1 (setS_range h0 h1 (by omega) (by omega)).2)) rfl (fun w hS => ?_)
            refine l_val (v_assign rfl) rfl ?_
            refine l_end ?_
            refine k_code ?_
            refine c_seq ?_
            refine c_seq ?_
            refine c_region ?_
            refine l_val (v_move rfl) rfl ?_
            refine l_val (v_not rfl) rfl ?_
            refine l_end ?_
            refine k_code ?_
            refine c_cond rfl (fun p4 => ?_) (fun p4 => ?_)
            · skip
              refine c_exit ex_here ?_
              refine k_code ?_
              refine c_region ?_
              refine l_val (v_move rfl) rfl ?_
              refine l_val (v_add rfl rfl (by omega)) rfl ?_
              refine l_val (v_assign rfl) rfl ?_
              refine l_end ?_
              refine fun _ hFr => ⟨(k + 1, v), (by dsimp only; omega), ⟨(St.cast hS (by rw [bl_no (by simpa using p4) (by omega), cnt_no (by simpa using p4) (by omega)])), by omega⟩, Fr.sub hFr (kc rfl (kc rfl (kc rfl (kc rfl (kc rfl (kc rfl kn))))))⟩
            · skip
              refine c_skip ?_
              refine k_code ?_
              refine c_seq ?_
              refine c_region ?_
              refine l_val (v_loadN tyN25 rfl rfl (hereN (hS.row 3 rfl))) rfl ?_
              refine l_val (v_move rfl) rfl ?_
              refine l_callK goes9 rfl hS (rhash_any _ _ _ _ _ _ _ _ h0 h1 (hh.keep hS.keep) hn) rfl (fun w hS => ?_)
              refine l_val (v_move rfl) rfl ?_
              refine l_val (v_extract rfl rfl) rfl ?_
              refine l_val (v_extract rfl rfl) rfl ?_
              refine l_alloc hS zero30 rfl rfl (fun b3 w hS => ?_)
              have hx := hashS_32 (ha := ha) (n := k) hh.1
              refine l_storeW 0 hS tyN30 rfl (by rw [List.length_map, hx]; rfl) rfl rfl (by rw [List.length_map, hx]) (B_one _) (fun w hS => ?_)
              refine l_val (v_assign rfl) rfl ?_
              refine l_end ?_
              refine k_code ?_
              refine c_cutV [(1, _), (3, _), (4, _), (8, _), (10, _), (11, _), (12, _), (13, _), (52, _), (53, _), (56, _), (57, _), (58, _), (59, _), (60, _), (61, _), (62, _), (63, _), (64, _), (65, _), (66, _), (67, _)] (fun (u : Unit) => []) (fun (u : Unit) w => St No w0 w [.blk b3 (.cells ((if (k : Int) = n then refH s else (hashS ha hs k).1).map B).toArray 30 (0, 0)), .row 30 32 v (cnt (setS ha n (hashed s)).toNat k) ((hsW ha hs n s (bl (setS ha n (hashed s)).toNat k)).flatten.map B), .blk bq (.cells #[.int .u16 (setS st n (full s)), .int .u16 (setS tr n (full s && tree)), .int .u16 (setS ha n (hashed s)), v] 25 (0, 0)), .blk b2 (.cells #[.int .u16 0, .int .u16 0, .int .u16 0, .slice none 0 0] 25 (0, 0)), .blk b1 (.cells #[.int .u16 st, .int .u16 tr, .int .u16 ha, .slice A hs.length c] 25 (0, 0))] ∧ True) (kc rfl (kc rfl (kc rfl (kc rfl (kc rfl (kc rfl (kc rfl (kc rfl (kc rfl (kc rfl (kc rfl (kc rfl (kc rfl (kc rfl (kc rfl (kc rfl (kc rfl (kc rfl (kc rfl (kc rfl (kc rfl (kc rfl kn)))))))))))))))))))))) ?_ (fun u w hI => ?_)
              · skip
                refine c_seq ?_
                refine c_region ?_
                refine l_val (v_move rfl) rfl ?_
                refine l_val (v_move rfl) rfl ?_
                refine l_val (v_eql rfl rfl) rfl ?_
                refine l_end ?_
                refine k_code ?_
                refine c_if rfl (fun p5 => ?_) (fun p5 => ?_)
                · skip
                  have hz : s.size = 33 := hashed_size ((has_set (n := n) (is := hashed s) h0 h1 (by omega) (by omega)).symm.trans (by have e := p4; rw [p5] at e; simpa using e))
                  refine c_seq ?_
                  refine c_region ?_
                  refine l_val (v_assign rfl) rfl ?_
                  refine l_end ?_
                  refine k_code ?_
                  refine c_block ?_
                  refine c_loopV [(1, _), (3, _), (4, _), (8, _), (10, _), (11, _), (12, _), (13, _), (52, _), (53, _), (56, _), (57, _), (58, _), (59, _), (60, _), (61, _), (62, _), (63, _), (64, _), (65, _), (66, _), (67, _), (68, _), (69, _), (70, _)] (fun (j : Nat) => [(15, .int .i64 j)]) (fun (j : Nat) w => St No w0 w [.blk b3 (.cells (mixW (refH s) (hashS ha hs k).1 j) 30 (0, 0)), .row 30 32 v (cnt (setS ha n (hashed s)).toNat k) ((hsW ha hs n s (bl (setS ha n (hashed s)).toNat k)).flatten.map B), .blk bq (.cells #[.int .u16 (setS st n (full s)), .int .u16 (setS tr n (full s && tree)), .int .u16 (setS ha n (hashed s)), v] 25 (0, 0)), .blk b2 (.cells #[.int .u16 0, .int .u16 0, .int .u16 0, .slice none 0 0] 25 (0, 0)), .blk b1 (.cells #[.int .u16 st, .int .u16 tr, .int .u16 ha, .slice A hs.length c] 25 (0, 0))] ∧ j ≤ 32) (fun (j : Nat) => 32 - j) (0 : Nat) ⟨hS, by omega⟩ (kc rfl (kc rfl (kc rfl (kc rfl (kc rfl (kc rfl (kc rfl (kc rfl (kc rfl (kc rfl (kc rfl (kc rfl (kc rfl (kc rfl (kc rfl (kc rfl (kc rfl (kc rfl (kc rfl (kc rfl (kc rfl (kc rfl (kc rfl (kc rfl (kc rfl (kc rfl kn)))))))))))))))))))))))))) (fun j w hI => ?_)
                  obtain ⟨hS, hI⟩ := hI
                  refine c_seq ?_
                  refine c_seq ?_
                  refine c_region ?_
                  refine l_val (v_move rfl) rfl ?_
                  refine l_val (v_lss rfl rfl) rfl ?_
                  refine l_end ?_
                  refine k_code ?_
                  refine c_if rfl (fun p6 => ?_) (fun p6 => ?_)
                  · skip
                    refine c_skip ?_
                    refine k_code ?_
                    refine c_seq ?_
                    refine c_block ?_
                    refine c_region ?_
                    refine l_val (v_move rfl) rfl ?_
                    refine l_val (v_move rfl) rfl ?_
                    refine l_val (v_move rfl) rfl ?_
                    refine l_val (v_add rfl rfl (by omega)) rfl ?_
                    refine l_val (v_byteAt Tryd.underlying9 rfl rfl (by omega) (by omega)) rfl ?_
                    refine l_val (v_indexAddrA Tryd.underlying30 ty5.size rfl rfl (by omega) (by omega)) rfl ?_
                    refine l_storeI 0 hS ty5 rfl (by rw [mixW_size (refH_len hz) (hashS_32 hh.1) hI]; omega) rfl rfl rfl (fun w hS => ?_)
                    refine l_end ?_
                    refine k_code ?_
                    refine c_region ?_
                    refine l_val (v_move rfl) rfl ?_
                    refine l_val (v_add rfl rfl (by omega)) rfl ?_
                    refine l_val (v_assign rfl) rfl ?_
                    refine l_end ?_
                    refine fun _ hFr => ⟨(j + 1), (by omega), ⟨(St.cast hS (by rw [← mixW_step (refH_len hz) (hashS_32 hh.1) (by omega), ← refH_get (q := ((1 : Int) + (j : Int)).toNat) hz (by omega) (by omega) (by omega)]; rfl)), by omega⟩, Fr.sub hFr (kc rfl (kc rfl (kc rfl (kc rfl (kc rfl (kc rfl (kc rfl (kc rfl (kc rfl (kc rfl (kc rfl (kc rfl (kc rfl (kc rfl (kc rfl (kc rfl (kc rfl (kc rfl (kc rfl (kc rfl (kc rfl (kc rfl (kc rfl (kc rfl (kc rfl (kc rfl kn))))))))))))))))))))))))))⟩
                  · skip
                    refine c_exit ex_here ?_
                    refine fun _ hFr => ⟨(), ⟨(St.cast hS (by rw [if_pos p5, show j = 32 by omega, mixW_full (refH_len hz) (hashS_32 hh.1)])), trivial⟩, Fr.sub hFr (kc rfl (kc rfl (kc rfl (kc rfl (kc rfl (kc rfl (kc rfl (kc rfl (kc rfl (kc rfl (kc rfl (kc rfl (kc rfl (kc rfl (kc rfl (kc rfl (kc rfl (kc rfl (kc rfl (kc rfl (kc rfl (kc rfl kn))))))))))))))))))))))⟩
                · skip
                  refine c_skip ?_
                  refine fun _ hFr => ⟨(), ⟨(St.cast hS (by rw [if_neg p5]; rfl)), trivial⟩, Fr.sub hFr (kc rfl (kc rfl (kc rfl (kc rfl (kc rfl (kc rfl (kc rfl (kc rfl (kc rfl (kc rfl (kc rfl (kc rfl (kc rfl (kc rfl (kc rfl (kc rfl (kc rfl (kc rfl (kc rfl (kc rfl (kc rfl (kc rfl kn))))))))))))))))))))))⟩
              · skip
                obtain ⟨hS, hI⟩ := hI
                refine c_region ?_
                refine l_val (v_fieldAddr field25_3 rfl) rfl ?_
                refine l_val (v_load ty23 rfl (here (hS.cell 2 rfl rfl))) rfl ?_
                have hx : (if (k : Int) = n then refH s else (hashS ha hs k).1).length = 32 := mix_32 hh.1 (fun e => hashed_size ((has_set (n := n) (is := hashed s) h0 h1 (by omega) (by omega)).symm.trans (by have e2 := p4; rw [e] at e2; simpa using e2)))
                refine l_val (v_loadN (cs := (if (k : Int) = n then refH s else (hashS ha hs k).1).map B) tyN30 (by rw [List.length_map, hx]) rfl (hereN (hS.row 0 rfl))) rfl ?_
                refine l_slice1 (bytes := 0) hS Tryd.underlying23 tyN30.size zero30 rfl (by decide) (by decide) rfl rfl (by show ((if (k : Int) = n then refH s else (hashS ha hs k).1).map B).length = 32; rw [List.length_map, hx]) rfl (fun b4 w hS => ?_)
                refine l_append (news := (if (k : Int) = n then refH s else (hashS ha hs k).1).map B) 2 hS Tryd.underlying23 elem30 rfl rfl rfl (by rw [List.length_map, hx]) (hS.row 0 rfl) (B_one _) (by unfold maxLen; have := cnt_le (setS ha n (hashed s)).toNat k; omega) (by have := cnt_le (setS ha n (hashed s)).toNat k; omega) rfl (fun va6 w hS hvva6 => ?_)
                refine l_val (v_fieldAddr field25_3 rfl) rfl ?_
                refine l_store 3 hS ty23 rfl rfl rfl rfl (row_one (hS.rowAt 2 rfl)) (fun w hS => ?_)
                refine l_end ?_
                refine k_code ?_
                refine c_region ?_
                refine l_val (v_move rfl) rfl ?_
                refine l_val (v_add rfl rfl (by omega)) rfl ?_
                refine l_val (v_assign rfl) rfl ?_
                refine l_end ?_
                refine fun _ hFr => ⟨(k + 1, va6), (by dsimp only; omega), ⟨(St.cast (hS.less (.cons _ (.cons _ (List.Sublist.refl _)))) (by rw [bl_yes (by simpa using p4), cnt_yes (by simpa using p4), hsW_snoc, List.flatten_append, List.map_append]; simp)), by omega⟩, Fr.sub hFr (kc rfl (kc rfl (kc rfl (kc rfl (kc rfl (kc rfl kn))))))⟩
          · skip
            obtain ⟨A', c', rfl⟩ := row_form (hS.rowAt 0 rfl)
            obtain rfl : k = 16 := by omega
            refine c_exit ex_here ?_
            refine k_code ?_
            refine c_seq ?_
            refine c_region ?_
            refine l_val (v_loadN tyN25 rfl rfl (hereN (hS.row 1 rfl))) rfl ?_
            refine l_storeN 2 hS tyN25 rfl rfl rfl rfl rfl (by simp [ones, Value.oneCell']) (fun w hS => ?_)
            refine l_end ?_
            refine k_code ?_
            refine c_retC 2 rfl tyN25 hS rfl rfl rfl ?_
            exact with_leaf s0 s1 t0 t1 h0 h1 (by omega) (by omega) hh.1 hS
end Go.Proofs.YtdlcefiandacnaaDoor
