/- What bytes are read as, and the walk of mask.Read. -/
import Derived.Test.YtdlcefiandacnaaDoorMaskOf
import Derived.Deep.Slices
namespace Go.Proofs.YtdlcefiandacnaaDoor
open Go Go.RowKit E MM
set_option maxRecDepth 100000
set_option linter.unusedVariables false
set_option linter.unusedSimpArgs false

/-- The number of two bytes. -/
def wordI (s : ByteArray) (i : Nat) : Int := 256 * ((s.data.toList.getD i 0).toNat : Int) + ((s.data.toList.getD (i + 1) 0).toNat : Int)
theorem wordI_range (s : ByteArray) (i : Nat) : 0 ≤ wordI s i ∧ wordI s i < 65536 := by
  unfold wordI
  have h1 := (s.data.toList.getD i 0).toNat_lt
  have h2 := (s.data.toList.getD (i + 1) 0).toNat_lt
  simp only [Nat.reducePow] at h1 h2
  omega
theorem byte_getD (s : ByteArray) (i : Nat) (h : i < s.size) : s[i] = s.data.toList.getD i 0 := by
  have h' : i < s.data.size := h
  simp only [List.getD, Array.getElem?_toList, Array.getElem?_eq_getElem h', Option.getD_some]
  rfl
theorem wrap16 {x : Int} (h0 : 0 ≤ x) (h1 : x < 65536) : IntKind.u16.wrap x = x := by rw [IntKind.wrap_u16]; omega
theorem word_eq (a b : UInt8) : bits .or .u16 (IntKind.u16.wrap (IntKind.u16.wrap (a.toNat : Int) * 2 ^ min (8 : Int).toNat IntKind.u16.bits)) (IntKind.u16.wrap (b.toNat : Int)) = 256 * (a.toNat : Int) + (b.toNat : Int) := by
  have h1 := a.toNat_lt
  have h2 := b.toNat_lt
  simp only [Nat.reducePow] at h1 h2
  have e : (2 : Int) ^ min (8 : Int).toNat IntKind.u16.bits = 256 := rfl
  rw [e, wrap16 (x := (a.toNat : Int)) (by omega) (by omega), wrap16 (x := (a.toNat : Int) * 256) (by omega) (by omega), wrap16 (x := (b.toNat : Int)) (by omega) (by omega)]
  rw [show (a.toNat : Int) * 256 = ((a.toNat * 256 : Nat) : Int) by simp, u16_or_nat _ _ (by omega) (by omega), nat_join 8 _ _ (by simp) (by simpa using h2)]
  omega

theorem word_any (at_ : Int) (b : Nat) (s : ByteArray) (w0 : World) (hc : w0.cell? ⟨b, 0, none⟩ = some (.string s)) (h0 : 0 ≤ at_) (h1 : at_ + 1 < s.size) (h2 : s.size ≤ 4611686018427387904) :
    Calls Tryd.prog 26 [.int .i64 at_, .pointer (some ⟨b, 0, none⟩)].toArray w0 fun e w' => e = .returned (.int .u16 (wordI s at_.toNat)) ∧ Keep No w0 w' := by
  have e : wordI s at_.toNat = 256 * ((s[at_.toNat]'(by omega)).toNat : Int) + ((s[(at_ + 1).toNat]'(by omega)).toNat : Int) := by
    rw [byte_getD, byte_getD, show (at_ + 1).toNat = at_.toNat + 1 by omega]; rfl
  refine enter (n := 15) Tryd.func26 rfl rfl rfl ?_
  have hS := St.start No w0
  refine c_seq ?_
  refine c_region ?_
  refine l_val (v_assign rfl) rfl ?_
  refine l_end ?_
  refine k_code ?_
  refine c_seq ?_
  refine q_region hS mixed (by kernel_rfl) ?_
  refine q_val (v_load ty9 rfl (fun _ h => h.old hc)) rfl ?_
  refine q_val (v_move rfl) rfl ?_
  refine q_val (v_byteAt Tryd.underlying9 rfl rfl (by omega) (by omega)) rfl ?_
  refine q_val (v_conv Tryd.underlying5 Tryd.underlying22 rfl) rfl ?_
  refine q_val (v_shl rfl rfl (by decide)) rfl ?_
  refine q_val (v_load ty9 rfl (fun _ h => h.old hc)) rfl ?_
  refine q_val (v_move rfl) rfl ?_
  refine q_val (v_add rfl rfl (by omega)) rfl ?_
  refine q_val (v_byteAt Tryd.underlying9 rfl rfl (by omega) (by omega)) rfl ?_
  refine q_val (v_conv Tryd.underlying5 Tryd.underlying22 rfl) rfl ?_
  refine q_val (v_int rfl rfl rfl) rfl ?_
  refine q_val (v_assign rfl) rfl ?_
  refine q_end (fun w hS => ?_)
  refine k_code ?_
  refine c_ret1 rfl rfl ?_
  exact ⟨by rw [e, ← word_eq], hS.keep⟩

/-- The hashes of a record's bytes. -/
def chunks (l : List UInt8) : List (List UInt8) := (List.range ((l.length - 6) / 32)).map fun k => (l.drop (6 + 32 * k)).take 32
theorem chunks_len (l : List UInt8) : (chunks l).length = (l.length - 6) / 32 := by simp [chunks]
theorem chunks_32 {l : List UInt8} (h : 6 ≤ l.length) : ∀ x ∈ chunks l, x.length = 32 := by
  intro x hx
  obtain ⟨k, hk, rfl⟩ := List.mem_map.1 hx
  have := List.mem_range.1 hk
  rw [List.length_take, List.length_drop]
  omega
/-- Bytes that have a record's length. -/
def longOk (l : List UInt8) : Bool := decide (6 ≤ l.length) && decide ((l.length - 6) % 32 = 0) && decide (l.length ≤ 518)
/-- What bytes are read as: three masks, hashes, an error. -/
def readS (s : ByteArray) : Int × Int × Int × List (List UInt8) × Int :=
  if longOk s.data.toList && chk (wordI s 0) (wordI s 2) (wordI s 4) (chunks s.data.toList).length then (wordI s 0, wordI s 2, wordI s 4, chunks s.data.toList, 0) else (0, 0, 0, [], 10)

/-- A call hands back a branch and an error; the hashes are new memory. -/
def Branch (w0 : World) (r : Int × Int × Int × List (List UInt8) × Int) (e : Ending) (w' : World) : Prop :=
  ∃ (A : Option Addr) (c : Nat), e = .returned (.tuple #[.agg #[.int .u16 r.1, .int .u16 r.2.1, .int .u16 r.2.2.1, .slice A r.2.2.2.1.length c], .int .i64 r.2.2.2.2]) ∧
    St No w0 w' [.row 30 32 (.slice A r.2.2.2.1.length c) r.2.2.2.1.length (r.2.2.2.1.flatten.map B)]

def chunkAt (l : List UInt8) (k : Nat) : List UInt8 := (l.drop (6 + 32 * k)).take 32
theorem chunkAt_len {l : List UInt8} {k : Nat} (h : 6 + 32 * k + 32 ≤ l.length) : (chunkAt l k).length = 32 := by
  unfold chunkAt; rw [List.length_take, List.length_drop]; omega
theorem chunks_step {l : List UInt8} {k : Nat} (h : k < (l.length - 6) / 32) : ((chunks l).take (k + 1)).flatten = ((chunks l).take k).flatten ++ chunkAt l k := by
  have hk : k < (chunks l).length := by rw [chunks_len]; exact h
  rw [List.take_succ_eq_append_getElem hk, List.flatten_append]
  simp [chunks, chunkAt]
theorem extract_list (s : ByteArray) (p q : Nat) : (s.extract p q).data.toList = (s.data.toList.drop p).take (q - p) := by
  simp [ByteArray.data_extract, List.extract_eq_take_drop]
theorem HsAt.of_row {w : World} {e : Nat} {A : Option Addr} {m c : Nat} {hs : List (List UInt8)} (h32 : ∀ x ∈ hs, x.length = 32) (h : w.ownsRow 0 e 32 (.slice A m c) m (hs.flatten.map B)) : HsAt w A hs := by
  refine ⟨h32, ?_⟩
  rcases h.2 with ⟨e1, rfl⟩ | ⟨g, cap, cur, e1, -, hg, -, -, -, -⟩
  · left
    have h1 := h.1
    rw [List.length_map, flat_len h32] at h1
    exact List.eq_nil_of_length_eq_zero (by omega)
  · right
    cases e1
    refine ⟨_, rfl, fun i x hi j v hj => ?_⟩
    have hlt : i < hs.length := (List.getElem?_eq_some_iff.1 hi).1
    have hx : x.length = 32 := h32 x (List.mem_of_getElem? hi)
    have hj' : j < 32 := by have := (List.getElem?_eq_some_iff.1 hj).1; rw [List.length_map, hx] at this; exact this
    rw [Deep.add_add]
    refine World.ownsRow.cells (g := g) h rfl (i * 32 + j) v ?_
    have hsplit : hs.flatten = (hs.take i).flatten ++ (x ++ (hs.drop (i + 1)).flatten) := by
      conv => lhs; rw [← List.take_append_drop i hs, List.flatten_append, List.drop_eq_getElem_cons hlt]
      rw [List.flatten_cons]
      have : hs[i] = x := by rw [List.getElem?_eq_getElem hlt] at hi; exact Option.some.inj hi
      rw [this]
    rw [hsplit, List.map_append, List.getElem?_append_right (by rw [List.length_map, flat_take h32 (Nat.le_of_lt hlt)]; omega), List.length_map, flat_take h32 (Nat.le_of_lt hlt), List.map_append,
      List.getElem?_append_left (by rw [List.length_map, hx]; omega), show i * 32 + j - 32 * i = j by omega]
    exact hj

theorem tmod32 {m : Nat} (h : ((m : Int) - 6).tmod 32 = 0) (hm : 6 ≤ m) : (m - 6) % 32 = 0 := by
  rw [Int.tmod_eq_emod_of_nonneg (by omega)] at h; omega
theorem tmod32' {m : Nat} (h : ¬ ((m : Int) - 6).tmod 32 = 0) (hm : 6 ≤ m) : ¬ (m - 6) % 32 = 0 := by
  rw [Int.tmod_eq_emod_of_nonneg (by omega)] at h; omega
theorem read_short {s : ByteArray} (h : longOk s.data.toList = false) : readS s = (0, 0, 0, [], 10) := by unfold readS; rw [h]; rfl
theorem read_no {s : ByteArray} (h : chk (wordI s 0) (wordI s 2) (wordI s 4) (chunks s.data.toList).length = false) : readS s = (0, 0, 0, [], 10) := by unfold readS; rw [h, Bool.and_false]; rfl
theorem read_yes {s : ByteArray} (h0 : longOk s.data.toList = true) (h : chk (wordI s 0) (wordI s 2) (wordI s 4) (chunks s.data.toList).length = true) :
    readS s = (wordI s 0, wordI s 2, wordI s 4, chunks s.data.toList, 0) := by unfold readS; rw [h0, h]; rfl
theorem chk_no {st tr ha : Int} {m : Nat} (p : ¬ chkI st tr ha m = 0) : chk st tr ha m = false := by
  unfold chkI at p; cases h : chk st tr ha m
  · rfl
  · rw [h] at p; exact absurd rfl p
theorem chk_yes {st tr ha : Int} {m : Nat} (p : ¬ ¬ chkI st tr ha m = 0) : chk st tr ha m = true := by
  cases h : chk st tr ha m with
  | true => rfl
  | false => exact absurd (show ¬ chkI st tr ha m = 0 by unfold chkI; rw [h]; decide) p
theorem branch_bad {w0 w : World} {L : List Ent} {s : ByteArray} (h : readS s = (0, 0, 0, [], 10)) (hS : St No w0 w L) :
    Branch w0 (readS s) (.returned (.tuple #[.agg #[.int .u16 0, .int .u16 0, .int .u16 0, .slice none 0 0], .int .i64 10])) w :=
  ⟨none, 0, by rw [h]; rfl, by rw [h]; exact (hS.less (List.nil_sublist _)).nil _ _⟩
theorem branch_good {w0 w : World} {L : List Ent} {s : ByteArray} {A : Option Addr} {c k : Nat} (h0 : longOk s.data.toList = true) (h : chk (wordI s 0) (wordI s 2) (wordI s 4) (chunks s.data.toList).length = true) (hl : (chunks s.data.toList).length = k)
    (hS : St No w0 w (.row 30 32 (.slice A k c) k (((chunks s.data.toList).take k).flatten.map B) :: L)) :
    Branch w0 (readS s) (.returned (.tuple #[.agg #[.int .u16 (wordI s 0), .int .u16 (wordI s 2), .int .u16 (wordI s 4), .slice A k c], .int .i64 0])) w := by
  rw [List.take_of_length_le (by omega)] at hS
  refine ⟨A, c, ?_, ?_⟩
  · rw [read_yes h0 h]; simp only [hl]
  · rw [read_yes h0 h]; simp only [hl]; exact hS.less (.cons_cons _ (List.nil_sublist _))
theorem read_32 (s : ByteArray) : ∀ x ∈ (readS s).2.2.2.1, x.length = 32 := by
  unfold readS
  split
  · rename_i h
    simp only [longOk, Bool.and_eq_true, decide_eq_true_eq] at h
    exact chunks_32 h.1.1.1
  · intro x hx; exact absurd hx List.not_mem_nil
theorem read_len (s : ByteArray) : (readS s).2.2.2.1.length ≤ 16 := by
  unfold readS
  split
  · rename_i h
    simp only [longOk, Bool.and_eq_true, decide_eq_true_eq] at h
    show (chunks s.data.toList).length ≤ 16
    rw [chunks_len]; omega
  · exact Nat.zero_le _

set_option maxHeartbeats 2000000 in
theorem read_any (s : ByteArray) (w0 : World) (hs : s.size ≤ 4611686018427387904) : Calls Tryd.prog 17 [.string s].toArray w0 (Branch w0 (readS s)) := by
  have hsz : s.data.toList.length = s.size := by rw [Array.length_toList]; rfl
  refine enter (n := 55) Tryd.func17 rfl rfl rfl ?_
  have hS := St.start No w0
  refine c_seq ?_
  refine c_region ?_
  refine l_box hS rfl rfl rfl (fun b1 w hS => ?_)
  refine l_alloc hS zero25 rfl rfl (fun b2 w hS => ?_)
  refine l_val (v_assign rfl) rfl ?_
  refine l_end ?_
  refine k_code ?_
  refine c_seq ?_
  refine c_seq ?_
  refine c_region ?_
  refine l_val (v_load ty9 rfl (here (hS.cell 1 rfl rfl))) rfl ?_
  refine l_val (v_lenS Tryd.underlying9 rfl) rfl ?_
  refine l_val (v_lss rfl rfl) rfl ?_
  refine l_val (v_move rfl) rfl ?_
  refine l_part 10 rfl (fun p1 => ?_) (fun p1 => ?_)
  · skip
    refine l_skip rfl rfl rfl rfl rfl ?_
    refine l_skip rfl rfl rfl rfl rfl ?_
    refine l_skip rfl rfl rfl rfl rfl ?_
    refine l_skip rfl rfl rfl rfl rfl ?_
    refine l_skip rfl rfl rfl rfl rfl ?_
    refine l_val (v_pickT rfl rfl) rfl ?_
    refine l_val (v_move rfl) rfl ?_
    refine l_skip rfl rfl rfl rfl rfl ?_
    refine l_skip rfl rfl rfl rfl rfl ?_
    refine l_skip rfl rfl rfl rfl rfl ?_
    refine l_val (v_pickT rfl rfl) rfl ?_
    refine l_end ?_
    refine k_code ?_
    refine c_yes rfl ?_
    refine c_seq ?_
    refine c_region ?_
    refine l_val (v_build zero25 places25 rfl rfl) rfl ?_
    refine l_storeN 0 hS tyN25 rfl rfl rfl rfl rfl rfl (fun w hS => ?_)
    refine l_val (v_assign rfl) rfl ?_
    refine l_end ?_
    refine k_code ?_
    refine c_retCT 0 rfl tyN25 hS rfl rfl rfl rfl ?_
    exact branch_bad (read_short (by simp only [longOk, hsz]; simp; omega)) hS
  · skip
    refine l_on rfl rfl rfl ?_
    refine l_val (v_load ty9 rfl (here (hS.cell 1 rfl rfl))) rfl ?_
    refine l_on rfl rfl rfl ?_
    refine l_val (v_lenS Tryd.underlying9 rfl) rfl ?_
    refine l_on rfl rfl rfl ?_
    refine l_val (v_sub rfl rfl (by omega)) rfl ?_
    refine l_on rfl rfl rfl ?_
    refine l_val (v_rem rfl rfl (by decide)) rfl ?_
    refine l_on rfl rfl rfl ?_
    refine l_val (v_neq rfl rfl) rfl ?_
    refine l_val (v_pickF rfl rfl) rfl ?_
    refine l_val (v_move rfl) rfl ?_
    refine l_part 17 rfl (fun p2 => ?_) (fun p2 => ?_)
    · skip
      refine l_skip rfl rfl rfl rfl rfl ?_
      refine l_skip rfl rfl rfl rfl rfl ?_
      refine l_skip rfl rfl rfl rfl rfl ?_
      refine l_val (v_pickT rfl rfl) rfl ?_
      refine l_end ?_
      refine k_code ?_
      refine c_yes rfl ?_
      refine c_seq ?_
      refine c_region ?_
      refine l_val (v_build zero25 places25 rfl rfl) rfl ?_
      refine l_storeN 0 hS tyN25 rfl rfl rfl rfl rfl rfl (fun w hS => ?_)
      refine l_val (v_assign rfl) rfl ?_
      refine l_end ?_
      refine k_code ?_
      refine c_retCT 0 rfl tyN25 hS rfl rfl rfl rfl ?_
      exact branch_bad (read_short (by have := tmod32' p2 (by omega); simp only [longOk, hsz]; simp; omega)) hS
    · skip
      refine l_on rfl rfl rfl ?_
      refine l_val (v_load ty9 rfl (here (hS.cell 1 rfl rfl))) rfl ?_
      refine l_on rfl rfl rfl ?_
      refine l_val (v_lenS Tryd.underlying9 rfl) rfl ?_
      refine l_on rfl rfl rfl ?_
      refine l_val (v_gtr rfl rfl) rfl ?_
      refine l_val (v_pickF rfl rfl) rfl ?_
      refine l_end ?_
      refine k_code ?_
      refine c_if rfl (fun p3 => ?_) (fun p3 => ?_)
      · skip
        refine c_seq ?_
        refine c_region ?_
        refine l_val (v_build zero25 places25 rfl rfl) rfl ?_
        refine l_storeN 0 hS tyN25 rfl rfl rfl rfl rfl rfl (fun w hS => ?_)
        refine l_val (v_assign rfl) rfl ?_
        refine l_end ?_
        refine k_code ?_
        refine c_retCT 0 rfl tyN25 hS rfl rfl rfl rfl ?_
        exact branch_bad (read_short (by simp only [longOk, hsz]; simp; omega)) hS
      · skip
        have hmod := tmod32 (Decidable.not_not.1 p2) (by omega)
        refine c_skip ?_
        refine k_code ?_
        refine c_seq ?_
        refine c_region ?_
        refine l_val (v_makeFunc rfl) rfl ?_
        refine l_val (v_assign rfl) rfl ?_
        refine l_end ?_
        refine k_code ?_
        refine c_seq ?_
        refine c_region ?_
        refine l_val (v_move rfl) rfl ?_
        refine l_callVK (first := []) (cap := [_]) goes26 rfl rfl (word_any _ _ s _ (hS.cell 1 rfl rfl) (by omega) (by omega) hs) rfl hS (fun w hS => ?_)
        refine l_val (v_move rfl) rfl ?_
        refine l_callVK (first := []) (cap := [_]) goes26 rfl rfl (word_any _ _ s _ (hS.cell 1 rfl rfl) (by omega) (by omega) hs) rfl hS (fun w hS => ?_)
        refine l_val (v_move rfl) rfl ?_
        refine l_callVK (first := []) (cap := [_]) goes26 rfl rfl (word_any _ _ s _ (hS.cell 1 rfl rfl) (by omega) (by omega) hs) rfl hS (fun w hS => ?_)
        refine l_val (v_build zero25 places25 rfl rfl) rfl ?_
        refine l_alloc hS zero25 rfl rfl (fun b3 w hS => ?_)
        refine l_storeN 0 hS tyN25 rfl rfl rfl rfl rfl rfl (fun w hS => ?_)
        refine l_end ?_
        refine k_code ?_
        refine c_seq ?_
        refine c_seq ?_
        refine c_region ?_
        refine l_val (v_assign rfl) rfl ?_
        refine l_end ?_
        refine k_code ?_
        refine c_block ?_
        refine c_loopV [(1, _), (2, _), (3, _), (5, _)] (fun ((k, v) : Nat × Value) => [(6, .int .i64 ((6 + 32 * k : Nat) : Int))]) (fun ((k, v) : Nat × Value) w => St No w0 w [.row 30 32 v k (((chunks s.data.toList).take k).flatten.map B), .blk b3 (.cells #[.int .u16 (wordI s 0), .int .u16 (wordI s 2), .int .u16 (wordI s 4), v] 25 (0, 0)), .blk b2 (.cells #[.int .u16 0, .int .u16 0, .int .u16 0, .slice none 0 0] 25 (0, 0)), .blk b1 (.cells #[.string s] 9 (0, 0))] ∧ 6 + 32 * k ≤ s.size) (fun ((k, v) : Nat × Value) => s.size - 32 * k) ((0 : Nat), Value.slice none 0 0) ⟨(hS.nil _ _), by omega⟩ (kc rfl (kc rfl (kc rfl (kc rfl (kc rfl kn))))) (fun xx w hI => ?_)
        obtain ⟨k, v⟩ := xx
        obtain ⟨hS, hI⟩ := hI
        refine c_seq ?_
        refine c_seq ?_
        refine c_region ?_
        refine l_val (v_move rfl) rfl ?_
        refine l_val (v_load ty9 rfl (here (hS.cell 3 rfl rfl))) rfl ?_
        refine l_val (v_lenS Tryd.underlying9 rfl) rfl ?_
        refine l_val (v_lss rfl rfl) rfl ?_
        refine l_end ?_
        refine k_code ?_
        refine c_if rfl (fun p4 => ?_) (fun p4 => ?_)
        · skip
          have hx : (chunkAt s.data.toList k).length = 32 := chunkAt_len (by omega)
          have hsub : (s.extract ((6 + 32 * k : Nat) : Int).toNat (((6 + 32 * k : Nat) : Int) + 32).toNat).data.toList = chunkAt s.data.toList k := by rw [extract_list, Int.toNat_natCast, show (((6 + 32 * k : Nat) : Int) + 32).toNat - (6 + 32 * k) = 32 by omega]; rfl
          have hstep := chunks_step (l := s.data.toList) (k := k) (by omega)
          refine c_skip ?_
          refine k_code ?_
          refine c_seq ?_
          refine c_block ?_
          refine d_region (fun w => St No w0 w [.blk b3 (.cells #[.int .u16 (wordI s 0), .int .u16 (wordI s 2), .int .u16 (wordI s 4), v] 25 (0, 0)), .blk b1 (.cells #[.string s] 9 (0, 0))]) 13 mixed ?_
          have hS := hS.drew 1
          have hR : St No w0 _ [.blk b3 (.cells #[.int .u16 (wordI s 0), .int .u16 (wordI s 2), .int .u16 (wordI s 4), v] 25 (0, 0)), .blk b1 (.cells #[.string s] 9 (0, 0))] := hS.less (.cons _ (.cons_cons _ (.cons _ (.cons_cons _ (.slnil)))))
          refine d_take 0 rfl (by kernel_rfl) (by kernel_rfl) (by kernel_rfl) (by kernel_rfl) hR (v_fieldAddr field25_3 rfl) rfl ?_
          refine d_take 1 rfl (by kernel_rfl) (by kernel_rfl) (by kernel_rfl) (by kernel_rfl) hR (v_load ty23 rfl (fun _ h => h.cell 0 rfl rfl)) rfl ?_
          refine d_take 2 rfl (by kernel_rfl) (by kernel_rfl) (by kernel_rfl) (by kernel_rfl) hR (v_load ty9 rfl (fun _ h => h.cell 1 rfl rfl)) rfl ?_
          refine d_take 3 rfl (by kernel_rfl) (by kernel_rfl) (by kernel_rfl) (by kernel_rfl) hR (v_move rfl) rfl ?_
          refine d_one 4 rfl (by kernel_rfl) ?_
          refine l_val (v_move rfl) rfl ?_
          refine l_end ?_
          have hR : St No w0 _ [.blk b3 (.cells #[.int .u16 (wordI s 0), .int .u16 (wordI s 2), .int .u16 (wordI s 4), v] 25 (0, 0)), .blk b1 (.cells #[.string s] 9 (0, 0))] := hS.less (.cons _ (.cons_cons _ (.cons _ (.cons_cons _ (.slnil)))))
          refine d_on (S := (fun w => St No w0 w [.blk b3 (.cells #[.int .u16 (wordI s 0), .int .u16 (wordI s 2), .int .u16 (wordI s 4), v] 25 (0, 0)), .blk b1 (.cells #[.string s] 9 (0, 0))])) hR ?_
          refine d_one 5 rfl (by kernel_rfl) ?_
          refine l_val (v_add rfl rfl (by omega)) rfl ?_
          refine l_end ?_
          have hR : St No w0 _ [.blk b3 (.cells #[.int .u16 (wordI s 0), .int .u16 (wordI s 2), .int .u16 (wordI s 4), v] 25 (0, 0)), .blk b1 (.cells #[.string s] 9 (0, 0))] := hS.less (.cons _ (.cons_cons _ (.cons _ (.cons_cons _ (.slnil)))))
          refine d_on (S := (fun w => St No w0 w [.blk b3 (.cells #[.int .u16 (wordI s 0), .int .u16 (wordI s 2), .int .u16 (wordI s 4), v] 25 (0, 0)), .blk b1 (.cells #[.string s] 9 (0, 0))])) hR ?_
          refine d_one 6 rfl (by kernel_rfl) ?_
          refine l_val (v_sliceS Tryd.underlying9 rfl rfl rfl (by omega) (by omega) (by omega) ) rfl ?_
          refine l_end ?_
          have hR : St No w0 _ [.blk b3 (.cells #[.int .u16 (wordI s 0), .int .u16 (wordI s 2), .int .u16 (wordI s 4), v] 25 (0, 0)), .blk b1 (.cells #[.string s] 9 (0, 0))] := hS.less (.cons _ (.cons_cons _ (.cons _ (.cons_cons _ (.slnil)))))
          refine d_on (S := (fun w => St No w0 w [.blk b3 (.cells #[.int .u16 (wordI s 0), .int .u16 (wordI s 2), .int .u16 (wordI s 4), v] 25 (0, 0)), .blk b1 (.cells #[.string s] 9 (0, 0))])) hR ?_
          refine d_one 7 rfl (by kernel_rfl) ?_
          refine l_s2b hS Tryd.underlying9 Tryd.underlying46 Tryd.underlying5 rfl rfl (fun b4 csb4 capb4 w hS hcsb4 => ?_)
          refine l_end ?_
          have hR : St No w0 _ [.blk b3 (.cells #[.int .u16 (wordI s 0), .int .u16 (wordI s 2), .int .u16 (wordI s 4), v] 25 (0, 0)), .blk b1 (.cells #[.string s] 9 (0, 0))] := hS.less (.cons _ (.cons _ (.cons_cons _ (.cons _ (.cons_cons _ (.slnil))))))
          refine d_on (S := (fun w => St No w0 w [.blk b3 (.cells #[.int .u16 (wordI s 0), .int .u16 (wordI s 2), .int .u16 (wordI s 4), v] 25 (0, 0)), .blk b1 (.cells #[.string s] 9 (0, 0))])) hR ?_
          refine d_one 8 rfl (by kernel_rfl) ?_
          refine l_val (v_arr Tryd.underlying30 rfl (by rw [ByteArray.size_extract]; omega)) rfl ?_
          refine l_end ?_
          have hR : St No w0 _ [.blk b3 (.cells #[.int .u16 (wordI s 0), .int .u16 (wordI s 2), .int .u16 (wordI s 4), v] 25 (0, 0)), .blk b1 (.cells #[.string s] 9 (0, 0))] := hS.less (.cons _ (.cons _ (.cons_cons _ (.cons _ (.cons_cons _ (.slnil))))))
          refine d_on (S := (fun w => St No w0 w [.blk b3 (.cells #[.int .u16 (wordI s 0), .int .u16 (wordI s 2), .int .u16 (wordI s 4), v] 25 (0, 0)), .blk b1 (.cells #[.string s] 9 (0, 0))])) hR ?_
          refine d_one 9 rfl (by kernel_rfl) ?_
          refine l_val (v_loadN (cs := (chunkAt s.data.toList k).map B) tyN30 (by rw [List.length_map, hx]) rfl (hereN (fun j v hj => hS.cellA 0 rfl (hcsb4 j v (by rw [hsub]; exact hj))))) rfl ?_
          refine l_end ?_
          have hR : St No w0 _ [.blk b3 (.cells #[.int .u16 (wordI s 0), .int .u16 (wordI s 2), .int .u16 (wordI s 4), v] 25 (0, 0)), .blk b1 (.cells #[.string s] 9 (0, 0))] := hS.less (.cons _ (.cons _ (.cons_cons _ (.cons _ (.cons_cons _ (.slnil))))))
          refine d_on (S := (fun w => St No w0 w [.blk b3 (.cells #[.int .u16 (wordI s 0), .int .u16 (wordI s 2), .int .u16 (wordI s 4), v] 25 (0, 0)), .blk b1 (.cells #[.string s] 9 (0, 0))])) hR ?_
          refine d_one 10 rfl (by kernel_rfl) ?_
          refine l_slice1 (bytes := 0) hS Tryd.underlying23 tyN30.size zero30 rfl (by decide) (by decide) rfl rfl (by show ((chunkAt s.data.toList k).map B).length = 32; rw [List.length_map, hx]) rfl (fun b5 w hS => ?_)
          refine l_end ?_
          have hR : St No w0 _ [.blk b3 (.cells #[.int .u16 (wordI s 0), .int .u16 (wordI s 2), .int .u16 (wordI s 4), v] 25 (0, 0)), .blk b1 (.cells #[.string s] 9 (0, 0))] := hS.less (.cons _ (.cons _ (.cons _ (.cons_cons _ (.cons _ (.cons_cons _ (.slnil)))))))
          refine d_on (S := (fun w => St No w0 w [.blk b3 (.cells #[.int .u16 (wordI s 0), .int .u16 (wordI s 2), .int .u16 (wordI s 4), v] 25 (0, 0)), .blk b1 (.cells #[.string s] 9 (0, 0))])) hR ?_
          refine d_one 11 rfl (by kernel_rfl) ?_
          refine l_append (news := (chunkAt s.data.toList k).map B) 2 hS Tryd.underlying23 elem30 rfl rfl rfl (by rw [List.length_map, hx]) (hS.row 0 rfl) (B_one _) (by unfold maxLen; omega) (by omega) rfl (fun va7 w hS hvva7 => ?_)
          refine l_end ?_
          have hR : St No w0 _ [.blk b3 (.cells #[.int .u16 (wordI s 0), .int .u16 (wordI s 2), .int .u16 (wordI s 4), v] 25 (0, 0)), .blk b1 (.cells #[.string s] 9 (0, 0))] := hS.less (.cons _ (.cons _ (.cons _ (.cons_cons _ (.cons _ (.cons_cons _ (.slnil)))))))
          refine d_on (S := (fun w => St No w0 w [.blk b3 (.cells #[.int .u16 (wordI s 0), .int .u16 (wordI s 2), .int .u16 (wordI s 4), v] 25 (0, 0)), .blk b1 (.cells #[.string s] 9 (0, 0))])) hR ?_
          refine d_one 12 rfl (by kernel_rfl) ?_
          refine l_val (v_fieldAddr field25_3 rfl) rfl ?_
          refine l_end ?_
          have hR : St No w0 _ [.blk b3 (.cells #[.int .u16 (wordI s 0), .int .u16 (wordI s 2), .int .u16 (wordI s 4), v] 25 (0, 0)), .blk b1 (.cells #[.string s] 9 (0, 0))] := hS.less (.cons _ (.cons _ (.cons _ (.cons_cons _ (.cons _ (.cons_cons _ (.slnil)))))))
          refine d_on (S := (fun w => St No w0 w [.blk b3 (.cells #[.int .u16 (wordI s 0), .int .u16 (wordI s 2), .int .u16 (wordI s 4), v] 25 (0, 0)), .blk b1 (.cells #[.string s] 9 (0, 0))])) hR ?_
          refine d_one 13 rfl (by kernel_rfl) ?_
          refine l_store 3 hS ty23 rfl rfl rfl rfl (row_one (hS.rowAt 2 rfl)) (fun w hS => ?_)
          refine l_end ?_
          refine d_last (S := (fun w => St No w0 w [.blk b3 (.cells #[.int .u16 (wordI s 0), .int .u16 (wordI s 2), .int .u16 (wordI s 4), v] 25 (0, 0)), .blk b1 (.cells #[.string s] 9 (0, 0))])) ?_
          refine d_end (by kernel_rfl) ?_
          refine k_code ?_
          refine c_region ?_
          refine l_val (v_move rfl) rfl ?_
          refine l_val (v_add rfl rfl (by omega)) rfl ?_
          refine l_val (v_assign rfl) rfl ?_
          refine l_end ?_
          refine fun _ hFr => ⟨(k + 1, va7), (by dsimp only; omega), ⟨(St.cast (hS.less (.cons _ (.cons _ (List.Sublist.refl _)))) (by rw [hstep, List.map_append]; rfl)), by omega⟩, Fr.sub hFr (kc rfl (kc rfl (kc rfl (kc rfl (kc rfl kn)))))⟩
        · skip
          have hk : k = (s.size - 6) / 32 := by omega
          obtain ⟨A, cp, rfl⟩ := row_form (hS.rowAt 0 rfl)
          refine c_exit ex_here ?_
          refine k_code ?_
          refine c_seq ?_
          refine c_seq ?_
          refine c_region ?_
          refine l_val (v_loadN tyN25 rfl rfl (hereN (hS.row 1 rfl))) rfl ?_
          refine l_callK goes14 rfl hS (check_any _ _ _ _ _ _ _ (wordI_range s 0).1 (wordI_range s 0).2 (wordI_range s 4).1 (wordI_range s 4).2) rfl (fun w hS => ?_)
          refine l_val (v_neq rfl rfl) rfl ?_
          refine l_end ?_
          refine k_code ?_
          refine c_if rfl (fun p5 => ?_) (fun p5 => ?_)
          · skip
            refine c_seq ?_
            refine c_region ?_
            refine l_val (v_build zero25 places25 rfl rfl) rfl ?_
            refine l_storeN 2 hS tyN25 rfl rfl rfl rfl rfl rfl (fun w hS => ?_)
            refine l_val (v_assign rfl) rfl ?_
            refine l_end ?_
            refine k_code ?_
            refine c_retCT 2 rfl tyN25 hS rfl rfl rfl rfl ?_
            exact branch_bad (read_no (by rw [chunks_len, hsz, ← hk]; exact chk_no p5)) hS
          · skip
            refine c_skip ?_
            refine k_code ?_
            refine c_seq ?_
            refine c_region ?_
            refine l_val (v_loadN tyN25 rfl rfl (hereN (hS.row 1 rfl))) rfl ?_
            refine l_storeN 2 hS tyN25 rfl rfl rfl rfl rfl rfl (fun w hS => ?_)
            refine l_val (v_assign rfl) rfl ?_
            refine l_end ?_
            refine k_code ?_
            refine c_retCT 2 rfl tyN25 hS rfl rfl rfl rfl ?_
            exact branch_good (by simp only [longOk, hsz]; simp; omega) (by rw [chunks_len, hsz, ← hk]; exact chk_yes p5) (by rw [chunks_len, hsz, ← hk]) hS

end Go.Proofs.YtdlcefiandacnaaDoor
