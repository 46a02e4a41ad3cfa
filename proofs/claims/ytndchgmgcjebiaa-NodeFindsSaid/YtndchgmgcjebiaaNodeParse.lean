/- What both Reads answer: the cells that may be whose bytes these are, if there are such. -/
import Derived.Test.YtndchgmgcjebiaaNodePRead
namespace Go.Proofs.Ytndchgmgcjebiaa
open Go Go.RowKit E
set_option linter.unusedVariables false
set_option linter.unusedSimpArgs false

theorem byteAt_nat (n : Int) (k : Nat) : ((byteAt n k).toNat : Int) = n / 2 ^ k % 256 := by
  unfold byteAt
  rw [UInt8.toNat_ofNat']
  have h1 := Int.emod_nonneg (n / 2 ^ k) (show (256 : Int) ≠ 0 by decide)
  have h2 := Int.emod_lt_of_pos (n / 2 ^ k) (show (0 : Int) < 256 by decide)
  omega
theorem byteAt_eq {n : Int} {k : Nat} {b : UInt8} (h : n / 2 ^ k % 256 = (b.toNat : Int)) : byteAt n k = b := by
  apply UInt8.toNat_inj.1
  have := byteAt_nat n k
  omega
theorem num_be1 {n : Int} (h0 : 0 ≤ n) (h : n < 256) : (numL (beI 1 n) : Int) = n := by
  have := byteAt_nat n 0
  rw [be1]; show ((0 * 256 + (byteAt n 0).toNat : Nat) : Int) = n
  simp only [Int.pow_zero, Int.ediv_one] at this
  omega
theorem num_be2 {n : Int} (h0 : 0 ≤ n) (h : n < 65536) : (numL (beI 2 n) : Int) = n := by
  have h1 := byteAt_nat n 0
  have h2 := byteAt_nat n 8
  rw [be2]; show (((0 * 256 + (byteAt n 8).toNat) * 256 + (byteAt n 0).toNat : Nat) : Int) = n
  simp only [Int.pow_zero, Int.ediv_one, Int.reducePow] at h1 h2
  omega
theorem num_be4 {n : Int} (h0 : 0 ≤ n) (h : n < 4294967296) : (numL (beI 4 n) : Int) = n := by
  have h1 := byteAt_nat n 0
  have h2 := byteAt_nat n 8
  have h3 := byteAt_nat n 16
  have h4 := byteAt_nat n 24
  rw [be4]; show (((((0 * 256 + (byteAt n 24).toNat) * 256 + (byteAt n 16).toNat) * 256 + (byteAt n 8).toNat) * 256 + (byteAt n 0).toNat : Nat) : Int) = n
  simp only [Int.pow_zero, Int.ediv_one, Int.reducePow] at h1 h2 h3 h4
  omega
theorem be1_num {a : List UInt8} (h : a.length = 1) : beI 1 (numL a : Nat) = a := by
  obtain ⟨b, rfl⟩ := List.length_eq_one_iff.1 h
  rw [be1]
  congr 1
  refine byteAt_eq ?_
  have := b.toNat_lt
  show ((0 * 256 + b.toNat : Nat) : Int) / 2 ^ 0 % 256 = _
  simp only [Int.pow_zero, Int.ediv_one]
  omega
theorem be2_num {a : List UInt8} (h : a.length = 2) : beI 2 (numL a : Nat) = a := by
  obtain ⟨b, c, rfl⟩ : ∃ b c, a = [b, c] := by
    match a, h with
    | [b, c], _ => exact ⟨b, c, rfl⟩
  have h1 := b.toNat_lt; have h2 := c.toNat_lt
  rw [be2]
  have hn : ((numL [b, c] : Nat) : Int) = (b.toNat : Int) * 256 + c.toNat := by
    show (((0 * 256 + b.toNat) * 256 + c.toNat : Nat) : Int) = _
    omega
  rw [hn, byteAt_eq (b := b) (by simp only [Int.reducePow]; omega), byteAt_eq (b := c) (by simp only [Int.pow_zero, Int.ediv_one]; omega)]
theorem be4_num {a : List UInt8} (h : a.length = 4) : beI 4 (numL a : Nat) = a := by
  obtain ⟨b, c, d, e, rfl⟩ : ∃ b c d e, a = [b, c, d, e] := by
    match a, h with
    | [b, c, d, e], _ => exact ⟨b, c, d, e, rfl⟩
  have h1 := b.toNat_lt; have h2 := c.toNat_lt; have h3 := d.toNat_lt; have h4 := e.toNat_lt
  rw [be4]
  have hn : ((numL [b, c, d, e] : Nat) : Int) = (((b.toNat : Int) * 256 + c.toNat) * 256 + d.toNat) * 256 + e.toNat := by
    show (((((0 * 256 + b.toNat) * 256 + c.toNat) * 256 + d.toNat) * 256 + e.toNat : Nat) : Int) = _
    omega
  rw [hn, byteAt_eq (b := b) (by simp only [Int.reducePow]; omega), byteAt_eq (b := c) (by simp only [Int.reducePow]; omega), byteAt_eq (b := d) (by simp only [Int.reducePow]; omega), byteAt_eq (b := e) (by simp only [Int.pow_zero, Int.ediv_one]; omega)]
/-! ### Taking -/
theorem takeP_app {a r : List UInt8} {n : Nat} (h : a.length = n) : takeP (a ++ r) false n = (a, r, false) := by
  subst h; unfold takeP; rw [if_neg (by rw [List.length_append]; omega), List.take_left', List.drop_left'] <;> rfl
theorem takeR_app {a r : List UInt8} {n : Nat} (h : a.length = n) : takeR (a ++ r) false n = (a, r, false) := by
  subst h; unfold takeR; rw [if_neg (by rw [List.length_append]; omega), List.take_left', List.drop_left'] <;> rfl
theorem takeP_inv {l : List UInt8} {sh : Bool} {n : Nat} {t : List UInt8 × List UInt8 × Bool} (h : takeP l sh n = t) (hs : t.2.2 = false) : sh = false ∧ l = t.1 ++ t.2.1 ∧ t.1.length = n := by
  subst h
  unfold takeP at hs ⊢
  split at hs
  · cases hs
  · rename_i hn
    rw [if_neg hn]
    exact ⟨hs, (List.take_append_drop n l).symm, by show (l.take n).length = n; rw [List.length_take]; omega⟩
/-! ### One cell -/
theorem val_nil {s : ByteArray} (h : s.data.toList = []) : s = ⟨#[]⟩ := by
  rw [← S_str s, h]; rfl
theorem nat_be1 {n : Int} {m : Nat} (h : n = m) (hm : m < 256) : numL (beI 1 n) = m := by
  have := num_be1 (n := n) (by omega) (by omega); omega
theorem str_len (s : ByteArray) : s.data.toList.length = s.size := Array.length_toList
theorem num0 : numL (beI 1 0) = 0 := by decide
theorem num1 : numL (beI 1 1) = 1 := by decide
section
variable {leaf : Bool} {c : Cel} {r : List UInt8}
theorem may_key (h : mayS leaf c = true) : c.key.size ≤ 128 := by
  unfold mayS at h; split at h
  · cases h
  · omega
theorem may_inner (h : mayS false c = true) : 1 ≤ c.page ∧ c.page ≤ 2147483647 ∧ c.val = ⟨#[]⟩ ∧ c.size = 0 := by
  unfold mayS at h
  rw [if_neg (by have := may_key h; omega), if_pos rfl] at h
  simp only [Bool.and_eq_true, decide_eq_true_eq] at h
  exact ⟨h.1.1.1, h.1.1.2, h.1.2, h.2⟩
theorem may_in (h : mayS true c = true) (hp : c.page = 0) : c.val.size ≤ 200 ∧ c.size = c.val.size := by
  unfold mayS at h
  rw [if_neg (by have := may_key h; omega), if_neg (by simp), if_pos hp] at h
  simp only [Bool.and_eq_true, decide_eq_true_eq] at h
  exact h
theorem may_out (h : mayS true c = true) (hp : ¬ c.page = 0) : 1 ≤ c.page ∧ c.page ≤ 2147483647 ∧ c.val = ⟨#[]⟩ ∧ 0 ≤ c.size ∧ c.size ≤ 60000 := by
  unfold mayS at h
  rw [if_neg (by have := may_key h; omega), if_neg (by simp), if_neg hp] at h
  simp only [Bool.and_eq_true, decide_eq_true_eq] at h
  exact ⟨h.1.1.1.1, h.1.1.1.2, h.1.1.2, h.1.2, h.2⟩
theorem cel_eq {a b : Cel} (h1 : a.key = b.key) (h2 : a.val = b.val) (h3 : a.page = b.page) (h4 : a.size = b.size) : a = b := by
  cases a; cases b; simp_all
theorem cellR_full (h : mayS leaf c = true) : cellR leaf (cellB leaf c ++ r) false = (c, r, false) := by
  have hk := may_key h
  cases leaf with
  | false =>
    obtain ⟨h1, h2, h3, h4⟩ := may_inner h
    have e : cellB false c ++ r = beI 1 c.key.size ++ (c.key.data.toList ++ (beI 4 c.page ++ r)) := by unfold cellB; simp
    rw [e, cellR_a rfl (takeR_app (beI_len 1 _)) (takeR_app (by rw [nat_be1 rfl (by omega)]; exact str_len _)) (takeR_app (beI_len 4 _))]
    refine Prod.ext (cel_eq ?_ ?_ ?_ ?_) rfl
    · exact S_str _
    · exact h3.symm
    · exact num_be4 (by omega) (by omega)
    · exact h4.symm
  | true =>
    by_cases hp : c.page = 0
    · obtain ⟨h1, h2⟩ := may_in h hp
      have e : cellB true c ++ r = beI 1 c.key.size ++ (c.key.data.toList ++ (beI 1 0 ++ (beI 1 c.val.size ++ (c.val.data.toList ++ r)))) := by unfold cellB; rw [if_neg (by simp), if_pos hp]; simp
      rw [e, cellR_c rfl (takeR_app (beI_len 1 _)) (takeR_app (by rw [nat_be1 rfl (by omega)]; exact str_len _)) (takeR_app (beI_len 1 _)) (fun h => by have := num0.symm.trans h; omega) (takeR_app (beI_len 1 _)) (takeR_app (by rw [nat_be1 rfl (by omega)]; exact str_len _))]
      refine Prod.ext (cel_eq ?_ ?_ ?_ ?_) rfl
      · exact S_str _
      · exact S_str _
      · exact hp.symm
      · show ((S c.val.data.toList).size : Int) = _; rw [S_str]; exact h2.symm
    · obtain ⟨h1, h2, h3, h4, h5⟩ := may_out h hp
      have e : cellB true c ++ r = beI 1 c.key.size ++ (c.key.data.toList ++ (beI 1 1 ++ (beI 4 c.page ++ (beI 4 c.size ++ r)))) := by unfold cellB; rw [if_neg (by simp), if_neg hp]; simp
      rw [e, cellR_b rfl (takeR_app (beI_len 1 _)) (takeR_app (by rw [nat_be1 rfl (by omega)]; exact str_len _)) (takeR_app (beI_len 1 _)) num1 (takeR_app (beI_len 4 _)) (takeR_app (beI_len 4 _))]
      refine Prod.ext (cel_eq ?_ ?_ ?_ ?_) rfl
      · exact S_str _
      · exact h3.symm
      · exact num_be4 (by omega) (by omega)
      · exact num_be4 (by omega) (by omega)
theorem cellP_full (h : mayS leaf c = true) : cellP leaf (cellB leaf c ++ r) false = (c, r, false) := by
  have hk := may_key h
  cases leaf with
  | false =>
    obtain ⟨h1, h2, h3, h4⟩ := may_inner h
    have e : cellB false c ++ r = beI 1 c.key.size ++ (c.key.data.toList ++ (beI 4 c.page ++ r)) := by unfold cellB; simp
    rw [e, cellP_a (takeP_app (beI_len 1 _)) (takeP_app (by rw [nat_be1 rfl (by omega)]; exact str_len _)) (takeP_app (beI_len 4 _))]
    refine Prod.ext (cel_eq ?_ ?_ ?_ ?_) rfl
    · exact S_str _
    · exact h3.symm
    · exact num_be4 (by omega) (by omega)
    · exact h4.symm
  | true =>
    by_cases hp : c.page = 0
    · obtain ⟨h1, h2⟩ := may_in h hp
      have e : cellB true c ++ r = beI 1 c.key.size ++ (c.key.data.toList ++ (beI 1 0 ++ (beI 1 c.val.size ++ (c.val.data.toList ++ r)))) := by unfold cellB; rw [if_neg (by simp), if_pos hp]; simp
      rw [e, cellP_c (takeP_app (beI_len 1 _)) (takeP_app (by rw [nat_be1 rfl (by omega)]; exact str_len _)) (takeP_app (beI_len 1 _)) (fun h => by have := num0.symm.trans h; omega) num0 (takeP_app (beI_len 1 _)) (takeP_app (by rw [nat_be1 rfl (by omega)]; exact str_len _))]
      refine Prod.ext (cel_eq ?_ ?_ ?_ ?_) rfl
      · exact S_str _
      · exact S_str _
      · exact hp.symm
      · show ((S c.val.data.toList).size : Int) = _; rw [S_str]; exact h2.symm
    · obtain ⟨h1, h2, h3, h4, h5⟩ := may_out h hp
      have hq : (numL (beI 4 c.page) : Int) = c.page := num_be4 (by omega) (by omega)
      have e : cellB true c ++ r = beI 1 c.key.size ++ (c.key.data.toList ++ (beI 1 1 ++ (beI 4 c.page ++ (beI 4 c.size ++ r)))) := by unfold cellB; rw [if_neg (by simp), if_neg hp]; simp
      rw [e, cellP_b (takeP_app (beI_len 1 _)) (takeP_app (by rw [nat_be1 rfl (by omega)]; exact str_len _)) (takeP_app (beI_len 1 _)) num1 (takeP_app (beI_len 4 _)) (takeP_app (beI_len 4 _)) (by dsimp only; omega)]
      refine Prod.ext (cel_eq ?_ ?_ ?_ ?_) rfl
      · exact S_str _
      · exact h3.symm
      · exact hq
      · exact num_be4 (by omega) (by omega)
/-- The program's reading is sound. -/
theorem cellP_inv {l : List UInt8} {sh : Bool} (hs : (cellP leaf l sh).2.2 = false) : sh = false ∧ l = cellB leaf (cellP leaf l sh).1 ++ (cellP leaf l sh).2.1 := by
  obtain ⟨a, ha⟩ : ∃ a, takeP l sh 1 = a := ⟨_, rfl⟩
  obtain ⟨b, hb⟩ : ∃ b, takeP a.2.1 a.2.2 (numL a.1) = b := ⟨_, rfl⟩
  have key : b.2.2 = false → sh = false ∧ l = beI 1 ((S b.1).size : Nat) ++ ((S b.1).data.toList ++ b.2.1) := by
    intro h
    obtain ⟨h1, h2, h3⟩ := takeP_inv hb h
    obtain ⟨h4, h5, h6⟩ := takeP_inv ha h1
    refine ⟨h4, ?_⟩
    rw [S_size, h3, be1_num h6, h5, h2]
    rfl
  cases leaf with
  | false =>
    obtain ⟨c, hc⟩ : ∃ c, takeP b.2.1 b.2.2 4 = c := ⟨_, rfl⟩
    rw [cellP_a ha hb hc] at hs ⊢
    obtain ⟨h1, h2, h3⟩ := takeP_inv hc hs
    obtain ⟨h4, h5⟩ := key h1
    refine ⟨h4, ?_⟩
    rw [h5, h2]
    unfold cellB; rw [if_pos rfl]; dsimp only; rw [be4_num h3]; simp
  | true =>
    obtain ⟨d, hd⟩ : ∃ d, takeP b.2.1 b.2.2 1 = d := ⟨_, rfl⟩
    by_cases h1 : numL d.1 = 1
    · obtain ⟨e, he⟩ : ∃ e, takeP d.2.1 d.2.2 4 = e := ⟨_, rfl⟩
      obtain ⟨g, hg⟩ : ∃ g, takeP e.2.1 e.2.2 4 = g := ⟨_, rfl⟩
      by_cases h0 : numL e.1 = 0
      · rw [cellP_b0 ha hb hd h1 he hg h0] at hs; cases hs
      · rw [cellP_b ha hb hd h1 he hg h0] at hs ⊢
        obtain ⟨i1, i2, i3⟩ := takeP_inv hg hs
        obtain ⟨j1, j2, j3⟩ := takeP_inv he i1
        obtain ⟨k1, k2, k3⟩ := takeP_inv hd j1
        obtain ⟨h4, h5⟩ := key k1
        refine ⟨h4, ?_⟩
        have ek : beI 1 1 = d.1 := by rw [← be1_num k3, h1]; rfl
        rw [h5, k2, j2, i2]
        unfold cellB; rw [if_neg (by simp), if_neg (by dsimp only; omega)]; dsimp only; rw [be4_num i3, be4_num j3, ek]; simp
    · by_cases h0 : numL d.1 = 0
      · obtain ⟨e, he⟩ : ∃ e, takeP d.2.1 d.2.2 1 = e := ⟨_, rfl⟩
        obtain ⟨g, hg⟩ : ∃ g, takeP e.2.1 e.2.2 (numL e.1) = g := ⟨_, rfl⟩
        rw [cellP_c ha hb hd h1 h0 he hg] at hs ⊢
        obtain ⟨i1, i2, i3⟩ := takeP_inv hg hs
        obtain ⟨j1, j2, j3⟩ := takeP_inv he i1
        obtain ⟨k1, k2, k3⟩ := takeP_inv hd j1
        obtain ⟨h4, h5⟩ := key k1
        refine ⟨h4, ?_⟩
        have ek : beI 1 0 = d.1 := by rw [← be1_num k3, h0]; rfl
        have ev : beI 1 ((S g.1).size : Nat) = e.1 := by rw [S_size, i3, be1_num j3]
        rw [h5, k2, j2, i2]
        unfold cellB; rw [if_neg (by simp), if_pos rfl]; dsimp only; rw [ev, ek]; simp; rfl
      · rw [cellP_d ha hb hd h1 h0] at hs; cases hs
end
/-! ### All cells -/
theorem rounds_full {f : List UInt8 → Bool → Cel × List UInt8 × Bool} {g : Cel → List UInt8} {r : List UInt8} : ∀ (ds cs : List Cel), (∀ c ∈ ds, ∀ r, f (g c ++ r) false = (c, r, false)) → rounds f ds.length (ds.flatMap g ++ r) false cs = (cs ++ ds, r, false)
  | [], cs, _ => by simp [rounds]
  | c :: ds, cs, h => by
    show (if false = true then _ else _) = _
    rw [if_neg (by simp), List.flatMap_cons, List.append_assoc, h c List.mem_cons_self]
    show rounds f ds.length (ds.flatMap g ++ r) false (cs ++ [c]) = _
    rw [rounds_full ds (cs ++ [c]) (fun c hc => h c (List.mem_cons_of_mem _ hc))]
    simp
theorem rounds_short {f : List UInt8 → Bool → Cel × List UInt8 × Bool} {m : Nat} {l : List UInt8} {cs : List Cel} : rounds f m l true cs = (cs, l, true) := by
  cases m <;> rfl
theorem rounds_inv {f : List UInt8 → Bool → Cel × List UInt8 × Bool} {g : Cel → List UInt8} (hf : ∀ l sh, (f l sh).2.2 = false → sh = false ∧ l = g (f l sh).1 ++ (f l sh).2.1) : ∀ (m : Nat) (l : List UInt8) (sh : Bool) (cs : List Cel), (rounds f m l sh cs).2.2 = false →
    sh = false ∧ ∃ ds, (rounds f m l sh cs).1 = cs ++ ds ∧ ds.length = m ∧ l = ds.flatMap g ++ (rounds f m l sh cs).2.1
  | 0, l, sh, cs, h => ⟨h, [], by simp [rounds], rfl, by simp [rounds]⟩
  | m + 1, l, sh, cs, h => by
    cases sh with
    | true => rw [rounds_short] at h; cases h
    | false =>
      have e : rounds f (m + 1) l false cs = rounds f m (f l false).2.1 (f l false).2.2 (cs ++ [(f l false).1]) := if_neg (by simp)
      rw [e] at h ⊢
      obtain ⟨h1, ds, h2, h3, h4⟩ := rounds_inv hf m _ _ _ h
      obtain ⟨-, h5⟩ := hf l false h1
      refine ⟨rfl, (f l false).1 :: ds, by rw [h2]; simp, by simp [h3], ?_⟩
      rw [List.flatMap_cons, List.append_assoc, ← h4]; exact h5
section
variable {leaf : Bool} {cs : List Cel} {l : List UInt8}
theorem Good.may (h : Good leaf cs) : ∀ c ∈ cs, mayS leaf c = true := fun c hc => by
  obtain ⟨i, hi, rfl⟩ := List.getElem_of_mem hc
  have := h i hi
  unfold okAt at this
  rw [Bool.and_eq_true, cAt_get hi] at this
  exact this.1
theorem bytesS_ge {c : Cel} : 3 ≤ bytesS leaf c := by
  unfold bytesS; split
  · omega
  · split <;> omega
theorem sizeTo_ge : ∀ k, 2 + 3 * k ≤ sizeTo leaf cs k
  | 0 => Nat.le_refl _
  | k + 1 => by
    have := sizeTo_ge k
    have hb := bytesS_ge (leaf := leaf) (c := cAt cs k)
    show _ ≤ sizeTo leaf cs k + bytesS leaf (cAt cs k)
    omega
/-- These are the cells that are to be read. -/
def Reads (leaf : Bool) (l : List UInt8) (cs : List Cel) : Prop := Good leaf cs ∧ sizeS leaf cs ≤ 1013 ∧ bytesL leaf cs = l
theorem Reads.len (h : Reads leaf l cs) : cs.length ≤ 337 := by
  have := sizeTo_ge (leaf := leaf) (cs := cs) cs.length
  have := h.2.1
  unfold sizeS at this
  omega
theorem runP_full (h : Reads leaf l cs) : runP leaf l = (cs, [], false) := by
  have hn := h.len
  have e : l = beI 2 cs.length ++ (cs.flatMap (cellB leaf) ++ []) := by rw [List.append_nil]; exact h.2.2.symm
  have hm : numL (beI 2 cs.length) = cs.length := by have := num_be2 (n := (cs.length : Int)) (by omega) (by omega); omega
  unfold runP
  rw [e, takeP_app (beI_len 2 _)]
  dsimp only
  rw [hm, rounds_full cs [] (fun c hc r => cellP_full (h.1.may c hc))]
  rfl
theorem runR_full (h : Reads leaf l cs) : runR leaf l = (cs, [], false) := by
  have hn := h.len
  have e : l = beI 2 cs.length ++ (cs.flatMap (cellB leaf) ++ []) := by rw [List.append_nil]; exact h.2.2.symm
  have hm : numL (beI 2 cs.length) = cs.length := by have := num_be2 (n := (cs.length : Int)) (by omega) (by omega); omega
  unfold runR
  rw [e, takeR_app (beI_len 2 _)]
  dsimp only
  rw [hm, rounds_full cs [] (fun c hc r => cellR_full (h.1.may c hc))]
  rfl
theorem chk_of (h : Good leaf cs) : chkI leaf cs = 0 := if_pos h
theorem bytesR_of (h : Good leaf cs) (hs : sizeS leaf cs ≤ 1013) : bytesR leaf cs = (S (bytesL leaf cs), 0) := by
  unfold bytesR; rw [if_pos (chk_of h), if_pos hs]; rfl
theorem S_inj {a b : List UInt8} (h : S a = S b) : a = b := by
  have := congrArg (fun s : ByteArray => s.data.toList) h
  simpa [S] using this
theorem bytesR_inv (h : (bytesR leaf cs).2 = 0) : Good leaf cs ∧ sizeS leaf cs ≤ 1013 ∧ (bytesR leaf cs).1 = S (bytesL leaf cs) := by
  unfold bytesR at h ⊢
  split
  · rename_i h1
    rw [if_pos h1] at h
    split
    · exact ⟨good_of h1, by assumption, rfl⟩
    · rename_i h2; rw [if_neg h2] at h; cases h
  · rename_i h1
    rw [if_neg h1] at h
    exact absurd h h1
theorem preadS_yes (h : Reads leaf l cs) : preadS leaf l = some cs := pread_yes (runP_full h) rfl rfl (chk_of h.1) h.2.1
theorem rreadS_yes (h : Reads leaf l cs) : rreadS leaf l = some cs :=
  rread_yes (runR_full h) rfl (by rw [bytesR_of h.1 h.2.1]) (by rw [bytesR_of h.1 h.2.1, h.2.2])
theorem preadS_inv (h : preadS leaf l = some cs) : Reads leaf l cs := by
  unfold preadS at h
  split at h
  · rename_i h0
    cases h
    obtain ⟨h1, h2, h3, h4⟩ := h0
    refine ⟨good_of h3, h4, ?_⟩
    unfold runP at h1 h2 ⊢
    obtain ⟨i1, ds, i2, i3, i4⟩ := rounds_inv (g := cellB leaf) (fun l sh h => cellP_inv h) _ _ _ _ h1
    obtain ⟨j1, j2, j3⟩ := takeP_inv rfl i1
    rw [i2, List.nil_append]
    rw [h2, List.append_nil] at i4
    unfold bytesL
    rw [← i4, i3, be2_num j3]
    exact j2.symm
  · cases h
theorem rreadS_inv (h : rreadS leaf l = some cs) : Reads leaf l cs := by
  unfold rreadS at h
  split at h
  · rename_i h0
    cases h
    obtain ⟨h1, h2, h3⟩ := h0
    obtain ⟨i1, i2, i3⟩ := bytesR_inv h2
    exact ⟨i1, i2, S_inj (i3.symm.trans h3)⟩
  · cases h
/-- Both Reads answer alike. -/
theorem reads_eq (leaf : Bool) (l : List UInt8) : rreadS leaf l = preadS leaf l := by
  cases hp : preadS leaf l with
  | some cs => exact rreadS_yes (preadS_inv hp)
  | none =>
    cases hr : rreadS leaf l with
    | none => rfl
    | some cs => rw [preadS_yes (rreadS_inv hr)] at hp; cases hp
end
end Go.Proofs.Ytndchgmgcjebiaa
