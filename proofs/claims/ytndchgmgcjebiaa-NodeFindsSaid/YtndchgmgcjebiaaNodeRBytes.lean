/- The walks of the document's writing of nodes. -/
import Derived.Test.YtndchgmgcjebiaaNodeBytes
namespace Go.Proofs.Ytndchgmgcjebiaa
open Go Go.RowKit E
set_option maxRecDepth 100000
set_option linter.unusedVariables false
set_option linter.unusedSimpArgs false

theorem byte_raw0 {n : Int} : IntKind.u8.wrap n = ((byteAt n 0).toNat : Int) := by
  rw [IntKind.wrap_u8']
  unfold byteAt
  rw [UInt8.toNat_ofNat', Int.pow_zero, Int.ediv_one]
  have h1 := Int.emod_nonneg n (show (256 : Int) ≠ 0 by decide)
  have h2 := Int.emod_lt_of_pos n (show (0 : Int) < 256 by decide)
  omega
theorem be1 (n : Int) : beI 1 n = [byteAt n 0] := rfl
theorem be4 (n : Int) : beI 4 n = [byteAt n 24, byteAt n 16, byteAt n 8, byteAt n 0] := rfl
theorem be2 (n : Int) : beI 2 n = [byteAt n 8, byteAt n 0] := rfl
theorem wrap_hi {n : Nat} (h : n ≤ 65536) : IntKind.u8.wrap (IntKind.i64.wrap ((n : Int).tdiv 256)) = ((byteAt (n : Int) 8).toNat : Int) := by
  have e : (n : Int).tdiv 256 = (n : Int) / 2 ^ 8 := by rw [Int.tdiv_eq_ediv_of_nonneg (by omega)]; rfl
  rw [e, IntWalk.i64_in _ (by have : (n : Int) / 2 ^ 8 ≤ n := Int.ediv_le_self _ (by omega); have := Int.ediv_nonneg (a := (n : Int)) (b := 2 ^ 8) (by omega) (by decide); omega), byte_raw0]
  unfold byteAt
  rw [Int.pow_zero, Int.ediv_one]
theorem wrap_lo {n : Nat} : IntKind.u8.wrap ((n : Int).tmod 256) = ((byteAt (n : Int) 0).toNat : Int) := by
  rw [Int.tmod_eq_emod_of_nonneg (by omega), byte_raw0]
  unfold byteAt
  rw [Int.pow_zero, Int.ediv_one, Int.ediv_one, Int.emod_emod]
def S (l : List UInt8) : ByteArray := ⟨l.toArray⟩
theorem S_app (a b : List UInt8) : S a ++ S b = S (a ++ b) := by
  apply ByteArray.ext; apply Array.ext'; simp [S]
theorem S_str (s : ByteArray) : S s.data.toList = s := by
  apply ByteArray.ext; apply Array.ext'; simp [S]
theorem S_size (l : List UInt8) : (S l).size = l.length := by simp [S, ByteArray.size]

theorem four_any (n : Int) (w0 : World) : Calls Try.prog 33 [.int .i64 n].toArray w0 fun e w' => e = .returned (.string (S (beI 4 n))) ∧ Keep No w0 w' := by
  refine enter (n := 16) Try.func33 rfl rfl rfl ?_
  have hS := St.start No w0
  refine c_seq ?_
  refine c_region ?_
  refine l_val (v_assign rfl) rfl ?_
  refine l_end ?_
  refine k_code ?_
  refine c_seq ?_
  refine c_region ?_
  refine l_val (v_move rfl) rfl ?_
  refine l_val (v_shr rfl rfl (by decide)) rfl ?_
  refine l_val (v_conv Try.underlying3 Try.underlying5 rfl) rfl ?_
  rw [show (24 : Int).toNat = 24 from rfl, byte_raw (by omega)]
  refine l_val (v_move rfl) rfl ?_
  refine l_val (v_shr rfl rfl (by decide)) rfl ?_
  refine l_val (v_conv Try.underlying3 Try.underlying5 rfl) rfl ?_
  rw [show (16 : Int).toNat = 16 from rfl, byte_raw (by omega)]
  refine l_val (v_move rfl) rfl ?_
  refine l_val (v_shr rfl rfl (by decide)) rfl ?_
  refine l_val (v_conv Try.underlying3 Try.underlying5 rfl) rfl ?_
  rw [show (8 : Int).toNat = 8 from rfl, byte_raw (by omega)]
  refine l_val (v_move rfl) rfl ?_
  refine l_val (v_conv Try.underlying3 Try.underlying5 rfl) rfl ?_
  rw [byte_raw0]
  refine l_sliceN (xs := [.tmp 5, .tmp 8, .tmp 11, .tmp 13]) hS Try.underlying52 ty5 zero5 rfl rfl rfl (by simp [Value.cells, B]) rfl rfl rfl rfl (fun b1 w hS => ?_)
  refine l_val (v_b2s (bs := [byteAt n 24, byteAt n 16, byteAt n 8, byteAt n 0]) Try.underlying52 Try.underlying5 Try.underlying9 rfl rfl (hereN ((hS.row 0 rfl)))) rfl ?_
  refine l_val (v_assign rfl) rfl ?_
  refine l_end ?_
  refine k_code ?_
  refine c_ret1 rfl rfl ?_
  exact ⟨rfl, hS.keep⟩
section
variable {leaf : Bool} {cs : List Cel} {k : Nat}
theorem str_a (hk : k < cs.length) (h : leaf = false) : S (bytesTo leaf cs k) ++ ⟨[byteAt ((cAt cs k).key.size : Int) 0].toArray⟩ ++ (cAt cs k).key ++ S (beI 4 (cAt cs k).page) = S (bytesTo leaf cs (k + 1)) := by
  rw [bytesTo_step hk, ← S_str (cAt cs k).key, show (⟨[byteAt ((S (cAt cs k).key.data.toList).size : Int) 0].toArray⟩ : ByteArray) = S [byteAt ((S (cAt cs k).key.data.toList).size : Int) 0] from rfl, S_app, S_app, S_app, S_str]
  unfold cellB; rw [if_pos h, be1]; simp
theorem str_b (hk : k < cs.length) (h : leaf = true) (hp : ¬ (cAt cs k).page = 0) : S (bytesTo leaf cs k) ++ ⟨[byteAt ((cAt cs k).key.size : Int) 0].toArray⟩ ++ (cAt cs k).key ++ ⟨#[1]⟩ ++ S (beI 4 (cAt cs k).page) ++ S (beI 4 (cAt cs k).size) = S (bytesTo leaf cs (k + 1)) := by
  rw [bytesTo_step hk, ← S_str (cAt cs k).key, show (⟨[byteAt ((S (cAt cs k).key.data.toList).size : Int) 0].toArray⟩ : ByteArray) = S [byteAt ((S (cAt cs k).key.data.toList).size : Int) 0] from rfl, show (⟨#[1]⟩ : ByteArray) = S [1] from rfl, S_app, S_app, S_app, S_app, S_app, S_str]
  unfold cellB; rw [if_neg (by rw [h]; simp), if_neg hp, be1, be1]; simp; rfl
theorem str_c (hk : k < cs.length) (h : leaf = true) (hp : (cAt cs k).page = 0) : S (bytesTo leaf cs k) ++ ⟨[byteAt ((cAt cs k).key.size : Int) 0].toArray⟩ ++ (cAt cs k).key ++ ⟨[0, byteAt ((cAt cs k).val.size : Int) 0].toArray⟩ ++ (cAt cs k).val = S (bytesTo leaf cs (k + 1)) := by
  rw [bytesTo_step hk, ← S_str (cAt cs k).key, ← S_str (cAt cs k).val, show (⟨[byteAt ((S (cAt cs k).key.data.toList).size : Int) 0].toArray⟩ : ByteArray) = S [byteAt ((S (cAt cs k).key.data.toList).size : Int) 0] from rfl,
    show (⟨[0, byteAt ((S (cAt cs k).val.data.toList).size : Int) 0].toArray⟩ : ByteArray) = S [0, byteAt ((S (cAt cs k).val.data.toList).size : Int) 0] from rfl, S_app, S_app, S_app, S_app, S_str, S_str]
  unfold cellB; rw [if_neg (by rw [h]; simp), if_pos hp, be1, be1, be1]; simp; rfl
end
set_option maxHeartbeats 4000000 in
theorem rbytes_any (leaf : Bool) (A : Option Addr) (cs : List Cel) (c : Nat) (w0 : World) (hl : Lies w0 A (cellsOf cs)) (hs : Smalls cs) :
    Calls Try.prog 11 [.agg #[.bool leaf, .slice A cs.length c]].toArray w0 fun e w' => e = .returned (.tuple #[.string (bytesR leaf cs).1, .int .i64 (bytesR leaf cs).2]) ∧ Keep No w0 w' := by
  have hn := hs.1
  refine enter (n := 84) Try.func11 rfl rfl rfl ?_
  have hS := St.start No w0
  refine c_seq ?_
  refine c_region ?_
  refine l_box (cs := #[_, _]) hS rfl rfl rfl (fun b1 w hS => ?_)
  refine l_val (v_assign rfl) rfl ?_
  refine l_val (v_assign rfl) rfl ?_
  refine l_end ?_
  refine k_code ?_
  refine c_seq ?_
  refine c_region ?_
  refine l_val (v_loadW tyN24 rfl rfl (hereN (hS.rowX 0 rfl))) rfl ?_
  refine l_callK goes13 rfl hS (rcheck_any _ _ _ _ _ (hl.keep hS.keep) (by omega)) rfl (fun w hS => ?_)
  refine l_val (v_assign rfl) rfl ?_
  refine l_end ?_
  refine k_code ?_
  refine c_seq ?_
  refine c_seq ?_
  refine c_region ?_
  refine l_val (v_move rfl) rfl ?_
  refine l_val (v_neq rfl rfl) rfl ?_
  refine l_end ?_
  refine k_code ?_
  refine c_if rfl (fun p1 => ?_) (fun p1 => ?_)
  · skip
    refine c_seq ?_
    refine c_region ?_
    refine l_val (v_move rfl) rfl ?_
    refine l_val (v_assign rfl) rfl ?_
    refine l_val (v_assign rfl) rfl ?_
    refine l_end ?_
    refine k_code ?_
    refine c_ret2 rfl rfl rfl ?_
    exact ⟨by rw [show bytesR leaf cs = (⟨#[]⟩, chkI leaf cs) from if_neg p1], hS.keep⟩
  · skip
    refine c_skip ?_
    refine k_code ?_
    refine c_seq ?_
    refine c_seq ?_
    refine c_region ?_
    refine l_val (v_loadW tyN24 rfl rfl (hereN (hS.rowX 0 rfl))) rfl ?_
    refine l_callK goes15 rfl hS (rsize_any _ _ _ _ _ (hl.keep hS.keep) hs) rfl (fun w hS => ?_)
    refine l_val (v_gtr rfl rfl) rfl ?_
    refine l_end ?_
    refine k_code ?_
    refine c_if rfl (fun p2 => ?_) (fun p2 => ?_)
    · skip
      have hc0 : chkI leaf cs = 0 := by omega
      refine c_seq ?_
      refine c_region ?_
      refine l_val (v_assign rfl) rfl ?_
      refine l_val (v_assign rfl) rfl ?_
      refine l_end ?_
      refine k_code ?_
      refine c_ret2 rfl rfl rfl ?_
      exact ⟨by rw [show bytesR leaf cs = (⟨#[]⟩, 11) from by unfold bytesR; rw [if_pos hc0, if_neg (by omega)]], hS.keep⟩
    · skip
      have hc0 : chkI leaf cs = 0 := by omega
      have hfit : sizeS leaf cs ≤ 1013 := by omega
      refine c_skip ?_
      refine k_code ?_
      refine c_seq ?_
      refine c_region ?_
      refine l_val (v_fieldX (o' := 1) field24_1 rfl rfl) rfl ?_
      refine l_val (v_load ty22 rfl (here (hS.cellX 0 (k := 1) rfl rfl))) rfl ?_
      refine l_val (v_len Try.underlying22 rfl) rfl ?_
      refine l_val (v_quo rfl rfl (by decide)) rfl ?_
      refine l_val (v_conv Try.underlying3 Try.underlying5 rfl) rfl ?_
      rw [wrap_hi (by omega)]
      refine l_val (v_fieldX (o' := 1) field24_1 rfl rfl) rfl ?_
      refine l_val (v_load ty22 rfl (here (hS.cellX 0 (k := 1) rfl rfl))) rfl ?_
      refine l_val (v_len Try.underlying22 rfl) rfl ?_
      refine l_val (v_rem rfl rfl (by decide)) rfl ?_
      refine l_val (v_conv Try.underlying3 Try.underlying5 rfl) rfl ?_
      rw [wrap_lo]
      refine l_sliceN (xs := [.tmp 20, .tmp 25]) hS Try.underlying52 ty5 zero5 rfl rfl rfl (by simp [Value.cells, B]) rfl rfl rfl rfl (fun b2 w hS => ?_)
      refine l_val (v_b2s (bs := [byteAt (cs.length : Int) 8, byteAt (cs.length : Int) 0]) Try.underlying52 Try.underlying5 Try.underlying9 rfl rfl (hereN ((hS.row 0 rfl)))) rfl ?_
      refine l_val (v_assign rfl) rfl ?_
      refine l_end ?_
      refine k_code ?_
      refine c_seq ?_
      refine c_seq ?_
      refine c_region ?_
      refine l_val (v_assign rfl) rfl ?_
      refine l_end ?_
      refine k_code ?_
      refine c_block ?_
      refine c_loopV [(1, _), (2, _), (3, _)] (fun (k : Nat) => [(5, .string (S (bytesTo leaf cs k))), (6, .int .i64 k)]) (fun (k : Nat) w => St No w0 w [.blk b1 (.cells #[.bool leaf, .slice A cs.length c] 24 (0, 0))] ∧ k ≤ cs.length) (fun (k : Nat) => cs.length - k) (0 : Nat) ⟨(hS.arr [1]), Nat.zero_le _⟩ (kc rfl (kc rfl (kc rfl (kc rfl (kc rfl kn))))) (fun k w hI => ?_)
      obtain ⟨hS, hI⟩ := hI
      have hsz : (S (bytesTo leaf cs k)).size ≤ 1013 := (by rw [S_size, bytesTo_len hI]; exact Nat.le_trans (sizeTo_mono hI) hfit)
      refine c_seq ?_
      refine c_seq ?_
      refine c_region ?_
      refine l_val (v_move rfl) rfl ?_
      refine l_val (v_fieldX (o' := 1) field24_1 rfl rfl) rfl ?_
      refine l_val (v_load ty22 rfl (here (hS.cellX 0 (k := 1) rfl rfl))) rfl ?_
      refine l_val (v_len Try.underlying22 rfl) rfl ?_
      refine l_val (v_lss rfl rfl) rfl ?_
      refine l_end ?_
      refine k_code ?_
      refine c_if rfl (fun p3 => ?_) (fun p3 => ?_)
      · skip
        obtain ⟨ad, hA, hcell⟩ := cell_k hl (k := k) (by omega)
        have hsm := hs.2 _ (cAt_mem (show k < cs.length by omega))
        have hs1 := hsm.1
        have hs2 := hsm.2
        have h1z : (⟨[byteAt ((cAt cs k).key.size : Int) 0].toArray⟩ : ByteArray).size = 1 := rfl
        have h2z : (⟨[0, byteAt ((cAt cs k).val.size : Int) 0].toArray⟩ : ByteArray).size = 2 := rfl
        have h4z : ∀ n, (S (beI 4 n)).size = 4 := fun n => rfl
        have hoz : (⟨#[1]⟩ : ByteArray).size = 1 := rfl
        refine c_skip ?_
        refine k_code ?_
        refine c_seq ?_
        refine c_block ?_
        refine c_seq ?_
        refine c_region ?_
        refine l_val (v_fieldX (o' := 1) field24_1 rfl rfl) rfl ?_
        refine l_val (v_load ty22 rfl (here (hS.cellX 0 (k := 1) rfl rfl))) rfl ?_
        refine l_val (v_move rfl) rfl ?_
        refine l_val (v_indexAddrO hA Try.underlying22 tyN27.size rfl rfl (by omega) (by omega)) rfl ?_
        refine l_val (v_loadN (cs := enc (cAt cs k)) tyN27 rfl rfl (hereN (fun j v hj => hS.old (hcell j v hj)))) rfl ?_
        refine l_alloc (cs := #[_, _, _, _]) hS zero27 rfl rfl (fun b3 w hS => ?_)
        refine l_storeNX (cs' := #[_, _, _, _]) (L' := (_ :: _)) 0 hS tyN27 rfl rfl rfl rfl rfl rfl rfl rfl (fun w hS => ?_)
        refine l_end ?_
        refine k_code ?_
        refine c_seq ?_
        refine c_region ?_
        refine l_val (v_move rfl) rfl ?_
        refine l_val (v_fieldX (o' := 0) field27_0 rfl rfl) rfl ?_
        refine l_val (v_load ty9 rfl (here (hS.cellX 0 (k := 0) rfl rfl))) rfl ?_
        refine l_val (v_lenS Try.underlying9 rfl) rfl ?_
        refine l_val (v_conv Try.underlying3 Try.underlying5 rfl) rfl ?_
        rw [byte_raw0]
        refine l_sliceN (xs := [.tmp 44]) hS Try.underlying52 ty5 zero5 rfl rfl rfl (by simp [Value.cells, B]) rfl rfl rfl rfl (fun b4 w hS => ?_)
        refine l_val (v_b2s (bs := [byteAt ((cAt cs k).key.size : Int) 0]) Try.underlying52 Try.underlying5 Try.underlying9 rfl rfl (hereN ((hS.row 0 rfl)))) rfl ?_
        refine l_val (v_cat rfl rfl (by simp only [ByteArray.size_append, h1z, h2z, h4z, hoz]; omega)) rfl ?_
        refine l_val (v_fieldX (o' := 0) field27_0 rfl rfl) rfl ?_
        refine l_val (v_load ty9 rfl (here (hS.cellX 1 (k := 0) rfl rfl))) rfl ?_
        refine l_val (v_cat rfl rfl (by simp only [ByteArray.size_append, h1z, h2z, h4z, hoz]; omega)) rfl ?_
        refine l_val (v_assign rfl) rfl ?_
        refine l_end ?_
        refine k_code ?_
        refine c_seq ?_
        refine c_region ?_
        refine l_val (v_fieldX (o' := 0) field24_0 rfl rfl) rfl ?_
        refine l_val (v_load ty4 rfl (here (hS.cellX 2 (k := 0) rfl rfl))) rfl ?_
        refine l_val (v_not rfl) rfl ?_
        refine l_end ?_
        refine k_code ?_
        refine c_cond rfl (fun p4 => ?_) (fun p4 => ?_)
        · skip
          refine c_region ?_
          refine l_val (v_move rfl) rfl ?_
          refine l_val (v_fieldX (o' := 2) field27_2 rfl rfl) rfl ?_
          refine l_val (v_load ty3 rfl (here (hS.cellX 1 (k := 2) rfl rfl))) rfl ?_
          refine l_callK goes33 rfl hS (four_any _ _) rfl (fun w hS => ?_)
          refine l_val (v_cat rfl rfl (by simp only [ByteArray.size_append, h1z, h2z, h4z, hoz]; omega)) rfl ?_
          refine l_val (v_assign rfl) rfl ?_
          refine l_end ?_
          refine k_code ?_
          refine c_region ?_
          refine l_val (v_move rfl) rfl ?_
          refine l_val (v_add rfl rfl (by omega)) rfl ?_
          refine l_val (v_assign rfl) rfl ?_
          refine l_end ?_
          refine fun _ hFr => ⟨(k + 1), (by omega), ⟨(hS.arr [2]), by omega⟩, Fr.sub hFr (kc (congrArg (fun s => some (Value.string s)) (str_a (by omega) (not_tt p4))) (kc rfl (kc rfl (kc rfl (kc rfl kn)))))⟩
        · skip
          refine c_seq ?_
          refine c_region ?_
          refine l_val (v_fieldX (o' := 2) field27_2 rfl rfl) rfl ?_
          refine l_val (v_load ty3 rfl (here (hS.cellX 1 (k := 2) rfl rfl))) rfl ?_
          refine l_val (v_neq rfl rfl) rfl ?_
          refine l_end ?_
          refine k_code ?_
          refine c_if rfl (fun p5 => ?_) (fun p5 => ?_)
          · skip
            refine q_region hS mixed (by kernel_rfl) ?_
            refine q_val (v_move rfl) rfl ?_
            refine q_val (v_cat rfl rfl (by simp only [ByteArray.size_append, h1z, h2z, h4z, hoz]; omega)) rfl ?_
            refine q_val (v_fieldX (o' := 2) field27_2 rfl rfl) rfl ?_
            refine q_val (v_load ty3 rfl (fun _ h => h.cellX 1 (k := 2) rfl rfl)) rfl ?_
            refine q_callK goes33 rfl (fun w hS => four_any _ _) rfl ?_
            refine q_val (v_cat rfl rfl (by simp only [ByteArray.size_append, h1z, h2z, h4z, hoz]; omega)) rfl ?_
            refine q_val (v_fieldX (o' := 3) field27_3 rfl rfl) rfl ?_
            refine q_val (v_load ty3 rfl (fun _ h => h.cellX 1 (k := 3) rfl rfl)) rfl ?_
            refine q_callK goes33 rfl (fun w hS => four_any _ _) rfl ?_
            refine q_val (v_cat rfl rfl (by simp only [ByteArray.size_append, h1z, h2z, h4z, hoz]; omega)) rfl ?_
            refine q_val (v_assign rfl) rfl ?_
            refine q_end (fun w hS => ?_)
            refine k_code ?_
            refine c_region ?_
            refine l_val (v_move rfl) rfl ?_
            refine l_val (v_add rfl rfl (by omega)) rfl ?_
            refine l_val (v_assign rfl) rfl ?_
            refine l_end ?_
            refine fun _ hFr => ⟨(k + 1), (by omega), ⟨(hS.arr [2]), by omega⟩, Fr.sub hFr (kc (congrArg (fun s => some (Value.string s)) (str_b (by omega) (notnot p4) p5)) (kc rfl (kc rfl (kc rfl (kc rfl kn)))))⟩
          · skip
            refine c_region ?_
            refine l_val (v_move rfl) rfl ?_
            refine l_val (v_fieldX (o' := 1) field27_1 rfl rfl) rfl ?_
            refine l_val (v_load ty9 rfl (here (hS.cellX 1 (k := 1) rfl rfl))) rfl ?_
            refine l_val (v_lenS Try.underlying9 rfl) rfl ?_
            refine l_val (v_conv Try.underlying3 Try.underlying5 rfl) rfl ?_
            rw [byte_raw0]
            refine l_sliceN (xs := [.const (.int .u8 0), .tmp 76]) hS Try.underlying52 ty5 zero5 rfl rfl rfl (by simp [Value.cells, B]) rfl rfl rfl rfl (fun b5 w hS => ?_)
            refine l_val (v_b2s (bs := [0, byteAt ((cAt cs k).val.size : Int) 0]) Try.underlying52 Try.underlying5 Try.underlying9 rfl rfl (hereN ((hS.row 0 rfl)))) rfl ?_
            refine l_val (v_cat rfl rfl (by simp only [ByteArray.size_append, h1z, h2z, h4z, hoz]; omega)) rfl ?_
            refine l_val (v_fieldX (o' := 1) field27_1 rfl rfl) rfl ?_
            refine l_val (v_load ty9 rfl (here (hS.cellX 2 (k := 1) rfl rfl))) rfl ?_
            refine l_val (v_cat rfl rfl (by simp only [ByteArray.size_append, h1z, h2z, h4z, hoz]; omega)) rfl ?_
            refine l_val (v_assign rfl) rfl ?_
            refine l_end ?_
            refine k_code ?_
            refine c_region ?_
            refine l_val (v_move rfl) rfl ?_
            refine l_val (v_add rfl rfl (by omega)) rfl ?_
            refine l_val (v_assign rfl) rfl ?_
            refine l_end ?_
            refine fun _ hFr => ⟨(k + 1), (by omega), ⟨(hS.arr [3]), by omega⟩, Fr.sub hFr (kc (congrArg (fun s => some (Value.string s)) (str_c (by omega) (notnot p4) (by omega))) (kc rfl (kc rfl (kc rfl (kc rfl kn)))))⟩
      · skip
        refine c_exit ex_here ?_
        refine k_code ?_
        refine c_seq ?_
        refine c_region ?_
        refine l_val (v_move rfl) rfl ?_
        refine l_val (v_assign rfl) rfl ?_
        refine l_val (v_assign rfl) rfl ?_
        refine l_end ?_
        refine k_code ?_
        refine c_ret2 rfl rfl rfl ?_
        exact ⟨by rw [show bytesR leaf cs = (⟨(bytesL leaf cs).toArray⟩, 0) from by unfold bytesR; rw [if_pos hc0, if_pos hfit], show k = cs.length by omega, bytesTo_all]; rfl, hS.keep⟩
end Go.Proofs.Ytndchgmgcjebiaa
