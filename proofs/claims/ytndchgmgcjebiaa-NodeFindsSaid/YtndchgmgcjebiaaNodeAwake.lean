/- The walk of awake: the chapter's examples. -/
import Derived.Test.YtndchgmgcjebiaaNodeParse
namespace Go.Proofs.Ytndchgmgcjebiaa
open Go Go.RowKit E
set_option maxRecDepth 100000
set_option linter.unusedVariables false
set_option linter.unusedSimpArgs false

abbrev cs1 : List Cel := [⟨⟨#[97]⟩, ⟨#[49]⟩, 0, 1⟩, ⟨⟨#[98, 98]⟩, ⟨#[]⟩, 5, 300⟩]
abbrev cs2 : List Cel := [⟨⟨#[]⟩, ⟨#[]⟩, 1, 0⟩, ⟨⟨#[109]⟩, ⟨#[]⟩, 2, 0⟩]
abbrev out1 : List UInt8 := [0, 2, 1, 97, 0, 1, 49, 2, 98, 98, 1, 0, 0, 0, 5, 0, 0, 1, 44]
instance (leaf : Bool) (cs : List Cel) : Decidable (Good leaf cs) := by unfold Good; infer_instance
theorem good1 : Good true cs1 := by decide +kernel
theorem small1 : Smalls cs1 := ⟨by decide, by intro c hc; simp only [List.mem_cons, List.not_mem_nil, or_false] at hc; rcases hc with rfl | rfl <;> exact ⟨by decide, by decide⟩⟩
theorem small2 : Smalls cs2 := ⟨by decide, by intro c hc; simp only [List.mem_cons, List.not_mem_nil, or_false] at hc; rcases hc with rfl | rfl <;> exact ⟨by decide, by decide⟩⟩
theorem out1_eq : bytesL true cs1 = out1 := by decide +kernel
theorem size1 : sizeS true cs1 ≤ 1013 := by decide +kernel
theorem size2 : sizeS false cs2 ≤ 1013 := by decide +kernel
theorem reads1 : Reads true out1 cs1 := ⟨good1, size1, out1_eq⟩
/-- What is good is in order. -/
theorem sorted1 : Sorted cs1 := by
  intro i j hij hj
  have : i = 0 ∧ j = 1 := by have : cs1.length = 2 := rfl
                             omega
  obtain ⟨rfl, rfl⟩ := this
  decide +kernel
theorem sorted2 : Sorted cs2 := by
  intro i j hij hj
  have : i = 0 ∧ j = 1 := by have : cs2.length = 2 := rfl
                             omega
  obtain ⟨rfl, rfl⟩ := this
  decide +kernel
theorem lb1 : lbnd cs1 ⟨#[98]⟩ = 1 := by decide +kernel
theorem lb2 : lbnd cs1 ⟨#[97]⟩ = 0 := by decide +kernel
theorem has1 : hasK cs1 ⟨#[98]⟩ = false := by decide +kernel
theorem has2 : hasK cs1 ⟨#[97]⟩ = true := by decide +kernel
theorem ch1 : childS cs2 ⟨#[97]⟩ = 0 := by decide +kernel
theorem ch2 : childS cs2 ⟨#[109]⟩ = 1 := by decide +kernel
theorem gives_some {w0 w' : World} {leaf : Bool} {cs : List Cel} {e : Ending} (h : GivesRd w0 leaf (some cs) e w') :
    ∃ A c, e = .returned (.tuple #[.agg #[.bool leaf, .slice A cs.length c], .int .i64 0]) ∧ cs.length ≤ c ∧ Lies w' A (cellsOf cs) ∧ Keep No w0 w' ∧ From w0 [] A (cellsOf cs) := by
  simpa [GivesRd] using h

set_option maxHeartbeats 2000000 in
theorem awake_any (w0 : World) : Calls Try.prog 9 [].toArray w0 fun e w' => e = .returned (.bool true) ∧ Keep No w0 w' := by
  refine enter (n := 85) Try.func9 rfl rfl rfl ?_
  have hS := St.start No w0
  refine c_seq ?_
  refine c_region ?_
  refine l_val (v_assign rfl) rfl ?_
  refine l_end ?_
  refine k_code ?_
  refine c_seq ?_
  refine c_region ?_
  refine l_val (v_build (cells := #[_, _, _, _]) zero27 places27 rfl rfl) rfl ?_
  refine l_val (v_build (cells := #[_, _, _, _]) zero27 places27 rfl rfl) rfl ?_
  refine l_sliceM (cs := #[_, _, _, _, _, _, _, _]) (xs := [.tmp 12, .tmp 13]) hS Try.underlying22 tyN27.size zero27 rfl rfl rfl rfl rfl rfl rfl rfl (fun b1 w hS => ?_)
  refine l_val (v_build (cells := #[_, _]) zero24 places24 rfl rfl) rfl ?_
  refine l_alloc (cs := #[_, _]) hS zero24 rfl rfl (fun b2 w hS => ?_)
  refine l_storeNX (cs' := #[_, _]) (L' := (_ :: _)) 0 hS tyN24 rfl rfl rfl rfl rfl rfl rfl rfl (fun w hS => ?_)
  refine l_end ?_
  refine k_code ?_
  refine c_seq ?_
  refine c_region ?_
  refine l_val (v_loadW tyN24 rfl rfl (hereN (hS.rowX 0 rfl))) rfl ?_
  have hS := hS.freezeB 1 rfl
  refine l_callK goes10 rfl hS (by have := nbytes_any true (some ⟨b1, 0, none⟩) cs1 2 _ (hS.lies 1 rfl) small1; rwa [bytesR_of good1 size1, out1_eq] at this) rfl (fun w hS => ?_)
  refine l_val (v_move rfl) rfl ?_
  refine l_val (v_extractX rfl rfl) rfl ?_
  refine l_val (v_extractX rfl rfl) rfl ?_
  refine l_val (v_assign rfl) rfl ?_
  refine l_val (v_assign rfl) rfl ?_
  refine l_end ?_
  refine k_code ?_
  refine c_seq ?_
  refine c_region ?_
  refine l_val (v_move rfl) rfl ?_
  refine l_call goes17 rfl (preadT_any out1 _ (by decide)) rfl (fun e w hB => ?_)
  rw [preadS_yes reads1] at hB
  obtain ⟨A1, c1, rfl, hc1, hl1, hk1, hf1⟩ := gives_some hB
  have hS := hS.gain hk1 hl1 hf1 (fun _ h => absurd h List.not_mem_nil)
  refine ⟨_, rfl, ?_⟩
  refine l_val (v_move rfl) rfl ?_
  refine l_val (v_extractX rfl rfl) rfl ?_
  refine l_val (v_extractX rfl rfl) rfl ?_
  refine l_alloc (cs := #[_, _]) hS zero24 rfl rfl (fun b3 w hS => ?_)
  refine l_storeNX (cs' := #[_, _]) (L' := (_ :: _)) 0 hS tyN24 rfl rfl rfl rfl rfl rfl rfl rfl (fun w hS => ?_)
  refine l_val (v_assign rfl) rfl ?_
  refine l_end ?_
  refine k_code ?_
  refine c_seq ?_
  refine c_region ?_
  refine l_val (v_loadW tyN24 rfl rfl (hereN (hS.rowX 2 rfl))) rfl ?_
  refine l_callK goes21 rfl hS (by have := find_any true (some ⟨b1, 0, none⟩) cs1 2 ⟨#[98]⟩ _ (hS.lies 3 rfl) (by decide) sorted1; rwa [lb1, has1] at this) rfl (fun w hS => ?_)
  refine l_val (v_move rfl) rfl ?_
  refine l_val (v_extractX rfl rfl) rfl ?_
  refine l_val (v_extractX rfl rfl) rfl ?_
  refine l_val (v_assign rfl) rfl ?_
  refine l_val (v_assign rfl) rfl ?_
  refine l_end ?_
  refine k_code ?_
  refine c_seq ?_
  refine c_region ?_
  refine l_val (v_loadW tyN24 rfl rfl (hereN (hS.rowX 2 rfl))) rfl ?_
  refine l_callK goes21 rfl hS (by have := find_any true (some ⟨b1, 0, none⟩) cs1 2 ⟨#[97]⟩ _ (hS.lies 3 rfl) (by decide) sorted1; rwa [lb2, has2] at this) rfl (fun w hS => ?_)
  refine l_val (v_move rfl) rfl ?_
  refine l_val (v_extractX rfl rfl) rfl ?_
  refine l_val (v_extractX rfl rfl) rfl ?_
  refine l_val (v_assign rfl) rfl ?_
  refine l_val (v_assign rfl) rfl ?_
  refine l_end ?_
  refine k_code ?_
  refine c_seq ?_
  refine c_region ?_
  refine l_val (v_build (cells := #[_, _, _, _]) zero27 places27 rfl rfl) rfl ?_
  refine l_val (v_build (cells := #[_, _, _, _]) zero27 places27 rfl rfl) rfl ?_
  refine l_sliceM (cs := #[_, _, _, _, _, _, _, _]) (xs := [.tmp 36, .tmp 37]) hS Try.underlying22 tyN27.size zero27 rfl rfl rfl rfl rfl rfl rfl rfl (fun b4 w hS => ?_)
  refine l_val (v_build (cells := #[_, _]) zero24 places24 rfl rfl) rfl ?_
  refine l_alloc (cs := #[_, _]) hS zero24 rfl rfl (fun b5 w hS => ?_)
  refine l_storeNX (cs' := #[_, _]) (L' := (_ :: _)) 0 hS tyN24 rfl rfl rfl rfl rfl rfl rfl rfl (fun w hS => ?_)
  refine l_end ?_
  refine k_code ?_
  refine c_seq ?_
  refine c_region ?_
  refine l_val (v_loadW tyN24 rfl rfl (hereN (hS.rowX 4 rfl))) rfl ?_
  refine l_val (v_loadW tyN24 rfl rfl (hereN (hS.rowX 2 rfl))) rfl ?_
  refine l_callK goes19 rfl hS (by have := same_any true true (some ⟨b1, 0, none⟩) A1 cs1 cs1 2 c1 _ (hS.lies 5 rfl) (hS.lies 3 rfl) (by decide) (by decide); rwa [decide_eq_true ⟨rfl, rfl⟩] at this) rfl (fun w hS => ?_)
  refine l_val (v_assign rfl) rfl ?_
  refine l_end ?_
  refine k_code ?_
  refine c_seq ?_
  refine c_region ?_
  refine l_val (v_move rfl) rfl ?_
  refine l_val (v_seql rfl rfl) rfl ?_
  refine l_val (v_move rfl) rfl ?_
  refine l_part 45 rfl (fun p1 => ?_) (fun p1 => ?_)
  · skip
    refine l_on rfl rfl rfl ?_
    refine l_val (v_move rfl) rfl ?_
    refine l_on rfl rfl rfl ?_
    refine l_val (v_eql rfl rfl) rfl ?_
    refine l_val (v_pickT rfl rfl) rfl ?_
    refine l_val (v_move rfl) rfl ?_
    refine l_part 49 rfl (fun p2 => ?_) (fun p2 => ?_)
    · skip
      refine l_on rfl rfl rfl ?_
      refine l_val (v_move rfl) rfl ?_
      refine l_on rfl rfl rfl ?_
      refine l_val (v_eql rfl rfl) rfl ?_
      refine l_val (v_pickT rfl rfl) rfl ?_
      refine l_val (v_move rfl) rfl ?_
      refine l_part 53 rfl (fun p3 => ?_) (fun p3 => ?_)
      · skip
        refine l_on rfl rfl rfl ?_
        refine l_val (v_move rfl) rfl ?_
        refine l_val (v_pickT rfl rfl) rfl ?_
        refine l_val (v_move rfl) rfl ?_
        refine l_on rfl rfl rfl ?_
        refine l_val (v_move rfl) rfl ?_
        refine l_on rfl rfl rfl ?_
        refine l_val (v_eql rfl rfl) rfl ?_
        refine l_val (v_pickT rfl rfl) rfl ?_
        refine l_val (v_move rfl) rfl ?_
        refine l_part 60 rfl (fun p4 => ?_) (fun p4 => ?_)
        · skip
          refine l_on rfl rfl rfl ?_
          refine l_val (v_move rfl) rfl ?_
          refine l_on rfl rfl rfl ?_
          refine l_val (v_not rfl) rfl ?_
          refine l_val (v_pickT rfl rfl) rfl ?_
          refine l_val (v_move rfl) rfl ?_
          refine l_partB 64 rfl (fun p5 => ?_) (fun p5 => ?_)
          · skip
            refine l_on rfl rfl rfl ?_
            refine l_val (v_move rfl) rfl ?_
            refine l_on rfl rfl rfl ?_
            refine l_val (v_eql rfl rfl) rfl ?_
            refine l_val (v_pickT rfl rfl) rfl ?_
            refine l_val (v_move rfl) rfl ?_
            refine l_part 68 rfl (fun p6 => ?_) (fun p6 => ?_)
            · skip
              refine l_on rfl rfl rfl ?_
              refine l_val (v_move rfl) rfl ?_
              refine l_val (v_pickT rfl rfl) rfl ?_
              refine l_val (v_move rfl) rfl ?_
              refine l_partB 71 rfl (fun p7 => ?_) (fun p7 => ?_)
              · skip
                refine l_on rfl rfl rfl ?_
                refine l_val (v_loadW tyN24 rfl rfl (hereN (hS.rowX 0 rfl))) rfl ?_
                refine l_on rfl rfl rfl ?_
                refine l_callK goes22 rfl hS (by have := child_any false (some ⟨b4, 0, none⟩) cs2 2 ⟨#[97]⟩ _ ((hS.freezeB 1 rfl).lies 1 rfl) (by decide) sorted2; rwa [ch1] at this) rfl (fun w hS => ?_)
                refine l_on rfl rfl rfl ?_
                refine l_val (v_eql rfl rfl) rfl ?_
                refine l_val (v_pickT rfl rfl) rfl ?_
                refine l_val (v_move rfl) rfl ?_
                refine l_part 76 rfl (fun p8 => ?_) (fun p8 => ?_)
                · skip
                  refine l_on rfl rfl rfl ?_
                  refine l_val (v_loadW tyN24 rfl rfl (hereN (hS.rowX 0 rfl))) rfl ?_
                  refine l_on rfl rfl rfl ?_
                  refine l_callK goes22 rfl hS (by have := child_any false (some ⟨b4, 0, none⟩) cs2 2 ⟨#[109]⟩ _ ((hS.freezeB 1 rfl).lies 1 rfl) (by decide) sorted2; rwa [ch2] at this) rfl (fun w hS => ?_)
                  refine l_on rfl rfl rfl ?_
                  refine l_val (v_eql rfl rfl) rfl ?_
                  refine l_val (v_pickT rfl rfl) rfl ?_
                  refine l_val (v_move rfl) rfl ?_
                  refine l_part 81 rfl (fun p9 => ?_) (fun p9 => ?_)
                  · skip
                    refine l_on rfl rfl rfl ?_
                    refine l_val (v_loadW tyN24 rfl rfl (hereN (hS.rowX 0 rfl))) rfl ?_
                    refine l_on rfl rfl rfl ?_
                    refine l_callK goes16 rfl hS (by have := fits_any false (some ⟨b4, 0, none⟩) cs2 2 _ ((hS.freezeB 1 rfl).lies 1 rfl) small2; rwa [decide_eq_true size2] at this) rfl (fun w hS => ?_)
                    refine l_val (v_pickT rfl rfl) rfl ?_
                    refine l_val (v_assign rfl) rfl ?_
                    refine l_end ?_
                    refine k_code ?_
                    refine c_ret1 rfl rfl ?_
                    exact ⟨rfl, hS.keep⟩
                  · exact absurd rfl p9
                · exact absurd rfl p8
              · exact absurd p7 (by decide)
            · exact absurd rfl p6
          · exact absurd p5 (by decide)
        · exact absurd rfl p4
      · exact absurd rfl p3
    · exact absurd rfl p2
  · exact absurd rfl p1
end Go.Proofs.Ytndchgmgcjebiaa
