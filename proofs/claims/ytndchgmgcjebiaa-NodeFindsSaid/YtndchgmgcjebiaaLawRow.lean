/- What a row 'true; the input reads as it did' asks for, of any function that keeps what was there; byte strings in rows of arrays. -/
import Derived.Test.YtndchgmgcjebiaaRows
import Derived.Test.YtndchgmgcjebiaaEngMore
import Derived.ProofKit
import Derived.Carry
import Derived.Deep.Slices
import Derived.Lib.SmallJoins
namespace Go.Proofs.Ytndchgmgcjebiaa
open Go Go.ChangeShapes Go.WideShapes Go.ChangeAt Go.RowKit E
set_option linter.unusedVariables false

theorem Try.own : ownKnob Try.prog.godebug = none := by kernel_rfl
theorem Try.laidOut : laidOutB Try.prog = true := by kernel_rfl

/-- The arguments read as they did where nothing old has turned. -/
theorem trodAll_kept {H : Type} {enc : TypeId × Value → H} {P : Program} (hl : laidOutB P = true) {W W' : World} (hb : Below W.heap.size W W') :
    ∀ {ts : List TypeId} {vs : List Value} {ds : List (DataW H)} {ps : List MemPlace}, (∀ t ∈ ts, P.readableRec t = true ∧ t < P.types.size) →
    DataW.TrodAll enc P W 0 (fun _ => true) true ts vs ds ps → (∀ x ∈ ps, x.block < W.heap.size) →
    DataW.TrodAll enc P W' 0 (fun b => decide (b < W.heap.size)) true ts vs ds ps
  | [], [], [], ps, _, h, _ => h
  | t :: ts, v :: vs, d :: ds, ps, hr, h, hlt => by
    obtain ⟨p, q, h1, h2, rfl⟩ := h
    obtain ⟨r1, r2⟩ := hr t (List.mem_cons_self ..)
    exact ⟨p, q, Below.trod hl r1 r2 h1 hb (fun x hx => hlt x (List.mem_append_left _ hx)),
      trodAll_kept hl hb (fun t ht => hr t (List.mem_cons_of_mem _ ht)) h2 (fun x hx => hlt x (List.mem_append_right _ hx)), rfl⟩
  | [], _ :: _, _, _, _, h, _ => by simp [DataW.TrodAll] at h
  | [], [], _ :: _, _, _, h, _ => by simp [DataW.TrodAll] at h
  | _ :: _, [], _, _, _, h, _ => by simp [DataW.TrodAll] at h
  | _ :: _, _ :: _, [], _, _, h, _ => by simp [DataW.TrodAll] at h

theorem trodAll_lens {H : Type} {enc : TypeId × Value → H} {P : Program} {W : World} {b : Nat} {sp : Nat → Bool} {hd : Bool} :
    ∀ {ts : List TypeId} {vs : List Value} {ds : List (DataW H)} {ps : List MemPlace}, DataW.TrodAll enc P W b sp hd ts vs ds ps → vs.length = ts.length ∧ ds.length = ts.length
  | [], [], [], _, _ => ⟨rfl, rfl⟩
  | _ :: _, _ :: _, _ :: _, _, h => by
    obtain ⟨p, q, -, h2, -⟩ := h
    obtain ⟨a, b⟩ := trodAll_lens h2
    exact ⟨by simp [a], by simp [b]⟩
  | [], _ :: _, _, _, h => by simp [DataW.TrodAll] at h
  | [], [], _ :: _, _, h => by simp [DataW.TrodAll] at h
  | _ :: _, [], _, _, h => by simp [DataW.TrodAll] at h
  | _ :: _, _ :: _, [], _, h => by simp [DataW.TrodAll] at h

/-- A law's row: it answers true, the input reads as it did. -/
theorem law_post {H : Type} {enc : TypeId × Value → H} {P : Program} (hl : laidOutB P = true) {f : Func} {s : ChangeSpec} {W W' : World} {args : Array Value} {ds gs : List (DataW H)} {before : List MemPlace} {tb : TypeId}
    (hv : s.vars = []) (hr : ∀ t ∈ f.params.toList, P.readableRec t = true ∧ t < P.types.size) (hrt : f.resultTypes = #[tb]) (htb : P.underlying tb = some .bool)
    (hs : ∀ xs : List (DataW H), xs.length = f.params.toList.length → s.fn H (xs ++ []) = { results := [.lit (.bool true)], args := xs })
    (hW : DataW.Whole enc P f.params.toList s.vars false W args.toList ds gs before) (hk : Keep No W W') :
    s.post enc P f false true false false W args (.bool true) W' := by
  have hlt : ∀ x ∈ before, x.block < W.heap.size := fun x hx => by simpa using hW.lt x hx
  obtain ⟨p, q, h1, h2, e, h3, h4⟩ := id hW
  rw [hv] at h2
  obtain ⟨rfl, rfl⟩ := trodVars_none h2
  have hlen := (trodAll_lens h1).2
  have hgs := hs ds hlen
  refine ⟨ds, [], before, [], p, [], hW, ?_, ?_, ?_, hk.below.frame _, fun h => by cases h⟩
  · rw [hgs, hrt]; exact trodAll_mk1 (shut_bool htb true)
  · rw [hgs]; exact trodAll_kept hl hk.below hr h1 (fun x hx => hlt x (by rw [e]; exact List.mem_append_left _ hx))
  · rw [hgs, hv]; rfl

/-- The byte of a cell. -/
def byteV : Value → UInt8 | .int _ n => UInt8.ofNat n.toNat | _ => 0
theorem byteV_wf {n : Int} (h : (Lit.int .u8 n).wf = true) : B (byteV (.int .u8 n)) = .int .u8 n := by
  simp only [Lit.wf, Bool.and_eq_true, IntKind.min, IntKind.max, IntKind.signed, IntKind.bits] at h
  simp only [B, byteV, UInt8.toNat_ofNat']
  congr 1
  simp at h
  omega
theorem bytes_of_array {H : Type} {enc : TypeId × Value → H} {P : Program} {w : World} {base : Nat} {sp : Nat → Bool} {hd : Bool} {fuel n : Nat} {t e : TypeId} {cs : List Value} {x : DataW H × List MemPlace}
    (ht : P.underlying t = some (.array n e)) (he : P.underlying e = some (.int .u8)) (hce : P.cellsOf e = 1) (hct : P.cellsOf t = n) (h : DataW.trod enc P w base sp hd fuel t cs = some x) :
    ∃ y : List UInt8, y.length = n ∧ cs = y.map B := by
  obtain ⟨xs, m, rfl, rfl, hl, hn, hx⟩ := DataW.trod_array ht h
  rw [hct] at hl
  refine ⟨cs.map byteV, by rw [List.length_map, hl], ?_⟩
  rw [List.map_map]
  apply List.ext_getElem?
  intro i
  rw [List.getElem?_map]
  by_cases hi : i < n
  · have hxi := hx i hi
    rw [hce, Nat.mul_one, List.getElem?_eq_getElem (by omega)] at hxi
    obtain ⟨z, hz, -, hw⟩ := DataW.trod_int he hxi
    have hci : cs[i]? = some (.int .u8 z) := by
      have := congrArg (fun l => l[0]?) hz
      simpa using this
    rw [hci]
    show _ = some (B (byteV _))
    rw [byteV_wf hw]
  · rw [List.getElem?_eq_none (by omega)]; rfl
end Go.Proofs.Ytndchgmgcjebiaa
