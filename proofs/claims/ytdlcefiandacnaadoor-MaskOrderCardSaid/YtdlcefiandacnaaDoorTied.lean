/- What the listed table gives the walks: it lies in memory as it is laid; the door's own heap meets that. -/
import Derived.Test.YtdlcefiandacnaaDoorLawRow
import Derived.Test.YtdlcefiandacnaaDoorMaskTz
import Derived.LaidMore
import Derived.OpenShut
import Derived.Stop.Joined
import Derived.MakeChecks
namespace Go.Proofs.YtdlcefiandacnaaDoor
open Go Go.ChangeShapes Go.WideShapes Go.ChangeAt Go.RowKit E MM
set_option linter.unusedVariables false

def laidTab : List (String × DataW Unit) := [("math/bits.deBruijn32tab", Rows.laid_math_bits_deBruijn32tab)]
theorem door_met (os : Os) (args : Array Value) : laidMetH Tryd.prog laidTab ((World.doorLaid Tryd.prog 400 os).forCall (fun _ _ => 0) ⟨#[], args, []⟩).memory :=
  laidMetH_of_parts3 (fuel := 8) (laidMet_of_run' 8 (by kernel_rfl) (by kernel_rfl)) (by kernel_rfl) (by kernel_rfl)
theorem gTab : Tryd.prog.globalNamed "math/bits.deBruijn32tab" = some 0 := by kernel_rfl
theorem tTab : (Tryd.prog.globals[0]?).map (·.type) = some 30 := by kernel_rfl
theorem tab_cells : Tryd.prog.cellsOf 5 = 1 := by kernel_rfl
theorem tab_cells32 : Tryd.prog.cellsOf 30 = 32 := by kernel_rfl
theorem laid_list : (Rows.laid_math_bits_deBruijn32tab : DataW Unit) = .agg (dbTab.map fun n => .lit (.int .u8 (n : Nat))) := rfl
theorem laid_tab {W : World} (h : laidMetH Tryd.prog laidTab W) : Tab W := by
  rw [MakeChecks.laidMetH_plain _ _ _ (by kernel_rfl)] at h
  obtain ⟨ps, ⟨g0, t0, cs0, f0, p0, q0, hg0, ht0, hv0, hd0, -, -⟩, -, -⟩ := h
  obtain rfl := Option.some.inj (gTab.symm.trans hg0)
  obtain rfl := Option.some.inj (tTab.symm.trans ht0)
  obtain ⟨xs, m, rfl, hx, hl, hn, hel⟩ := DataW.trod_array Tryd.underlying30 hd0
  rw [tab_cells32] at hl
  simp only [Prod.mk.injEq] at hx
  have hx1 := hx.1
  rw [laid_list] at hx1
  simp only [DataW.agg.injEq] at hx1
  intro i hi
  have h0 := hel i hi
  rw [tab_cells, Nat.mul_one, List.getElem?_eq_getElem (by omega)] at h0
  obtain ⟨z, hz, hd, -⟩ := DataW.trod_int Tryd.underlying5 h0
  have hci : cs0.toList[i]? = some (.int .u8 z) := by
    have := congrArg (fun l => l[0]?) hz
    simpa using this
  have hxi : (xs.map (·.1))[i]? = some (.lit (.int .u8 z)) := by rw [List.getElem?_map, List.getElem?_eq_getElem (by omega)]; simp [hd]
  rw [← hx1, List.getElem?_map] at hxi
  have hdb : i < dbTab.length := by show i < 32; exact hi
  rw [List.getElem?_eq_getElem hdb] at hxi
  simp at hxi
  have := World.var?_cell hg0 hv0 i
  rw [this, List.getD, List.getElem?_eq_getElem hdb]
  rw [show cs0[i]? = some (.int .u8 z) by simpa using hci]
  simp [hxi]
end Go.Proofs.YtdlcefiandacnaaDoor
