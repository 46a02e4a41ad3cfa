/- Closed facts on the types and functions of this translation (written by a program of ours). -/
import Derived.Test.YtdlcefiandacnaaProg
import Derived.Test.YtdlcefiandacnaaEngDraw
namespace Go.Proofs.Ytdlcefiandacnaa
open Go E
set_option maxRecDepth 100000

theorem elem3 : Elem Try.prog 3 1 8 := Elem.of (z := (.int .i64 0)) (by kernel_rfl) rfl (by decide)
theorem elem44 : Elem Try.prog 44 32 32 := Elem.of (z := (.agg #[.int .u8 0, .int .u8 0, .int .u8 0, .int .u8 0, .int .u8 0, .int .u8 0, .int .u8 0, .int .u8 0, .int .u8 0, .int .u8 0, .int .u8 0, .int .u8 0, .int .u8 0, .int .u8 0, .int .u8 0, .int .u8 0, .int .u8 0, .int .u8 0, .int .u8 0, .int .u8 0, .int .u8 0, .int .u8 0, .int .u8 0, .int .u8 0, .int .u8 0, .int .u8 0, .int .u8 0, .int .u8 0, .int .u8 0, .int .u8 0, .int .u8 0, .int .u8 0])) (by kernel_rfl) rfl (by decide)
theorem elem5 : Elem Try.prog 5 1 1 := Elem.of (z := (.int .u8 0)) (by kernel_rfl) rfl (by decide)
theorem field13_0 : FieldAt Try.prog 13 0 0 := fun _ _ => by kernel_rfl
theorem field13_1 : FieldAt Try.prog 13 1 1 := fun _ _ => by kernel_rfl
theorem field30_0 : FieldAt Try.prog 30 0 0 := fun _ _ => by kernel_rfl
theorem field30_1 : FieldAt Try.prog 30 1 1 := fun _ _ => by kernel_rfl
theorem field30_2 : FieldAt Try.prog 30 2 2 := fun _ _ => by kernel_rfl
theorem field30_3 : FieldAt Try.prog 30 3 3 := fun _ _ => by kernel_rfl
theorem field31_0 : FieldAt Try.prog 31 0 0 := fun _ _ => by kernel_rfl
theorem field31_1 : FieldAt Try.prog 31 1 1 := fun _ _ => by kernel_rfl
theorem field31_2 : FieldAt Try.prog 31 2 2 := fun _ _ => by kernel_rfl
theorem field31_3 : FieldAt Try.prog 31 3 3 := fun _ _ => by kernel_rfl
theorem goes10 : Goes Try.prog 10 := fun _ _ => by kernel_rfl
theorem goes11 : Goes Try.prog 11 := fun _ _ => by kernel_rfl
theorem goes12 : Goes Try.prog 12 := fun _ _ => by kernel_rfl
theorem goes13 : Goes Try.prog 13 := fun _ _ => by kernel_rfl
theorem goes14 : Goes Try.prog 14 := fun _ _ => by kernel_rfl
theorem goes15 : Goes Try.prog 15 := fun _ _ => by kernel_rfl
theorem goes16 : Goes Try.prog 16 := fun _ _ => by kernel_rfl
theorem goes17 : Goes Try.prog 17 := fun _ _ => by kernel_rfl
theorem goes18 : Goes Try.prog 18 := fun _ _ => by kernel_rfl
theorem goes19 : Goes Try.prog 19 := fun _ _ => by kernel_rfl
theorem goes20 : Goes Try.prog 20 := fun _ _ => by kernel_rfl
theorem goes3 : Goes Try.prog 3 := fun _ _ => by kernel_rfl
theorem goes4 : Goes Try.prog 4 := fun _ _ => by kernel_rfl
theorem goes5 : Goes Try.prog 5 := fun _ _ => by kernel_rfl
theorem goes6 : Goes Try.prog 6 := fun _ _ => by kernel_rfl
theorem goes7 : Goes Try.prog 7 := fun _ _ => by kernel_rfl
theorem goes8 : Goes Try.prog 8 := fun _ _ => by kernel_rfl
theorem goes9 : Goes Try.prog 9 := fun _ _ => by kernel_rfl
theorem mixed : Try.prog.follows .mixedOrders = true := by kernel_rfl
theorem places13 : Places Try.prog 13 #[(0, 1), (1, 1)] := ⟨_, Try.underlying13, fun _ => by kernel_rfl⟩
theorem places30 : Places Try.prog 30 #[(0, 1), (1, 1), (2, 1), (3, 1)] := ⟨_, Try.underlying30, fun _ => by kernel_rfl⟩
theorem places31 : Places Try.prog 31 #[(0, 1), (1, 1), (2, 1), (3, 1)] := ⟨_, Try.underlying31, fun _ => by kernel_rfl⟩
theorem ty1 : Ty1 Try.prog 1 := ⟨fun _ => by kernel_rfl, fun _ => by kernel_rfl⟩
theorem ty12 : Ty1 Try.prog 12 := ⟨fun _ => by kernel_rfl, fun _ => by kernel_rfl⟩
theorem ty2 : Ty1 Try.prog 2 := ⟨fun _ => by kernel_rfl, fun _ => by kernel_rfl⟩
theorem ty20 : Ty1 Try.prog 20 := ⟨fun _ => by kernel_rfl, fun _ => by kernel_rfl⟩
theorem ty21 : Ty1 Try.prog 21 := ⟨fun _ => by kernel_rfl, fun _ => by kernel_rfl⟩
theorem ty22 : Ty1 Try.prog 22 := ⟨fun _ => by kernel_rfl, fun _ => by kernel_rfl⟩
theorem ty23 : Ty1 Try.prog 23 := ⟨fun _ => by kernel_rfl, fun _ => by kernel_rfl⟩
theorem ty24 : Ty1 Try.prog 24 := ⟨fun _ => by kernel_rfl, fun _ => by kernel_rfl⟩
theorem ty25 : Ty1 Try.prog 25 := ⟨fun _ => by kernel_rfl, fun _ => by kernel_rfl⟩
theorem ty26 : Ty1 Try.prog 26 := ⟨fun _ => by kernel_rfl, fun _ => by kernel_rfl⟩
theorem ty27 : Ty1 Try.prog 27 := ⟨fun _ => by kernel_rfl, fun _ => by kernel_rfl⟩
theorem ty28 : Ty1 Try.prog 28 := ⟨fun _ => by kernel_rfl, fun _ => by kernel_rfl⟩
theorem ty29 : Ty1 Try.prog 29 := ⟨fun _ => by kernel_rfl, fun _ => by kernel_rfl⟩
theorem ty3 : Ty1 Try.prog 3 := ⟨fun _ => by kernel_rfl, fun _ => by kernel_rfl⟩
theorem ty32 : Ty1 Try.prog 32 := ⟨fun _ => by kernel_rfl, fun _ => by kernel_rfl⟩
theorem ty34 : Ty1 Try.prog 34 := ⟨fun _ => by kernel_rfl, fun _ => by kernel_rfl⟩
theorem ty36 : Ty1 Try.prog 36 := ⟨fun _ => by kernel_rfl, fun _ => by kernel_rfl⟩
theorem ty37 : Ty1 Try.prog 37 := ⟨fun _ => by kernel_rfl, fun _ => by kernel_rfl⟩
theorem ty38 : Ty1 Try.prog 38 := ⟨fun _ => by kernel_rfl, fun _ => by kernel_rfl⟩
theorem ty39 : Ty1 Try.prog 39 := ⟨fun _ => by kernel_rfl, fun _ => by kernel_rfl⟩
theorem ty4 : Ty1 Try.prog 4 := ⟨fun _ => by kernel_rfl, fun _ => by kernel_rfl⟩
theorem ty40 : Ty1 Try.prog 40 := ⟨fun _ => by kernel_rfl, fun _ => by kernel_rfl⟩
theorem ty41 : Ty1 Try.prog 41 := ⟨fun _ => by kernel_rfl, fun _ => by kernel_rfl⟩
theorem ty43 : Ty1 Try.prog 43 := ⟨fun _ => by kernel_rfl, fun _ => by kernel_rfl⟩
theorem ty45 : Ty1 Try.prog 45 := ⟨fun _ => by kernel_rfl, fun _ => by kernel_rfl⟩
theorem ty46 : Ty1 Try.prog 46 := ⟨fun _ => by kernel_rfl, fun _ => by kernel_rfl⟩
theorem ty5 : Ty1 Try.prog 5 := ⟨fun _ => by kernel_rfl, fun _ => by kernel_rfl⟩
theorem ty52 : Ty1 Try.prog 52 := ⟨fun _ => by kernel_rfl, fun _ => by kernel_rfl⟩
theorem ty53 : Ty1 Try.prog 53 := ⟨fun _ => by kernel_rfl, fun _ => by kernel_rfl⟩
theorem ty57 : Ty1 Try.prog 57 := ⟨fun _ => by kernel_rfl, fun _ => by kernel_rfl⟩
theorem ty9 : Ty1 Try.prog 9 := ⟨fun _ => by kernel_rfl, fun _ => by kernel_rfl⟩
theorem tyN13 : TyN Try.prog 13 2 := ⟨fun _ => by kernel_rfl, fun _ => by kernel_rfl⟩
theorem tyN30 : TyN Try.prog 30 4 := ⟨fun _ => by kernel_rfl, fun _ => by kernel_rfl⟩
theorem tyN31 : TyN Try.prog 31 4 := ⟨fun _ => by kernel_rfl, fun _ => by kernel_rfl⟩
theorem tyN42 : TyN Try.prog 42 3 := ⟨fun _ => by kernel_rfl, fun _ => by kernel_rfl⟩
theorem tyN44 : TyN Try.prog 44 32 := ⟨fun _ => by kernel_rfl, fun _ => by kernel_rfl⟩
theorem zero1 : Zero Try.prog 1 (.nilFunc) := fun _ => by kernel_rfl
theorem zero12 : Zero Try.prog 12 (.int .u64 0) := fun _ => by kernel_rfl
theorem zero13 : Zero Try.prog 13 (.agg #[.string ⟨#[]⟩, .int .u64 0]) := fun _ => by kernel_rfl
theorem zero2 : Zero Try.prog 2 (.int .i64 0) := fun _ => by kernel_rfl
theorem zero20 : Zero Try.prog 20 (.nilIface) := fun _ => by kernel_rfl
theorem zero21 : Zero Try.prog 21 (.int .i32 0) := fun _ => by kernel_rfl
theorem zero22 : Zero Try.prog 22 (.slice none 0 0) := fun _ => by kernel_rfl
theorem zero23 : Zero Try.prog 23 (.int .u16 0) := fun _ => by kernel_rfl
theorem zero24 : Zero Try.prog 24 (.nilFunc) := fun _ => by kernel_rfl
theorem zero25 : Zero Try.prog 25 (.nilFunc) := fun _ => by kernel_rfl
theorem zero26 : Zero Try.prog 26 (.nilFunc) := fun _ => by kernel_rfl
theorem zero27 : Zero Try.prog 27 (.nilFunc) := fun _ => by kernel_rfl
theorem zero28 : Zero Try.prog 28 (.nilFunc) := fun _ => by kernel_rfl
theorem zero29 : Zero Try.prog 29 (.slice none 0 0) := fun _ => by kernel_rfl
theorem zero3 : Zero Try.prog 3 (.int .i64 0) := fun _ => by kernel_rfl
theorem zero30 : Zero Try.prog 30 (.agg #[.int .u16 0, .int .u16 0, .int .u16 0, .slice none 0 0]) := fun _ => by kernel_rfl
theorem zero31 : Zero Try.prog 31 (.agg #[.int .u16 0, .int .u16 0, .int .u16 0, .slice none 0 0]) := fun _ => by kernel_rfl
theorem zero32 : Zero Try.prog 32 (.int .i64 0) := fun _ => by kernel_rfl
theorem zero34 : Zero Try.prog 34 (.nilFunc) := fun _ => by kernel_rfl
theorem zero36 : Zero Try.prog 36 (.nilFunc) := fun _ => by kernel_rfl
theorem zero37 : Zero Try.prog 37 (.nilFunc) := fun _ => by kernel_rfl
theorem zero38 : Zero Try.prog 38 (.nilFunc) := fun _ => by kernel_rfl
theorem zero39 : Zero Try.prog 39 (.nilFunc) := fun _ => by kernel_rfl
theorem zero4 : Zero Try.prog 4 (.bool false) := fun _ => by kernel_rfl
theorem zero40 : Zero Try.prog 40 (.nilFunc) := fun _ => by kernel_rfl
theorem zero41 : Zero Try.prog 41 (.slice none 0 0) := fun _ => by kernel_rfl
theorem zero42 : Zero Try.prog 42 (.agg #[.int .u16 0, .int .u16 0, .int .u16 0]) := fun _ => by kernel_rfl
theorem zero43 : Zero Try.prog 43 (.int .u64 0) := fun _ => by kernel_rfl
theorem zero44 : Zero Try.prog 44 (.agg #[.int .u8 0, .int .u8 0, .int .u8 0, .int .u8 0, .int .u8 0, .int .u8 0, .int .u8 0, .int .u8 0, .int .u8 0, .int .u8 0, .int .u8 0, .int .u8 0, .int .u8 0, .int .u8 0, .int .u8 0, .int .u8 0, .int .u8 0, .int .u8 0, .int .u8 0, .int .u8 0, .int .u8 0, .int .u8 0, .int .u8 0, .int .u8 0, .int .u8 0, .int .u8 0, .int .u8 0, .int .u8 0, .int .u8 0, .int .u8 0, .int .u8 0, .int .u8 0]) := fun _ => by kernel_rfl
theorem zero45 : Zero Try.prog 45 (.nilFunc) := fun _ => by kernel_rfl
theorem zero46 : Zero Try.prog 46 (.nilFunc) := fun _ => by kernel_rfl
theorem zero5 : Zero Try.prog 5 (.int .u8 0) := fun _ => by kernel_rfl
theorem zero52 : Zero Try.prog 52 (.nilFunc) := fun _ => by kernel_rfl
theorem zero53 : Zero Try.prog 53 (.int .u32 0) := fun _ => by kernel_rfl
theorem zero57 : Zero Try.prog 57 (.pointer none) := fun _ => by kernel_rfl
theorem zero9 : Zero Try.prog 9 (.string ⟨#[]⟩) := fun _ => by kernel_rfl

end Go.Proofs.Ytdlcefiandacnaa
