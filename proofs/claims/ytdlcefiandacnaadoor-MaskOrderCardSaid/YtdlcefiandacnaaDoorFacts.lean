/- Closed facts on the types and functions of this translation (written by a program of ours). -/
import Derived.Test.YtdlcefiandacnaaDoorProg
import Derived.Test.YtdlcefiandacnaaDoorEngDraw
namespace Go.Proofs.YtdlcefiandacnaaDoor
open Go E
set_option maxRecDepth 100000

theorem elem3 : Elem Tryd.prog 3 1 8 := Elem.of (z := (.int .i64 0)) (by kernel_rfl) rfl (by decide)
theorem elem30 : Elem Tryd.prog 30 32 32 := Elem.of (z := (.agg #[.int .u8 0, .int .u8 0, .int .u8 0, .int .u8 0, .int .u8 0, .int .u8 0, .int .u8 0, .int .u8 0, .int .u8 0, .int .u8 0, .int .u8 0, .int .u8 0, .int .u8 0, .int .u8 0, .int .u8 0, .int .u8 0, .int .u8 0, .int .u8 0, .int .u8 0, .int .u8 0, .int .u8 0, .int .u8 0, .int .u8 0, .int .u8 0, .int .u8 0, .int .u8 0, .int .u8 0, .int .u8 0, .int .u8 0, .int .u8 0, .int .u8 0, .int .u8 0])) (by kernel_rfl) rfl (by decide)
theorem elem5 : Elem Tryd.prog 5 1 1 := Elem.of (z := (.int .u8 0)) (by kernel_rfl) rfl (by decide)
theorem field13_0 : FieldAt Tryd.prog 13 0 0 := fun _ _ => by kernel_rfl
theorem field13_1 : FieldAt Tryd.prog 13 1 1 := fun _ _ => by kernel_rfl
theorem field24_0 : FieldAt Tryd.prog 24 0 0 := fun _ _ => by kernel_rfl
theorem field24_1 : FieldAt Tryd.prog 24 1 1 := fun _ _ => by kernel_rfl
theorem field24_2 : FieldAt Tryd.prog 24 2 2 := fun _ _ => by kernel_rfl
theorem field24_3 : FieldAt Tryd.prog 24 3 3 := fun _ _ => by kernel_rfl
theorem field25_0 : FieldAt Tryd.prog 25 0 0 := fun _ _ => by kernel_rfl
theorem field25_1 : FieldAt Tryd.prog 25 1 1 := fun _ _ => by kernel_rfl
theorem field25_2 : FieldAt Tryd.prog 25 2 2 := fun _ _ => by kernel_rfl
theorem field25_3 : FieldAt Tryd.prog 25 3 3 := fun _ _ => by kernel_rfl
theorem field26_0 : FieldAt Tryd.prog 26 0 0 := fun _ _ => by kernel_rfl
theorem field26_1 : FieldAt Tryd.prog 26 1 1 := fun _ _ => by kernel_rfl
theorem field27_0 : FieldAt Tryd.prog 27 0 0 := fun _ _ => by kernel_rfl
theorem field27_1 : FieldAt Tryd.prog 27 1 1 := fun _ _ => by kernel_rfl
theorem goes10 : Goes Tryd.prog 10 := fun _ _ => by kernel_rfl
theorem goes11 : Goes Tryd.prog 11 := fun _ _ => by kernel_rfl
theorem goes12 : Goes Tryd.prog 12 := fun _ _ => by kernel_rfl
theorem goes13 : Goes Tryd.prog 13 := fun _ _ => by kernel_rfl
theorem goes14 : Goes Tryd.prog 14 := fun _ _ => by kernel_rfl
theorem goes15 : Goes Tryd.prog 15 := fun _ _ => by kernel_rfl
theorem goes16 : Goes Tryd.prog 16 := fun _ _ => by kernel_rfl
theorem goes17 : Goes Tryd.prog 17 := fun _ _ => by kernel_rfl
theorem goes18 : Goes Tryd.prog 18 := fun _ _ => by kernel_rfl
theorem goes19 : Goes Tryd.prog 19 := fun _ _ => by kernel_rfl
theorem goes20 : Goes Tryd.prog 20 := fun _ _ => by kernel_rfl
theorem goes21 : Goes Tryd.prog 21 := fun _ _ => by kernel_rfl
theorem goes22 : Goes Tryd.prog 22 := fun _ _ => by kernel_rfl
theorem goes23 : Goes Tryd.prog 23 := fun _ _ => by kernel_rfl
theorem goes24 : Goes Tryd.prog 24 := fun _ _ => by kernel_rfl
theorem goes25 : Goes Tryd.prog 25 := fun _ _ => by kernel_rfl
theorem goes26 : Goes Tryd.prog 26 := fun _ _ => by kernel_rfl
theorem goes27 : Goes Tryd.prog 27 := fun _ _ => by kernel_rfl
theorem goes28 : Goes Tryd.prog 28 := fun _ _ => by kernel_rfl
theorem goes29 : Goes Tryd.prog 29 := fun _ _ => by kernel_rfl
theorem goes3 : Goes Tryd.prog 3 := fun _ _ => by kernel_rfl
theorem goes4 : Goes Tryd.prog 4 := fun _ _ => by kernel_rfl
theorem goes5 : Goes Tryd.prog 5 := fun _ _ => by kernel_rfl
theorem goes6 : Goes Tryd.prog 6 := fun _ _ => by kernel_rfl
theorem goes7 : Goes Tryd.prog 7 := fun _ _ => by kernel_rfl
theorem goes8 : Goes Tryd.prog 8 := fun _ _ => by kernel_rfl
theorem goes9 : Goes Tryd.prog 9 := fun _ _ => by kernel_rfl
theorem mixed : Tryd.prog.follows .mixedOrders = true := by kernel_rfl
theorem places13 : Places Tryd.prog 13 #[(0, 1), (1, 1)] := ⟨_, Tryd.underlying13, fun _ => by kernel_rfl⟩
theorem places24 : Places Tryd.prog 24 #[(0, 1), (1, 1), (2, 1), (3, 1)] := ⟨_, Tryd.underlying24, fun _ => by kernel_rfl⟩
theorem places25 : Places Tryd.prog 25 #[(0, 1), (1, 1), (2, 1), (3, 1)] := ⟨_, Tryd.underlying25, fun _ => by kernel_rfl⟩
theorem places26 : Places Tryd.prog 26 #[(0, 1), (1, 1)] := ⟨_, Tryd.underlying26, fun _ => by kernel_rfl⟩
theorem places27 : Places Tryd.prog 27 #[(0, 1), (1, 1)] := ⟨_, Tryd.underlying27, fun _ => by kernel_rfl⟩
theorem ty1 : Ty1 Tryd.prog 1 := ⟨fun _ => by kernel_rfl, fun _ => by kernel_rfl⟩
theorem ty12 : Ty1 Tryd.prog 12 := ⟨fun _ => by kernel_rfl, fun _ => by kernel_rfl⟩
theorem ty2 : Ty1 Tryd.prog 2 := ⟨fun _ => by kernel_rfl, fun _ => by kernel_rfl⟩
theorem ty20 : Ty1 Tryd.prog 20 := ⟨fun _ => by kernel_rfl, fun _ => by kernel_rfl⟩
theorem ty21 : Ty1 Tryd.prog 21 := ⟨fun _ => by kernel_rfl, fun _ => by kernel_rfl⟩
theorem ty22 : Ty1 Tryd.prog 22 := ⟨fun _ => by kernel_rfl, fun _ => by kernel_rfl⟩
theorem ty23 : Ty1 Tryd.prog 23 := ⟨fun _ => by kernel_rfl, fun _ => by kernel_rfl⟩
theorem ty28 : Ty1 Tryd.prog 28 := ⟨fun _ => by kernel_rfl, fun _ => by kernel_rfl⟩
theorem ty29 : Ty1 Tryd.prog 29 := ⟨fun _ => by kernel_rfl, fun _ => by kernel_rfl⟩
theorem ty3 : Ty1 Tryd.prog 3 := ⟨fun _ => by kernel_rfl, fun _ => by kernel_rfl⟩
theorem ty32 : Ty1 Tryd.prog 32 := ⟨fun _ => by kernel_rfl, fun _ => by kernel_rfl⟩
theorem ty33 : Ty1 Tryd.prog 33 := ⟨fun _ => by kernel_rfl, fun _ => by kernel_rfl⟩
theorem ty34 : Ty1 Tryd.prog 34 := ⟨fun _ => by kernel_rfl, fun _ => by kernel_rfl⟩
theorem ty35 : Ty1 Tryd.prog 35 := ⟨fun _ => by kernel_rfl, fun _ => by kernel_rfl⟩
theorem ty37 : Ty1 Tryd.prog 37 := ⟨fun _ => by kernel_rfl, fun _ => by kernel_rfl⟩
theorem ty38 : Ty1 Tryd.prog 38 := ⟨fun _ => by kernel_rfl, fun _ => by kernel_rfl⟩
theorem ty39 : Ty1 Tryd.prog 39 := ⟨fun _ => by kernel_rfl, fun _ => by kernel_rfl⟩
theorem ty4 : Ty1 Tryd.prog 4 := ⟨fun _ => by kernel_rfl, fun _ => by kernel_rfl⟩
theorem ty40 : Ty1 Tryd.prog 40 := ⟨fun _ => by kernel_rfl, fun _ => by kernel_rfl⟩
theorem ty41 : Ty1 Tryd.prog 41 := ⟨fun _ => by kernel_rfl, fun _ => by kernel_rfl⟩
theorem ty43 : Ty1 Tryd.prog 43 := ⟨fun _ => by kernel_rfl, fun _ => by kernel_rfl⟩
theorem ty45 : Ty1 Tryd.prog 45 := ⟨fun _ => by kernel_rfl, fun _ => by kernel_rfl⟩
theorem ty46 : Ty1 Tryd.prog 46 := ⟨fun _ => by kernel_rfl, fun _ => by kernel_rfl⟩
theorem ty47 : Ty1 Tryd.prog 47 := ⟨fun _ => by kernel_rfl, fun _ => by kernel_rfl⟩
theorem ty48 : Ty1 Tryd.prog 48 := ⟨fun _ => by kernel_rfl, fun _ => by kernel_rfl⟩
theorem ty49 : Ty1 Tryd.prog 49 := ⟨fun _ => by kernel_rfl, fun _ => by kernel_rfl⟩
theorem ty5 : Ty1 Tryd.prog 5 := ⟨fun _ => by kernel_rfl, fun _ => by kernel_rfl⟩
theorem ty50 : Ty1 Tryd.prog 50 := ⟨fun _ => by kernel_rfl, fun _ => by kernel_rfl⟩
theorem ty51 : Ty1 Tryd.prog 51 := ⟨fun _ => by kernel_rfl, fun _ => by kernel_rfl⟩
theorem ty52 : Ty1 Tryd.prog 52 := ⟨fun _ => by kernel_rfl, fun _ => by kernel_rfl⟩
theorem ty53 : Ty1 Tryd.prog 53 := ⟨fun _ => by kernel_rfl, fun _ => by kernel_rfl⟩
theorem ty55 : Ty1 Tryd.prog 55 := ⟨fun _ => by kernel_rfl, fun _ => by kernel_rfl⟩
theorem ty56 : Ty1 Tryd.prog 56 := ⟨fun _ => by kernel_rfl, fun _ => by kernel_rfl⟩
theorem ty57 : Ty1 Tryd.prog 57 := ⟨fun _ => by kernel_rfl, fun _ => by kernel_rfl⟩
theorem ty58 : Ty1 Tryd.prog 58 := ⟨fun _ => by kernel_rfl, fun _ => by kernel_rfl⟩
theorem ty59 : Ty1 Tryd.prog 59 := ⟨fun _ => by kernel_rfl, fun _ => by kernel_rfl⟩
theorem ty60 : Ty1 Tryd.prog 60 := ⟨fun _ => by kernel_rfl, fun _ => by kernel_rfl⟩
theorem ty66 : Ty1 Tryd.prog 66 := ⟨fun _ => by kernel_rfl, fun _ => by kernel_rfl⟩
theorem ty70 : Ty1 Tryd.prog 70 := ⟨fun _ => by kernel_rfl, fun _ => by kernel_rfl⟩
theorem ty9 : Ty1 Tryd.prog 9 := ⟨fun _ => by kernel_rfl, fun _ => by kernel_rfl⟩
theorem tyN13 : TyN Tryd.prog 13 2 := ⟨fun _ => by kernel_rfl, fun _ => by kernel_rfl⟩
theorem tyN24 : TyN Tryd.prog 24 4 := ⟨fun _ => by kernel_rfl, fun _ => by kernel_rfl⟩
theorem tyN25 : TyN Tryd.prog 25 4 := ⟨fun _ => by kernel_rfl, fun _ => by kernel_rfl⟩
theorem tyN26 : TyN Tryd.prog 26 2 := ⟨fun _ => by kernel_rfl, fun _ => by kernel_rfl⟩
theorem tyN27 : TyN Tryd.prog 27 2 := ⟨fun _ => by kernel_rfl, fun _ => by kernel_rfl⟩
theorem tyN30 : TyN Tryd.prog 30 32 := ⟨fun _ => by kernel_rfl, fun _ => by kernel_rfl⟩
theorem tyN36 : TyN Tryd.prog 36 16 := ⟨fun _ => by kernel_rfl, fun _ => by kernel_rfl⟩
theorem tyN54 : TyN Tryd.prog 54 3 := ⟨fun _ => by kernel_rfl, fun _ => by kernel_rfl⟩
theorem zero1 : Zero Tryd.prog 1 (.nilFunc) := fun _ => by kernel_rfl
theorem zero12 : Zero Tryd.prog 12 (.int .u64 0) := fun _ => by kernel_rfl
theorem zero13 : Zero Tryd.prog 13 (.agg #[.string ⟨#[]⟩, .int .u64 0]) := fun _ => by kernel_rfl
theorem zero2 : Zero Tryd.prog 2 (.int .i64 0) := fun _ => by kernel_rfl
theorem zero20 : Zero Tryd.prog 20 (.nilIface) := fun _ => by kernel_rfl
theorem zero21 : Zero Tryd.prog 21 (.int .i32 0) := fun _ => by kernel_rfl
theorem zero22 : Zero Tryd.prog 22 (.int .u16 0) := fun _ => by kernel_rfl
theorem zero23 : Zero Tryd.prog 23 (.slice none 0 0) := fun _ => by kernel_rfl
theorem zero24 : Zero Tryd.prog 24 (.agg #[.int .u16 0, .int .u16 0, .int .u16 0, .slice none 0 0]) := fun _ => by kernel_rfl
theorem zero25 : Zero Tryd.prog 25 (.agg #[.int .u16 0, .int .u16 0, .int .u16 0, .slice none 0 0]) := fun _ => by kernel_rfl
theorem zero26 : Zero Tryd.prog 26 (.agg #[.bool false, .string ⟨#[]⟩]) := fun _ => by kernel_rfl
theorem zero27 : Zero Tryd.prog 27 (.agg #[.bool false, .string ⟨#[]⟩]) := fun _ => by kernel_rfl
theorem zero28 : Zero Tryd.prog 28 (.nilFunc) := fun _ => by kernel_rfl
theorem zero29 : Zero Tryd.prog 29 (.nilFunc) := fun _ => by kernel_rfl
theorem zero3 : Zero Tryd.prog 3 (.int .i64 0) := fun _ => by kernel_rfl
theorem zero30 : Zero Tryd.prog 30 (.agg #[.int .u8 0, .int .u8 0, .int .u8 0, .int .u8 0, .int .u8 0, .int .u8 0, .int .u8 0, .int .u8 0, .int .u8 0, .int .u8 0, .int .u8 0, .int .u8 0, .int .u8 0, .int .u8 0, .int .u8 0, .int .u8 0, .int .u8 0, .int .u8 0, .int .u8 0, .int .u8 0, .int .u8 0, .int .u8 0, .int .u8 0, .int .u8 0, .int .u8 0, .int .u8 0, .int .u8 0, .int .u8 0, .int .u8 0, .int .u8 0, .int .u8 0, .int .u8 0]) := fun _ => by kernel_rfl
theorem zero32 : Zero Tryd.prog 32 (.nilFunc) := fun _ => by kernel_rfl
theorem zero33 : Zero Tryd.prog 33 (.nilFunc) := fun _ => by kernel_rfl
theorem zero34 : Zero Tryd.prog 34 (.nilFunc) := fun _ => by kernel_rfl
theorem zero35 : Zero Tryd.prog 35 (.nilFunc) := fun _ => by kernel_rfl
theorem zero36 : Zero Tryd.prog 36 (.agg #[.string ⟨#[]⟩, .string ⟨#[]⟩, .string ⟨#[]⟩, .string ⟨#[]⟩, .string ⟨#[]⟩, .string ⟨#[]⟩, .string ⟨#[]⟩, .string ⟨#[]⟩, .string ⟨#[]⟩, .string ⟨#[]⟩, .string ⟨#[]⟩, .string ⟨#[]⟩, .string ⟨#[]⟩, .string ⟨#[]⟩, .string ⟨#[]⟩, .string ⟨#[]⟩]) := fun _ => by kernel_rfl
theorem zero37 : Zero Tryd.prog 37 (.nilFunc) := fun _ => by kernel_rfl
theorem zero38 : Zero Tryd.prog 38 (.int .i64 0) := fun _ => by kernel_rfl
theorem zero39 : Zero Tryd.prog 39 (.nilFunc) := fun _ => by kernel_rfl
theorem zero4 : Zero Tryd.prog 4 (.bool false) := fun _ => by kernel_rfl
theorem zero40 : Zero Tryd.prog 40 (.nilFunc) := fun _ => by kernel_rfl
theorem zero41 : Zero Tryd.prog 41 (.nilFunc) := fun _ => by kernel_rfl
theorem zero43 : Zero Tryd.prog 43 (.nilFunc) := fun _ => by kernel_rfl
theorem zero45 : Zero Tryd.prog 45 (.nilFunc) := fun _ => by kernel_rfl
theorem zero46 : Zero Tryd.prog 46 (.slice none 0 0) := fun _ => by kernel_rfl
theorem zero47 : Zero Tryd.prog 47 (.nilFunc) := fun _ => by kernel_rfl
theorem zero48 : Zero Tryd.prog 48 (.nilFunc) := fun _ => by kernel_rfl
theorem zero49 : Zero Tryd.prog 49 (.nilFunc) := fun _ => by kernel_rfl
theorem zero5 : Zero Tryd.prog 5 (.int .u8 0) := fun _ => by kernel_rfl
theorem zero50 : Zero Tryd.prog 50 (.nilFunc) := fun _ => by kernel_rfl
theorem zero51 : Zero Tryd.prog 51 (.nilFunc) := fun _ => by kernel_rfl
theorem zero52 : Zero Tryd.prog 52 (.nilFunc) := fun _ => by kernel_rfl
theorem zero53 : Zero Tryd.prog 53 (.nilFunc) := fun _ => by kernel_rfl
theorem zero54 : Zero Tryd.prog 54 (.agg #[.int .u16 0, .int .u16 0, .int .u16 0]) := fun _ => by kernel_rfl
theorem zero55 : Zero Tryd.prog 55 (.int .u64 0) := fun _ => by kernel_rfl
theorem zero56 : Zero Tryd.prog 56 (.nilFunc) := fun _ => by kernel_rfl
theorem zero57 : Zero Tryd.prog 57 (.slice none 0 0) := fun _ => by kernel_rfl
theorem zero58 : Zero Tryd.prog 58 (.nilFunc) := fun _ => by kernel_rfl
theorem zero59 : Zero Tryd.prog 59 (.int .u32 0) := fun _ => by kernel_rfl
theorem zero60 : Zero Tryd.prog 60 (.nilFunc) := fun _ => by kernel_rfl
theorem zero66 : Zero Tryd.prog 66 (.nilFunc) := fun _ => by kernel_rfl
theorem zero70 : Zero Tryd.prog 70 (.pointer none) := fun _ => by kernel_rfl
theorem zero9 : Zero Tryd.prog 9 (.string ⟨#[]⟩) := fun _ => by kernel_rfl

end Go.Proofs.YtdlcefiandacnaaDoor
