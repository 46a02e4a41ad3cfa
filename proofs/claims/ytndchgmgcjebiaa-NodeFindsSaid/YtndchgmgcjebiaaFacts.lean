/- Closed facts on the types and functions of this translation (written by a program of ours). -/
import Derived.Test.YtndchgmgcjebiaaProg
import Derived.Test.YtndchgmgcjebiaaEngDraw
namespace Go.Proofs.Ytndchgmgcjebiaa
open Go E
set_option maxRecDepth 100000

theorem elem24 : Elem Try.prog 24 2 32 := Elem.of (z := (.agg #[.bool false, .slice none 0 0])) (by kernel_rfl) rfl (by decide)
theorem elem27 : Elem Try.prog 27 4 48 := Elem.of (z := (.agg #[.string ⟨#[]⟩, .string ⟨#[]⟩, .int .i64 0, .int .i64 0])) (by kernel_rfl) rfl (by decide)
theorem elem3 : Elem Try.prog 3 1 8 := Elem.of (z := (.int .i64 0)) (by kernel_rfl) rfl (by decide)
theorem elem5 : Elem Try.prog 5 1 1 := Elem.of (z := (.int .u8 0)) (by kernel_rfl) rfl (by decide)
theorem field13_0 : FieldAt Try.prog 13 0 0 := fun _ _ => by kernel_rfl
theorem field13_1 : FieldAt Try.prog 13 1 1 := fun _ _ => by kernel_rfl
theorem field23_0 : FieldAt Try.prog 23 0 0 := fun _ _ => by kernel_rfl
theorem field23_1 : FieldAt Try.prog 23 1 1 := fun _ _ => by kernel_rfl
theorem field24_0 : FieldAt Try.prog 24 0 0 := fun _ _ => by kernel_rfl
theorem field24_1 : FieldAt Try.prog 24 1 1 := fun _ _ => by kernel_rfl
theorem field26_0 : FieldAt Try.prog 26 0 0 := fun _ _ => by kernel_rfl
theorem field26_1 : FieldAt Try.prog 26 1 1 := fun _ _ => by kernel_rfl
theorem field26_2 : FieldAt Try.prog 26 2 2 := fun _ _ => by kernel_rfl
theorem field26_3 : FieldAt Try.prog 26 3 3 := fun _ _ => by kernel_rfl
theorem field27_0 : FieldAt Try.prog 27 0 0 := fun _ _ => by kernel_rfl
theorem field27_1 : FieldAt Try.prog 27 1 1 := fun _ _ => by kernel_rfl
theorem field27_2 : FieldAt Try.prog 27 2 2 := fun _ _ => by kernel_rfl
theorem field27_3 : FieldAt Try.prog 27 3 3 := fun _ _ => by kernel_rfl
theorem field43_0 : FieldAt Try.prog 43 0 0 := fun _ _ => by kernel_rfl
theorem field43_1 : FieldAt Try.prog 43 1 1 := fun _ _ => by kernel_rfl
theorem field43_2 : FieldAt Try.prog 43 2 5 := fun _ _ => by kernel_rfl
theorem field44_0 : FieldAt Try.prog 44 0 0 := fun _ _ => by kernel_rfl
theorem field44_1 : FieldAt Try.prog 44 1 1 := fun _ _ => by kernel_rfl
theorem field44_2 : FieldAt Try.prog 44 2 5 := fun _ _ => by kernel_rfl
theorem field60_0 : FieldAt Try.prog 60 0 0 := fun _ _ => by kernel_rfl
theorem field60_1 : FieldAt Try.prog 60 1 1 := fun _ _ => by kernel_rfl
theorem field61_0 : FieldAt Try.prog 61 0 0 := fun _ _ => by kernel_rfl
theorem field61_1 : FieldAt Try.prog 61 1 1 := fun _ _ => by kernel_rfl
theorem goes10 : Goes Try.prog 10 := fun _ _ => by kernel_rfl
theorem goes11 : Goes Try.prog 11 := fun _ _ => by kernel_rfl
theorem goes12 : Goes Try.prog 12 := fun _ _ => by kernel_rfl
theorem goes13 : Goes Try.prog 13 := fun _ _ => by kernel_rfl
theorem goes14 : Goes Try.prog 14 := fun _ _ => by kernel_rfl
theorem goes15 : Goes Try.prog 15 := fun _ _ => by kernel_rfl
theorem goes16 : Goes Try.prog 16 := fun _ _ => by kernel_rfl
theorem goes17 : Goes Try.prog 17 := fun _ _ => by kernel_rfl
theorem goes18 : Goes Try.prog 18 := fun _ _ => by kernel_rfl
theorem goes19 : Goes Try.prog 19 := fun _ _ => by kernel_rfl
theorem goes20 : Goes Try.prog 20 := fun _ _ => by kernel_rfl
theorem goes21 : Goes Try.prog 21 := fun _ _ => by kernel_rfl
theorem goes22 : Goes Try.prog 22 := fun _ _ => by kernel_rfl
theorem goes23 : Goes Try.prog 23 := fun _ _ => by kernel_rfl
theorem goes24 : Goes Try.prog 24 := fun _ _ => by kernel_rfl
theorem goes25 : Goes Try.prog 25 := fun _ _ => by kernel_rfl
theorem goes26 : Goes Try.prog 26 := fun _ _ => by kernel_rfl
theorem goes27 : Goes Try.prog 27 := fun _ _ => by kernel_rfl
theorem goes28 : Goes Try.prog 28 := fun _ _ => by kernel_rfl
theorem goes29 : Goes Try.prog 29 := fun _ _ => by kernel_rfl
theorem goes3 : Goes Try.prog 3 := fun _ _ => by kernel_rfl
theorem goes30 : Goes Try.prog 30 := fun _ _ => by kernel_rfl
theorem goes31 : Goes Try.prog 31 := fun _ _ => by kernel_rfl
theorem goes32 : Goes Try.prog 32 := fun _ _ => by kernel_rfl
theorem goes33 : Goes Try.prog 33 := fun _ _ => by kernel_rfl
theorem goes34 : Goes Try.prog 34 := fun _ _ => by kernel_rfl
theorem goes35 : Goes Try.prog 35 := fun _ _ => by kernel_rfl
theorem goes36 : Goes Try.prog 36 := fun _ _ => by kernel_rfl
theorem goes37 : Goes Try.prog 37 := fun _ _ => by kernel_rfl
theorem goes38 : Goes Try.prog 38 := fun _ _ => by kernel_rfl
theorem goes39 : Goes Try.prog 39 := fun _ _ => by kernel_rfl
theorem goes4 : Goes Try.prog 4 := fun _ _ => by kernel_rfl
theorem goes40 : Goes Try.prog 40 := fun _ _ => by kernel_rfl
theorem goes41 : Goes Try.prog 41 := fun _ _ => by kernel_rfl
theorem goes42 : Goes Try.prog 42 := fun _ _ => by kernel_rfl
theorem goes43 : Goes Try.prog 43 := fun _ _ => by kernel_rfl
theorem goes44 : Goes Try.prog 44 := fun _ _ => by kernel_rfl
theorem goes45 : Goes Try.prog 45 := fun _ _ => by kernel_rfl
theorem goes46 : Goes Try.prog 46 := fun _ _ => by kernel_rfl
theorem goes47 : Goes Try.prog 47 := fun _ _ => by kernel_rfl
theorem goes48 : Goes Try.prog 48 := fun _ _ => by kernel_rfl
theorem goes5 : Goes Try.prog 5 := fun _ _ => by kernel_rfl
theorem goes6 : Goes Try.prog 6 := fun _ _ => by kernel_rfl
theorem goes7 : Goes Try.prog 7 := fun _ _ => by kernel_rfl
theorem goes8 : Goes Try.prog 8 := fun _ _ => by kernel_rfl
theorem goes9 : Goes Try.prog 9 := fun _ _ => by kernel_rfl
theorem mixed : Try.prog.follows .mixedOrders = true := by kernel_rfl
theorem places13 : Places Try.prog 13 #[(0, 1), (1, 1)] := ⟨_, Try.underlying13, fun _ => by kernel_rfl⟩
theorem places23 : Places Try.prog 23 #[(0, 1), (1, 1)] := ⟨_, Try.underlying23, fun _ => by kernel_rfl⟩
theorem places24 : Places Try.prog 24 #[(0, 1), (1, 1)] := ⟨_, Try.underlying24, fun _ => by kernel_rfl⟩
theorem places26 : Places Try.prog 26 #[(0, 1), (1, 1), (2, 1), (3, 1)] := ⟨_, Try.underlying26, fun _ => by kernel_rfl⟩
theorem places27 : Places Try.prog 27 #[(0, 1), (1, 1), (2, 1), (3, 1)] := ⟨_, Try.underlying27, fun _ => by kernel_rfl⟩
theorem places43 : Places Try.prog 43 #[(0, 1), (1, 4), (5, 1)] := ⟨_, Try.underlying43, fun _ => by kernel_rfl⟩
theorem places44 : Places Try.prog 44 #[(0, 1), (1, 4), (5, 1)] := ⟨_, Try.underlying44, fun _ => by kernel_rfl⟩
theorem places60 : Places Try.prog 60 #[(0, 1), (1, 1)] := ⟨_, Try.underlying60, fun _ => by kernel_rfl⟩
theorem places61 : Places Try.prog 61 #[(0, 1), (1, 1)] := ⟨_, Try.underlying61, fun _ => by kernel_rfl⟩
theorem ty1 : Ty1 Try.prog 1 := ⟨fun _ => by kernel_rfl, fun _ => by kernel_rfl⟩
theorem ty12 : Ty1 Try.prog 12 := ⟨fun _ => by kernel_rfl, fun _ => by kernel_rfl⟩
theorem ty2 : Ty1 Try.prog 2 := ⟨fun _ => by kernel_rfl, fun _ => by kernel_rfl⟩
theorem ty20 : Ty1 Try.prog 20 := ⟨fun _ => by kernel_rfl, fun _ => by kernel_rfl⟩
theorem ty21 : Ty1 Try.prog 21 := ⟨fun _ => by kernel_rfl, fun _ => by kernel_rfl⟩
theorem ty22 : Ty1 Try.prog 22 := ⟨fun _ => by kernel_rfl, fun _ => by kernel_rfl⟩
theorem ty25 : Ty1 Try.prog 25 := ⟨fun _ => by kernel_rfl, fun _ => by kernel_rfl⟩
theorem ty28 : Ty1 Try.prog 28 := ⟨fun _ => by kernel_rfl, fun _ => by kernel_rfl⟩
theorem ty3 : Ty1 Try.prog 3 := ⟨fun _ => by kernel_rfl, fun _ => by kernel_rfl⟩
theorem ty30 : Ty1 Try.prog 30 := ⟨fun _ => by kernel_rfl, fun _ => by kernel_rfl⟩
theorem ty31 : Ty1 Try.prog 31 := ⟨fun _ => by kernel_rfl, fun _ => by kernel_rfl⟩
theorem ty32 : Ty1 Try.prog 32 := ⟨fun _ => by kernel_rfl, fun _ => by kernel_rfl⟩
theorem ty33 : Ty1 Try.prog 33 := ⟨fun _ => by kernel_rfl, fun _ => by kernel_rfl⟩
theorem ty35 : Ty1 Try.prog 35 := ⟨fun _ => by kernel_rfl, fun _ => by kernel_rfl⟩
theorem ty36 : Ty1 Try.prog 36 := ⟨fun _ => by kernel_rfl, fun _ => by kernel_rfl⟩
theorem ty37 : Ty1 Try.prog 37 := ⟨fun _ => by kernel_rfl, fun _ => by kernel_rfl⟩
theorem ty38 : Ty1 Try.prog 38 := ⟨fun _ => by kernel_rfl, fun _ => by kernel_rfl⟩
theorem ty4 : Ty1 Try.prog 4 := ⟨fun _ => by kernel_rfl, fun _ => by kernel_rfl⟩
theorem ty40 : Ty1 Try.prog 40 := ⟨fun _ => by kernel_rfl, fun _ => by kernel_rfl⟩
theorem ty41 : Ty1 Try.prog 41 := ⟨fun _ => by kernel_rfl, fun _ => by kernel_rfl⟩
theorem ty42 : Ty1 Try.prog 42 := ⟨fun _ => by kernel_rfl, fun _ => by kernel_rfl⟩
theorem ty45 : Ty1 Try.prog 45 := ⟨fun _ => by kernel_rfl, fun _ => by kernel_rfl⟩
theorem ty46 : Ty1 Try.prog 46 := ⟨fun _ => by kernel_rfl, fun _ => by kernel_rfl⟩
theorem ty47 : Ty1 Try.prog 47 := ⟨fun _ => by kernel_rfl, fun _ => by kernel_rfl⟩
theorem ty48 : Ty1 Try.prog 48 := ⟨fun _ => by kernel_rfl, fun _ => by kernel_rfl⟩
theorem ty49 : Ty1 Try.prog 49 := ⟨fun _ => by kernel_rfl, fun _ => by kernel_rfl⟩
theorem ty5 : Ty1 Try.prog 5 := ⟨fun _ => by kernel_rfl, fun _ => by kernel_rfl⟩
theorem ty50 : Ty1 Try.prog 50 := ⟨fun _ => by kernel_rfl, fun _ => by kernel_rfl⟩
theorem ty51 : Ty1 Try.prog 51 := ⟨fun _ => by kernel_rfl, fun _ => by kernel_rfl⟩
theorem ty52 : Ty1 Try.prog 52 := ⟨fun _ => by kernel_rfl, fun _ => by kernel_rfl⟩
theorem ty53 : Ty1 Try.prog 53 := ⟨fun _ => by kernel_rfl, fun _ => by kernel_rfl⟩
theorem ty54 : Ty1 Try.prog 54 := ⟨fun _ => by kernel_rfl, fun _ => by kernel_rfl⟩
theorem ty55 : Ty1 Try.prog 55 := ⟨fun _ => by kernel_rfl, fun _ => by kernel_rfl⟩
theorem ty56 : Ty1 Try.prog 56 := ⟨fun _ => by kernel_rfl, fun _ => by kernel_rfl⟩
theorem ty57 : Ty1 Try.prog 57 := ⟨fun _ => by kernel_rfl, fun _ => by kernel_rfl⟩
theorem ty58 : Ty1 Try.prog 58 := ⟨fun _ => by kernel_rfl, fun _ => by kernel_rfl⟩
theorem ty59 : Ty1 Try.prog 59 := ⟨fun _ => by kernel_rfl, fun _ => by kernel_rfl⟩
theorem ty62 : Ty1 Try.prog 62 := ⟨fun _ => by kernel_rfl, fun _ => by kernel_rfl⟩
theorem ty63 : Ty1 Try.prog 63 := ⟨fun _ => by kernel_rfl, fun _ => by kernel_rfl⟩
theorem ty64 : Ty1 Try.prog 64 := ⟨fun _ => by kernel_rfl, fun _ => by kernel_rfl⟩
theorem ty65 : Ty1 Try.prog 65 := ⟨fun _ => by kernel_rfl, fun _ => by kernel_rfl⟩
theorem ty66 : Ty1 Try.prog 66 := ⟨fun _ => by kernel_rfl, fun _ => by kernel_rfl⟩
theorem ty67 : Ty1 Try.prog 67 := ⟨fun _ => by kernel_rfl, fun _ => by kernel_rfl⟩
theorem ty68 : Ty1 Try.prog 68 := ⟨fun _ => by kernel_rfl, fun _ => by kernel_rfl⟩
theorem ty69 : Ty1 Try.prog 69 := ⟨fun _ => by kernel_rfl, fun _ => by kernel_rfl⟩
theorem ty70 : Ty1 Try.prog 70 := ⟨fun _ => by kernel_rfl, fun _ => by kernel_rfl⟩
theorem ty76 : Ty1 Try.prog 76 := ⟨fun _ => by kernel_rfl, fun _ => by kernel_rfl⟩
theorem ty77 : Ty1 Try.prog 77 := ⟨fun _ => by kernel_rfl, fun _ => by kernel_rfl⟩
theorem ty81 : Ty1 Try.prog 81 := ⟨fun _ => by kernel_rfl, fun _ => by kernel_rfl⟩
theorem ty9 : Ty1 Try.prog 9 := ⟨fun _ => by kernel_rfl, fun _ => by kernel_rfl⟩
theorem tyN13 : TyN Try.prog 13 2 := ⟨fun _ => by kernel_rfl, fun _ => by kernel_rfl⟩
theorem tyN23 : TyN Try.prog 23 2 := ⟨fun _ => by kernel_rfl, fun _ => by kernel_rfl⟩
theorem tyN24 : TyN Try.prog 24 2 := ⟨fun _ => by kernel_rfl, fun _ => by kernel_rfl⟩
theorem tyN26 : TyN Try.prog 26 4 := ⟨fun _ => by kernel_rfl, fun _ => by kernel_rfl⟩
theorem tyN27 : TyN Try.prog 27 4 := ⟨fun _ => by kernel_rfl, fun _ => by kernel_rfl⟩
theorem tyN43 : TyN Try.prog 43 6 := ⟨fun _ => by kernel_rfl, fun _ => by kernel_rfl⟩
theorem tyN44 : TyN Try.prog 44 6 := ⟨fun _ => by kernel_rfl, fun _ => by kernel_rfl⟩
theorem tyN60 : TyN Try.prog 60 2 := ⟨fun _ => by kernel_rfl, fun _ => by kernel_rfl⟩
theorem tyN61 : TyN Try.prog 61 2 := ⟨fun _ => by kernel_rfl, fun _ => by kernel_rfl⟩
theorem zero1 : Zero Try.prog 1 (.nilFunc) := fun _ => by kernel_rfl
theorem zero12 : Zero Try.prog 12 (.int .u64 0) := fun _ => by kernel_rfl
theorem zero13 : Zero Try.prog 13 (.agg #[.string ⟨#[]⟩, .int .u64 0]) := fun _ => by kernel_rfl
theorem zero2 : Zero Try.prog 2 (.int .i64 0) := fun _ => by kernel_rfl
theorem zero20 : Zero Try.prog 20 (.nilIface) := fun _ => by kernel_rfl
theorem zero21 : Zero Try.prog 21 (.int .i32 0) := fun _ => by kernel_rfl
theorem zero22 : Zero Try.prog 22 (.slice none 0 0) := fun _ => by kernel_rfl
theorem zero23 : Zero Try.prog 23 (.agg #[.bool false, .slice none 0 0]) := fun _ => by kernel_rfl
theorem zero24 : Zero Try.prog 24 (.agg #[.bool false, .slice none 0 0]) := fun _ => by kernel_rfl
theorem zero25 : Zero Try.prog 25 (.nilFunc) := fun _ => by kernel_rfl
theorem zero26 : Zero Try.prog 26 (.agg #[.string ⟨#[]⟩, .string ⟨#[]⟩, .int .i64 0, .int .i64 0]) := fun _ => by kernel_rfl
theorem zero27 : Zero Try.prog 27 (.agg #[.string ⟨#[]⟩, .string ⟨#[]⟩, .int .i64 0, .int .i64 0]) := fun _ => by kernel_rfl
theorem zero28 : Zero Try.prog 28 (.int .i64 0) := fun _ => by kernel_rfl
theorem zero3 : Zero Try.prog 3 (.int .i64 0) := fun _ => by kernel_rfl
theorem zero30 : Zero Try.prog 30 (.nilFunc) := fun _ => by kernel_rfl
theorem zero31 : Zero Try.prog 31 (.nilFunc) := fun _ => by kernel_rfl
theorem zero32 : Zero Try.prog 32 (.nilFunc) := fun _ => by kernel_rfl
theorem zero33 : Zero Try.prog 33 (.nilFunc) := fun _ => by kernel_rfl
theorem zero35 : Zero Try.prog 35 (.nilFunc) := fun _ => by kernel_rfl
theorem zero36 : Zero Try.prog 36 (.nilFunc) := fun _ => by kernel_rfl
theorem zero37 : Zero Try.prog 37 (.nilFunc) := fun _ => by kernel_rfl
theorem zero38 : Zero Try.prog 38 (.nilFunc) := fun _ => by kernel_rfl
theorem zero4 : Zero Try.prog 4 (.bool false) := fun _ => by kernel_rfl
theorem zero40 : Zero Try.prog 40 (.nilFunc) := fun _ => by kernel_rfl
theorem zero41 : Zero Try.prog 41 (.nilFunc) := fun _ => by kernel_rfl
theorem zero42 : Zero Try.prog 42 (.nilFunc) := fun _ => by kernel_rfl
theorem zero43 : Zero Try.prog 43 (.agg #[.string ⟨#[]⟩, .string ⟨#[]⟩, .string ⟨#[]⟩, .int .i64 0, .int .i64 0, .int .i64 0]) := fun _ => by kernel_rfl
theorem zero44 : Zero Try.prog 44 (.agg #[.string ⟨#[]⟩, .string ⟨#[]⟩, .string ⟨#[]⟩, .int .i64 0, .int .i64 0, .int .i64 0]) := fun _ => by kernel_rfl
theorem zero45 : Zero Try.prog 45 (.nilFunc) := fun _ => by kernel_rfl
theorem zero46 : Zero Try.prog 46 (.nilFunc) := fun _ => by kernel_rfl
theorem zero47 : Zero Try.prog 47 (.nilFunc) := fun _ => by kernel_rfl
theorem zero48 : Zero Try.prog 48 (.slice none 0 0) := fun _ => by kernel_rfl
theorem zero49 : Zero Try.prog 49 (.nilFunc) := fun _ => by kernel_rfl
theorem zero5 : Zero Try.prog 5 (.int .u8 0) := fun _ => by kernel_rfl
theorem zero50 : Zero Try.prog 50 (.nilFunc) := fun _ => by kernel_rfl
theorem zero51 : Zero Try.prog 51 (.nilFunc) := fun _ => by kernel_rfl
theorem zero52 : Zero Try.prog 52 (.slice none 0 0) := fun _ => by kernel_rfl
theorem zero53 : Zero Try.prog 53 (.nilFunc) := fun _ => by kernel_rfl
theorem zero54 : Zero Try.prog 54 (.nilFunc) := fun _ => by kernel_rfl
theorem zero55 : Zero Try.prog 55 (.nilFunc) := fun _ => by kernel_rfl
theorem zero56 : Zero Try.prog 56 (.nilFunc) := fun _ => by kernel_rfl
theorem zero57 : Zero Try.prog 57 (.int .u64 0) := fun _ => by kernel_rfl
theorem zero58 : Zero Try.prog 58 (.nilFunc) := fun _ => by kernel_rfl
theorem zero59 : Zero Try.prog 59 (.pointer none) := fun _ => by kernel_rfl
theorem zero60 : Zero Try.prog 60 (.agg #[.string ⟨#[]⟩, .bool false]) := fun _ => by kernel_rfl
theorem zero61 : Zero Try.prog 61 (.agg #[.string ⟨#[]⟩, .bool false]) := fun _ => by kernel_rfl
theorem zero62 : Zero Try.prog 62 (.nilFunc) := fun _ => by kernel_rfl
theorem zero63 : Zero Try.prog 63 (.nilFunc) := fun _ => by kernel_rfl
theorem zero64 : Zero Try.prog 64 (.nilFunc) := fun _ => by kernel_rfl
theorem zero65 : Zero Try.prog 65 (.slice none 0 0) := fun _ => by kernel_rfl
theorem zero66 : Zero Try.prog 66 (.nilFunc) := fun _ => by kernel_rfl
theorem zero67 : Zero Try.prog 67 (.nilFunc) := fun _ => by kernel_rfl
theorem zero68 : Zero Try.prog 68 (.nilFunc) := fun _ => by kernel_rfl
theorem zero69 : Zero Try.prog 69 (.nilFunc) := fun _ => by kernel_rfl
theorem zero70 : Zero Try.prog 70 (.nilFunc) := fun _ => by kernel_rfl
theorem zero76 : Zero Try.prog 76 (.nilFunc) := fun _ => by kernel_rfl
theorem zero77 : Zero Try.prog 77 (.int .u32 0) := fun _ => by kernel_rfl
theorem zero81 : Zero Try.prog 81 (.pointer none) := fun _ => by kernel_rfl
theorem zero9 : Zero Try.prog 9 (.string ⟨#[]⟩) := fun _ => by kernel_rfl

end Go.Proofs.Ytndchgmgcjebiaa
