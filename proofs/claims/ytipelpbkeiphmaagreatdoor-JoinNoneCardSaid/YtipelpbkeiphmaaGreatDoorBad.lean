/- Cells: what is proved on the way: every input of the statement; no condition. Texts joined: Ins. -/
import Derived.Test.YtipelpbkeiphmaaGreatDoorBac
import Derived.Test.YtipelpbkeiphmaaGreatDoorProg
import Derived.KernelRfl
set_option linter.unusedVariables false
namespace Go.Proofs.YtipelpbkeiphmaaGreatDoor
open Go.SL
instance : T1 Tryz.prog 1 := ⟨⟨_, Tryz.underlying1, (fun _ h => nomatch h), (fun _ _ h => nomatch h)⟩, by kernel_rfl⟩
instance : TZero Tryz.prog 1 (.nilFunc) := ⟨by kernel_rfl⟩
instance : T1 Tryz.prog 2 := ⟨⟨_, Tryz.underlying2, (fun _ h => nomatch h), (fun _ _ h => nomatch h)⟩, by kernel_rfl⟩
instance : TZero Tryz.prog 2 (.int .i64 0) := ⟨by kernel_rfl⟩
instance : TInt Tryz.prog 2 .i64 := ⟨Tryz.underlying2⟩
instance : T1 Tryz.prog 3 := ⟨⟨_, Tryz.underlying3, (fun _ h => nomatch h), (fun _ _ h => nomatch h)⟩, by kernel_rfl⟩
instance : TZero Tryz.prog 3 (.int .i64 0) := ⟨by kernel_rfl⟩
instance : TInt Tryz.prog 3 .i64 := ⟨Tryz.underlying3⟩
instance : T1 Tryz.prog 4 := ⟨⟨_, Tryz.underlying4, (fun _ h => nomatch h), (fun _ _ h => nomatch h)⟩, by kernel_rfl⟩
instance : TZero Tryz.prog 4 (.bool false) := ⟨by kernel_rfl⟩
instance : TBool Tryz.prog 4 := ⟨Tryz.underlying4⟩
instance : T1 Tryz.prog 5 := ⟨⟨_, Tryz.underlying5, (fun _ h => nomatch h), (fun _ _ h => nomatch h)⟩, by kernel_rfl⟩
instance : TZero Tryz.prog 5 (.int .u8 0) := ⟨by kernel_rfl⟩
instance : TInt Tryz.prog 5 .u8 := ⟨Tryz.underlying5⟩
instance : T1 Tryz.prog 6 := ⟨⟨_, Tryz.underlying6, (fun _ h => nomatch h), (fun _ _ h => nomatch h)⟩, by kernel_rfl⟩
instance : TZero Tryz.prog 6 (.int .u8 0) := ⟨by kernel_rfl⟩
instance : TInt Tryz.prog 6 .u8 := ⟨Tryz.underlying6⟩
instance : TN Tryz.prog 7 4 := ⟨.inl ⟨_, Tryz.underlying7⟩, by kernel_rfl⟩
instance : TZero Tryz.prog 7 (.agg #[.int .i64 0, .int .i64 0, .bool false, .int .u8 0]) := ⟨by kernel_rfl⟩
instance : TBuild Tryz.prog 7 [(0, 1), (1, 1), (2, 1), (3, 1)] := ⟨_, Tryz.underlying7, by kernel_rfl⟩
instance : TField Tryz.prog 7 0 0 := ⟨_, _, Tryz.underlying7, rfl, rfl, 1, by kernel_rfl, by decide⟩
instance : TPart Tryz.prog 7 0 0 none := ⟨_, _, Tryz.underlying7, rfl, rfl, (inferInstance : T1 Tryz.prog 2)⟩
instance : TField Tryz.prog 7 1 1 := ⟨_, _, Tryz.underlying7, rfl, rfl, 1, by kernel_rfl, by decide⟩
instance : TPart Tryz.prog 7 1 1 none := ⟨_, _, Tryz.underlying7, rfl, rfl, (inferInstance : T1 Tryz.prog 3)⟩
instance : TField Tryz.prog 7 2 2 := ⟨_, _, Tryz.underlying7, rfl, rfl, 1, by kernel_rfl, by decide⟩
instance : TPart Tryz.prog 7 2 2 none := ⟨_, _, Tryz.underlying7, rfl, rfl, (inferInstance : T1 Tryz.prog 4)⟩
instance : TField Tryz.prog 7 3 3 := ⟨_, _, Tryz.underlying7, rfl, rfl, 1, by kernel_rfl, by decide⟩
instance : TPart Tryz.prog 7 3 3 none := ⟨_, _, Tryz.underlying7, rfl, rfl, (inferInstance : T1 Tryz.prog 6)⟩
instance : T1 Tryz.prog 9 := ⟨⟨_, Tryz.underlying9, (fun _ h => nomatch h), (fun _ _ h => nomatch h)⟩, by kernel_rfl⟩
instance : TZero Tryz.prog 9 (.string ⟨#[]⟩) := ⟨by kernel_rfl⟩
instance : TString Tryz.prog 9 := ⟨Tryz.underlying9⟩
instance : T1 Tryz.prog 15 := ⟨⟨_, Tryz.underlying15, (fun _ h => nomatch h), (fun _ _ h => nomatch h)⟩, by kernel_rfl⟩
instance : TZero Tryz.prog 15 (.pointer none) := ⟨by kernel_rfl⟩
instance : TPtr Tryz.prog 15 := ⟨⟨_, Tryz.underlying15⟩⟩
instance : T1 Tryz.prog 16 := ⟨⟨_, Tryz.underlying16, (fun _ h => nomatch h), (fun _ _ h => nomatch h)⟩, by kernel_rfl⟩
instance : TZero Tryz.prog 16 (.pointer none) := ⟨by kernel_rfl⟩
instance : TPtr Tryz.prog 16 := ⟨⟨_, Tryz.underlying16⟩⟩
instance : T1 Tryz.prog 17 := ⟨⟨_, Tryz.underlying17, (fun _ h => nomatch h), (fun _ _ h => nomatch h)⟩, by kernel_rfl⟩
instance : TZero Tryz.prog 17 (.pointer none) := ⟨by kernel_rfl⟩
instance : TPtr Tryz.prog 17 := ⟨⟨_, Tryz.underlying17⟩⟩
instance : TN Tryz.prog 18 1 := ⟨.inl ⟨_, Tryz.underlying18⟩, by kernel_rfl⟩
instance : TZero Tryz.prog 18 (.agg #[.pointer none]) := ⟨by kernel_rfl⟩
instance : TBuild Tryz.prog 18 [(0, 1)] := ⟨_, Tryz.underlying18, by kernel_rfl⟩
instance : TField Tryz.prog 18 0 0 := ⟨_, _, Tryz.underlying18, rfl, rfl, 1, by kernel_rfl, by decide⟩
instance : TPart Tryz.prog 18 0 0 none := ⟨_, _, Tryz.underlying18, rfl, rfl, (inferInstance : T1 Tryz.prog 17)⟩
instance : TN Tryz.prog 19 1 := ⟨.inl ⟨_, Tryz.underlying19⟩, by kernel_rfl⟩
instance : TZero Tryz.prog 19 (.agg #[.pointer none]) := ⟨by kernel_rfl⟩
instance : TBuild Tryz.prog 19 [(0, 1)] := ⟨_, Tryz.underlying19, by kernel_rfl⟩
instance : TField Tryz.prog 19 0 0 := ⟨_, _, Tryz.underlying19, rfl, rfl, 1, by kernel_rfl, by decide⟩
instance : TPart Tryz.prog 19 0 0 none := ⟨_, _, Tryz.underlying19, rfl, rfl, (inferInstance : T1 Tryz.prog 17)⟩
instance : T1 Tryz.prog 20 := ⟨⟨_, Tryz.underlying20, (fun _ h => nomatch h), (fun _ _ h => nomatch h)⟩, by kernel_rfl⟩
instance : TZero Tryz.prog 20 (.nilIface) := ⟨by kernel_rfl⟩
instance : T1 Tryz.prog 21 := ⟨⟨_, Tryz.underlying21, (fun _ h => nomatch h), (fun _ _ h => nomatch h)⟩, by kernel_rfl⟩
instance : TZero Tryz.prog 21 (.int .i32 0) := ⟨by kernel_rfl⟩
instance : TInt Tryz.prog 21 .i32 := ⟨Tryz.underlying21⟩
instance : T1 Tryz.prog 22 := ⟨⟨_, Tryz.underlying22, (fun _ h => nomatch h), (fun _ _ h => nomatch h)⟩, by kernel_rfl⟩
instance : TZero Tryz.prog 22 (.pointer none) := ⟨by kernel_rfl⟩
instance : TPtr Tryz.prog 22 := ⟨⟨_, Tryz.underlying22⟩⟩
instance : T1 Tryz.prog 23 := ⟨⟨_, Tryz.underlying23, (fun _ h => nomatch h), (fun _ _ h => nomatch h)⟩, by kernel_rfl⟩
instance : TZero Tryz.prog 23 (.pointer none) := ⟨by kernel_rfl⟩
instance : TPtr Tryz.prog 23 := ⟨⟨_, Tryz.underlying23⟩⟩
instance : T1 Tryz.prog 24 := ⟨⟨_, Tryz.underlying24, (fun _ h => nomatch h), (fun _ _ h => nomatch h)⟩, by kernel_rfl⟩
instance : TZero Tryz.prog 24 (.pointer none) := ⟨by kernel_rfl⟩
instance : TPtr Tryz.prog 24 := ⟨⟨_, Tryz.underlying24⟩⟩
instance : T1 Tryz.prog 25 := ⟨⟨_, Tryz.underlying25, (fun _ h => nomatch h), (fun _ _ h => nomatch h)⟩, by kernel_rfl⟩
instance : TZero Tryz.prog 25 (.pointer none) := ⟨by kernel_rfl⟩
instance : TPtr Tryz.prog 25 := ⟨⟨_, Tryz.underlying25⟩⟩
instance : TN Tryz.prog 27 4 := ⟨.inl ⟨_, Tryz.underlying27⟩, by kernel_rfl⟩
instance : TZero Tryz.prog 27 (.agg #[.pointer none, .int .i64 0, .pointer none, .pointer none]) := ⟨by kernel_rfl⟩
instance : TBuild Tryz.prog 27 [(0, 1), (1, 1), (2, 1), (3, 1)] := ⟨_, Tryz.underlying27, by kernel_rfl⟩
instance : TField Tryz.prog 27 0 0 := ⟨_, _, Tryz.underlying27, rfl, rfl, 1, by kernel_rfl, by decide⟩
instance : TPart Tryz.prog 27 0 0 none := ⟨_, _, Tryz.underlying27, rfl, rfl, (inferInstance : T1 Tryz.prog 23)⟩
instance : TField Tryz.prog 27 1 1 := ⟨_, _, Tryz.underlying27, rfl, rfl, 1, by kernel_rfl, by decide⟩
instance : TPart Tryz.prog 27 1 1 none := ⟨_, _, Tryz.underlying27, rfl, rfl, (inferInstance : T1 Tryz.prog 3)⟩
instance : TField Tryz.prog 27 2 2 := ⟨_, _, Tryz.underlying27, rfl, rfl, 1, by kernel_rfl, by decide⟩
instance : TPart Tryz.prog 27 2 2 none := ⟨_, _, Tryz.underlying27, rfl, rfl, (inferInstance : T1 Tryz.prog 24)⟩
instance : TField Tryz.prog 27 3 3 := ⟨_, _, Tryz.underlying27, rfl, rfl, 1, by kernel_rfl, by decide⟩
instance : TPart Tryz.prog 27 3 3 none := ⟨_, _, Tryz.underlying27, rfl, rfl, (inferInstance : T1 Tryz.prog 25)⟩
instance : TN Tryz.prog 29 7 := ⟨.inl ⟨_, Tryz.underlying29⟩, by kernel_rfl⟩
instance : TZero Tryz.prog 29 (.agg #[.int .i64 0, .int .i64 0, .int .i64 0, .int .i64 0, .int .i64 0, .int .i64 0, .int .i64 0]) := ⟨by kernel_rfl⟩
instance : TBuild Tryz.prog 29 [(0, 1), (1, 1), (2, 1), (3, 1), (4, 1), (5, 1), (6, 1)] := ⟨_, Tryz.underlying29, by kernel_rfl⟩
instance : TField Tryz.prog 29 0 0 := ⟨_, _, Tryz.underlying29, rfl, rfl, 1, by kernel_rfl, by decide⟩
instance : TPart Tryz.prog 29 0 0 none := ⟨_, _, Tryz.underlying29, rfl, rfl, (inferInstance : T1 Tryz.prog 3)⟩
instance : TField Tryz.prog 29 1 1 := ⟨_, _, Tryz.underlying29, rfl, rfl, 1, by kernel_rfl, by decide⟩
instance : TPart Tryz.prog 29 1 1 none := ⟨_, _, Tryz.underlying29, rfl, rfl, (inferInstance : T1 Tryz.prog 3)⟩
instance : TField Tryz.prog 29 2 2 := ⟨_, _, Tryz.underlying29, rfl, rfl, 1, by kernel_rfl, by decide⟩
instance : TPart Tryz.prog 29 2 2 none := ⟨_, _, Tryz.underlying29, rfl, rfl, (inferInstance : T1 Tryz.prog 3)⟩
instance : TField Tryz.prog 29 3 3 := ⟨_, _, Tryz.underlying29, rfl, rfl, 1, by kernel_rfl, by decide⟩
instance : TPart Tryz.prog 29 3 3 none := ⟨_, _, Tryz.underlying29, rfl, rfl, (inferInstance : T1 Tryz.prog 3)⟩
instance : TField Tryz.prog 29 4 4 := ⟨_, _, Tryz.underlying29, rfl, rfl, 1, by kernel_rfl, by decide⟩
instance : TPart Tryz.prog 29 4 4 none := ⟨_, _, Tryz.underlying29, rfl, rfl, (inferInstance : T1 Tryz.prog 3)⟩
instance : TField Tryz.prog 29 5 5 := ⟨_, _, Tryz.underlying29, rfl, rfl, 1, by kernel_rfl, by decide⟩
instance : TPart Tryz.prog 29 5 5 none := ⟨_, _, Tryz.underlying29, rfl, rfl, (inferInstance : T1 Tryz.prog 3)⟩
instance : TField Tryz.prog 29 6 6 := ⟨_, _, Tryz.underlying29, rfl, rfl, 1, by kernel_rfl, by decide⟩
instance : TPart Tryz.prog 29 6 6 none := ⟨_, _, Tryz.underlying29, rfl, rfl, (inferInstance : T1 Tryz.prog 3)⟩
instance : TN Tryz.prog 30 7 := ⟨.inl ⟨_, Tryz.underlying30⟩, by kernel_rfl⟩
instance : TZero Tryz.prog 30 (.agg #[.int .i64 0, .int .i64 0, .int .i64 0, .int .i64 0, .int .i64 0, .int .i64 0, .int .i64 0]) := ⟨by kernel_rfl⟩
instance : TBuild Tryz.prog 30 [(0, 1), (1, 1), (2, 1), (3, 1), (4, 1), (5, 1), (6, 1)] := ⟨_, Tryz.underlying30, by kernel_rfl⟩
instance : TField Tryz.prog 30 0 0 := ⟨_, _, Tryz.underlying30, rfl, rfl, 1, by kernel_rfl, by decide⟩
instance : TPart Tryz.prog 30 0 0 none := ⟨_, _, Tryz.underlying30, rfl, rfl, (inferInstance : T1 Tryz.prog 3)⟩
instance : TField Tryz.prog 30 1 1 := ⟨_, _, Tryz.underlying30, rfl, rfl, 1, by kernel_rfl, by decide⟩
instance : TPart Tryz.prog 30 1 1 none := ⟨_, _, Tryz.underlying30, rfl, rfl, (inferInstance : T1 Tryz.prog 3)⟩
instance : TField Tryz.prog 30 2 2 := ⟨_, _, Tryz.underlying30, rfl, rfl, 1, by kernel_rfl, by decide⟩
instance : TPart Tryz.prog 30 2 2 none := ⟨_, _, Tryz.underlying30, rfl, rfl, (inferInstance : T1 Tryz.prog 3)⟩
instance : TField Tryz.prog 30 3 3 := ⟨_, _, Tryz.underlying30, rfl, rfl, 1, by kernel_rfl, by decide⟩
instance : TPart Tryz.prog 30 3 3 none := ⟨_, _, Tryz.underlying30, rfl, rfl, (inferInstance : T1 Tryz.prog 3)⟩
instance : TField Tryz.prog 30 4 4 := ⟨_, _, Tryz.underlying30, rfl, rfl, 1, by kernel_rfl, by decide⟩
instance : TPart Tryz.prog 30 4 4 none := ⟨_, _, Tryz.underlying30, rfl, rfl, (inferInstance : T1 Tryz.prog 3)⟩
instance : TField Tryz.prog 30 5 5 := ⟨_, _, Tryz.underlying30, rfl, rfl, 1, by kernel_rfl, by decide⟩
instance : TPart Tryz.prog 30 5 5 none := ⟨_, _, Tryz.underlying30, rfl, rfl, (inferInstance : T1 Tryz.prog 3)⟩
instance : TField Tryz.prog 30 6 6 := ⟨_, _, Tryz.underlying30, rfl, rfl, 1, by kernel_rfl, by decide⟩
instance : TPart Tryz.prog 30 6 6 none := ⟨_, _, Tryz.underlying30, rfl, rfl, (inferInstance : T1 Tryz.prog 3)⟩
instance : T1 Tryz.prog 31 := ⟨⟨_, Tryz.underlying31, (fun _ h => nomatch h), (fun _ _ h => nomatch h)⟩, by kernel_rfl⟩
instance : TZero Tryz.prog 31 (.int .i64 0) := ⟨by kernel_rfl⟩
instance : TInt Tryz.prog 31 .i64 := ⟨Tryz.underlying31⟩
instance : T1 Tryz.prog 33 := ⟨⟨_, Tryz.underlying33, (fun _ h => nomatch h), (fun _ _ h => nomatch h)⟩, by kernel_rfl⟩
instance : TZero Tryz.prog 33 (.nilFunc) := ⟨by kernel_rfl⟩
instance : TN Tryz.prog 35 6 := ⟨.inl ⟨_, Tryz.underlying35⟩, by kernel_rfl⟩
instance : TZero Tryz.prog 35 (.agg #[.int .i64 0, .int .i64 0, .int .i64 0, .int .i64 0, .int .i64 0, .int .i64 0]) := ⟨by kernel_rfl⟩
instance : TBuild Tryz.prog 35 [(0, 1), (1, 1), (2, 1), (3, 1), (4, 1), (5, 1)] := ⟨_, Tryz.underlying35, by kernel_rfl⟩
instance : TField Tryz.prog 35 0 0 := ⟨_, _, Tryz.underlying35, rfl, rfl, 1, by kernel_rfl, by decide⟩
instance : TPart Tryz.prog 35 0 0 none := ⟨_, _, Tryz.underlying35, rfl, rfl, (inferInstance : T1 Tryz.prog 3)⟩
instance : TField Tryz.prog 35 1 1 := ⟨_, _, Tryz.underlying35, rfl, rfl, 1, by kernel_rfl, by decide⟩
instance : TPart Tryz.prog 35 1 1 none := ⟨_, _, Tryz.underlying35, rfl, rfl, (inferInstance : T1 Tryz.prog 3)⟩
instance : TField Tryz.prog 35 2 2 := ⟨_, _, Tryz.underlying35, rfl, rfl, 1, by kernel_rfl, by decide⟩
instance : TPart Tryz.prog 35 2 2 none := ⟨_, _, Tryz.underlying35, rfl, rfl, (inferInstance : T1 Tryz.prog 3)⟩
instance : TField Tryz.prog 35 3 3 := ⟨_, _, Tryz.underlying35, rfl, rfl, 1, by kernel_rfl, by decide⟩
instance : TPart Tryz.prog 35 3 3 none := ⟨_, _, Tryz.underlying35, rfl, rfl, (inferInstance : T1 Tryz.prog 3)⟩
instance : TField Tryz.prog 35 4 4 := ⟨_, _, Tryz.underlying35, rfl, rfl, 1, by kernel_rfl, by decide⟩
instance : TPart Tryz.prog 35 4 4 none := ⟨_, _, Tryz.underlying35, rfl, rfl, (inferInstance : T1 Tryz.prog 3)⟩
instance : TField Tryz.prog 35 5 5 := ⟨_, _, Tryz.underlying35, rfl, rfl, 1, by kernel_rfl, by decide⟩
instance : TPart Tryz.prog 35 5 5 none := ⟨_, _, Tryz.underlying35, rfl, rfl, (inferInstance : T1 Tryz.prog 3)⟩
instance : T1 Tryz.prog 37 := ⟨⟨_, Tryz.underlying37, (fun _ h => nomatch h), (fun _ _ h => nomatch h)⟩, by kernel_rfl⟩
instance : TZero Tryz.prog 37 (.nilFunc) := ⟨by kernel_rfl⟩
instance : T1 Tryz.prog 38 := ⟨⟨_, Tryz.underlying38, (fun _ h => nomatch h), (fun _ _ h => nomatch h)⟩, by kernel_rfl⟩
instance : TZero Tryz.prog 38 (.slice none 0 0) := ⟨by kernel_rfl⟩
instance : TSlice Tryz.prog 38 155 2 16 := ⟨Tryz.underlying38, by kernel_rfl⟩
instance : T1 Tryz.prog 40 := ⟨⟨_, Tryz.underlying40, (fun _ h => nomatch h), (fun _ _ h => nomatch h)⟩, by kernel_rfl⟩
instance : TZero Tryz.prog 40 (.nilFunc) := ⟨by kernel_rfl⟩
instance : T1 Tryz.prog 41 := ⟨⟨_, Tryz.underlying41, (fun _ h => nomatch h), (fun _ _ h => nomatch h)⟩, by kernel_rfl⟩
instance : TZero Tryz.prog 41 (.nilFunc) := ⟨by kernel_rfl⟩
instance : T1 Tryz.prog 42 := ⟨⟨_, Tryz.underlying42, (fun _ h => nomatch h), (fun _ _ h => nomatch h)⟩, by kernel_rfl⟩
instance : TZero Tryz.prog 42 (.nilFunc) := ⟨by kernel_rfl⟩
instance : TN Tryz.prog 44 3 := ⟨.inl ⟨_, Tryz.underlying44⟩, by kernel_rfl⟩
instance : TZero Tryz.prog 44 (.agg #[.int .i64 0, .int .i64 0, .int .i64 0]) := ⟨by kernel_rfl⟩
instance : TBuild Tryz.prog 44 [(0, 1), (1, 1), (2, 1)] := ⟨_, Tryz.underlying44, by kernel_rfl⟩
instance : TField Tryz.prog 44 0 0 := ⟨_, _, Tryz.underlying44, rfl, rfl, 1, by kernel_rfl, by decide⟩
instance : TPart Tryz.prog 44 0 0 none := ⟨_, _, Tryz.underlying44, rfl, rfl, (inferInstance : T1 Tryz.prog 3)⟩
instance : TField Tryz.prog 44 1 1 := ⟨_, _, Tryz.underlying44, rfl, rfl, 1, by kernel_rfl, by decide⟩
instance : TPart Tryz.prog 44 1 1 none := ⟨_, _, Tryz.underlying44, rfl, rfl, (inferInstance : T1 Tryz.prog 3)⟩
instance : TField Tryz.prog 44 2 2 := ⟨_, _, Tryz.underlying44, rfl, rfl, 1, by kernel_rfl, by decide⟩
instance : TPart Tryz.prog 44 2 2 none := ⟨_, _, Tryz.underlying44, rfl, rfl, (inferInstance : T1 Tryz.prog 3)⟩
instance : T1 Tryz.prog 45 := ⟨⟨_, Tryz.underlying45, (fun _ h => nomatch h), (fun _ _ h => nomatch h)⟩, by kernel_rfl⟩
instance : TZero Tryz.prog 45 (.slice none 0 0) := ⟨by kernel_rfl⟩
instance : TSlice Tryz.prog 45 88 2 16 := ⟨Tryz.underlying45, by kernel_rfl⟩
instance : T1 Tryz.prog 46 := ⟨⟨_, Tryz.underlying46, (fun _ h => nomatch h), (fun _ _ h => nomatch h)⟩, by kernel_rfl⟩
instance : TZero Tryz.prog 46 (.slice none 0 0) := ⟨by kernel_rfl⟩
instance : TSlice Tryz.prog 46 3 1 8 := ⟨Tryz.underlying46, by kernel_rfl⟩
instance : T1 Tryz.prog 48 := ⟨⟨_, Tryz.underlying48, (fun _ h => nomatch h), (fun _ _ h => nomatch h)⟩, by kernel_rfl⟩
instance : TZero Tryz.prog 48 (.nilFunc) := ⟨by kernel_rfl⟩
instance : T1 Tryz.prog 50 := ⟨⟨_, Tryz.underlying50, (fun _ h => nomatch h), (fun _ _ h => nomatch h)⟩, by kernel_rfl⟩
instance : TZero Tryz.prog 50 (.nilFunc) := ⟨by kernel_rfl⟩
instance : T1 Tryz.prog 51 := ⟨⟨_, Tryz.underlying51, (fun _ h => nomatch h), (fun _ _ h => nomatch h)⟩, by kernel_rfl⟩
instance : TZero Tryz.prog 51 (.nilFunc) := ⟨by kernel_rfl⟩
instance : T1 Tryz.prog 52 := ⟨⟨_, Tryz.underlying52, (fun _ h => nomatch h), (fun _ _ h => nomatch h)⟩, by kernel_rfl⟩
instance : TZero Tryz.prog 52 (.pointer none) := ⟨by kernel_rfl⟩
instance : TPtr Tryz.prog 52 := ⟨⟨_, Tryz.underlying52⟩⟩
instance : T1 Tryz.prog 53 := ⟨⟨_, Tryz.underlying53, (fun _ h => nomatch h), (fun _ _ h => nomatch h)⟩, by kernel_rfl⟩
instance : TZero Tryz.prog 53 (.nilFunc) := ⟨by kernel_rfl⟩
instance : T1 Tryz.prog 54 := ⟨⟨_, Tryz.underlying54, (fun _ h => nomatch h), (fun _ _ h => nomatch h)⟩, by kernel_rfl⟩
instance : TZero Tryz.prog 54 (.pointer none) := ⟨by kernel_rfl⟩
instance : TPtr Tryz.prog 54 := ⟨⟨_, Tryz.underlying54⟩⟩
instance : TN Tryz.prog 55 3 := ⟨.inl ⟨_, Tryz.underlying55⟩, by kernel_rfl⟩
instance : TZero Tryz.prog 55 (.agg #[.pointer none, .pointer none, .slice none 0 0]) := ⟨by kernel_rfl⟩
instance : TBuild Tryz.prog 55 [(0, 1), (1, 1), (2, 1)] := ⟨_, Tryz.underlying55, by kernel_rfl⟩
instance : TField Tryz.prog 55 0 0 := ⟨_, _, Tryz.underlying55, rfl, rfl, 1, by kernel_rfl, by decide⟩
instance : TPart Tryz.prog 55 0 0 none := ⟨_, _, Tryz.underlying55, rfl, rfl, (inferInstance : T1 Tryz.prog 23)⟩
instance : TField Tryz.prog 55 1 1 := ⟨_, _, Tryz.underlying55, rfl, rfl, 1, by kernel_rfl, by decide⟩
instance : TPart Tryz.prog 55 1 1 none := ⟨_, _, Tryz.underlying55, rfl, rfl, (inferInstance : T1 Tryz.prog 54)⟩
instance : TField Tryz.prog 55 2 2 := ⟨_, _, Tryz.underlying55, rfl, rfl, 1, by kernel_rfl, by decide⟩
instance : TPart Tryz.prog 55 2 2 none := ⟨_, _, Tryz.underlying55, rfl, rfl, (inferInstance : T1 Tryz.prog 45)⟩
instance : TN Tryz.prog 56 3 := ⟨.inl ⟨_, Tryz.underlying56⟩, by kernel_rfl⟩
instance : TZero Tryz.prog 56 (.agg #[.pointer none, .pointer none, .slice none 0 0]) := ⟨by kernel_rfl⟩
instance : TBuild Tryz.prog 56 [(0, 1), (1, 1), (2, 1)] := ⟨_, Tryz.underlying56, by kernel_rfl⟩
instance : TField Tryz.prog 56 0 0 := ⟨_, _, Tryz.underlying56, rfl, rfl, 1, by kernel_rfl, by decide⟩
instance : TPart Tryz.prog 56 0 0 none := ⟨_, _, Tryz.underlying56, rfl, rfl, (inferInstance : T1 Tryz.prog 23)⟩
instance : TField Tryz.prog 56 1 1 := ⟨_, _, Tryz.underlying56, rfl, rfl, 1, by kernel_rfl, by decide⟩
instance : TPart Tryz.prog 56 1 1 none := ⟨_, _, Tryz.underlying56, rfl, rfl, (inferInstance : T1 Tryz.prog 54)⟩
instance : TField Tryz.prog 56 2 2 := ⟨_, _, Tryz.underlying56, rfl, rfl, 1, by kernel_rfl, by decide⟩
instance : TPart Tryz.prog 56 2 2 none := ⟨_, _, Tryz.underlying56, rfl, rfl, (inferInstance : T1 Tryz.prog 45)⟩
instance : T1 Tryz.prog 57 := ⟨⟨_, Tryz.underlying57, (fun _ h => nomatch h), (fun _ _ h => nomatch h)⟩, by kernel_rfl⟩
instance : TZero Tryz.prog 57 (.nilFunc) := ⟨by kernel_rfl⟩
instance : T1 Tryz.prog 58 := ⟨⟨_, Tryz.underlying58, (fun _ h => nomatch h), (fun _ _ h => nomatch h)⟩, by kernel_rfl⟩
instance : TZero Tryz.prog 58 (.nilFunc) := ⟨by kernel_rfl⟩
instance : T1 Tryz.prog 59 := ⟨⟨_, Tryz.underlying59, (fun _ h => nomatch h), (fun _ _ h => nomatch h)⟩, by kernel_rfl⟩
instance : TZero Tryz.prog 59 (.nilFunc) := ⟨by kernel_rfl⟩
instance : T1 Tryz.prog 61 := ⟨⟨_, Tryz.underlying61, (fun _ h => nomatch h), (fun _ _ h => nomatch h)⟩, by kernel_rfl⟩
instance : TZero Tryz.prog 61 (.nilFunc) := ⟨by kernel_rfl⟩
instance : TN Tryz.prog 65 3 := ⟨.inl ⟨_, Tryz.underlying65⟩, by kernel_rfl⟩
instance : TZero Tryz.prog 65 (.agg #[.int .i64 0, .int .i64 0, .slice none 0 0]) := ⟨by kernel_rfl⟩
instance : TBuild Tryz.prog 65 [(0, 1), (1, 1), (2, 1)] := ⟨_, Tryz.underlying65, by kernel_rfl⟩
instance : TField Tryz.prog 65 0 0 := ⟨_, _, Tryz.underlying65, rfl, rfl, 1, by kernel_rfl, by decide⟩
instance : TPart Tryz.prog 65 0 0 none := ⟨_, _, Tryz.underlying65, rfl, rfl, (inferInstance : T1 Tryz.prog 3)⟩
instance : TField Tryz.prog 65 1 1 := ⟨_, _, Tryz.underlying65, rfl, rfl, 1, by kernel_rfl, by decide⟩
instance : TPart Tryz.prog 65 1 1 none := ⟨_, _, Tryz.underlying65, rfl, rfl, (inferInstance : T1 Tryz.prog 3)⟩
instance : TField Tryz.prog 65 2 2 := ⟨_, _, Tryz.underlying65, rfl, rfl, 1, by kernel_rfl, by decide⟩
instance : TPart Tryz.prog 65 2 2 none := ⟨_, _, Tryz.underlying65, rfl, rfl, (inferInstance : T1 Tryz.prog 46)⟩
instance : TN Tryz.prog 66 3 := ⟨.inl ⟨_, Tryz.underlying66⟩, by kernel_rfl⟩
instance : TZero Tryz.prog 66 (.agg #[.int .i64 0, .int .i64 0, .slice none 0 0]) := ⟨by kernel_rfl⟩
instance : TBuild Tryz.prog 66 [(0, 1), (1, 1), (2, 1)] := ⟨_, Tryz.underlying66, by kernel_rfl⟩
instance : TField Tryz.prog 66 0 0 := ⟨_, _, Tryz.underlying66, rfl, rfl, 1, by kernel_rfl, by decide⟩
instance : TPart Tryz.prog 66 0 0 none := ⟨_, _, Tryz.underlying66, rfl, rfl, (inferInstance : T1 Tryz.prog 3)⟩
instance : TField Tryz.prog 66 1 1 := ⟨_, _, Tryz.underlying66, rfl, rfl, 1, by kernel_rfl, by decide⟩
instance : TPart Tryz.prog 66 1 1 none := ⟨_, _, Tryz.underlying66, rfl, rfl, (inferInstance : T1 Tryz.prog 3)⟩
instance : TField Tryz.prog 66 2 2 := ⟨_, _, Tryz.underlying66, rfl, rfl, 1, by kernel_rfl, by decide⟩
instance : TPart Tryz.prog 66 2 2 none := ⟨_, _, Tryz.underlying66, rfl, rfl, (inferInstance : T1 Tryz.prog 46)⟩
instance : T1 Tryz.prog 67 := ⟨⟨_, Tryz.underlying67, (fun _ h => nomatch h), (fun _ _ h => nomatch h)⟩, by kernel_rfl⟩
instance : TZero Tryz.prog 67 (.pointer none) := ⟨by kernel_rfl⟩
instance : TPtr Tryz.prog 67 := ⟨⟨_, Tryz.underlying67⟩⟩
instance : T1 Tryz.prog 68 := ⟨⟨_, Tryz.underlying68, (fun _ h => nomatch h), (fun _ _ h => nomatch h)⟩, by kernel_rfl⟩
instance : TZero Tryz.prog 68 (.pointer none) := ⟨by kernel_rfl⟩
instance : TPtr Tryz.prog 68 := ⟨⟨_, Tryz.underlying68⟩⟩
instance : T1 Tryz.prog 69 := ⟨⟨_, Tryz.underlying69, (fun _ h => nomatch h), (fun _ _ h => nomatch h)⟩, by kernel_rfl⟩
instance : TZero Tryz.prog 69 (.pointer none) := ⟨by kernel_rfl⟩
instance : TPtr Tryz.prog 69 := ⟨⟨_, Tryz.underlying69⟩⟩
instance : T1 Tryz.prog 70 := ⟨⟨_, Tryz.underlying70, (fun _ h => nomatch h), (fun _ _ h => nomatch h)⟩, by kernel_rfl⟩
instance : TZero Tryz.prog 70 (.pointer none) := ⟨by kernel_rfl⟩
instance : TPtr Tryz.prog 70 := ⟨⟨_, Tryz.underlying70⟩⟩
instance : T1 Tryz.prog 71 := ⟨⟨_, Tryz.underlying71, (fun _ h => nomatch h), (fun _ _ h => nomatch h)⟩, by kernel_rfl⟩
instance : TZero Tryz.prog 71 (.pointer none) := ⟨by kernel_rfl⟩
instance : TPtr Tryz.prog 71 := ⟨⟨_, Tryz.underlying71⟩⟩
instance : T1 Tryz.prog 72 := ⟨⟨_, Tryz.underlying72, (fun _ h => nomatch h), (fun _ _ h => nomatch h)⟩, by kernel_rfl⟩
instance : TZero Tryz.prog 72 (.pointer none) := ⟨by kernel_rfl⟩
instance : TPtr Tryz.prog 72 := ⟨⟨_, Tryz.underlying72⟩⟩
instance : T1 Tryz.prog 73 := ⟨⟨_, Tryz.underlying73, (fun _ h => nomatch h), (fun _ _ h => nomatch h)⟩, by kernel_rfl⟩
instance : TZero Tryz.prog 73 (.map none) := ⟨by kernel_rfl⟩
instance : TMap Tryz.prog 73 3 24 := ⟨Tryz.underlying73⟩
instance : T1 Tryz.prog 74 := ⟨⟨_, Tryz.underlying74, (fun _ h => nomatch h), (fun _ _ h => nomatch h)⟩, by kernel_rfl⟩
instance : TZero Tryz.prog 74 (.map none) := ⟨by kernel_rfl⟩
instance : TMap Tryz.prog 74 3 119 := ⟨Tryz.underlying74⟩
instance : TN Tryz.prog 76 8 := ⟨.inl ⟨_, Tryz.underlying76⟩, by kernel_rfl⟩
instance : TZero Tryz.prog 76 (.agg #[.pointer none, .pointer none, .pointer none, .pointer none, .pointer none, .pointer none, .map none, .map none]) := ⟨by kernel_rfl⟩
instance : TBuild Tryz.prog 76 [(0, 1), (1, 1), (2, 1), (3, 1), (4, 1), (5, 1), (6, 1), (7, 1)] := ⟨_, Tryz.underlying76, by kernel_rfl⟩
instance : TField Tryz.prog 76 0 0 := ⟨_, _, Tryz.underlying76, rfl, rfl, 1, by kernel_rfl, by decide⟩
instance : TPart Tryz.prog 76 0 0 none := ⟨_, _, Tryz.underlying76, rfl, rfl, (inferInstance : T1 Tryz.prog 67)⟩
instance : TField Tryz.prog 76 1 1 := ⟨_, _, Tryz.underlying76, rfl, rfl, 1, by kernel_rfl, by decide⟩
instance : TPart Tryz.prog 76 1 1 none := ⟨_, _, Tryz.underlying76, rfl, rfl, (inferInstance : T1 Tryz.prog 68)⟩
instance : TField Tryz.prog 76 2 2 := ⟨_, _, Tryz.underlying76, rfl, rfl, 1, by kernel_rfl, by decide⟩
instance : TPart Tryz.prog 76 2 2 none := ⟨_, _, Tryz.underlying76, rfl, rfl, (inferInstance : T1 Tryz.prog 69)⟩
instance : TField Tryz.prog 76 3 3 := ⟨_, _, Tryz.underlying76, rfl, rfl, 1, by kernel_rfl, by decide⟩
instance : TPart Tryz.prog 76 3 3 none := ⟨_, _, Tryz.underlying76, rfl, rfl, (inferInstance : T1 Tryz.prog 70)⟩
instance : TField Tryz.prog 76 4 4 := ⟨_, _, Tryz.underlying76, rfl, rfl, 1, by kernel_rfl, by decide⟩
instance : TPart Tryz.prog 76 4 4 none := ⟨_, _, Tryz.underlying76, rfl, rfl, (inferInstance : T1 Tryz.prog 71)⟩
instance : TField Tryz.prog 76 5 5 := ⟨_, _, Tryz.underlying76, rfl, rfl, 1, by kernel_rfl, by decide⟩
instance : TPart Tryz.prog 76 5 5 none := ⟨_, _, Tryz.underlying76, rfl, rfl, (inferInstance : T1 Tryz.prog 72)⟩
instance : TField Tryz.prog 76 6 6 := ⟨_, _, Tryz.underlying76, rfl, rfl, 1, by kernel_rfl, by decide⟩
instance : TPart Tryz.prog 76 6 6 none := ⟨_, _, Tryz.underlying76, rfl, rfl, (inferInstance : T1 Tryz.prog 73)⟩
instance : TField Tryz.prog 76 7 7 := ⟨_, _, Tryz.underlying76, rfl, rfl, 1, by kernel_rfl, by decide⟩
instance : TPart Tryz.prog 76 7 7 none := ⟨_, _, Tryz.underlying76, rfl, rfl, (inferInstance : T1 Tryz.prog 74)⟩
instance : T1 Tryz.prog 77 := ⟨⟨_, Tryz.underlying77, (fun _ h => nomatch h), (fun _ _ h => nomatch h)⟩, by kernel_rfl⟩
instance : TZero Tryz.prog 77 (.nilFunc) := ⟨by kernel_rfl⟩
instance : T1 Tryz.prog 78 := ⟨⟨_, Tryz.underlying78, (fun _ h => nomatch h), (fun _ _ h => nomatch h)⟩, by kernel_rfl⟩
instance : TZero Tryz.prog 78 (.map none) := ⟨by kernel_rfl⟩
instance : TMap Tryz.prog 78 3 3 := ⟨Tryz.underlying78⟩
instance : T1 Tryz.prog 79 := ⟨⟨_, Tryz.underlying79, (fun _ h => nomatch h), (fun _ _ h => nomatch h)⟩, by kernel_rfl⟩
instance : TZero Tryz.prog 79 (.pointer none) := ⟨by kernel_rfl⟩
instance : TPtr Tryz.prog 79 := ⟨⟨_, Tryz.underlying79⟩⟩
instance : T1 Tryz.prog 80 := ⟨⟨_, Tryz.underlying80, (fun _ h => nomatch h), (fun _ _ h => nomatch h)⟩, by kernel_rfl⟩
instance : TZero Tryz.prog 80 (.slice none 0 0) := ⟨by kernel_rfl⟩
instance : TSlice Tryz.prog 80 201 4 64 := ⟨Tryz.underlying80, by kernel_rfl⟩
instance : T1 Tryz.prog 81 := ⟨⟨_, Tryz.underlying81, (fun _ h => nomatch h), (fun _ _ h => nomatch h)⟩, by kernel_rfl⟩
instance : TZero Tryz.prog 81 (.slice none 0 0) := ⟨by kernel_rfl⟩
instance : TSlice Tryz.prog 81 118 1 8 := ⟨Tryz.underlying81, by kernel_rfl⟩
instance : TN Tryz.prog 82 3 := ⟨.inl ⟨_, Tryz.underlying82⟩, by kernel_rfl⟩
instance : TZero Tryz.prog 82 (.agg #[.pointer none, .slice none 0 0, .slice none 0 0]) := ⟨by kernel_rfl⟩
instance : TBuild Tryz.prog 82 [(0, 1), (1, 1), (2, 1)] := ⟨_, Tryz.underlying82, by kernel_rfl⟩
instance : TField Tryz.prog 82 0 0 := ⟨_, _, Tryz.underlying82, rfl, rfl, 1, by kernel_rfl, by decide⟩
instance : TPart Tryz.prog 82 0 0 none := ⟨_, _, Tryz.underlying82, rfl, rfl, (inferInstance : T1 Tryz.prog 79)⟩
instance : TField Tryz.prog 82 1 1 := ⟨_, _, Tryz.underlying82, rfl, rfl, 1, by kernel_rfl, by decide⟩
instance : TPart Tryz.prog 82 1 1 none := ⟨_, _, Tryz.underlying82, rfl, rfl, (inferInstance : T1 Tryz.prog 80)⟩
instance : TField Tryz.prog 82 2 2 := ⟨_, _, Tryz.underlying82, rfl, rfl, 1, by kernel_rfl, by decide⟩
instance : TPart Tryz.prog 82 2 2 none := ⟨_, _, Tryz.underlying82, rfl, rfl, (inferInstance : T1 Tryz.prog 81)⟩
instance : TN Tryz.prog 83 3 := ⟨.inl ⟨_, Tryz.underlying83⟩, by kernel_rfl⟩
instance : TZero Tryz.prog 83 (.agg #[.pointer none, .slice none 0 0, .slice none 0 0]) := ⟨by kernel_rfl⟩
instance : TBuild Tryz.prog 83 [(0, 1), (1, 1), (2, 1)] := ⟨_, Tryz.underlying83, by kernel_rfl⟩
instance : TField Tryz.prog 83 0 0 := ⟨_, _, Tryz.underlying83, rfl, rfl, 1, by kernel_rfl, by decide⟩
instance : TPart Tryz.prog 83 0 0 none := ⟨_, _, Tryz.underlying83, rfl, rfl, (inferInstance : T1 Tryz.prog 79)⟩
instance : TField Tryz.prog 83 1 1 := ⟨_, _, Tryz.underlying83, rfl, rfl, 1, by kernel_rfl, by decide⟩
instance : TPart Tryz.prog 83 1 1 none := ⟨_, _, Tryz.underlying83, rfl, rfl, (inferInstance : T1 Tryz.prog 80)⟩
instance : TField Tryz.prog 83 2 2 := ⟨_, _, Tryz.underlying83, rfl, rfl, 1, by kernel_rfl, by decide⟩
instance : TPart Tryz.prog 83 2 2 none := ⟨_, _, Tryz.underlying83, rfl, rfl, (inferInstance : T1 Tryz.prog 81)⟩
instance : T1 Tryz.prog 84 := ⟨⟨_, Tryz.underlying84, (fun _ h => nomatch h), (fun _ _ h => nomatch h)⟩, by kernel_rfl⟩
instance : TZero Tryz.prog 84 (.nilFunc) := ⟨by kernel_rfl⟩
instance : T1 Tryz.prog 85 := ⟨⟨_, Tryz.underlying85, (fun _ h => nomatch h), (fun _ _ h => nomatch h)⟩, by kernel_rfl⟩
instance : TZero Tryz.prog 85 (.nilFunc) := ⟨by kernel_rfl⟩
instance : T1 Tryz.prog 86 := ⟨⟨_, Tryz.underlying86, (fun _ h => nomatch h), (fun _ _ h => nomatch h)⟩, by kernel_rfl⟩
instance : TZero Tryz.prog 86 (.map none) := ⟨by kernel_rfl⟩
instance : TMap Tryz.prog 86 88 90 := ⟨Tryz.underlying86⟩
instance : TN Tryz.prog 87 2 := ⟨.inl ⟨_, Tryz.underlying87⟩, by kernel_rfl⟩
instance : TZero Tryz.prog 87 (.agg #[.int .i64 0, .int .i64 0]) := ⟨by kernel_rfl⟩
instance : TBuild Tryz.prog 87 [(0, 1), (1, 1)] := ⟨_, Tryz.underlying87, by kernel_rfl⟩
instance : TField Tryz.prog 87 0 0 := ⟨_, _, Tryz.underlying87, rfl, rfl, 1, by kernel_rfl, by decide⟩
instance : TPart Tryz.prog 87 0 0 none := ⟨_, _, Tryz.underlying87, rfl, rfl, (inferInstance : T1 Tryz.prog 3)⟩
instance : TField Tryz.prog 87 1 1 := ⟨_, _, Tryz.underlying87, rfl, rfl, 1, by kernel_rfl, by decide⟩
instance : TPart Tryz.prog 87 1 1 none := ⟨_, _, Tryz.underlying87, rfl, rfl, (inferInstance : T1 Tryz.prog 3)⟩
instance : TPair Tryz.prog 87 := ⟨⟨_, _, _, _, Tryz.underlying87, by decide, by decide, rfl, rfl, Tryz.underlying3, Tryz.underlying3⟩, fun f g h => by rw [Tryz.underlying87] at h; cases h; exact ⟨(inferInstance : T1 Tryz.prog 3), (inferInstance : T1 Tryz.prog 3)⟩, by kernel_rfl, by kernel_rfl⟩
instance : TN Tryz.prog 88 2 := ⟨.inl ⟨_, Tryz.underlying88⟩, by kernel_rfl⟩
instance : TZero Tryz.prog 88 (.agg #[.int .i64 0, .int .i64 0]) := ⟨by kernel_rfl⟩
instance : TBuild Tryz.prog 88 [(0, 1), (1, 1)] := ⟨_, Tryz.underlying88, by kernel_rfl⟩
instance : TField Tryz.prog 88 0 0 := ⟨_, _, Tryz.underlying88, rfl, rfl, 1, by kernel_rfl, by decide⟩
instance : TPart Tryz.prog 88 0 0 none := ⟨_, _, Tryz.underlying88, rfl, rfl, (inferInstance : T1 Tryz.prog 3)⟩
instance : TField Tryz.prog 88 1 1 := ⟨_, _, Tryz.underlying88, rfl, rfl, 1, by kernel_rfl, by decide⟩
instance : TPart Tryz.prog 88 1 1 none := ⟨_, _, Tryz.underlying88, rfl, rfl, (inferInstance : T1 Tryz.prog 3)⟩
instance : TPair Tryz.prog 88 := ⟨⟨_, _, _, _, Tryz.underlying88, by decide, by decide, rfl, rfl, Tryz.underlying3, Tryz.underlying3⟩, fun f g h => by rw [Tryz.underlying88] at h; cases h; exact ⟨(inferInstance : T1 Tryz.prog 3), (inferInstance : T1 Tryz.prog 3)⟩, by kernel_rfl, by kernel_rfl⟩
instance : TN Tryz.prog 89 5 := ⟨.inl ⟨_, Tryz.underlying89⟩, by kernel_rfl⟩
instance : TZero Tryz.prog 89 (.agg #[.int .i64 0, .int .i64 0, .int .i64 0, .int .i64 0, .bool false]) := ⟨by kernel_rfl⟩
instance : TBuild Tryz.prog 89 [(0, 1), (1, 1), (2, 1), (3, 1), (4, 1)] := ⟨_, Tryz.underlying89, by kernel_rfl⟩
instance : TField Tryz.prog 89 0 0 := ⟨_, _, Tryz.underlying89, rfl, rfl, 1, by kernel_rfl, by decide⟩
instance : TPart Tryz.prog 89 0 0 none := ⟨_, _, Tryz.underlying89, rfl, rfl, (inferInstance : T1 Tryz.prog 3)⟩
instance : TField Tryz.prog 89 1 1 := ⟨_, _, Tryz.underlying89, rfl, rfl, 1, by kernel_rfl, by decide⟩
instance : TPart Tryz.prog 89 1 1 none := ⟨_, _, Tryz.underlying89, rfl, rfl, (inferInstance : T1 Tryz.prog 3)⟩
instance : TField Tryz.prog 89 2 2 := ⟨_, _, Tryz.underlying89, rfl, rfl, 1, by kernel_rfl, by decide⟩
instance : TPart Tryz.prog 89 2 2 none := ⟨_, _, Tryz.underlying89, rfl, rfl, (inferInstance : T1 Tryz.prog 3)⟩
instance : TField Tryz.prog 89 3 3 := ⟨_, _, Tryz.underlying89, rfl, rfl, 1, by kernel_rfl, by decide⟩
instance : TPart Tryz.prog 89 3 3 none := ⟨_, _, Tryz.underlying89, rfl, rfl, (inferInstance : T1 Tryz.prog 3)⟩
instance : TField Tryz.prog 89 4 4 := ⟨_, _, Tryz.underlying89, rfl, rfl, 1, by kernel_rfl, by decide⟩
instance : TPart Tryz.prog 89 4 4 none := ⟨_, _, Tryz.underlying89, rfl, rfl, (inferInstance : T1 Tryz.prog 4)⟩
instance : TN Tryz.prog 90 5 := ⟨.inl ⟨_, Tryz.underlying90⟩, by kernel_rfl⟩
instance : TZero Tryz.prog 90 (.agg #[.int .i64 0, .int .i64 0, .int .i64 0, .int .i64 0, .bool false]) := ⟨by kernel_rfl⟩
instance : TBuild Tryz.prog 90 [(0, 1), (1, 1), (2, 1), (3, 1), (4, 1)] := ⟨_, Tryz.underlying90, by kernel_rfl⟩
instance : TField Tryz.prog 90 0 0 := ⟨_, _, Tryz.underlying90, rfl, rfl, 1, by kernel_rfl, by decide⟩
instance : TPart Tryz.prog 90 0 0 none := ⟨_, _, Tryz.underlying90, rfl, rfl, (inferInstance : T1 Tryz.prog 3)⟩
instance : TField Tryz.prog 90 1 1 := ⟨_, _, Tryz.underlying90, rfl, rfl, 1, by kernel_rfl, by decide⟩
instance : TPart Tryz.prog 90 1 1 none := ⟨_, _, Tryz.underlying90, rfl, rfl, (inferInstance : T1 Tryz.prog 3)⟩
instance : TField Tryz.prog 90 2 2 := ⟨_, _, Tryz.underlying90, rfl, rfl, 1, by kernel_rfl, by decide⟩
instance : TPart Tryz.prog 90 2 2 none := ⟨_, _, Tryz.underlying90, rfl, rfl, (inferInstance : T1 Tryz.prog 3)⟩
instance : TField Tryz.prog 90 3 3 := ⟨_, _, Tryz.underlying90, rfl, rfl, 1, by kernel_rfl, by decide⟩
instance : TPart Tryz.prog 90 3 3 none := ⟨_, _, Tryz.underlying90, rfl, rfl, (inferInstance : T1 Tryz.prog 3)⟩
instance : TField Tryz.prog 90 4 4 := ⟨_, _, Tryz.underlying90, rfl, rfl, 1, by kernel_rfl, by decide⟩
instance : TPart Tryz.prog 90 4 4 none := ⟨_, _, Tryz.underlying90, rfl, rfl, (inferInstance : T1 Tryz.prog 4)⟩
instance : T1 Tryz.prog 92 := ⟨⟨_, Tryz.underlying92, (fun _ h => nomatch h), (fun _ _ h => nomatch h)⟩, by kernel_rfl⟩
instance : TZero Tryz.prog 92 (.nilFunc) := ⟨by kernel_rfl⟩
instance : T1 Tryz.prog 94 := ⟨⟨_, Tryz.underlying94, (fun _ h => nomatch h), (fun _ _ h => nomatch h)⟩, by kernel_rfl⟩
instance : TZero Tryz.prog 94 (.nilFunc) := ⟨by kernel_rfl⟩
instance : T1 Tryz.prog 95 := ⟨⟨_, Tryz.underlying95, (fun _ h => nomatch h), (fun _ _ h => nomatch h)⟩, by kernel_rfl⟩
instance : TZero Tryz.prog 95 (.nilFunc) := ⟨by kernel_rfl⟩
instance : T1 Tryz.prog 96 := ⟨⟨_, Tryz.underlying96, (fun _ h => nomatch h), (fun _ _ h => nomatch h)⟩, by kernel_rfl⟩
instance : TZero Tryz.prog 96 (.nilFunc) := ⟨by kernel_rfl⟩
instance : T1 Tryz.prog 98 := ⟨⟨_, Tryz.underlying98, (fun _ h => nomatch h), (fun _ _ h => nomatch h)⟩, by kernel_rfl⟩
instance : TZero Tryz.prog 98 (.nilFunc) := ⟨by kernel_rfl⟩
instance : T1 Tryz.prog 99 := ⟨⟨_, Tryz.underlying99, (fun _ h => nomatch h), (fun _ _ h => nomatch h)⟩, by kernel_rfl⟩
instance : TZero Tryz.prog 99 (.nilFunc) := ⟨by kernel_rfl⟩
instance : T1 Tryz.prog 100 := ⟨⟨_, Tryz.underlying100, (fun _ h => nomatch h), (fun _ _ h => nomatch h)⟩, by kernel_rfl⟩
instance : TZero Tryz.prog 100 (.nilFunc) := ⟨by kernel_rfl⟩
instance : TN Tryz.prog 102 4 := ⟨.inl ⟨_, Tryz.underlying102⟩, by kernel_rfl⟩
instance : TZero Tryz.prog 102 (.agg #[.int .i64 0, .int .i64 0, .bool false, .bool false]) := ⟨by kernel_rfl⟩
instance : TBuild Tryz.prog 102 [(0, 1), (1, 1), (2, 1), (3, 1)] := ⟨_, Tryz.underlying102, by kernel_rfl⟩
instance : TField Tryz.prog 102 0 0 := ⟨_, _, Tryz.underlying102, rfl, rfl, 1, by kernel_rfl, by decide⟩
instance : TPart Tryz.prog 102 0 0 none := ⟨_, _, Tryz.underlying102, rfl, rfl, (inferInstance : T1 Tryz.prog 3)⟩
instance : TField Tryz.prog 102 1 1 := ⟨_, _, Tryz.underlying102, rfl, rfl, 1, by kernel_rfl, by decide⟩
instance : TPart Tryz.prog 102 1 1 none := ⟨_, _, Tryz.underlying102, rfl, rfl, (inferInstance : T1 Tryz.prog 3)⟩
instance : TField Tryz.prog 102 2 2 := ⟨_, _, Tryz.underlying102, rfl, rfl, 1, by kernel_rfl, by decide⟩
instance : TPart Tryz.prog 102 2 2 none := ⟨_, _, Tryz.underlying102, rfl, rfl, (inferInstance : T1 Tryz.prog 4)⟩
instance : TField Tryz.prog 102 3 3 := ⟨_, _, Tryz.underlying102, rfl, rfl, 1, by kernel_rfl, by decide⟩
instance : TPart Tryz.prog 102 3 3 none := ⟨_, _, Tryz.underlying102, rfl, rfl, (inferInstance : T1 Tryz.prog 4)⟩
instance : T1 Tryz.prog 104 := ⟨⟨_, Tryz.underlying104, (fun _ h => nomatch h), (fun _ _ h => nomatch h)⟩, by kernel_rfl⟩
instance : TZero Tryz.prog 104 (.nilFunc) := ⟨by kernel_rfl⟩
instance : T1 Tryz.prog 105 := ⟨⟨_, Tryz.underlying105, (fun _ h => nomatch h), (fun _ _ h => nomatch h)⟩, by kernel_rfl⟩
instance : TZero Tryz.prog 105 (.nilFunc) := ⟨by kernel_rfl⟩
instance : T1 Tryz.prog 106 := ⟨⟨_, Tryz.underlying106, (fun _ h => nomatch h), (fun _ _ h => nomatch h)⟩, by kernel_rfl⟩
instance : TZero Tryz.prog 106 (.nilFunc) := ⟨by kernel_rfl⟩
instance : T1 Tryz.prog 107 := ⟨⟨_, Tryz.underlying107, (fun _ h => nomatch h), (fun _ _ h => nomatch h)⟩, by kernel_rfl⟩
instance : TZero Tryz.prog 107 (.nilFunc) := ⟨by kernel_rfl⟩
instance : TN Tryz.prog 108 3 := ⟨.inl ⟨_, Tryz.underlying108⟩, by kernel_rfl⟩
instance : TZero Tryz.prog 108 (.agg #[.int .i64 0, .int .i64 0, .int .i64 0]) := ⟨by kernel_rfl⟩
instance : TBuild Tryz.prog 108 [(0, 1), (1, 2)] := ⟨_, Tryz.underlying108, by kernel_rfl⟩
instance : TField Tryz.prog 108 0 0 := ⟨_, _, Tryz.underlying108, rfl, rfl, 1, by kernel_rfl, by decide⟩
instance : TPart Tryz.prog 108 0 0 none := ⟨_, _, Tryz.underlying108, rfl, rfl, (inferInstance : T1 Tryz.prog 3)⟩
instance : TField Tryz.prog 108 1 1 := ⟨_, _, Tryz.underlying108, rfl, rfl, 2, by kernel_rfl, by decide⟩
instance : TPart Tryz.prog 108 1 1 (some 2) := ⟨_, _, Tryz.underlying108, rfl, rfl, (inferInstance : TN Tryz.prog 88 2)⟩
instance : TN Tryz.prog 109 3 := ⟨.inl ⟨_, Tryz.underlying109⟩, by kernel_rfl⟩
instance : TZero Tryz.prog 109 (.agg #[.int .i64 0, .int .i64 0, .int .i64 0]) := ⟨by kernel_rfl⟩
instance : TBuild Tryz.prog 109 [(0, 1), (1, 2)] := ⟨_, Tryz.underlying109, by kernel_rfl⟩
instance : TField Tryz.prog 109 0 0 := ⟨_, _, Tryz.underlying109, rfl, rfl, 1, by kernel_rfl, by decide⟩
instance : TPart Tryz.prog 109 0 0 none := ⟨_, _, Tryz.underlying109, rfl, rfl, (inferInstance : T1 Tryz.prog 3)⟩
instance : TField Tryz.prog 109 1 1 := ⟨_, _, Tryz.underlying109, rfl, rfl, 2, by kernel_rfl, by decide⟩
instance : TPart Tryz.prog 109 1 1 (some 2) := ⟨_, _, Tryz.underlying109, rfl, rfl, (inferInstance : TN Tryz.prog 88 2)⟩
instance : TN Tryz.prog 111 6 := ⟨.inl ⟨_, Tryz.underlying111⟩, by kernel_rfl⟩
instance : TZero Tryz.prog 111 (.agg #[.int .i64 0, .int .i64 0, .int .i64 0, .int .i64 0, .int .i64 0, .int .i64 0]) := ⟨by kernel_rfl⟩
instance : TBuild Tryz.prog 111 [(0, 2), (2, 1), (3, 3)] := ⟨_, Tryz.underlying111, by kernel_rfl⟩
instance : TField Tryz.prog 111 0 0 := ⟨_, _, Tryz.underlying111, rfl, rfl, 2, by kernel_rfl, by decide⟩
instance : TPart Tryz.prog 111 0 0 (some 2) := ⟨_, _, Tryz.underlying111, rfl, rfl, (inferInstance : TN Tryz.prog 88 2)⟩
instance : TField Tryz.prog 111 1 2 := ⟨_, _, Tryz.underlying111, rfl, rfl, 1, by kernel_rfl, by decide⟩
instance : TPart Tryz.prog 111 1 2 none := ⟨_, _, Tryz.underlying111, rfl, rfl, (inferInstance : T1 Tryz.prog 3)⟩
instance : TField Tryz.prog 111 2 3 := ⟨_, _, Tryz.underlying111, rfl, rfl, 3, by kernel_rfl, by decide⟩
instance : TPart Tryz.prog 111 2 3 (some 3) := ⟨_, _, Tryz.underlying111, rfl, rfl, (inferInstance : TN Tryz.prog 109 3)⟩
instance : T1 Tryz.prog 114 := ⟨⟨_, Tryz.underlying114, (fun _ h => nomatch h), (fun _ _ h => nomatch h)⟩, by kernel_rfl⟩
instance : TZero Tryz.prog 114 (.nilFunc) := ⟨by kernel_rfl⟩
instance : T1 Tryz.prog 115 := ⟨⟨_, Tryz.underlying115, (fun _ h => nomatch h), (fun _ _ h => nomatch h)⟩, by kernel_rfl⟩
instance : TZero Tryz.prog 115 (.slice none 0 0) := ⟨by kernel_rfl⟩
instance : TSlice Tryz.prog 115 127 1 8 := ⟨Tryz.underlying115, by kernel_rfl⟩
instance : TN Tryz.prog 116 9 := ⟨.inl ⟨_, Tryz.underlying116⟩, by kernel_rfl⟩
instance : TZero Tryz.prog 116 (.agg #[.int .i64 0, .int .i64 0, .int .i64 0, .slice none 0 0, .slice none 0 0, .slice none 0 0, .bool false, .bool false, .bool false]) := ⟨by kernel_rfl⟩
instance : TBuild Tryz.prog 116 [(0, 1), (1, 1), (2, 1), (3, 1), (4, 1), (5, 1), (6, 1), (7, 1), (8, 1)] := ⟨_, Tryz.underlying116, by kernel_rfl⟩
instance : TField Tryz.prog 116 0 0 := ⟨_, _, Tryz.underlying116, rfl, rfl, 1, by kernel_rfl, by decide⟩
instance : TPart Tryz.prog 116 0 0 none := ⟨_, _, Tryz.underlying116, rfl, rfl, (inferInstance : T1 Tryz.prog 3)⟩
instance : TField Tryz.prog 116 1 1 := ⟨_, _, Tryz.underlying116, rfl, rfl, 1, by kernel_rfl, by decide⟩
instance : TPart Tryz.prog 116 1 1 none := ⟨_, _, Tryz.underlying116, rfl, rfl, (inferInstance : T1 Tryz.prog 3)⟩
instance : TField Tryz.prog 116 2 2 := ⟨_, _, Tryz.underlying116, rfl, rfl, 1, by kernel_rfl, by decide⟩
instance : TPart Tryz.prog 116 2 2 none := ⟨_, _, Tryz.underlying116, rfl, rfl, (inferInstance : T1 Tryz.prog 3)⟩
instance : TField Tryz.prog 116 3 3 := ⟨_, _, Tryz.underlying116, rfl, rfl, 1, by kernel_rfl, by decide⟩
instance : TPart Tryz.prog 116 3 3 none := ⟨_, _, Tryz.underlying116, rfl, rfl, (inferInstance : T1 Tryz.prog 115)⟩
instance : TField Tryz.prog 116 4 4 := ⟨_, _, Tryz.underlying116, rfl, rfl, 1, by kernel_rfl, by decide⟩
instance : TPart Tryz.prog 116 4 4 none := ⟨_, _, Tryz.underlying116, rfl, rfl, (inferInstance : T1 Tryz.prog 46)⟩
instance : TField Tryz.prog 116 5 5 := ⟨_, _, Tryz.underlying116, rfl, rfl, 1, by kernel_rfl, by decide⟩
instance : TPart Tryz.prog 116 5 5 none := ⟨_, _, Tryz.underlying116, rfl, rfl, (inferInstance : T1 Tryz.prog 46)⟩
instance : TField Tryz.prog 116 6 6 := ⟨_, _, Tryz.underlying116, rfl, rfl, 1, by kernel_rfl, by decide⟩
instance : TPart Tryz.prog 116 6 6 none := ⟨_, _, Tryz.underlying116, rfl, rfl, (inferInstance : T1 Tryz.prog 4)⟩
instance : TField Tryz.prog 116 7 7 := ⟨_, _, Tryz.underlying116, rfl, rfl, 1, by kernel_rfl, by decide⟩
instance : TPart Tryz.prog 116 7 7 none := ⟨_, _, Tryz.underlying116, rfl, rfl, (inferInstance : T1 Tryz.prog 4)⟩
instance : TField Tryz.prog 116 8 8 := ⟨_, _, Tryz.underlying116, rfl, rfl, 1, by kernel_rfl, by decide⟩
instance : TPart Tryz.prog 116 8 8 none := ⟨_, _, Tryz.underlying116, rfl, rfl, (inferInstance : T1 Tryz.prog 4)⟩
instance : TN Tryz.prog 117 9 := ⟨.inl ⟨_, Tryz.underlying117⟩, by kernel_rfl⟩
instance : TZero Tryz.prog 117 (.agg #[.int .i64 0, .int .i64 0, .int .i64 0, .slice none 0 0, .slice none 0 0, .slice none 0 0, .bool false, .bool false, .bool false]) := ⟨by kernel_rfl⟩
instance : TBuild Tryz.prog 117 [(0, 1), (1, 1), (2, 1), (3, 1), (4, 1), (5, 1), (6, 1), (7, 1), (8, 1)] := ⟨_, Tryz.underlying117, by kernel_rfl⟩
instance : TField Tryz.prog 117 0 0 := ⟨_, _, Tryz.underlying117, rfl, rfl, 1, by kernel_rfl, by decide⟩
instance : TPart Tryz.prog 117 0 0 none := ⟨_, _, Tryz.underlying117, rfl, rfl, (inferInstance : T1 Tryz.prog 3)⟩
instance : TField Tryz.prog 117 1 1 := ⟨_, _, Tryz.underlying117, rfl, rfl, 1, by kernel_rfl, by decide⟩
instance : TPart Tryz.prog 117 1 1 none := ⟨_, _, Tryz.underlying117, rfl, rfl, (inferInstance : T1 Tryz.prog 3)⟩
instance : TField Tryz.prog 117 2 2 := ⟨_, _, Tryz.underlying117, rfl, rfl, 1, by kernel_rfl, by decide⟩
instance : TPart Tryz.prog 117 2 2 none := ⟨_, _, Tryz.underlying117, rfl, rfl, (inferInstance : T1 Tryz.prog 3)⟩
instance : TField Tryz.prog 117 3 3 := ⟨_, _, Tryz.underlying117, rfl, rfl, 1, by kernel_rfl, by decide⟩
instance : TPart Tryz.prog 117 3 3 none := ⟨_, _, Tryz.underlying117, rfl, rfl, (inferInstance : T1 Tryz.prog 115)⟩
instance : TField Tryz.prog 117 4 4 := ⟨_, _, Tryz.underlying117, rfl, rfl, 1, by kernel_rfl, by decide⟩
instance : TPart Tryz.prog 117 4 4 none := ⟨_, _, Tryz.underlying117, rfl, rfl, (inferInstance : T1 Tryz.prog 46)⟩
instance : TField Tryz.prog 117 5 5 := ⟨_, _, Tryz.underlying117, rfl, rfl, 1, by kernel_rfl, by decide⟩
instance : TPart Tryz.prog 117 5 5 none := ⟨_, _, Tryz.underlying117, rfl, rfl, (inferInstance : T1 Tryz.prog 46)⟩
instance : TField Tryz.prog 117 6 6 := ⟨_, _, Tryz.underlying117, rfl, rfl, 1, by kernel_rfl, by decide⟩
instance : TPart Tryz.prog 117 6 6 none := ⟨_, _, Tryz.underlying117, rfl, rfl, (inferInstance : T1 Tryz.prog 4)⟩
instance : TField Tryz.prog 117 7 7 := ⟨_, _, Tryz.underlying117, rfl, rfl, 1, by kernel_rfl, by decide⟩
instance : TPart Tryz.prog 117 7 7 none := ⟨_, _, Tryz.underlying117, rfl, rfl, (inferInstance : T1 Tryz.prog 4)⟩
instance : TField Tryz.prog 117 8 8 := ⟨_, _, Tryz.underlying117, rfl, rfl, 1, by kernel_rfl, by decide⟩
instance : TPart Tryz.prog 117 8 8 none := ⟨_, _, Tryz.underlying117, rfl, rfl, (inferInstance : T1 Tryz.prog 4)⟩
instance : T1 Tryz.prog 118 := ⟨⟨_, Tryz.underlying118, (fun _ h => nomatch h), (fun _ _ h => nomatch h)⟩, by kernel_rfl⟩
instance : TZero Tryz.prog 118 (.pointer none) := ⟨by kernel_rfl⟩
instance : TPtr Tryz.prog 118 := ⟨⟨_, Tryz.underlying118⟩⟩
instance : T1 Tryz.prog 119 := ⟨⟨_, Tryz.underlying119, (fun _ h => nomatch h), (fun _ _ h => nomatch h)⟩, by kernel_rfl⟩
instance : TZero Tryz.prog 119 (.pointer none) := ⟨by kernel_rfl⟩
instance : TPtr Tryz.prog 119 := ⟨⟨_, Tryz.underlying119⟩⟩
instance : T1 Tryz.prog 120 := ⟨⟨_, Tryz.underlying120, (fun _ h => nomatch h), (fun _ _ h => nomatch h)⟩, by kernel_rfl⟩
instance : TZero Tryz.prog 120 (.nilFunc) := ⟨by kernel_rfl⟩
instance : TN Tryz.prog 121 2 := ⟨.inl ⟨_, Tryz.underlying121⟩, by kernel_rfl⟩
instance : TZero Tryz.prog 121 (.agg #[.slice none 0 0, .int .i64 0]) := ⟨by kernel_rfl⟩
instance : TBuild Tryz.prog 121 [(0, 1), (1, 1)] := ⟨_, Tryz.underlying121, by kernel_rfl⟩
instance : TField Tryz.prog 121 0 0 := ⟨_, _, Tryz.underlying121, rfl, rfl, 1, by kernel_rfl, by decide⟩
instance : TPart Tryz.prog 121 0 0 none := ⟨_, _, Tryz.underlying121, rfl, rfl, (inferInstance : T1 Tryz.prog 46)⟩
instance : TField Tryz.prog 121 1 1 := ⟨_, _, Tryz.underlying121, rfl, rfl, 1, by kernel_rfl, by decide⟩
instance : TPart Tryz.prog 121 1 1 none := ⟨_, _, Tryz.underlying121, rfl, rfl, (inferInstance : T1 Tryz.prog 3)⟩
instance : T1 Tryz.prog 126 := ⟨⟨_, Tryz.underlying126, (fun _ h => nomatch h), (fun _ _ h => nomatch h)⟩, by kernel_rfl⟩
instance : TZero Tryz.prog 126 (.nilFunc) := ⟨by kernel_rfl⟩
instance : T1 Tryz.prog 127 := ⟨⟨_, Tryz.underlying127, (fun _ h => nomatch h), (fun _ _ h => nomatch h)⟩, by kernel_rfl⟩
instance : TZero Tryz.prog 127 (.int .u64 0) := ⟨by kernel_rfl⟩
instance : TInt Tryz.prog 127 .u64 := ⟨Tryz.underlying127⟩
instance : T1 Tryz.prog 129 := ⟨⟨_, Tryz.underlying129, (fun _ h => nomatch h), (fun _ _ h => nomatch h)⟩, by kernel_rfl⟩
instance : TZero Tryz.prog 129 (.nilFunc) := ⟨by kernel_rfl⟩
instance : T1 Tryz.prog 130 := ⟨⟨_, Tryz.underlying130, (fun _ h => nomatch h), (fun _ _ h => nomatch h)⟩, by kernel_rfl⟩
instance : TZero Tryz.prog 130 (.nilFunc) := ⟨by kernel_rfl⟩
instance : T1 Tryz.prog 131 := ⟨⟨_, Tryz.underlying131, (fun _ h => nomatch h), (fun _ _ h => nomatch h)⟩, by kernel_rfl⟩
instance : TZero Tryz.prog 131 (.nilFunc) := ⟨by kernel_rfl⟩
instance : T1 Tryz.prog 132 := ⟨⟨_, Tryz.underlying132, (fun _ h => nomatch h), (fun _ _ h => nomatch h)⟩, by kernel_rfl⟩
instance : TZero Tryz.prog 132 (.nilFunc) := ⟨by kernel_rfl⟩
instance : T1 Tryz.prog 133 := ⟨⟨_, Tryz.underlying133, (fun _ h => nomatch h), (fun _ _ h => nomatch h)⟩, by kernel_rfl⟩
instance : TZero Tryz.prog 133 (.nilFunc) := ⟨by kernel_rfl⟩
instance : T1 Tryz.prog 135 := ⟨⟨_, Tryz.underlying135, (fun _ h => nomatch h), (fun _ _ h => nomatch h)⟩, by kernel_rfl⟩
instance : TZero Tryz.prog 135 (.nilFunc) := ⟨by kernel_rfl⟩
instance : T1 Tryz.prog 139 := ⟨⟨_, Tryz.underlying139, (fun _ h => nomatch h), (fun _ _ h => nomatch h)⟩, by kernel_rfl⟩
instance : TZero Tryz.prog 139 (.nilFunc) := ⟨by kernel_rfl⟩
instance : T1 Tryz.prog 141 := ⟨⟨_, Tryz.underlying141, (fun _ h => nomatch h), (fun _ _ h => nomatch h)⟩, by kernel_rfl⟩
instance : TZero Tryz.prog 141 (.nilFunc) := ⟨by kernel_rfl⟩
instance : T1 Tryz.prog 143 := ⟨⟨_, Tryz.underlying143, (fun _ h => nomatch h), (fun _ _ h => nomatch h)⟩, by kernel_rfl⟩
instance : TZero Tryz.prog 143 (.slice none 0 0) := ⟨by kernel_rfl⟩
instance : TSlice Tryz.prog 143 166 2 16 := ⟨Tryz.underlying143, by kernel_rfl⟩
instance : T1 Tryz.prog 144 := ⟨⟨_, Tryz.underlying144, (fun _ h => nomatch h), (fun _ _ h => nomatch h)⟩, by kernel_rfl⟩
instance : TZero Tryz.prog 144 (.nilFunc) := ⟨by kernel_rfl⟩
instance : TN Tryz.prog 146 2 := ⟨.inl ⟨_, Tryz.underlying146⟩, by kernel_rfl⟩
instance : TZero Tryz.prog 146 (.agg #[.int .i64 0, .int .i64 0]) := ⟨by kernel_rfl⟩
instance : TBuild Tryz.prog 146 [(0, 1), (1, 1)] := ⟨_, Tryz.underlying146, by kernel_rfl⟩
instance : TField Tryz.prog 146 0 0 := ⟨_, _, Tryz.underlying146, rfl, rfl, 1, by kernel_rfl, by decide⟩
instance : TPart Tryz.prog 146 0 0 none := ⟨_, _, Tryz.underlying146, rfl, rfl, (inferInstance : T1 Tryz.prog 3)⟩
instance : TField Tryz.prog 146 1 1 := ⟨_, _, Tryz.underlying146, rfl, rfl, 1, by kernel_rfl, by decide⟩
instance : TPart Tryz.prog 146 1 1 none := ⟨_, _, Tryz.underlying146, rfl, rfl, (inferInstance : T1 Tryz.prog 3)⟩
instance : TPair Tryz.prog 146 := ⟨⟨_, _, _, _, Tryz.underlying146, by decide, by decide, rfl, rfl, Tryz.underlying3, Tryz.underlying3⟩, fun f g h => by rw [Tryz.underlying146] at h; cases h; exact ⟨(inferInstance : T1 Tryz.prog 3), (inferInstance : T1 Tryz.prog 3)⟩, by kernel_rfl, by kernel_rfl⟩
instance : T1 Tryz.prog 148 := ⟨⟨_, Tryz.underlying148, (fun _ h => nomatch h), (fun _ _ h => nomatch h)⟩, by kernel_rfl⟩
instance : TZero Tryz.prog 148 (.nilFunc) := ⟨by kernel_rfl⟩
instance : T1 Tryz.prog 149 := ⟨⟨_, Tryz.underlying149, (fun _ h => nomatch h), (fun _ _ h => nomatch h)⟩, by kernel_rfl⟩
instance : TZero Tryz.prog 149 (.nilFunc) := ⟨by kernel_rfl⟩
instance : T1 Tryz.prog 150 := ⟨⟨_, Tryz.underlying150, (fun _ h => nomatch h), (fun _ _ h => nomatch h)⟩, by kernel_rfl⟩
instance : TZero Tryz.prog 150 (.nilFunc) := ⟨by kernel_rfl⟩
instance : T1 Tryz.prog 153 := ⟨⟨_, Tryz.underlying153, (fun _ h => nomatch h), (fun _ _ h => nomatch h)⟩, by kernel_rfl⟩
instance : TZero Tryz.prog 153 (.nilFunc) := ⟨by kernel_rfl⟩
instance : TN Tryz.prog 155 2 := ⟨.inl ⟨_, Tryz.underlying155⟩, by kernel_rfl⟩
instance : TZero Tryz.prog 155 (.agg #[.int .i64 0, .int .i64 0]) := ⟨by kernel_rfl⟩
instance : TBuild Tryz.prog 155 [(0, 1), (1, 1)] := ⟨_, Tryz.underlying155, by kernel_rfl⟩
instance : TField Tryz.prog 155 0 0 := ⟨_, _, Tryz.underlying155, rfl, rfl, 1, by kernel_rfl, by decide⟩
instance : TPart Tryz.prog 155 0 0 none := ⟨_, _, Tryz.underlying155, rfl, rfl, (inferInstance : T1 Tryz.prog 3)⟩
instance : TField Tryz.prog 155 1 1 := ⟨_, _, Tryz.underlying155, rfl, rfl, 1, by kernel_rfl, by decide⟩
instance : TPart Tryz.prog 155 1 1 none := ⟨_, _, Tryz.underlying155, rfl, rfl, (inferInstance : T1 Tryz.prog 3)⟩
instance : TPair Tryz.prog 155 := ⟨⟨_, _, _, _, Tryz.underlying155, by decide, by decide, rfl, rfl, Tryz.underlying3, Tryz.underlying3⟩, fun f g h => by rw [Tryz.underlying155] at h; cases h; exact ⟨(inferInstance : T1 Tryz.prog 3), (inferInstance : T1 Tryz.prog 3)⟩, by kernel_rfl, by kernel_rfl⟩
instance : T1 Tryz.prog 159 := ⟨⟨_, Tryz.underlying159, (fun _ h => nomatch h), (fun _ _ h => nomatch h)⟩, by kernel_rfl⟩
instance : TZero Tryz.prog 159 (.nilFunc) := ⟨by kernel_rfl⟩
instance : T1 Tryz.prog 160 := ⟨⟨_, Tryz.underlying160, (fun _ h => nomatch h), (fun _ _ h => nomatch h)⟩, by kernel_rfl⟩
instance : TZero Tryz.prog 160 (.nilFunc) := ⟨by kernel_rfl⟩
instance : T1 Tryz.prog 162 := ⟨⟨_, Tryz.underlying162, (fun _ h => nomatch h), (fun _ _ h => nomatch h)⟩, by kernel_rfl⟩
instance : TZero Tryz.prog 162 (.nilFunc) := ⟨by kernel_rfl⟩
instance : T1 Tryz.prog 163 := ⟨⟨_, Tryz.underlying163, (fun _ h => nomatch h), (fun _ _ h => nomatch h)⟩, by kernel_rfl⟩
instance : TZero Tryz.prog 163 (.nilFunc) := ⟨by kernel_rfl⟩
instance : T1 Tryz.prog 164 := ⟨⟨_, Tryz.underlying164, (fun _ h => nomatch h), (fun _ _ h => nomatch h)⟩, by kernel_rfl⟩
instance : TZero Tryz.prog 164 (.nilFunc) := ⟨by kernel_rfl⟩
instance : TN Tryz.prog 165 2 := ⟨.inl ⟨_, Tryz.underlying165⟩, by kernel_rfl⟩
instance : TZero Tryz.prog 165 (.agg #[.int .i64 0, .int .i64 0]) := ⟨by kernel_rfl⟩
instance : TBuild Tryz.prog 165 [(0, 1), (1, 1)] := ⟨_, Tryz.underlying165, by kernel_rfl⟩
instance : TField Tryz.prog 165 0 0 := ⟨_, _, Tryz.underlying165, rfl, rfl, 1, by kernel_rfl, by decide⟩
instance : TPart Tryz.prog 165 0 0 none := ⟨_, _, Tryz.underlying165, rfl, rfl, (inferInstance : T1 Tryz.prog 3)⟩
instance : TField Tryz.prog 165 1 1 := ⟨_, _, Tryz.underlying165, rfl, rfl, 1, by kernel_rfl, by decide⟩
instance : TPart Tryz.prog 165 1 1 none := ⟨_, _, Tryz.underlying165, rfl, rfl, (inferInstance : T1 Tryz.prog 3)⟩
instance : TPair Tryz.prog 165 := ⟨⟨_, _, _, _, Tryz.underlying165, by decide, by decide, rfl, rfl, Tryz.underlying3, Tryz.underlying3⟩, fun f g h => by rw [Tryz.underlying165] at h; cases h; exact ⟨(inferInstance : T1 Tryz.prog 3), (inferInstance : T1 Tryz.prog 3)⟩, by kernel_rfl, by kernel_rfl⟩
instance : TN Tryz.prog 166 2 := ⟨.inl ⟨_, Tryz.underlying166⟩, by kernel_rfl⟩
instance : TZero Tryz.prog 166 (.agg #[.int .i64 0, .int .i64 0]) := ⟨by kernel_rfl⟩
instance : TBuild Tryz.prog 166 [(0, 1), (1, 1)] := ⟨_, Tryz.underlying166, by kernel_rfl⟩
instance : TField Tryz.prog 166 0 0 := ⟨_, _, Tryz.underlying166, rfl, rfl, 1, by kernel_rfl, by decide⟩
instance : TPart Tryz.prog 166 0 0 none := ⟨_, _, Tryz.underlying166, rfl, rfl, (inferInstance : T1 Tryz.prog 3)⟩
instance : TField Tryz.prog 166 1 1 := ⟨_, _, Tryz.underlying166, rfl, rfl, 1, by kernel_rfl, by decide⟩
instance : TPart Tryz.prog 166 1 1 none := ⟨_, _, Tryz.underlying166, rfl, rfl, (inferInstance : T1 Tryz.prog 3)⟩
instance : TPair Tryz.prog 166 := ⟨⟨_, _, _, _, Tryz.underlying166, by decide, by decide, rfl, rfl, Tryz.underlying3, Tryz.underlying3⟩, fun f g h => by rw [Tryz.underlying166] at h; cases h; exact ⟨(inferInstance : T1 Tryz.prog 3), (inferInstance : T1 Tryz.prog 3)⟩, by kernel_rfl, by kernel_rfl⟩
instance : T1 Tryz.prog 168 := ⟨⟨_, Tryz.underlying168, (fun _ h => nomatch h), (fun _ _ h => nomatch h)⟩, by kernel_rfl⟩
instance : TZero Tryz.prog 168 (.nilFunc) := ⟨by kernel_rfl⟩
instance : T1 Tryz.prog 169 := ⟨⟨_, Tryz.underlying169, (fun _ h => nomatch h), (fun _ _ h => nomatch h)⟩, by kernel_rfl⟩
instance : TZero Tryz.prog 169 (.nilFunc) := ⟨by kernel_rfl⟩
instance : T1 Tryz.prog 170 := ⟨⟨_, Tryz.underlying170, (fun _ h => nomatch h), (fun _ _ h => nomatch h)⟩, by kernel_rfl⟩
instance : TZero Tryz.prog 170 (.nilFunc) := ⟨by kernel_rfl⟩
instance : T1 Tryz.prog 171 := ⟨⟨_, Tryz.underlying171, (fun _ h => nomatch h), (fun _ _ h => nomatch h)⟩, by kernel_rfl⟩
instance : TZero Tryz.prog 171 (.nilFunc) := ⟨by kernel_rfl⟩
instance : T1 Tryz.prog 172 := ⟨⟨_, Tryz.underlying172, (fun _ h => nomatch h), (fun _ _ h => nomatch h)⟩, by kernel_rfl⟩
instance : TZero Tryz.prog 172 (.nilFunc) := ⟨by kernel_rfl⟩
instance : T1 Tryz.prog 173 := ⟨⟨_, Tryz.underlying173, (fun _ h => nomatch h), (fun _ _ h => nomatch h)⟩, by kernel_rfl⟩
instance : TZero Tryz.prog 173 (.nilFunc) := ⟨by kernel_rfl⟩
instance : T1 Tryz.prog 178 := ⟨⟨_, Tryz.underlying178, (fun _ h => nomatch h), (fun _ _ h => nomatch h)⟩, by kernel_rfl⟩
instance : TZero Tryz.prog 178 (.map none) := ⟨by kernel_rfl⟩
instance : TMap Tryz.prog 178 88 3 := ⟨Tryz.underlying178⟩
instance : TN Tryz.prog 179 3 := ⟨.inl ⟨_, Tryz.underlying179⟩, by kernel_rfl⟩
instance : TZero Tryz.prog 179 (.agg #[.int .i64 0, .int .i64 0, .int .i64 0]) := ⟨by kernel_rfl⟩
instance : TBuild Tryz.prog 179 [(0, 1), (1, 1), (2, 1)] := ⟨_, Tryz.underlying179, by kernel_rfl⟩
instance : TField Tryz.prog 179 0 0 := ⟨_, _, Tryz.underlying179, rfl, rfl, 1, by kernel_rfl, by decide⟩
instance : TPart Tryz.prog 179 0 0 none := ⟨_, _, Tryz.underlying179, rfl, rfl, (inferInstance : T1 Tryz.prog 3)⟩
instance : TField Tryz.prog 179 1 1 := ⟨_, _, Tryz.underlying179, rfl, rfl, 1, by kernel_rfl, by decide⟩
instance : TPart Tryz.prog 179 1 1 none := ⟨_, _, Tryz.underlying179, rfl, rfl, (inferInstance : T1 Tryz.prog 3)⟩
instance : TField Tryz.prog 179 2 2 := ⟨_, _, Tryz.underlying179, rfl, rfl, 1, by kernel_rfl, by decide⟩
instance : TPart Tryz.prog 179 2 2 none := ⟨_, _, Tryz.underlying179, rfl, rfl, (inferInstance : T1 Tryz.prog 3)⟩
instance : TN Tryz.prog 180 3 := ⟨.inl ⟨_, Tryz.underlying180⟩, by kernel_rfl⟩
instance : TZero Tryz.prog 180 (.agg #[.int .i64 0, .int .i64 0, .int .i64 0]) := ⟨by kernel_rfl⟩
instance : TBuild Tryz.prog 180 [(0, 1), (1, 1), (2, 1)] := ⟨_, Tryz.underlying180, by kernel_rfl⟩
instance : TField Tryz.prog 180 0 0 := ⟨_, _, Tryz.underlying180, rfl, rfl, 1, by kernel_rfl, by decide⟩
instance : TPart Tryz.prog 180 0 0 none := ⟨_, _, Tryz.underlying180, rfl, rfl, (inferInstance : T1 Tryz.prog 3)⟩
instance : TField Tryz.prog 180 1 1 := ⟨_, _, Tryz.underlying180, rfl, rfl, 1, by kernel_rfl, by decide⟩
instance : TPart Tryz.prog 180 1 1 none := ⟨_, _, Tryz.underlying180, rfl, rfl, (inferInstance : T1 Tryz.prog 3)⟩
instance : TField Tryz.prog 180 2 2 := ⟨_, _, Tryz.underlying180, rfl, rfl, 1, by kernel_rfl, by decide⟩
instance : TPart Tryz.prog 180 2 2 none := ⟨_, _, Tryz.underlying180, rfl, rfl, (inferInstance : T1 Tryz.prog 3)⟩
instance : T1 Tryz.prog 182 := ⟨⟨_, Tryz.underlying182, (fun _ h => nomatch h), (fun _ _ h => nomatch h)⟩, by kernel_rfl⟩
instance : TZero Tryz.prog 182 (.nilFunc) := ⟨by kernel_rfl⟩
instance : T1 Tryz.prog 183 := ⟨⟨_, Tryz.underlying183, (fun _ h => nomatch h), (fun _ _ h => nomatch h)⟩, by kernel_rfl⟩
instance : TZero Tryz.prog 183 (.nilFunc) := ⟨by kernel_rfl⟩
instance : T1 Tryz.prog 184 := ⟨⟨_, Tryz.underlying184, (fun _ h => nomatch h), (fun _ _ h => nomatch h)⟩, by kernel_rfl⟩
instance : TZero Tryz.prog 184 (.nilFunc) := ⟨by kernel_rfl⟩
instance : T1 Tryz.prog 186 := ⟨⟨_, Tryz.underlying186, (fun _ h => nomatch h), (fun _ _ h => nomatch h)⟩, by kernel_rfl⟩
instance : TZero Tryz.prog 186 (.nilFunc) := ⟨by kernel_rfl⟩
instance : T1 Tryz.prog 187 := ⟨⟨_, Tryz.underlying187, (fun _ h => nomatch h), (fun _ _ h => nomatch h)⟩, by kernel_rfl⟩
instance : TZero Tryz.prog 187 (.nilFunc) := ⟨by kernel_rfl⟩
instance : T1 Tryz.prog 188 := ⟨⟨_, Tryz.underlying188, (fun _ h => nomatch h), (fun _ _ h => nomatch h)⟩, by kernel_rfl⟩
instance : TZero Tryz.prog 188 (.nilFunc) := ⟨by kernel_rfl⟩
instance : T1 Tryz.prog 189 := ⟨⟨_, Tryz.underlying189, (fun _ h => nomatch h), (fun _ _ h => nomatch h)⟩, by kernel_rfl⟩
instance : TZero Tryz.prog 189 (.nilFunc) := ⟨by kernel_rfl⟩
instance : T1 Tryz.prog 190 := ⟨⟨_, Tryz.underlying190, (fun _ h => nomatch h), (fun _ _ h => nomatch h)⟩, by kernel_rfl⟩
instance : TZero Tryz.prog 190 (.nilFunc) := ⟨by kernel_rfl⟩
instance : T1 Tryz.prog 191 := ⟨⟨_, Tryz.underlying191, (fun _ h => nomatch h), (fun _ _ h => nomatch h)⟩, by kernel_rfl⟩
instance : TZero Tryz.prog 191 (.slice none 0 0) := ⟨by kernel_rfl⟩
instance : TSlice Tryz.prog 191 193 9 88 := ⟨Tryz.underlying191, by kernel_rfl⟩
instance : TN Tryz.prog 192 9 := ⟨.inl ⟨_, Tryz.underlying192⟩, by kernel_rfl⟩
instance : TZero Tryz.prog 192 (.agg #[.int .i64 0, .int .i64 0, .int .i64 0, .int .i64 0, .int .u64 0, .slice none 0 0, .bool false, .int .i64 0, .int .i64 0]) := ⟨by kernel_rfl⟩
instance : TBuild Tryz.prog 192 [(0, 1), (1, 1), (2, 1), (3, 1), (4, 1), (5, 1), (6, 1), (7, 2)] := ⟨_, Tryz.underlying192, by kernel_rfl⟩
instance : TField Tryz.prog 192 0 0 := ⟨_, _, Tryz.underlying192, rfl, rfl, 1, by kernel_rfl, by decide⟩
instance : TPart Tryz.prog 192 0 0 none := ⟨_, _, Tryz.underlying192, rfl, rfl, (inferInstance : T1 Tryz.prog 3)⟩
instance : TField Tryz.prog 192 1 1 := ⟨_, _, Tryz.underlying192, rfl, rfl, 1, by kernel_rfl, by decide⟩
instance : TPart Tryz.prog 192 1 1 none := ⟨_, _, Tryz.underlying192, rfl, rfl, (inferInstance : T1 Tryz.prog 3)⟩
instance : TField Tryz.prog 192 2 2 := ⟨_, _, Tryz.underlying192, rfl, rfl, 1, by kernel_rfl, by decide⟩
instance : TPart Tryz.prog 192 2 2 none := ⟨_, _, Tryz.underlying192, rfl, rfl, (inferInstance : T1 Tryz.prog 3)⟩
instance : TField Tryz.prog 192 3 3 := ⟨_, _, Tryz.underlying192, rfl, rfl, 1, by kernel_rfl, by decide⟩
instance : TPart Tryz.prog 192 3 3 none := ⟨_, _, Tryz.underlying192, rfl, rfl, (inferInstance : T1 Tryz.prog 3)⟩
instance : TField Tryz.prog 192 4 4 := ⟨_, _, Tryz.underlying192, rfl, rfl, 1, by kernel_rfl, by decide⟩
instance : TPart Tryz.prog 192 4 4 none := ⟨_, _, Tryz.underlying192, rfl, rfl, (inferInstance : T1 Tryz.prog 127)⟩
instance : TField Tryz.prog 192 5 5 := ⟨_, _, Tryz.underlying192, rfl, rfl, 1, by kernel_rfl, by decide⟩
instance : TPart Tryz.prog 192 5 5 none := ⟨_, _, Tryz.underlying192, rfl, rfl, (inferInstance : T1 Tryz.prog 115)⟩
instance : TField Tryz.prog 192 6 6 := ⟨_, _, Tryz.underlying192, rfl, rfl, 1, by kernel_rfl, by decide⟩
instance : TPart Tryz.prog 192 6 6 none := ⟨_, _, Tryz.underlying192, rfl, rfl, (inferInstance : T1 Tryz.prog 4)⟩
instance : TField Tryz.prog 192 7 7 := ⟨_, _, Tryz.underlying192, rfl, rfl, 2, by kernel_rfl, by decide⟩
instance : TPart Tryz.prog 192 7 7 (some 2) := ⟨_, _, Tryz.underlying192, rfl, rfl, (inferInstance : TN Tryz.prog 88 2)⟩
instance : TN Tryz.prog 193 9 := ⟨.inl ⟨_, Tryz.underlying193⟩, by kernel_rfl⟩
instance : TZero Tryz.prog 193 (.agg #[.int .i64 0, .int .i64 0, .int .i64 0, .int .i64 0, .int .u64 0, .slice none 0 0, .bool false, .int .i64 0, .int .i64 0]) := ⟨by kernel_rfl⟩
instance : TBuild Tryz.prog 193 [(0, 1), (1, 1), (2, 1), (3, 1), (4, 1), (5, 1), (6, 1), (7, 2)] := ⟨_, Tryz.underlying193, by kernel_rfl⟩
instance : TField Tryz.prog 193 0 0 := ⟨_, _, Tryz.underlying193, rfl, rfl, 1, by kernel_rfl, by decide⟩
instance : TPart Tryz.prog 193 0 0 none := ⟨_, _, Tryz.underlying193, rfl, rfl, (inferInstance : T1 Tryz.prog 3)⟩
instance : TField Tryz.prog 193 1 1 := ⟨_, _, Tryz.underlying193, rfl, rfl, 1, by kernel_rfl, by decide⟩
instance : TPart Tryz.prog 193 1 1 none := ⟨_, _, Tryz.underlying193, rfl, rfl, (inferInstance : T1 Tryz.prog 3)⟩
instance : TField Tryz.prog 193 2 2 := ⟨_, _, Tryz.underlying193, rfl, rfl, 1, by kernel_rfl, by decide⟩
instance : TPart Tryz.prog 193 2 2 none := ⟨_, _, Tryz.underlying193, rfl, rfl, (inferInstance : T1 Tryz.prog 3)⟩
instance : TField Tryz.prog 193 3 3 := ⟨_, _, Tryz.underlying193, rfl, rfl, 1, by kernel_rfl, by decide⟩
instance : TPart Tryz.prog 193 3 3 none := ⟨_, _, Tryz.underlying193, rfl, rfl, (inferInstance : T1 Tryz.prog 3)⟩
instance : TField Tryz.prog 193 4 4 := ⟨_, _, Tryz.underlying193, rfl, rfl, 1, by kernel_rfl, by decide⟩
instance : TPart Tryz.prog 193 4 4 none := ⟨_, _, Tryz.underlying193, rfl, rfl, (inferInstance : T1 Tryz.prog 127)⟩
instance : TField Tryz.prog 193 5 5 := ⟨_, _, Tryz.underlying193, rfl, rfl, 1, by kernel_rfl, by decide⟩
instance : TPart Tryz.prog 193 5 5 none := ⟨_, _, Tryz.underlying193, rfl, rfl, (inferInstance : T1 Tryz.prog 115)⟩
instance : TField Tryz.prog 193 6 6 := ⟨_, _, Tryz.underlying193, rfl, rfl, 1, by kernel_rfl, by decide⟩
instance : TPart Tryz.prog 193 6 6 none := ⟨_, _, Tryz.underlying193, rfl, rfl, (inferInstance : T1 Tryz.prog 4)⟩
instance : TField Tryz.prog 193 7 7 := ⟨_, _, Tryz.underlying193, rfl, rfl, 2, by kernel_rfl, by decide⟩
instance : TPart Tryz.prog 193 7 7 (some 2) := ⟨_, _, Tryz.underlying193, rfl, rfl, (inferInstance : TN Tryz.prog 88 2)⟩
instance : TN Tryz.prog 194 12 := ⟨.inl ⟨_, Tryz.underlying194⟩, by kernel_rfl⟩
instance : TZero Tryz.prog 194 (.agg #[.int .i64 0, .int .i64 0, .int .i64 0, .int .i64 0, .int .i64 0, .int .u64 0, .slice none 0 0, .bool false, .int .i64 0, .int .i64 0, .int .i64 0, .slice none 0 0]) := ⟨by kernel_rfl⟩
instance : TBuild Tryz.prog 194 [(0, 1), (1, 9), (10, 1), (11, 1)] := ⟨_, Tryz.underlying194, by kernel_rfl⟩
instance : TField Tryz.prog 194 0 0 := ⟨_, _, Tryz.underlying194, rfl, rfl, 1, by kernel_rfl, by decide⟩
instance : TPart Tryz.prog 194 0 0 none := ⟨_, _, Tryz.underlying194, rfl, rfl, (inferInstance : T1 Tryz.prog 3)⟩
instance : TField Tryz.prog 194 1 1 := ⟨_, _, Tryz.underlying194, rfl, rfl, 9, by kernel_rfl, by decide⟩
instance : TPart Tryz.prog 194 1 1 (some 9) := ⟨_, _, Tryz.underlying194, rfl, rfl, (inferInstance : TN Tryz.prog 193 9)⟩
instance : TField Tryz.prog 194 2 10 := ⟨_, _, Tryz.underlying194, rfl, rfl, 1, by kernel_rfl, by decide⟩
instance : TPart Tryz.prog 194 2 10 none := ⟨_, _, Tryz.underlying194, rfl, rfl, (inferInstance : T1 Tryz.prog 3)⟩
instance : TField Tryz.prog 194 3 11 := ⟨_, _, Tryz.underlying194, rfl, rfl, 1, by kernel_rfl, by decide⟩
instance : TPart Tryz.prog 194 3 11 none := ⟨_, _, Tryz.underlying194, rfl, rfl, (inferInstance : T1 Tryz.prog 46)⟩
instance : TN Tryz.prog 195 12 := ⟨.inl ⟨_, Tryz.underlying195⟩, by kernel_rfl⟩
instance : TZero Tryz.prog 195 (.agg #[.int .i64 0, .int .i64 0, .int .i64 0, .int .i64 0, .int .i64 0, .int .u64 0, .slice none 0 0, .bool false, .int .i64 0, .int .i64 0, .int .i64 0, .slice none 0 0]) := ⟨by kernel_rfl⟩
instance : TBuild Tryz.prog 195 [(0, 1), (1, 9), (10, 1), (11, 1)] := ⟨_, Tryz.underlying195, by kernel_rfl⟩
instance : TField Tryz.prog 195 0 0 := ⟨_, _, Tryz.underlying195, rfl, rfl, 1, by kernel_rfl, by decide⟩
instance : TPart Tryz.prog 195 0 0 none := ⟨_, _, Tryz.underlying195, rfl, rfl, (inferInstance : T1 Tryz.prog 3)⟩
instance : TField Tryz.prog 195 1 1 := ⟨_, _, Tryz.underlying195, rfl, rfl, 9, by kernel_rfl, by decide⟩
instance : TPart Tryz.prog 195 1 1 (some 9) := ⟨_, _, Tryz.underlying195, rfl, rfl, (inferInstance : TN Tryz.prog 193 9)⟩
instance : TField Tryz.prog 195 2 10 := ⟨_, _, Tryz.underlying195, rfl, rfl, 1, by kernel_rfl, by decide⟩
instance : TPart Tryz.prog 195 2 10 none := ⟨_, _, Tryz.underlying195, rfl, rfl, (inferInstance : T1 Tryz.prog 3)⟩
instance : TField Tryz.prog 195 3 11 := ⟨_, _, Tryz.underlying195, rfl, rfl, 1, by kernel_rfl, by decide⟩
instance : TPart Tryz.prog 195 3 11 none := ⟨_, _, Tryz.underlying195, rfl, rfl, (inferInstance : T1 Tryz.prog 46)⟩
instance : T1 Tryz.prog 196 := ⟨⟨_, Tryz.underlying196, (fun _ h => nomatch h), (fun _ _ h => nomatch h)⟩, by kernel_rfl⟩
instance : TZero Tryz.prog 196 (.nilFunc) := ⟨by kernel_rfl⟩
instance : T1 Tryz.prog 197 := ⟨⟨_, Tryz.underlying197, (fun _ h => nomatch h), (fun _ _ h => nomatch h)⟩, by kernel_rfl⟩
instance : TZero Tryz.prog 197 (.nilFunc) := ⟨by kernel_rfl⟩
instance : T1 Tryz.prog 198 := ⟨⟨_, Tryz.underlying198, (fun _ h => nomatch h), (fun _ _ h => nomatch h)⟩, by kernel_rfl⟩
instance : TZero Tryz.prog 198 (.nilFunc) := ⟨by kernel_rfl⟩
instance : T1 Tryz.prog 199 := ⟨⟨_, Tryz.underlying199, (fun _ h => nomatch h), (fun _ _ h => nomatch h)⟩, by kernel_rfl⟩
instance : TZero Tryz.prog 199 (.nilFunc) := ⟨by kernel_rfl⟩
instance : TN Tryz.prog 200 4 := ⟨.inl ⟨_, Tryz.underlying200⟩, by kernel_rfl⟩
instance : TZero Tryz.prog 200 (.agg #[.int .i64 0, .slice none 0 0, .int .i64 0, .slice none 0 0]) := ⟨by kernel_rfl⟩
instance : TBuild Tryz.prog 200 [(0, 1), (1, 1), (2, 1), (3, 1)] := ⟨_, Tryz.underlying200, by kernel_rfl⟩
instance : TField Tryz.prog 200 0 0 := ⟨_, _, Tryz.underlying200, rfl, rfl, 1, by kernel_rfl, by decide⟩
instance : TPart Tryz.prog 200 0 0 none := ⟨_, _, Tryz.underlying200, rfl, rfl, (inferInstance : T1 Tryz.prog 3)⟩
instance : TField Tryz.prog 200 1 1 := ⟨_, _, Tryz.underlying200, rfl, rfl, 1, by kernel_rfl, by decide⟩
instance : TPart Tryz.prog 200 1 1 none := ⟨_, _, Tryz.underlying200, rfl, rfl, (inferInstance : T1 Tryz.prog 46)⟩
instance : TField Tryz.prog 200 2 2 := ⟨_, _, Tryz.underlying200, rfl, rfl, 1, by kernel_rfl, by decide⟩
instance : TPart Tryz.prog 200 2 2 none := ⟨_, _, Tryz.underlying200, rfl, rfl, (inferInstance : T1 Tryz.prog 3)⟩
instance : TField Tryz.prog 200 3 3 := ⟨_, _, Tryz.underlying200, rfl, rfl, 1, by kernel_rfl, by decide⟩
instance : TPart Tryz.prog 200 3 3 none := ⟨_, _, Tryz.underlying200, rfl, rfl, (inferInstance : T1 Tryz.prog 46)⟩
instance : TN Tryz.prog 201 4 := ⟨.inl ⟨_, Tryz.underlying201⟩, by kernel_rfl⟩
instance : TZero Tryz.prog 201 (.agg #[.int .i64 0, .slice none 0 0, .int .i64 0, .slice none 0 0]) := ⟨by kernel_rfl⟩
instance : TBuild Tryz.prog 201 [(0, 1), (1, 1), (2, 1), (3, 1)] := ⟨_, Tryz.underlying201, by kernel_rfl⟩
instance : TField Tryz.prog 201 0 0 := ⟨_, _, Tryz.underlying201, rfl, rfl, 1, by kernel_rfl, by decide⟩
instance : TPart Tryz.prog 201 0 0 none := ⟨_, _, Tryz.underlying201, rfl, rfl, (inferInstance : T1 Tryz.prog 3)⟩
instance : TField Tryz.prog 201 1 1 := ⟨_, _, Tryz.underlying201, rfl, rfl, 1, by kernel_rfl, by decide⟩
instance : TPart Tryz.prog 201 1 1 none := ⟨_, _, Tryz.underlying201, rfl, rfl, (inferInstance : T1 Tryz.prog 46)⟩
instance : TField Tryz.prog 201 2 2 := ⟨_, _, Tryz.underlying201, rfl, rfl, 1, by kernel_rfl, by decide⟩
instance : TPart Tryz.prog 201 2 2 none := ⟨_, _, Tryz.underlying201, rfl, rfl, (inferInstance : T1 Tryz.prog 3)⟩
instance : TField Tryz.prog 201 3 3 := ⟨_, _, Tryz.underlying201, rfl, rfl, 1, by kernel_rfl, by decide⟩
instance : TPart Tryz.prog 201 3 3 none := ⟨_, _, Tryz.underlying201, rfl, rfl, (inferInstance : T1 Tryz.prog 46)⟩
instance : TN Tryz.prog 205 1 := ⟨.inl ⟨_, Tryz.underlying205⟩, by kernel_rfl⟩
instance : TZero Tryz.prog 205 (.agg #[.slice none 0 0]) := ⟨by kernel_rfl⟩
instance : TBuild Tryz.prog 205 [(0, 1)] := ⟨_, Tryz.underlying205, by kernel_rfl⟩
instance : TField Tryz.prog 205 0 0 := ⟨_, _, Tryz.underlying205, rfl, rfl, 1, by kernel_rfl, by decide⟩
instance : TPart Tryz.prog 205 0 0 none := ⟨_, _, Tryz.underlying205, rfl, rfl, (inferInstance : T1 Tryz.prog 46)⟩
instance : TN Tryz.prog 207 2 := ⟨.inl ⟨_, Tryz.underlying207⟩, by kernel_rfl⟩
instance : TZero Tryz.prog 207 (.agg #[.map none, .int .i64 0]) := ⟨by kernel_rfl⟩
instance : TBuild Tryz.prog 207 [(0, 1), (1, 1)] := ⟨_, Tryz.underlying207, by kernel_rfl⟩
instance : TField Tryz.prog 207 0 0 := ⟨_, _, Tryz.underlying207, rfl, rfl, 1, by kernel_rfl, by decide⟩
instance : TPart Tryz.prog 207 0 0 none := ⟨_, _, Tryz.underlying207, rfl, rfl, (inferInstance : T1 Tryz.prog 78)⟩
instance : TField Tryz.prog 207 1 1 := ⟨_, _, Tryz.underlying207, rfl, rfl, 1, by kernel_rfl, by decide⟩
instance : TPart Tryz.prog 207 1 1 none := ⟨_, _, Tryz.underlying207, rfl, rfl, (inferInstance : T1 Tryz.prog 3)⟩
instance : T1 Tryz.prog 209 := ⟨⟨_, Tryz.underlying209, (fun _ h => nomatch h), (fun _ _ h => nomatch h)⟩, by kernel_rfl⟩
instance : TZero Tryz.prog 209 (.nilFunc) := ⟨by kernel_rfl⟩
instance : T1 Tryz.prog 210 := ⟨⟨_, Tryz.underlying210, (fun _ h => nomatch h), (fun _ _ h => nomatch h)⟩, by kernel_rfl⟩
instance : TZero Tryz.prog 210 (.int .u64 0) := ⟨by kernel_rfl⟩
instance : TInt Tryz.prog 210 .u64 := ⟨Tryz.underlying210⟩
instance : T1 Tryz.prog 211 := ⟨⟨_, Tryz.underlying211, (fun _ h => nomatch h), (fun _ _ h => nomatch h)⟩, by kernel_rfl⟩
instance : TZero Tryz.prog 211 (.pointer none) := ⟨by kernel_rfl⟩
instance : TPtr Tryz.prog 211 := ⟨⟨_, Tryz.underlying211⟩⟩
instance : TN Tryz.prog 212 4 := ⟨.inl ⟨_, Tryz.underlying212⟩, by kernel_rfl⟩
instance : TZero Tryz.prog 212 (.agg #[.slice none 0 0, .int .i64 0, .slice none 0 0, .pointer none]) := ⟨by kernel_rfl⟩
instance : TBuild Tryz.prog 212 [(0, 1), (1, 1), (2, 1), (3, 1)] := ⟨_, Tryz.underlying212, by kernel_rfl⟩
instance : TField Tryz.prog 212 0 0 := ⟨_, _, Tryz.underlying212, rfl, rfl, 1, by kernel_rfl, by decide⟩
instance : TPart Tryz.prog 212 0 0 none := ⟨_, _, Tryz.underlying212, rfl, rfl, (inferInstance : T1 Tryz.prog 115)⟩
instance : TField Tryz.prog 212 1 1 := ⟨_, _, Tryz.underlying212, rfl, rfl, 1, by kernel_rfl, by decide⟩
instance : TPart Tryz.prog 212 1 1 none := ⟨_, _, Tryz.underlying212, rfl, rfl, (inferInstance : T1 Tryz.prog 3)⟩
instance : TField Tryz.prog 212 2 2 := ⟨_, _, Tryz.underlying212, rfl, rfl, 1, by kernel_rfl, by decide⟩
instance : TPart Tryz.prog 212 2 2 none := ⟨_, _, Tryz.underlying212, rfl, rfl, (inferInstance : T1 Tryz.prog 46)⟩
instance : TField Tryz.prog 212 3 3 := ⟨_, _, Tryz.underlying212, rfl, rfl, 1, by kernel_rfl, by decide⟩
instance : TPart Tryz.prog 212 3 3 none := ⟨_, _, Tryz.underlying212, rfl, rfl, (inferInstance : T1 Tryz.prog 211)⟩
instance : TN Tryz.prog 213 4 := ⟨.inl ⟨_, Tryz.underlying213⟩, by kernel_rfl⟩
instance : TZero Tryz.prog 213 (.agg #[.slice none 0 0, .int .i64 0, .slice none 0 0, .pointer none]) := ⟨by kernel_rfl⟩
instance : TBuild Tryz.prog 213 [(0, 1), (1, 1), (2, 1), (3, 1)] := ⟨_, Tryz.underlying213, by kernel_rfl⟩
instance : TField Tryz.prog 213 0 0 := ⟨_, _, Tryz.underlying213, rfl, rfl, 1, by kernel_rfl, by decide⟩
instance : TPart Tryz.prog 213 0 0 none := ⟨_, _, Tryz.underlying213, rfl, rfl, (inferInstance : T1 Tryz.prog 115)⟩
instance : TField Tryz.prog 213 1 1 := ⟨_, _, Tryz.underlying213, rfl, rfl, 1, by kernel_rfl, by decide⟩
instance : TPart Tryz.prog 213 1 1 none := ⟨_, _, Tryz.underlying213, rfl, rfl, (inferInstance : T1 Tryz.prog 3)⟩
instance : TField Tryz.prog 213 2 2 := ⟨_, _, Tryz.underlying213, rfl, rfl, 1, by kernel_rfl, by decide⟩
instance : TPart Tryz.prog 213 2 2 none := ⟨_, _, Tryz.underlying213, rfl, rfl, (inferInstance : T1 Tryz.prog 46)⟩
instance : TField Tryz.prog 213 3 3 := ⟨_, _, Tryz.underlying213, rfl, rfl, 1, by kernel_rfl, by decide⟩
instance : TPart Tryz.prog 213 3 3 none := ⟨_, _, Tryz.underlying213, rfl, rfl, (inferInstance : T1 Tryz.prog 211)⟩
instance : T1 Tryz.prog 214 := ⟨⟨_, Tryz.underlying214, (fun _ h => nomatch h), (fun _ _ h => nomatch h)⟩, by kernel_rfl⟩
instance : TZero Tryz.prog 214 (.slice none 0 0) := ⟨by kernel_rfl⟩
instance : TSlice Tryz.prog 214 223 6 40 := ⟨Tryz.underlying214, by kernel_rfl⟩
instance : TN Tryz.prog 215 3 := ⟨.inl ⟨_, Tryz.underlying215⟩, by kernel_rfl⟩
instance : TZero Tryz.prog 215 (.agg #[.slice none 0 0, .pointer none, .int .i64 0]) := ⟨by kernel_rfl⟩
instance : TBuild Tryz.prog 215 [(0, 1), (1, 1), (2, 1)] := ⟨_, Tryz.underlying215, by kernel_rfl⟩
instance : TField Tryz.prog 215 0 0 := ⟨_, _, Tryz.underlying215, rfl, rfl, 1, by kernel_rfl, by decide⟩
instance : TPart Tryz.prog 215 0 0 none := ⟨_, _, Tryz.underlying215, rfl, rfl, (inferInstance : T1 Tryz.prog 214)⟩
instance : TField Tryz.prog 215 1 1 := ⟨_, _, Tryz.underlying215, rfl, rfl, 1, by kernel_rfl, by decide⟩
instance : TPart Tryz.prog 215 1 1 none := ⟨_, _, Tryz.underlying215, rfl, rfl, (inferInstance : T1 Tryz.prog 211)⟩
instance : TField Tryz.prog 215 2 2 := ⟨_, _, Tryz.underlying215, rfl, rfl, 1, by kernel_rfl, by decide⟩
instance : TPart Tryz.prog 215 2 2 none := ⟨_, _, Tryz.underlying215, rfl, rfl, (inferInstance : T1 Tryz.prog 3)⟩
instance : TN Tryz.prog 216 3 := ⟨.inl ⟨_, Tryz.underlying216⟩, by kernel_rfl⟩
instance : TZero Tryz.prog 216 (.agg #[.slice none 0 0, .pointer none, .int .i64 0]) := ⟨by kernel_rfl⟩
instance : TBuild Tryz.prog 216 [(0, 1), (1, 1), (2, 1)] := ⟨_, Tryz.underlying216, by kernel_rfl⟩
instance : TField Tryz.prog 216 0 0 := ⟨_, _, Tryz.underlying216, rfl, rfl, 1, by kernel_rfl, by decide⟩
instance : TPart Tryz.prog 216 0 0 none := ⟨_, _, Tryz.underlying216, rfl, rfl, (inferInstance : T1 Tryz.prog 214)⟩
instance : TField Tryz.prog 216 1 1 := ⟨_, _, Tryz.underlying216, rfl, rfl, 1, by kernel_rfl, by decide⟩
instance : TPart Tryz.prog 216 1 1 none := ⟨_, _, Tryz.underlying216, rfl, rfl, (inferInstance : T1 Tryz.prog 211)⟩
instance : TField Tryz.prog 216 2 2 := ⟨_, _, Tryz.underlying216, rfl, rfl, 1, by kernel_rfl, by decide⟩
instance : TPart Tryz.prog 216 2 2 none := ⟨_, _, Tryz.underlying216, rfl, rfl, (inferInstance : T1 Tryz.prog 3)⟩
instance : T1 Tryz.prog 217 := ⟨⟨_, Tryz.underlying217, (fun _ h => nomatch h), (fun _ _ h => nomatch h)⟩, by kernel_rfl⟩
instance : TZero Tryz.prog 217 (.map none) := ⟨by kernel_rfl⟩
instance : TMap Tryz.prog 217 166 3 := ⟨Tryz.underlying217⟩
instance : T1 Tryz.prog 218 := ⟨⟨_, Tryz.underlying218, (fun _ h => nomatch h), (fun _ _ h => nomatch h)⟩, by kernel_rfl⟩
instance : TZero Tryz.prog 218 (.map none) := ⟨by kernel_rfl⟩
instance : TMap Tryz.prog 218 3 217 := ⟨Tryz.underlying218⟩
instance : TN Tryz.prog 220 3 := ⟨.inl ⟨_, Tryz.underlying220⟩, by kernel_rfl⟩
instance : TZero Tryz.prog 220 (.agg #[.map none, .map none, .map none]) := ⟨by kernel_rfl⟩
instance : TBuild Tryz.prog 220 [(0, 1), (1, 1), (2, 1)] := ⟨_, Tryz.underlying220, by kernel_rfl⟩
instance : TField Tryz.prog 220 0 0 := ⟨_, _, Tryz.underlying220, rfl, rfl, 1, by kernel_rfl, by decide⟩
instance : TPart Tryz.prog 220 0 0 none := ⟨_, _, Tryz.underlying220, rfl, rfl, (inferInstance : T1 Tryz.prog 217)⟩
instance : TField Tryz.prog 220 1 1 := ⟨_, _, Tryz.underlying220, rfl, rfl, 1, by kernel_rfl, by decide⟩
instance : TPart Tryz.prog 220 1 1 none := ⟨_, _, Tryz.underlying220, rfl, rfl, (inferInstance : T1 Tryz.prog 218)⟩
instance : TField Tryz.prog 220 2 2 := ⟨_, _, Tryz.underlying220, rfl, rfl, 1, by kernel_rfl, by decide⟩
instance : TPart Tryz.prog 220 2 2 none := ⟨_, _, Tryz.underlying220, rfl, rfl, (inferInstance : T1 Tryz.prog 218)⟩
instance : TN Tryz.prog 222 6 := ⟨.inl ⟨_, Tryz.underlying222⟩, by kernel_rfl⟩
instance : TZero Tryz.prog 222 (.agg #[.int .i64 0, .bool false, .int .i64 0, .int .i64 0, .bool false, .bool false]) := ⟨by kernel_rfl⟩
instance : TBuild Tryz.prog 222 [(0, 1), (1, 1), (2, 4)] := ⟨_, Tryz.underlying222, by kernel_rfl⟩
instance : TField Tryz.prog 222 0 0 := ⟨_, _, Tryz.underlying222, rfl, rfl, 1, by kernel_rfl, by decide⟩
instance : TPart Tryz.prog 222 0 0 none := ⟨_, _, Tryz.underlying222, rfl, rfl, (inferInstance : T1 Tryz.prog 3)⟩
instance : TField Tryz.prog 222 1 1 := ⟨_, _, Tryz.underlying222, rfl, rfl, 1, by kernel_rfl, by decide⟩
instance : TPart Tryz.prog 222 1 1 none := ⟨_, _, Tryz.underlying222, rfl, rfl, (inferInstance : T1 Tryz.prog 4)⟩
instance : TField Tryz.prog 222 2 2 := ⟨_, _, Tryz.underlying222, rfl, rfl, 4, by kernel_rfl, by decide⟩
instance : TPart Tryz.prog 222 2 2 (some 4) := ⟨_, _, Tryz.underlying222, rfl, rfl, (inferInstance : TN Tryz.prog 102 4)⟩
instance : TN Tryz.prog 223 6 := ⟨.inl ⟨_, Tryz.underlying223⟩, by kernel_rfl⟩
instance : TZero Tryz.prog 223 (.agg #[.int .i64 0, .bool false, .int .i64 0, .int .i64 0, .bool false, .bool false]) := ⟨by kernel_rfl⟩
instance : TBuild Tryz.prog 223 [(0, 1), (1, 1), (2, 4)] := ⟨_, Tryz.underlying223, by kernel_rfl⟩
instance : TField Tryz.prog 223 0 0 := ⟨_, _, Tryz.underlying223, rfl, rfl, 1, by kernel_rfl, by decide⟩
instance : TPart Tryz.prog 223 0 0 none := ⟨_, _, Tryz.underlying223, rfl, rfl, (inferInstance : T1 Tryz.prog 3)⟩
instance : TField Tryz.prog 223 1 1 := ⟨_, _, Tryz.underlying223, rfl, rfl, 1, by kernel_rfl, by decide⟩
instance : TPart Tryz.prog 223 1 1 none := ⟨_, _, Tryz.underlying223, rfl, rfl, (inferInstance : T1 Tryz.prog 4)⟩
instance : TField Tryz.prog 223 2 2 := ⟨_, _, Tryz.underlying223, rfl, rfl, 4, by kernel_rfl, by decide⟩
instance : TPart Tryz.prog 223 2 2 (some 4) := ⟨_, _, Tryz.underlying223, rfl, rfl, (inferInstance : TN Tryz.prog 102 4)⟩
instance : T1 Tryz.prog 224 := ⟨⟨_, Tryz.underlying224, (fun _ h => nomatch h), (fun _ _ h => nomatch h)⟩, by kernel_rfl⟩
instance : TZero Tryz.prog 224 (.pointer none) := ⟨by kernel_rfl⟩
instance : TPtr Tryz.prog 224 := ⟨⟨_, Tryz.underlying224⟩⟩
instance : T1 Tryz.prog 226 := ⟨⟨_, Tryz.underlying226, (fun _ h => nomatch h), (fun _ _ h => nomatch h)⟩, by kernel_rfl⟩
instance : TZero Tryz.prog 226 (.nilFunc) := ⟨by kernel_rfl⟩
instance : T1 Tryz.prog 227 := ⟨⟨_, Tryz.underlying227, (fun _ h => nomatch h), (fun _ _ h => nomatch h)⟩, by kernel_rfl⟩
instance : TZero Tryz.prog 227 (.nilFunc) := ⟨by kernel_rfl⟩
instance : T1 Tryz.prog 229 := ⟨⟨_, Tryz.underlying229, (fun _ h => nomatch h), (fun _ _ h => nomatch h)⟩, by kernel_rfl⟩
instance : TZero Tryz.prog 229 (.nilFunc) := ⟨by kernel_rfl⟩
instance : T1 Tryz.prog 232 := ⟨⟨_, Tryz.underlying232, (fun _ h => nomatch h), (fun _ _ h => nomatch h)⟩, by kernel_rfl⟩
instance : TZero Tryz.prog 232 (.nilFunc) := ⟨by kernel_rfl⟩
instance : TN Tryz.prog 234 1 := ⟨.inl ⟨_, Tryz.underlying234⟩, by kernel_rfl⟩
instance : TZero Tryz.prog 234 (.agg #[.slice none 0 0]) := ⟨by kernel_rfl⟩
instance : TBuild Tryz.prog 234 [(0, 1)] := ⟨_, Tryz.underlying234, by kernel_rfl⟩
instance : TField Tryz.prog 234 0 0 := ⟨_, _, Tryz.underlying234, rfl, rfl, 1, by kernel_rfl, by decide⟩
instance : TPart Tryz.prog 234 0 0 none := ⟨_, _, Tryz.underlying234, rfl, rfl, (inferInstance : T1 Tryz.prog 46)⟩
instance : T1 Tryz.prog 236 := ⟨⟨_, Tryz.underlying236, (fun _ h => nomatch h), (fun _ _ h => nomatch h)⟩, by kernel_rfl⟩
instance : TZero Tryz.prog 236 (.nilFunc) := ⟨by kernel_rfl⟩
instance : T1 Tryz.prog 237 := ⟨⟨_, Tryz.underlying237, (fun _ h => nomatch h), (fun _ _ h => nomatch h)⟩, by kernel_rfl⟩
instance : TZero Tryz.prog 237 (.int .i64 0) := ⟨by kernel_rfl⟩
instance : TInt Tryz.prog 237 .i64 := ⟨Tryz.underlying237⟩
instance : T1 Tryz.prog 238 := ⟨⟨_, Tryz.underlying238, (fun _ h => nomatch h), (fun _ _ h => nomatch h)⟩, by kernel_rfl⟩
instance : TZero Tryz.prog 238 (.nilFunc) := ⟨by kernel_rfl⟩
instance : T1 Tryz.prog 239 := ⟨⟨_, Tryz.underlying239, (fun _ h => nomatch h), (fun _ _ h => nomatch h)⟩, by kernel_rfl⟩
instance : TZero Tryz.prog 239 (.nilFunc) := ⟨by kernel_rfl⟩
instance : T1 Tryz.prog 240 := ⟨⟨_, Tryz.underlying240, (fun _ h => nomatch h), (fun _ _ h => nomatch h)⟩, by kernel_rfl⟩
instance : TZero Tryz.prog 240 (.nilFunc) := ⟨by kernel_rfl⟩
instance : T1 Tryz.prog 241 := ⟨⟨_, Tryz.underlying241, (fun _ h => nomatch h), (fun _ _ h => nomatch h)⟩, by kernel_rfl⟩
instance : TZero Tryz.prog 241 (.nilFunc) := ⟨by kernel_rfl⟩
instance : T1 Tryz.prog 242 := ⟨⟨_, Tryz.underlying242, (fun _ h => nomatch h), (fun _ _ h => nomatch h)⟩, by kernel_rfl⟩
instance : TZero Tryz.prog 242 (.nilFunc) := ⟨by kernel_rfl⟩
instance : T1 Tryz.prog 243 := ⟨⟨_, Tryz.underlying243, (fun _ h => nomatch h), (fun _ _ h => nomatch h)⟩, by kernel_rfl⟩
instance : TZero Tryz.prog 243 (.nilFunc) := ⟨by kernel_rfl⟩
instance : T1 Tryz.prog 244 := ⟨⟨_, Tryz.underlying244, (fun _ h => nomatch h), (fun _ _ h => nomatch h)⟩, by kernel_rfl⟩
instance : TZero Tryz.prog 244 (.nilFunc) := ⟨by kernel_rfl⟩
instance : T1 Tryz.prog 245 := ⟨⟨_, Tryz.underlying245, (fun _ h => nomatch h), (fun _ _ h => nomatch h)⟩, by kernel_rfl⟩
instance : TZero Tryz.prog 245 (.nilFunc) := ⟨by kernel_rfl⟩
instance : T1 Tryz.prog 246 := ⟨⟨_, Tryz.underlying246, (fun _ h => nomatch h), (fun _ _ h => nomatch h)⟩, by kernel_rfl⟩
instance : TZero Tryz.prog 246 (.nilFunc) := ⟨by kernel_rfl⟩
instance : T1 Tryz.prog 248 := ⟨⟨_, Tryz.underlying248, (fun _ h => nomatch h), (fun _ _ h => nomatch h)⟩, by kernel_rfl⟩
instance : TZero Tryz.prog 248 (.nilFunc) := ⟨by kernel_rfl⟩
instance : T1 Tryz.prog 251 := ⟨⟨_, Tryz.underlying251, (fun _ h => nomatch h), (fun _ _ h => nomatch h)⟩, by kernel_rfl⟩
instance : TZero Tryz.prog 251 (.nilFunc) := ⟨by kernel_rfl⟩
instance : T1 Tryz.prog 252 := ⟨⟨_, Tryz.underlying252, (fun _ h => nomatch h), (fun _ _ h => nomatch h)⟩, by kernel_rfl⟩
instance : TZero Tryz.prog 252 (.nilFunc) := ⟨by kernel_rfl⟩
instance : T1 Tryz.prog 253 := ⟨⟨_, Tryz.underlying253, (fun _ h => nomatch h), (fun _ _ h => nomatch h)⟩, by kernel_rfl⟩
instance : TZero Tryz.prog 253 (.nilFunc) := ⟨by kernel_rfl⟩
instance : T1 Tryz.prog 254 := ⟨⟨_, Tryz.underlying254, (fun _ h => nomatch h), (fun _ _ h => nomatch h)⟩, by kernel_rfl⟩
instance : TZero Tryz.prog 254 (.nilFunc) := ⟨by kernel_rfl⟩
instance : T1 Tryz.prog 255 := ⟨⟨_, Tryz.underlying255, (fun _ h => nomatch h), (fun _ _ h => nomatch h)⟩, by kernel_rfl⟩
instance : TZero Tryz.prog 255 (.nilFunc) := ⟨by kernel_rfl⟩
instance : T1 Tryz.prog 256 := ⟨⟨_, Tryz.underlying256, (fun _ h => nomatch h), (fun _ _ h => nomatch h)⟩, by kernel_rfl⟩
instance : TZero Tryz.prog 256 (.nilFunc) := ⟨by kernel_rfl⟩
instance : T1 Tryz.prog 257 := ⟨⟨_, Tryz.underlying257, (fun _ h => nomatch h), (fun _ _ h => nomatch h)⟩, by kernel_rfl⟩
instance : TZero Tryz.prog 257 (.nilFunc) := ⟨by kernel_rfl⟩
instance : T1 Tryz.prog 258 := ⟨⟨_, Tryz.underlying258, (fun _ h => nomatch h), (fun _ _ h => nomatch h)⟩, by kernel_rfl⟩
instance : TZero Tryz.prog 258 (.nilFunc) := ⟨by kernel_rfl⟩
instance : T1 Tryz.prog 259 := ⟨⟨_, Tryz.underlying259, (fun _ h => nomatch h), (fun _ _ h => nomatch h)⟩, by kernel_rfl⟩
instance : TZero Tryz.prog 259 (.nilFunc) := ⟨by kernel_rfl⟩
instance : T1 Tryz.prog 260 := ⟨⟨_, Tryz.underlying260, (fun _ h => nomatch h), (fun _ _ h => nomatch h)⟩, by kernel_rfl⟩
instance : TZero Tryz.prog 260 (.nilFunc) := ⟨by kernel_rfl⟩
instance : TN Tryz.prog 261 2 := ⟨.inl ⟨_, Tryz.underlying261⟩, by kernel_rfl⟩
instance : TZero Tryz.prog 261 (.agg #[.pointer none, .pointer none]) := ⟨by kernel_rfl⟩
instance : TBuild Tryz.prog 261 [(0, 1), (1, 1)] := ⟨_, Tryz.underlying261, by kernel_rfl⟩
instance : TField Tryz.prog 261 0 0 := ⟨_, _, Tryz.underlying261, rfl, rfl, 1, by kernel_rfl, by decide⟩
instance : TPart Tryz.prog 261 0 0 none := ⟨_, _, Tryz.underlying261, rfl, rfl, (inferInstance : T1 Tryz.prog 67)⟩
instance : TField Tryz.prog 261 1 1 := ⟨_, _, Tryz.underlying261, rfl, rfl, 1, by kernel_rfl, by decide⟩
instance : TPart Tryz.prog 261 1 1 none := ⟨_, _, Tryz.underlying261, rfl, rfl, (inferInstance : T1 Tryz.prog 68)⟩
instance : TN Tryz.prog 262 2 := ⟨.inl ⟨_, Tryz.underlying262⟩, by kernel_rfl⟩
instance : TZero Tryz.prog 262 (.agg #[.pointer none, .pointer none]) := ⟨by kernel_rfl⟩
instance : TBuild Tryz.prog 262 [(0, 1), (1, 1)] := ⟨_, Tryz.underlying262, by kernel_rfl⟩
instance : TField Tryz.prog 262 0 0 := ⟨_, _, Tryz.underlying262, rfl, rfl, 1, by kernel_rfl, by decide⟩
instance : TPart Tryz.prog 262 0 0 none := ⟨_, _, Tryz.underlying262, rfl, rfl, (inferInstance : T1 Tryz.prog 67)⟩
instance : TField Tryz.prog 262 1 1 := ⟨_, _, Tryz.underlying262, rfl, rfl, 1, by kernel_rfl, by decide⟩
instance : TPart Tryz.prog 262 1 1 none := ⟨_, _, Tryz.underlying262, rfl, rfl, (inferInstance : T1 Tryz.prog 68)⟩
instance : T1 Tryz.prog 263 := ⟨⟨_, Tryz.underlying263, (fun _ h => nomatch h), (fun _ _ h => nomatch h)⟩, by kernel_rfl⟩
instance : TZero Tryz.prog 263 (.nilFunc) := ⟨by kernel_rfl⟩
instance : T1 Tryz.prog 264 := ⟨⟨_, Tryz.underlying264, (fun _ h => nomatch h), (fun _ _ h => nomatch h)⟩, by kernel_rfl⟩
instance : TZero Tryz.prog 264 (.nilFunc) := ⟨by kernel_rfl⟩
instance : T1 Tryz.prog 267 := ⟨⟨_, Tryz.underlying267, (fun _ h => nomatch h), (fun _ _ h => nomatch h)⟩, by kernel_rfl⟩
instance : TZero Tryz.prog 267 (.slice none 0 0) := ⟨by kernel_rfl⟩
instance : TSlice Tryz.prog 267 271 2 16 := ⟨Tryz.underlying267, by kernel_rfl⟩
instance : TN Tryz.prog 269 5 := ⟨.inl ⟨_, Tryz.underlying269⟩, by kernel_rfl⟩
instance : TZero Tryz.prog 269 (.agg #[.pointer none, .int .i64 0, .slice none 0 0, .int .i64 0, .int .i64 0]) := ⟨by kernel_rfl⟩
instance : TBuild Tryz.prog 269 [(0, 1), (1, 1), (2, 1), (3, 1), (4, 1)] := ⟨_, Tryz.underlying269, by kernel_rfl⟩
instance : TField Tryz.prog 269 0 0 := ⟨_, _, Tryz.underlying269, rfl, rfl, 1, by kernel_rfl, by decide⟩
instance : TPart Tryz.prog 269 0 0 none := ⟨_, _, Tryz.underlying269, rfl, rfl, (inferInstance : T1 Tryz.prog 67)⟩
instance : TField Tryz.prog 269 1 1 := ⟨_, _, Tryz.underlying269, rfl, rfl, 1, by kernel_rfl, by decide⟩
instance : TPart Tryz.prog 269 1 1 none := ⟨_, _, Tryz.underlying269, rfl, rfl, (inferInstance : T1 Tryz.prog 3)⟩
instance : TField Tryz.prog 269 2 2 := ⟨_, _, Tryz.underlying269, rfl, rfl, 1, by kernel_rfl, by decide⟩
instance : TPart Tryz.prog 269 2 2 none := ⟨_, _, Tryz.underlying269, rfl, rfl, (inferInstance : T1 Tryz.prog 267)⟩
instance : TField Tryz.prog 269 3 3 := ⟨_, _, Tryz.underlying269, rfl, rfl, 1, by kernel_rfl, by decide⟩
instance : TPart Tryz.prog 269 3 3 none := ⟨_, _, Tryz.underlying269, rfl, rfl, (inferInstance : T1 Tryz.prog 3)⟩
instance : TField Tryz.prog 269 4 4 := ⟨_, _, Tryz.underlying269, rfl, rfl, 1, by kernel_rfl, by decide⟩
instance : TPart Tryz.prog 269 4 4 none := ⟨_, _, Tryz.underlying269, rfl, rfl, (inferInstance : T1 Tryz.prog 3)⟩
instance : TN Tryz.prog 271 2 := ⟨.inl ⟨_, Tryz.underlying271⟩, by kernel_rfl⟩
instance : TZero Tryz.prog 271 (.agg #[.int .i64 0, .int .i64 0]) := ⟨by kernel_rfl⟩
instance : TBuild Tryz.prog 271 [(0, 1), (1, 1)] := ⟨_, Tryz.underlying271, by kernel_rfl⟩
instance : TField Tryz.prog 271 0 0 := ⟨_, _, Tryz.underlying271, rfl, rfl, 1, by kernel_rfl, by decide⟩
instance : TPart Tryz.prog 271 0 0 none := ⟨_, _, Tryz.underlying271, rfl, rfl, (inferInstance : T1 Tryz.prog 3)⟩
instance : TField Tryz.prog 271 1 1 := ⟨_, _, Tryz.underlying271, rfl, rfl, 1, by kernel_rfl, by decide⟩
instance : TPart Tryz.prog 271 1 1 none := ⟨_, _, Tryz.underlying271, rfl, rfl, (inferInstance : T1 Tryz.prog 3)⟩
instance : TPair Tryz.prog 271 := ⟨⟨_, _, _, _, Tryz.underlying271, by decide, by decide, rfl, rfl, Tryz.underlying3, Tryz.underlying3⟩, fun f g h => by rw [Tryz.underlying271] at h; cases h; exact ⟨(inferInstance : T1 Tryz.prog 3), (inferInstance : T1 Tryz.prog 3)⟩, by kernel_rfl, by kernel_rfl⟩
instance : T1 Tryz.prog 280 := ⟨⟨_, Tryz.underlying280, (fun _ h => nomatch h), (fun _ _ h => nomatch h)⟩, by kernel_rfl⟩
instance : TZero Tryz.prog 280 (.nilFunc) := ⟨by kernel_rfl⟩
instance : T1 Tryz.prog 281 := ⟨⟨_, Tryz.underlying281, (fun _ h => nomatch h), (fun _ _ h => nomatch h)⟩, by kernel_rfl⟩
instance : TZero Tryz.prog 281 (.nilFunc) := ⟨by kernel_rfl⟩
instance : T1 Tryz.prog 283 := ⟨⟨_, Tryz.underlying283, (fun _ h => nomatch h), (fun _ _ h => nomatch h)⟩, by kernel_rfl⟩
instance : TZero Tryz.prog 283 (.nilFunc) := ⟨by kernel_rfl⟩
instance : T1 Tryz.prog 284 := ⟨⟨_, Tryz.underlying284, (fun _ h => nomatch h), (fun _ _ h => nomatch h)⟩, by kernel_rfl⟩
instance : TZero Tryz.prog 284 (.nilFunc) := ⟨by kernel_rfl⟩
instance : T1 Tryz.prog 285 := ⟨⟨_, Tryz.underlying285, (fun _ h => nomatch h), (fun _ _ h => nomatch h)⟩, by kernel_rfl⟩
instance : TZero Tryz.prog 285 (.nilFunc) := ⟨by kernel_rfl⟩
instance : T1 Tryz.prog 287 := ⟨⟨_, Tryz.underlying287, (fun _ h => nomatch h), (fun _ _ h => nomatch h)⟩, by kernel_rfl⟩
instance : TZero Tryz.prog 287 (.nilFunc) := ⟨by kernel_rfl⟩
instance : T1 Tryz.prog 288 := ⟨⟨_, Tryz.underlying288, (fun _ h => nomatch h), (fun _ _ h => nomatch h)⟩, by kernel_rfl⟩
instance : TZero Tryz.prog 288 (.nilFunc) := ⟨by kernel_rfl⟩
instance : T1 Tryz.prog 289 := ⟨⟨_, Tryz.underlying289, (fun _ h => nomatch h), (fun _ _ h => nomatch h)⟩, by kernel_rfl⟩
instance : TZero Tryz.prog 289 (.nilFunc) := ⟨by kernel_rfl⟩
instance : T1 Tryz.prog 290 := ⟨⟨_, Tryz.underlying290, (fun _ h => nomatch h), (fun _ _ h => nomatch h)⟩, by kernel_rfl⟩
instance : TZero Tryz.prog 290 (.nilFunc) := ⟨by kernel_rfl⟩
instance : T1 Tryz.prog 291 := ⟨⟨_, Tryz.underlying291, (fun _ h => nomatch h), (fun _ _ h => nomatch h)⟩, by kernel_rfl⟩
instance : TZero Tryz.prog 291 (.nilFunc) := ⟨by kernel_rfl⟩
instance : T1 Tryz.prog 293 := ⟨⟨_, Tryz.underlying293, (fun _ h => nomatch h), (fun _ _ h => nomatch h)⟩, by kernel_rfl⟩
instance : TZero Tryz.prog 293 (.nilFunc) := ⟨by kernel_rfl⟩
instance : T1 Tryz.prog 294 := ⟨⟨_, Tryz.underlying294, (fun _ h => nomatch h), (fun _ _ h => nomatch h)⟩, by kernel_rfl⟩
instance : TZero Tryz.prog 294 (.nilFunc) := ⟨by kernel_rfl⟩
instance : T1 Tryz.prog 295 := ⟨⟨_, Tryz.underlying295, (fun _ h => nomatch h), (fun _ _ h => nomatch h)⟩, by kernel_rfl⟩
instance : TZero Tryz.prog 295 (.nilFunc) := ⟨by kernel_rfl⟩
instance : T1 Tryz.prog 297 := ⟨⟨_, Tryz.underlying297, (fun _ h => nomatch h), (fun _ _ h => nomatch h)⟩, by kernel_rfl⟩
instance : TZero Tryz.prog 297 (.nilFunc) := ⟨by kernel_rfl⟩
instance : T1 Tryz.prog 301 := ⟨⟨_, Tryz.underlying301, (fun _ h => nomatch h), (fun _ _ h => nomatch h)⟩, by kernel_rfl⟩
instance : TZero Tryz.prog 301 (.nilFunc) := ⟨by kernel_rfl⟩
instance : TN Tryz.prog 302 3 := ⟨.inl ⟨_, Tryz.underlying302⟩, by kernel_rfl⟩
instance : TZero Tryz.prog 302 (.agg #[.int .i64 0, .slice none 0 0, .int .i64 0]) := ⟨by kernel_rfl⟩
instance : TBuild Tryz.prog 302 [(0, 1), (1, 1), (2, 1)] := ⟨_, Tryz.underlying302, by kernel_rfl⟩
instance : TField Tryz.prog 302 0 0 := ⟨_, _, Tryz.underlying302, rfl, rfl, 1, by kernel_rfl, by decide⟩
instance : TPart Tryz.prog 302 0 0 none := ⟨_, _, Tryz.underlying302, rfl, rfl, (inferInstance : T1 Tryz.prog 3)⟩
instance : TField Tryz.prog 302 1 1 := ⟨_, _, Tryz.underlying302, rfl, rfl, 1, by kernel_rfl, by decide⟩
instance : TPart Tryz.prog 302 1 1 none := ⟨_, _, Tryz.underlying302, rfl, rfl, (inferInstance : T1 Tryz.prog 115)⟩
instance : TField Tryz.prog 302 2 2 := ⟨_, _, Tryz.underlying302, rfl, rfl, 1, by kernel_rfl, by decide⟩
instance : TPart Tryz.prog 302 2 2 none := ⟨_, _, Tryz.underlying302, rfl, rfl, (inferInstance : T1 Tryz.prog 3)⟩
instance : TN Tryz.prog 303 3 := ⟨.inl ⟨_, Tryz.underlying303⟩, by kernel_rfl⟩
instance : TZero Tryz.prog 303 (.agg #[.int .i64 0, .slice none 0 0, .int .i64 0]) := ⟨by kernel_rfl⟩
instance : TBuild Tryz.prog 303 [(0, 1), (1, 1), (2, 1)] := ⟨_, Tryz.underlying303, by kernel_rfl⟩
instance : TField Tryz.prog 303 0 0 := ⟨_, _, Tryz.underlying303, rfl, rfl, 1, by kernel_rfl, by decide⟩
instance : TPart Tryz.prog 303 0 0 none := ⟨_, _, Tryz.underlying303, rfl, rfl, (inferInstance : T1 Tryz.prog 3)⟩
instance : TField Tryz.prog 303 1 1 := ⟨_, _, Tryz.underlying303, rfl, rfl, 1, by kernel_rfl, by decide⟩
instance : TPart Tryz.prog 303 1 1 none := ⟨_, _, Tryz.underlying303, rfl, rfl, (inferInstance : T1 Tryz.prog 115)⟩
instance : TField Tryz.prog 303 2 2 := ⟨_, _, Tryz.underlying303, rfl, rfl, 1, by kernel_rfl, by decide⟩
instance : TPart Tryz.prog 303 2 2 none := ⟨_, _, Tryz.underlying303, rfl, rfl, (inferInstance : T1 Tryz.prog 3)⟩
instance : T1 Tryz.prog 304 := ⟨⟨_, Tryz.underlying304, (fun _ h => nomatch h), (fun _ _ h => nomatch h)⟩, by kernel_rfl⟩
instance : TZero Tryz.prog 304 (.nilFunc) := ⟨by kernel_rfl⟩
instance : T1 Tryz.prog 306 := ⟨⟨_, Tryz.underlying306, (fun _ h => nomatch h), (fun _ _ h => nomatch h)⟩, by kernel_rfl⟩
instance : TZero Tryz.prog 306 (.nilFunc) := ⟨by kernel_rfl⟩
instance : T1 Tryz.prog 308 := ⟨⟨_, Tryz.underlying308, (fun _ h => nomatch h), (fun _ _ h => nomatch h)⟩, by kernel_rfl⟩
instance : TZero Tryz.prog 308 (.nilFunc) := ⟨by kernel_rfl⟩
instance : T1 Tryz.prog 309 := ⟨⟨_, Tryz.underlying309, (fun _ h => nomatch h), (fun _ _ h => nomatch h)⟩, by kernel_rfl⟩
instance : TZero Tryz.prog 309 (.nilFunc) := ⟨by kernel_rfl⟩
instance : T1 Tryz.prog 310 := ⟨⟨_, Tryz.underlying310, (fun _ h => nomatch h), (fun _ _ h => nomatch h)⟩, by kernel_rfl⟩
instance : TZero Tryz.prog 310 (.map none) := ⟨by kernel_rfl⟩
instance : TMap Tryz.prog 310 3 317 := ⟨Tryz.underlying310⟩
instance : T1 Tryz.prog 311 := ⟨⟨_, Tryz.underlying311, (fun _ h => nomatch h), (fun _ _ h => nomatch h)⟩, by kernel_rfl⟩
instance : TZero Tryz.prog 311 (.slice none 0 0) := ⟨by kernel_rfl⟩
instance : TSlice Tryz.prog 311 315 2 16 := ⟨Tryz.underlying311, by kernel_rfl⟩
instance : TN Tryz.prog 312 4 := ⟨.inl ⟨_, Tryz.underlying312⟩, by kernel_rfl⟩
instance : TZero Tryz.prog 312 (.agg #[.map none, .slice none 0 0, .int .i64 0, .int .i64 0]) := ⟨by kernel_rfl⟩
instance : TBuild Tryz.prog 312 [(0, 1), (1, 1), (2, 1), (3, 1)] := ⟨_, Tryz.underlying312, by kernel_rfl⟩
instance : TField Tryz.prog 312 0 0 := ⟨_, _, Tryz.underlying312, rfl, rfl, 1, by kernel_rfl, by decide⟩
instance : TPart Tryz.prog 312 0 0 none := ⟨_, _, Tryz.underlying312, rfl, rfl, (inferInstance : T1 Tryz.prog 310)⟩
instance : TField Tryz.prog 312 1 1 := ⟨_, _, Tryz.underlying312, rfl, rfl, 1, by kernel_rfl, by decide⟩
instance : TPart Tryz.prog 312 1 1 none := ⟨_, _, Tryz.underlying312, rfl, rfl, (inferInstance : T1 Tryz.prog 311)⟩
instance : TField Tryz.prog 312 2 2 := ⟨_, _, Tryz.underlying312, rfl, rfl, 1, by kernel_rfl, by decide⟩
instance : TPart Tryz.prog 312 2 2 none := ⟨_, _, Tryz.underlying312, rfl, rfl, (inferInstance : T1 Tryz.prog 3)⟩
instance : TField Tryz.prog 312 3 3 := ⟨_, _, Tryz.underlying312, rfl, rfl, 1, by kernel_rfl, by decide⟩
instance : TPart Tryz.prog 312 3 3 none := ⟨_, _, Tryz.underlying312, rfl, rfl, (inferInstance : T1 Tryz.prog 3)⟩
instance : TN Tryz.prog 314 2 := ⟨.inl ⟨_, Tryz.underlying314⟩, by kernel_rfl⟩
instance : TZero Tryz.prog 314 (.agg #[.int .i64 0, .int .i64 0]) := ⟨by kernel_rfl⟩
instance : TBuild Tryz.prog 314 [(0, 1), (1, 1)] := ⟨_, Tryz.underlying314, by kernel_rfl⟩
instance : TField Tryz.prog 314 0 0 := ⟨_, _, Tryz.underlying314, rfl, rfl, 1, by kernel_rfl, by decide⟩
instance : TPart Tryz.prog 314 0 0 none := ⟨_, _, Tryz.underlying314, rfl, rfl, (inferInstance : T1 Tryz.prog 3)⟩
instance : TField Tryz.prog 314 1 1 := ⟨_, _, Tryz.underlying314, rfl, rfl, 1, by kernel_rfl, by decide⟩
instance : TPart Tryz.prog 314 1 1 none := ⟨_, _, Tryz.underlying314, rfl, rfl, (inferInstance : T1 Tryz.prog 3)⟩
instance : TPair Tryz.prog 314 := ⟨⟨_, _, _, _, Tryz.underlying314, by decide, by decide, rfl, rfl, Tryz.underlying3, Tryz.underlying3⟩, fun f g h => by rw [Tryz.underlying314] at h; cases h; exact ⟨(inferInstance : T1 Tryz.prog 3), (inferInstance : T1 Tryz.prog 3)⟩, by kernel_rfl, by kernel_rfl⟩
instance : TN Tryz.prog 315 2 := ⟨.inl ⟨_, Tryz.underlying315⟩, by kernel_rfl⟩
instance : TZero Tryz.prog 315 (.agg #[.int .i64 0, .int .i64 0]) := ⟨by kernel_rfl⟩
instance : TBuild Tryz.prog 315 [(0, 1), (1, 1)] := ⟨_, Tryz.underlying315, by kernel_rfl⟩
instance : TField Tryz.prog 315 0 0 := ⟨_, _, Tryz.underlying315, rfl, rfl, 1, by kernel_rfl, by decide⟩
instance : TPart Tryz.prog 315 0 0 none := ⟨_, _, Tryz.underlying315, rfl, rfl, (inferInstance : T1 Tryz.prog 3)⟩
instance : TField Tryz.prog 315 1 1 := ⟨_, _, Tryz.underlying315, rfl, rfl, 1, by kernel_rfl, by decide⟩
instance : TPart Tryz.prog 315 1 1 none := ⟨_, _, Tryz.underlying315, rfl, rfl, (inferInstance : T1 Tryz.prog 3)⟩
instance : TPair Tryz.prog 315 := ⟨⟨_, _, _, _, Tryz.underlying315, by decide, by decide, rfl, rfl, Tryz.underlying3, Tryz.underlying3⟩, fun f g h => by rw [Tryz.underlying315] at h; cases h; exact ⟨(inferInstance : T1 Tryz.prog 3), (inferInstance : T1 Tryz.prog 3)⟩, by kernel_rfl, by kernel_rfl⟩
instance : TN Tryz.prog 316 2 := ⟨.inl ⟨_, Tryz.underlying316⟩, by kernel_rfl⟩
instance : TZero Tryz.prog 316 (.agg #[.int .i64 0, .int .i64 0]) := ⟨by kernel_rfl⟩
instance : TBuild Tryz.prog 316 [(0, 1), (1, 1)] := ⟨_, Tryz.underlying316, by kernel_rfl⟩
instance : TField Tryz.prog 316 0 0 := ⟨_, _, Tryz.underlying316, rfl, rfl, 1, by kernel_rfl, by decide⟩
instance : TPart Tryz.prog 316 0 0 none := ⟨_, _, Tryz.underlying316, rfl, rfl, (inferInstance : T1 Tryz.prog 237)⟩
instance : TField Tryz.prog 316 1 1 := ⟨_, _, Tryz.underlying316, rfl, rfl, 1, by kernel_rfl, by decide⟩
instance : TPart Tryz.prog 316 1 1 none := ⟨_, _, Tryz.underlying316, rfl, rfl, (inferInstance : T1 Tryz.prog 3)⟩
instance : TPair Tryz.prog 316 := ⟨⟨_, _, _, _, Tryz.underlying316, by decide, by decide, rfl, rfl, Tryz.underlying237, Tryz.underlying3⟩, fun f g h => by rw [Tryz.underlying316] at h; cases h; exact ⟨(inferInstance : T1 Tryz.prog 237), (inferInstance : T1 Tryz.prog 3)⟩, by kernel_rfl, by kernel_rfl⟩
instance : TN Tryz.prog 317 2 := ⟨.inl ⟨_, Tryz.underlying317⟩, by kernel_rfl⟩
instance : TZero Tryz.prog 317 (.agg #[.int .i64 0, .int .i64 0]) := ⟨by kernel_rfl⟩
instance : TBuild Tryz.prog 317 [(0, 1), (1, 1)] := ⟨_, Tryz.underlying317, by kernel_rfl⟩
instance : TField Tryz.prog 317 0 0 := ⟨_, _, Tryz.underlying317, rfl, rfl, 1, by kernel_rfl, by decide⟩
instance : TPart Tryz.prog 317 0 0 none := ⟨_, _, Tryz.underlying317, rfl, rfl, (inferInstance : T1 Tryz.prog 237)⟩
instance : TField Tryz.prog 317 1 1 := ⟨_, _, Tryz.underlying317, rfl, rfl, 1, by kernel_rfl, by decide⟩
instance : TPart Tryz.prog 317 1 1 none := ⟨_, _, Tryz.underlying317, rfl, rfl, (inferInstance : T1 Tryz.prog 3)⟩
instance : TPair Tryz.prog 317 := ⟨⟨_, _, _, _, Tryz.underlying317, by decide, by decide, rfl, rfl, Tryz.underlying237, Tryz.underlying3⟩, fun f g h => by rw [Tryz.underlying317] at h; cases h; exact ⟨(inferInstance : T1 Tryz.prog 237), (inferInstance : T1 Tryz.prog 3)⟩, by kernel_rfl, by kernel_rfl⟩
instance : T1 Tryz.prog 318 := ⟨⟨_, Tryz.underlying318, (fun _ h => nomatch h), (fun _ _ h => nomatch h)⟩, by kernel_rfl⟩
instance : TZero Tryz.prog 318 (.nilFunc) := ⟨by kernel_rfl⟩
instance : T1 Tryz.prog 319 := ⟨⟨_, Tryz.underlying319, (fun _ h => nomatch h), (fun _ _ h => nomatch h)⟩, by kernel_rfl⟩
instance : TZero Tryz.prog 319 (.nilFunc) := ⟨by kernel_rfl⟩
instance : T1 Tryz.prog 320 := ⟨⟨_, Tryz.underlying320, (fun _ h => nomatch h), (fun _ _ h => nomatch h)⟩, by kernel_rfl⟩
instance : TZero Tryz.prog 320 (.nilFunc) := ⟨by kernel_rfl⟩
instance : T1 Tryz.prog 321 := ⟨⟨_, Tryz.underlying321, (fun _ h => nomatch h), (fun _ _ h => nomatch h)⟩, by kernel_rfl⟩
instance : TZero Tryz.prog 321 (.nilFunc) := ⟨by kernel_rfl⟩
instance : T1 Tryz.prog 322 := ⟨⟨_, Tryz.underlying322, (fun _ h => nomatch h), (fun _ _ h => nomatch h)⟩, by kernel_rfl⟩
instance : TZero Tryz.prog 322 (.nilFunc) := ⟨by kernel_rfl⟩
instance : T1 Tryz.prog 323 := ⟨⟨_, Tryz.underlying323, (fun _ h => nomatch h), (fun _ _ h => nomatch h)⟩, by kernel_rfl⟩
instance : TZero Tryz.prog 323 (.nilFunc) := ⟨by kernel_rfl⟩
instance : T1 Tryz.prog 324 := ⟨⟨_, Tryz.underlying324, (fun _ h => nomatch h), (fun _ _ h => nomatch h)⟩, by kernel_rfl⟩
instance : TZero Tryz.prog 324 (.map none) := ⟨by kernel_rfl⟩
instance : TMap Tryz.prog 324 3 46 := ⟨Tryz.underlying324⟩
instance : T1 Tryz.prog 327 := ⟨⟨_, Tryz.underlying327, (fun _ h => nomatch h), (fun _ _ h => nomatch h)⟩, by kernel_rfl⟩
instance : TZero Tryz.prog 327 (.int .i64 0) := ⟨by kernel_rfl⟩
instance : TInt Tryz.prog 327 .i64 := ⟨Tryz.underlying327⟩
instance : T1 Tryz.prog 329 := ⟨⟨_, Tryz.underlying329, (fun _ h => nomatch h), (fun _ _ h => nomatch h)⟩, by kernel_rfl⟩
instance : TZero Tryz.prog 329 (.nilFunc) := ⟨by kernel_rfl⟩
instance : T1 Tryz.prog 330 := ⟨⟨_, Tryz.underlying330, (fun _ h => nomatch h), (fun _ _ h => nomatch h)⟩, by kernel_rfl⟩
instance : TZero Tryz.prog 330 (.nilFunc) := ⟨by kernel_rfl⟩
instance : T1 Tryz.prog 331 := ⟨⟨_, Tryz.underlying331, (fun _ h => nomatch h), (fun _ _ h => nomatch h)⟩, by kernel_rfl⟩
instance : TZero Tryz.prog 331 (.nilFunc) := ⟨by kernel_rfl⟩
instance : T1 Tryz.prog 332 := ⟨⟨_, Tryz.underlying332, (fun _ h => nomatch h), (fun _ _ h => nomatch h)⟩, by kernel_rfl⟩
instance : TZero Tryz.prog 332 (.nilFunc) := ⟨by kernel_rfl⟩
instance : T1 Tryz.prog 333 := ⟨⟨_, Tryz.underlying333, (fun _ h => nomatch h), (fun _ _ h => nomatch h)⟩, by kernel_rfl⟩
instance : TZero Tryz.prog 333 (.nilFunc) := ⟨by kernel_rfl⟩
instance : T1 Tryz.prog 334 := ⟨⟨_, Tryz.underlying334, (fun _ h => nomatch h), (fun _ _ h => nomatch h)⟩, by kernel_rfl⟩
instance : TZero Tryz.prog 334 (.int .u32 0) := ⟨by kernel_rfl⟩
instance : TInt Tryz.prog 334 .u32 := ⟨Tryz.underlying334⟩
instance : T1 Tryz.prog 335 := ⟨⟨_, Tryz.underlying335, (fun _ h => nomatch h), (fun _ _ h => nomatch h)⟩, by kernel_rfl⟩
instance : TZero Tryz.prog 335 (.nilFunc) := ⟨by kernel_rfl⟩
instance : T1 Tryz.prog 336 := ⟨⟨_, Tryz.underlying336, (fun _ h => nomatch h), (fun _ _ h => nomatch h)⟩, by kernel_rfl⟩
instance : TZero Tryz.prog 336 (.nilFunc) := ⟨by kernel_rfl⟩
instance : T1 Tryz.prog 338 := ⟨⟨_, Tryz.underlying338, (fun _ h => nomatch h), (fun _ _ h => nomatch h)⟩, by kernel_rfl⟩
instance : TZero Tryz.prog 338 (.nilFunc) := ⟨by kernel_rfl⟩
instance : T1 Tryz.prog 340 := ⟨⟨_, Tryz.underlying340, (fun _ h => nomatch h), (fun _ _ h => nomatch h)⟩, by kernel_rfl⟩
instance : TZero Tryz.prog 340 (.nilFunc) := ⟨by kernel_rfl⟩
instance : T1 Tryz.prog 341 := ⟨⟨_, Tryz.underlying341, (fun _ h => nomatch h), (fun _ _ h => nomatch h)⟩, by kernel_rfl⟩
instance : TZero Tryz.prog 341 (.slice none 0 0) := ⟨by kernel_rfl⟩
instance : TSlice Tryz.prog 341 390 2 16 := ⟨Tryz.underlying341, by kernel_rfl⟩
instance : T1 Tryz.prog 342 := ⟨⟨_, Tryz.underlying342, (fun _ h => nomatch h), (fun _ _ h => nomatch h)⟩, by kernel_rfl⟩
instance : TZero Tryz.prog 342 (.nilFunc) := ⟨by kernel_rfl⟩
instance : T1 Tryz.prog 343 := ⟨⟨_, Tryz.underlying343, (fun _ h => nomatch h), (fun _ _ h => nomatch h)⟩, by kernel_rfl⟩
instance : TZero Tryz.prog 343 (.nilFunc) := ⟨by kernel_rfl⟩
instance : TN Tryz.prog 354 1 := ⟨.inl ⟨_, Tryz.underlying354⟩, by kernel_rfl⟩
instance : TZero Tryz.prog 354 (.agg #[.slice none 0 0]) := ⟨by kernel_rfl⟩
instance : TBuild Tryz.prog 354 [(0, 1)] := ⟨_, Tryz.underlying354, by kernel_rfl⟩
instance : TField Tryz.prog 354 0 0 := ⟨_, _, Tryz.underlying354, rfl, rfl, 1, by kernel_rfl, by decide⟩
instance : TPart Tryz.prog 354 0 0 none := ⟨_, _, Tryz.underlying354, rfl, rfl, (inferInstance : T1 Tryz.prog 80)⟩
instance : T1 Tryz.prog 363 := ⟨⟨_, Tryz.underlying363, (fun _ h => nomatch h), (fun _ _ h => nomatch h)⟩, by kernel_rfl⟩
instance : TZero Tryz.prog 363 (.nilFunc) := ⟨by kernel_rfl⟩
instance : T1 Tryz.prog 382 := ⟨⟨_, Tryz.underlying382, (fun _ h => nomatch h), (fun _ _ h => nomatch h)⟩, by kernel_rfl⟩
instance : TZero Tryz.prog 382 (.int .u64 0) := ⟨by kernel_rfl⟩
instance : TInt Tryz.prog 382 .u64 := ⟨Tryz.underlying382⟩
instance : T1 Tryz.prog 386 := ⟨⟨_, Tryz.underlying386, (fun _ h => nomatch h), (fun _ _ h => nomatch h)⟩, by kernel_rfl⟩
instance : TZero Tryz.prog 386 (.pointer none) := ⟨by kernel_rfl⟩
instance : TPtr Tryz.prog 386 := ⟨⟨_, Tryz.underlying386⟩⟩
instance : TN Tryz.prog 390 2 := ⟨.inl ⟨_, Tryz.underlying390⟩, by kernel_rfl⟩
instance : TZero Tryz.prog 390 (.agg #[.int .i64 0, .int .i64 0]) := ⟨by kernel_rfl⟩
instance : TBuild Tryz.prog 390 [(0, 1), (1, 1)] := ⟨_, Tryz.underlying390, by kernel_rfl⟩
instance : TField Tryz.prog 390 0 0 := ⟨_, _, Tryz.underlying390, rfl, rfl, 1, by kernel_rfl, by decide⟩
instance : TPart Tryz.prog 390 0 0 none := ⟨_, _, Tryz.underlying390, rfl, rfl, (inferInstance : T1 Tryz.prog 3)⟩
instance : TField Tryz.prog 390 1 1 := ⟨_, _, Tryz.underlying390, rfl, rfl, 1, by kernel_rfl, by decide⟩
instance : TPart Tryz.prog 390 1 1 none := ⟨_, _, Tryz.underlying390, rfl, rfl, (inferInstance : T1 Tryz.prog 3)⟩
instance : TPair Tryz.prog 390 := ⟨⟨_, _, _, _, Tryz.underlying390, by decide, by decide, rfl, rfl, Tryz.underlying3, Tryz.underlying3⟩, fun f g h => by rw [Tryz.underlying390] at h; cases h; exact ⟨(inferInstance : T1 Tryz.prog 3), (inferInstance : T1 Tryz.prog 3)⟩, by kernel_rfl, by kernel_rfl⟩
instance : TN Tryz.prog 402 64 := ⟨.inr ⟨_, _, Tryz.underlying402⟩, by kernel_rfl⟩
instance : TZero Tryz.prog 402 (.agg #[.int .u8 0, .int .u8 0, .int .u8 0, .int .u8 0, .int .u8 0, .int .u8 0, .int .u8 0, .int .u8 0, .int .u8 0, .int .u8 0, .int .u8 0, .int .u8 0, .int .u8 0, .int .u8 0, .int .u8 0, .int .u8 0, .int .u8 0, .int .u8 0, .int .u8 0, .int .u8 0, .int .u8 0, .int .u8 0, .int .u8 0, .int .u8 0, .int .u8 0, .int .u8 0, .int .u8 0, .int .u8 0, .int .u8 0, .int .u8 0, .int .u8 0, .int .u8 0, .int .u8 0, .int .u8 0, .int .u8 0, .int .u8 0, .int .u8 0, .int .u8 0, .int .u8 0, .int .u8 0, .int .u8 0, .int .u8 0, .int .u8 0, .int .u8 0, .int .u8 0, .int .u8 0, .int .u8 0, .int .u8 0, .int .u8 0, .int .u8 0, .int .u8 0, .int .u8 0, .int .u8 0, .int .u8 0, .int .u8 0, .int .u8 0, .int .u8 0, .int .u8 0, .int .u8 0, .int .u8 0, .int .u8 0, .int .u8 0, .int .u8 0, .int .u8 0]) := ⟨by kernel_rfl⟩
instance : TArr Tryz.prog 402 64 5 1 := ⟨Tryz.underlying402, by kernel_rfl⟩
instance : T1 Tryz.prog 405 := ⟨⟨_, Tryz.underlying405, (fun _ h => nomatch h), (fun _ _ h => nomatch h)⟩, by kernel_rfl⟩
instance : TZero Tryz.prog 405 (.pointer none) := ⟨by kernel_rfl⟩
instance : TPtr Tryz.prog 405 := ⟨⟨_, Tryz.underlying405⟩⟩
instance : TBody Tryz.prog 4 := ⟨_, Tryz.func4, by kernel_rfl, by kernel_rfl⟩
instance : TBody Tryz.prog 17 := ⟨_, Tryz.func17, by kernel_rfl, by kernel_rfl⟩
instance : TBody Tryz.prog 18 := ⟨_, Tryz.func18, by kernel_rfl, by kernel_rfl⟩
instance : TBody Tryz.prog 19 := ⟨_, Tryz.func19, by kernel_rfl, by kernel_rfl⟩
instance : TBody Tryz.prog 20 := ⟨_, Tryz.func20, by kernel_rfl, by kernel_rfl⟩
instance : TBody Tryz.prog 21 := ⟨_, Tryz.func21, by kernel_rfl, by kernel_rfl⟩
instance : TBody Tryz.prog 22 := ⟨_, Tryz.func22, by kernel_rfl, by kernel_rfl⟩
instance : TBody Tryz.prog 23 := ⟨_, Tryz.func23, by kernel_rfl, by kernel_rfl⟩
instance : TBody Tryz.prog 27 := ⟨_, Tryz.func27, by kernel_rfl, by kernel_rfl⟩
instance : TBody Tryz.prog 32 := ⟨_, Tryz.func32, by kernel_rfl, by kernel_rfl⟩
instance : TBody Tryz.prog 39 := ⟨_, Tryz.func39, by kernel_rfl, by kernel_rfl⟩
instance : TBody Tryz.prog 41 := ⟨_, Tryz.func41, by kernel_rfl, by kernel_rfl⟩
instance : TBody Tryz.prog 44 := ⟨_, Tryz.func44, by kernel_rfl, by kernel_rfl⟩
instance : TBody Tryz.prog 45 := ⟨_, Tryz.func45, by kernel_rfl, by kernel_rfl⟩
instance : TBody Tryz.prog 65 := ⟨_, Tryz.func65, by kernel_rfl, by kernel_rfl⟩
instance : TBody Tryz.prog 67 := ⟨_, Tryz.func67, by kernel_rfl, by kernel_rfl⟩
instance : TBody Tryz.prog 68 := ⟨_, Tryz.func68, by kernel_rfl, by kernel_rfl⟩
instance : TBody Tryz.prog 72 := ⟨_, Tryz.func72, by kernel_rfl, by kernel_rfl⟩
instance : TBody Tryz.prog 73 := ⟨_, Tryz.func73, by kernel_rfl, by kernel_rfl⟩
instance : TBody Tryz.prog 77 := ⟨_, Tryz.func77, by kernel_rfl, by kernel_rfl⟩
instance : TBody Tryz.prog 78 := ⟨_, Tryz.func78, by kernel_rfl, by kernel_rfl⟩
instance : TBody Tryz.prog 80 := ⟨_, Tryz.func80, by kernel_rfl, by kernel_rfl⟩
instance : TBody Tryz.prog 81 := ⟨_, Tryz.func81, by kernel_rfl, by kernel_rfl⟩
instance : TBody Tryz.prog 82 := ⟨_, Tryz.func82, by kernel_rfl, by kernel_rfl⟩
instance : TBody Tryz.prog 83 := ⟨_, Tryz.func83, by kernel_rfl, by kernel_rfl⟩
instance : TBody Tryz.prog 84 := ⟨_, Tryz.func84, by kernel_rfl, by kernel_rfl⟩
instance : TBody Tryz.prog 85 := ⟨_, Tryz.func85, by kernel_rfl, by kernel_rfl⟩
instance : TBody Tryz.prog 86 := ⟨_, Tryz.func86, by kernel_rfl, by kernel_rfl⟩
instance : TBody Tryz.prog 87 := ⟨_, Tryz.func87, by kernel_rfl, by kernel_rfl⟩
instance : TBody Tryz.prog 88 := ⟨_, Tryz.func88, by kernel_rfl, by kernel_rfl⟩
instance : TBody Tryz.prog 89 := ⟨_, Tryz.func89, by kernel_rfl, by kernel_rfl⟩
instance : TBody Tryz.prog 95 := ⟨_, Tryz.func95, by kernel_rfl, by kernel_rfl⟩
instance : TBody Tryz.prog 96 := ⟨_, Tryz.func96, by kernel_rfl, by kernel_rfl⟩
instance : TBody Tryz.prog 99 := ⟨_, Tryz.func99, by kernel_rfl, by kernel_rfl⟩
instance : TBody Tryz.prog 100 := ⟨_, Tryz.func100, by kernel_rfl, by kernel_rfl⟩
instance : TBody Tryz.prog 103 := ⟨_, Tryz.func103, by kernel_rfl, by kernel_rfl⟩
instance : TBody Tryz.prog 104 := ⟨_, Tryz.func104, by kernel_rfl, by kernel_rfl⟩
instance : TBody Tryz.prog 105 := ⟨_, Tryz.func105, by kernel_rfl, by kernel_rfl⟩
instance : TBody Tryz.prog 106 := ⟨_, Tryz.func106, by kernel_rfl, by kernel_rfl⟩
instance : TBody Tryz.prog 107 := ⟨_, Tryz.func107, by kernel_rfl, by kernel_rfl⟩
instance : TBody Tryz.prog 108 := ⟨_, Tryz.func108, by kernel_rfl, by kernel_rfl⟩
instance : TBody Tryz.prog 111 := ⟨_, Tryz.func111, by kernel_rfl, by kernel_rfl⟩
instance : TBody Tryz.prog 119 := ⟨_, Tryz.func119, by kernel_rfl, by kernel_rfl⟩
instance : TBody Tryz.prog 120 := ⟨_, Tryz.func120, by kernel_rfl, by kernel_rfl⟩
instance : TBody Tryz.prog 121 := ⟨_, Tryz.func121, by kernel_rfl, by kernel_rfl⟩
instance : TBody Tryz.prog 123 := ⟨_, Tryz.func123, by kernel_rfl, by kernel_rfl⟩
instance : TBody Tryz.prog 126 := ⟨_, Tryz.func126, by kernel_rfl, by kernel_rfl⟩
instance : TBody Tryz.prog 128 := ⟨_, Tryz.func128, by kernel_rfl, by kernel_rfl⟩
instance : TBody Tryz.prog 130 := ⟨_, Tryz.func130, by kernel_rfl, by kernel_rfl⟩
instance : TBody Tryz.prog 131 := ⟨_, Tryz.func131, by kernel_rfl, by kernel_rfl⟩
instance : TBody Tryz.prog 132 := ⟨_, Tryz.func132, by kernel_rfl, by kernel_rfl⟩
instance : TBody Tryz.prog 139 := ⟨_, Tryz.func139, by kernel_rfl, by kernel_rfl⟩
instance : TBody Tryz.prog 152 := ⟨_, Tryz.func152, by kernel_rfl, by kernel_rfl⟩
instance : TBody Tryz.prog 153 := ⟨_, Tryz.func153, by kernel_rfl, by kernel_rfl⟩
instance : TBody Tryz.prog 159 := ⟨_, Tryz.func159, by kernel_rfl, by kernel_rfl⟩
instance : TBody Tryz.prog 160 := ⟨_, Tryz.func160, by kernel_rfl, by kernel_rfl⟩
instance : TBody Tryz.prog 162 := ⟨_, Tryz.func162, by kernel_rfl, by kernel_rfl⟩
instance : TBody Tryz.prog 163 := ⟨_, Tryz.func163, by kernel_rfl, by kernel_rfl⟩
instance : TBody Tryz.prog 164 := ⟨_, Tryz.func164, by kernel_rfl, by kernel_rfl⟩
instance : TBody Tryz.prog 165 := ⟨_, Tryz.func165, by kernel_rfl, by kernel_rfl⟩
instance : TBody Tryz.prog 166 := ⟨_, Tryz.func166, by kernel_rfl, by kernel_rfl⟩
instance : TBody Tryz.prog 167 := ⟨_, Tryz.func167, by kernel_rfl, by kernel_rfl⟩
instance : TBody Tryz.prog 168 := ⟨_, Tryz.func168, by kernel_rfl, by kernel_rfl⟩
instance : TBody Tryz.prog 169 := ⟨_, Tryz.func169, by kernel_rfl, by kernel_rfl⟩
instance : TBody Tryz.prog 170 := ⟨_, Tryz.func170, by kernel_rfl, by kernel_rfl⟩
instance : TBody Tryz.prog 171 := ⟨_, Tryz.func171, by kernel_rfl, by kernel_rfl⟩
instance : TBody Tryz.prog 172 := ⟨_, Tryz.func172, by kernel_rfl, by kernel_rfl⟩
instance : TBody Tryz.prog 173 := ⟨_, Tryz.func173, by kernel_rfl, by kernel_rfl⟩
instance : TBody Tryz.prog 179 := ⟨_, Tryz.func179, by kernel_rfl, by kernel_rfl⟩
instance : TBody Tryz.prog 181 := ⟨_, Tryz.func181, by kernel_rfl, by kernel_rfl⟩
instance : TBody Tryz.prog 182 := ⟨_, Tryz.func182, by kernel_rfl, by kernel_rfl⟩
instance : TBody Tryz.prog 183 := ⟨_, Tryz.func183, by kernel_rfl, by kernel_rfl⟩
instance : TBody Tryz.prog 184 := ⟨_, Tryz.func184, by kernel_rfl, by kernel_rfl⟩
instance : TBody Tryz.prog 185 := ⟨_, Tryz.func185, by kernel_rfl, by kernel_rfl⟩
instance : TBody Tryz.prog 186 := ⟨_, Tryz.func186, by kernel_rfl, by kernel_rfl⟩
instance : TBody Tryz.prog 187 := ⟨_, Tryz.func187, by kernel_rfl, by kernel_rfl⟩
instance : TBody Tryz.prog 188 := ⟨_, Tryz.func188, by kernel_rfl, by kernel_rfl⟩
instance : TBody Tryz.prog 189 := ⟨_, Tryz.func189, by kernel_rfl, by kernel_rfl⟩
instance : TBody Tryz.prog 190 := ⟨_, Tryz.func190, by kernel_rfl, by kernel_rfl⟩
instance : TBody Tryz.prog 191 := ⟨_, Tryz.func191, by kernel_rfl, by kernel_rfl⟩
instance : TBody Tryz.prog 192 := ⟨_, Tryz.func192, by kernel_rfl, by kernel_rfl⟩
instance : TBody Tryz.prog 193 := ⟨_, Tryz.func193, by kernel_rfl, by kernel_rfl⟩
instance : TBody Tryz.prog 194 := ⟨_, Tryz.func194, by kernel_rfl, by kernel_rfl⟩
instance : TBody Tryz.prog 195 := ⟨_, Tryz.func195, by kernel_rfl, by kernel_rfl⟩
instance : TBody Tryz.prog 196 := ⟨_, Tryz.func196, by kernel_rfl, by kernel_rfl⟩
instance : TBody Tryz.prog 197 := ⟨_, Tryz.func197, by kernel_rfl, by kernel_rfl⟩
instance : TBody Tryz.prog 198 := ⟨_, Tryz.func198, by kernel_rfl, by kernel_rfl⟩
instance : TBody Tryz.prog 199 := ⟨_, Tryz.func199, by kernel_rfl, by kernel_rfl⟩
instance : TBody Tryz.prog 200 := ⟨_, Tryz.func200, by kernel_rfl, by kernel_rfl⟩
instance : TBody Tryz.prog 209 := ⟨_, Tryz.func209, by kernel_rfl, by kernel_rfl⟩
instance : TBody Tryz.prog 211 := ⟨_, Tryz.func211, by kernel_rfl, by kernel_rfl⟩
instance : TBody Tryz.prog 212 := ⟨_, Tryz.func212, by kernel_rfl, by kernel_rfl⟩
instance : TBody Tryz.prog 213 := ⟨_, Tryz.func213, by kernel_rfl, by kernel_rfl⟩
instance : TBody Tryz.prog 214 := ⟨_, Tryz.func214, by kernel_rfl, by kernel_rfl⟩
instance : TBody Tryz.prog 216 := ⟨_, Tryz.func216, by kernel_rfl, by kernel_rfl⟩
instance : TBody Tryz.prog 218 := ⟨_, Tryz.func218, by kernel_rfl, by kernel_rfl⟩
instance : TBody Tryz.prog 225 := ⟨_, Tryz.func225, by kernel_rfl, by kernel_rfl⟩
instance : TBody Tryz.prog 226 := ⟨_, Tryz.func226, by kernel_rfl, by kernel_rfl⟩
instance : TBody Tryz.prog 227 := ⟨_, Tryz.func227, by kernel_rfl, by kernel_rfl⟩
instance : TBody Tryz.prog 228 := ⟨_, Tryz.func228, by kernel_rfl, by kernel_rfl⟩
instance : TBody Tryz.prog 229 := ⟨_, Tryz.func229, by kernel_rfl, by kernel_rfl⟩
instance : TBody Tryz.prog 238 := ⟨_, Tryz.func238, by kernel_rfl, by kernel_rfl⟩
instance : TBody Tryz.prog 239 := ⟨_, Tryz.func239, by kernel_rfl, by kernel_rfl⟩
instance : TBody Tryz.prog 240 := ⟨_, Tryz.func240, by kernel_rfl, by kernel_rfl⟩
instance : TBody Tryz.prog 241 := ⟨_, Tryz.func241, by kernel_rfl, by kernel_rfl⟩
instance : TBody Tryz.prog 242 := ⟨_, Tryz.func242, by kernel_rfl, by kernel_rfl⟩
instance : TBody Tryz.prog 243 := ⟨_, Tryz.func243, by kernel_rfl, by kernel_rfl⟩
instance : TBody Tryz.prog 244 := ⟨_, Tryz.func244, by kernel_rfl, by kernel_rfl⟩
instance : TBody Tryz.prog 245 := ⟨_, Tryz.func245, by kernel_rfl, by kernel_rfl⟩
instance : TBody Tryz.prog 246 := ⟨_, Tryz.func246, by kernel_rfl, by kernel_rfl⟩
instance : TBody Tryz.prog 247 := ⟨_, Tryz.func247, by kernel_rfl, by kernel_rfl⟩
instance : TBody Tryz.prog 248 := ⟨_, Tryz.func248, by kernel_rfl, by kernel_rfl⟩
instance : TBody Tryz.prog 252 := ⟨_, Tryz.func252, by kernel_rfl, by kernel_rfl⟩
instance : TBody Tryz.prog 253 := ⟨_, Tryz.func253, by kernel_rfl, by kernel_rfl⟩
instance : TBody Tryz.prog 254 := ⟨_, Tryz.func254, by kernel_rfl, by kernel_rfl⟩
instance : TBody Tryz.prog 255 := ⟨_, Tryz.func255, by kernel_rfl, by kernel_rfl⟩
instance : TBody Tryz.prog 256 := ⟨_, Tryz.func256, by kernel_rfl, by kernel_rfl⟩
instance : TBody Tryz.prog 257 := ⟨_, Tryz.func257, by kernel_rfl, by kernel_rfl⟩
instance : TBody Tryz.prog 258 := ⟨_, Tryz.func258, by kernel_rfl, by kernel_rfl⟩
instance : TBody Tryz.prog 259 := ⟨_, Tryz.func259, by kernel_rfl, by kernel_rfl⟩
instance : TBody Tryz.prog 260 := ⟨_, Tryz.func260, by kernel_rfl, by kernel_rfl⟩
instance : TBody Tryz.prog 261 := ⟨_, Tryz.func261, by kernel_rfl, by kernel_rfl⟩
instance : TBody Tryz.prog 262 := ⟨_, Tryz.func262, by kernel_rfl, by kernel_rfl⟩
instance : TBody Tryz.prog 263 := ⟨_, Tryz.func263, by kernel_rfl, by kernel_rfl⟩
instance : TBody Tryz.prog 264 := ⟨_, Tryz.func264, by kernel_rfl, by kernel_rfl⟩
instance : TBody Tryz.prog 280 := ⟨_, Tryz.func280, by kernel_rfl, by kernel_rfl⟩
instance : TBody Tryz.prog 281 := ⟨_, Tryz.func281, by kernel_rfl, by kernel_rfl⟩
instance : TBody Tryz.prog 282 := ⟨_, Tryz.func282, by kernel_rfl, by kernel_rfl⟩
instance : TBody Tryz.prog 283 := ⟨_, Tryz.func283, by kernel_rfl, by kernel_rfl⟩
instance : TBody Tryz.prog 284 := ⟨_, Tryz.func284, by kernel_rfl, by kernel_rfl⟩
instance : TBody Tryz.prog 285 := ⟨_, Tryz.func285, by kernel_rfl, by kernel_rfl⟩
instance : TBody Tryz.prog 286 := ⟨_, Tryz.func286, by kernel_rfl, by kernel_rfl⟩
instance : TBody Tryz.prog 287 := ⟨_, Tryz.func287, by kernel_rfl, by kernel_rfl⟩
instance : TBody Tryz.prog 288 := ⟨_, Tryz.func288, by kernel_rfl, by kernel_rfl⟩
instance : TBody Tryz.prog 289 := ⟨_, Tryz.func289, by kernel_rfl, by kernel_rfl⟩
instance : TBody Tryz.prog 290 := ⟨_, Tryz.func290, by kernel_rfl, by kernel_rfl⟩
instance : TBody Tryz.prog 291 := ⟨_, Tryz.func291, by kernel_rfl, by kernel_rfl⟩
instance : TBody Tryz.prog 293 := ⟨_, Tryz.func293, by kernel_rfl, by kernel_rfl⟩
instance : TBody Tryz.prog 294 := ⟨_, Tryz.func294, by kernel_rfl, by kernel_rfl⟩
instance : TBody Tryz.prog 295 := ⟨_, Tryz.func295, by kernel_rfl, by kernel_rfl⟩
instance : TBody Tryz.prog 297 := ⟨_, Tryz.func297, by kernel_rfl, by kernel_rfl⟩
instance : TBody Tryz.prog 298 := ⟨_, Tryz.func298, by kernel_rfl, by kernel_rfl⟩
instance : TBody Tryz.prog 301 := ⟨_, Tryz.func301, by kernel_rfl, by kernel_rfl⟩
instance : TBody Tryz.prog 302 := ⟨_, Tryz.func302, by kernel_rfl, by kernel_rfl⟩
instance : TBody Tryz.prog 304 := ⟨_, Tryz.func304, by kernel_rfl, by kernel_rfl⟩
instance : TBody Tryz.prog 305 := ⟨_, Tryz.func305, by kernel_rfl, by kernel_rfl⟩
instance : TBody Tryz.prog 306 := ⟨_, Tryz.func306, by kernel_rfl, by kernel_rfl⟩
instance : TBody Tryz.prog 307 := ⟨_, Tryz.func307, by kernel_rfl, by kernel_rfl⟩
instance : TBody Tryz.prog 308 := ⟨_, Tryz.func308, by kernel_rfl, by kernel_rfl⟩
instance : TBody Tryz.prog 309 := ⟨_, Tryz.func309, by kernel_rfl, by kernel_rfl⟩
instance : TBody Tryz.prog 315 := ⟨_, Tryz.func315, by kernel_rfl, by kernel_rfl⟩
instance : TBody Tryz.prog 316 := ⟨_, Tryz.func316, by kernel_rfl, by kernel_rfl⟩
instance : TBody Tryz.prog 317 := ⟨_, Tryz.func317, by kernel_rfl, by kernel_rfl⟩
instance : TBody Tryz.prog 318 := ⟨_, Tryz.func318, by kernel_rfl, by kernel_rfl⟩
instance : TBody Tryz.prog 319 := ⟨_, Tryz.func319, by kernel_rfl, by kernel_rfl⟩
instance : TBody Tryz.prog 321 := ⟨_, Tryz.func321, by kernel_rfl, by kernel_rfl⟩
instance : TBody Tryz.prog 322 := ⟨_, Tryz.func322, by kernel_rfl, by kernel_rfl⟩
instance : TBody Tryz.prog 323 := ⟨_, Tryz.func323, by kernel_rfl, by kernel_rfl⟩
instance : TBody Tryz.prog 324 := ⟨_, Tryz.func324, by kernel_rfl, by kernel_rfl⟩
instance : TBody Tryz.prog 329 := ⟨_, Tryz.func329, by kernel_rfl, by kernel_rfl⟩
instance : TBody Tryz.prog 330 := ⟨_, Tryz.func330, by kernel_rfl, by kernel_rfl⟩
instance : TBody Tryz.prog 331 := ⟨_, Tryz.func331, by kernel_rfl, by kernel_rfl⟩
instance : TBody Tryz.prog 332 := ⟨_, Tryz.func332, by kernel_rfl, by kernel_rfl⟩
instance : TBody Tryz.prog 333 := ⟨_, Tryz.func333, by kernel_rfl, by kernel_rfl⟩
instance : TBody Tryz.prog 334 := ⟨_, Tryz.func334, by kernel_rfl, by kernel_rfl⟩
instance : TBody Tryz.prog 335 := ⟨_, Tryz.func335, by kernel_rfl, by kernel_rfl⟩
instance : TBody Tryz.prog 336 := ⟨_, Tryz.func336, by kernel_rfl, by kernel_rfl⟩
instance : TBody Tryz.prog 337 := ⟨_, Tryz.func337, by kernel_rfl, by kernel_rfl⟩
instance : TBody Tryz.prog 338 := ⟨_, Tryz.func338, by kernel_rfl, by kernel_rfl⟩
instance : TBody Tryz.prog 340 := ⟨_, Tryz.func340, by kernel_rfl, by kernel_rfl⟩
instance : TBody Tryz.prog 341 := ⟨_, Tryz.func341, by kernel_rfl, by kernel_rfl⟩
instance : TBody Tryz.prog 342 := ⟨_, Tryz.func342, by kernel_rfl, by kernel_rfl⟩
instance : TBody Tryz.prog 343 := ⟨_, Tryz.func343, by kernel_rfl, by kernel_rfl⟩
theorem mixed : Tryz.prog.follows .mixedOrders = true := by kernel_rfl
end Go.Proofs.YtipelpbkeiphmaaGreatDoor
