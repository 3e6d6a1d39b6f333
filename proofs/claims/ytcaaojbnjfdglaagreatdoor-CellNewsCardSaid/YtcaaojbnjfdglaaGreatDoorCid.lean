/- Cells: what is proved on the way: every input of the statement; no condition. Texts joined: Ins. -/
import Derived.Test.YtcaaojbnjfdglaaGreatDoorCic
import Derived.Test.YtcaaojbnjfdglaaGreatDoorProg
import Derived.KernelRfl
set_option linter.unusedVariables false
namespace Go.Proofs.YtcaaojbnjfdglaaGreatDoor
open Go.SL
instance : T1 Tryz.prog 1 := ⟨⟨_, Tryz.underlying1, (fun _ h => nomatch h), (fun _ _ h => nomatch h)⟩, by kernel_rfl⟩
instance : TZero Tryz.prog 1 (.nilFunc) := ⟨by kernel_rfl⟩
instance : T1 Tryz.prog 2 := ⟨⟨_, Tryz.underlying2, (fun _ h => nomatch h), (fun _ _ h => nomatch h)⟩, by kernel_rfl⟩
instance : TZero Tryz.prog 2 (.int .i64 0) := ⟨by kernel_rfl⟩
instance : TInt Tryz.prog 2 .i64 := ⟨Tryz.underlying2⟩
instance : T1 Tryz.prog 3 := ⟨⟨_, Tryz.underlying3, (fun _ h => nomatch h), (fun _ _ h => nomatch h)⟩, by kernel_rfl⟩
instance : TZero Tryz.prog 3 (.int .i64 0) := ⟨by kernel_rfl⟩
instance : TInt Tryz.prog 3 .i64 := ⟨Tryz.underlying3⟩
instance : T1 Tryz.prog 4 := ⟨⟨_, Tryz.underlying4, (fun _ h => nomatch h), (fun _ _ h => nomatch h)⟩, by kernel_rfl⟩
instance : TZero Tryz.prog 4 (.bool false) := ⟨by kernel_rfl⟩
instance : TBool Tryz.prog 4 := ⟨Tryz.underlying4⟩
instance : T1 Tryz.prog 5 := ⟨⟨_, Tryz.underlying5, (fun _ h => nomatch h), (fun _ _ h => nomatch h)⟩, by kernel_rfl⟩
instance : TZero Tryz.prog 5 (.int .u8 0) := ⟨by kernel_rfl⟩
instance : TInt Tryz.prog 5 .u8 := ⟨Tryz.underlying5⟩
instance : T1 Tryz.prog 6 := ⟨⟨_, Tryz.underlying6, (fun _ h => nomatch h), (fun _ _ h => nomatch h)⟩, by kernel_rfl⟩
instance : TZero Tryz.prog 6 (.int .u8 0) := ⟨by kernel_rfl⟩
instance : TInt Tryz.prog 6 .u8 := ⟨Tryz.underlying6⟩
instance : TN Tryz.prog 7 4 := ⟨.inl ⟨_, Tryz.underlying7⟩, by kernel_rfl⟩
instance : TZero Tryz.prog 7 (.agg #[.int .i64 0, .int .i64 0, .bool false, .int .u8 0]) := ⟨by kernel_rfl⟩
instance : TBuild Tryz.prog 7 [(0, 1), (1, 1), (2, 1), (3, 1)] := ⟨_, Tryz.underlying7, by kernel_rfl⟩
instance : TField Tryz.prog 7 0 0 := ⟨_, _, Tryz.underlying7, rfl, rfl, 1, by kernel_rfl, by decide⟩
instance : TPart Tryz.prog 7 0 0 none := ⟨_, _, Tryz.underlying7, rfl, rfl, (inferInstance : T1 Tryz.prog 2)⟩
instance : TField Tryz.prog 7 1 1 := ⟨_, _, Tryz.underlying7, rfl, rfl, 1, by kernel_rfl, by decide⟩
instance : TPart Tryz.prog 7 1 1 none := ⟨_, _, Tryz.underlying7, rfl, rfl, (inferInstance : T1 Tryz.prog 3)⟩
instance : TField Tryz.prog 7 2 2 := ⟨_, _, Tryz.underlying7, rfl, rfl, 1, by kernel_rfl, by decide⟩
instance : TPart Tryz.prog 7 2 2 none := ⟨_, _, Tryz.underlying7, rfl, rfl, (inferInstance : T1 Tryz.prog 4)⟩
instance : TField Tryz.prog 7 3 3 := ⟨_, _, Tryz.underlying7, rfl, rfl, 1, by kernel_rfl, by decide⟩
instance : TPart Tryz.prog 7 3 3 none := ⟨_, _, Tryz.underlying7, rfl, rfl, (inferInstance : T1 Tryz.prog 6)⟩
instance : T1 Tryz.prog 9 := ⟨⟨_, Tryz.underlying9, (fun _ h => nomatch h), (fun _ _ h => nomatch h)⟩, by kernel_rfl⟩
instance : TZero Tryz.prog 9 (.string ⟨#[]⟩) := ⟨by kernel_rfl⟩
instance : TString Tryz.prog 9 := ⟨Tryz.underlying9⟩
instance : T1 Tryz.prog 10 := ⟨⟨_, Tryz.underlying10, (fun _ h => nomatch h), (fun _ _ h => nomatch h)⟩, by kernel_rfl⟩
instance : TZero Tryz.prog 10 (.string ⟨#[]⟩) := ⟨by kernel_rfl⟩
instance : TString Tryz.prog 10 := ⟨Tryz.underlying10⟩
instance : T1 Tryz.prog 12 := ⟨⟨_, Tryz.underlying12, (fun _ h => nomatch h), (fun _ _ h => nomatch h)⟩, by kernel_rfl⟩
instance : TZero Tryz.prog 12 (.int .u64 0) := ⟨by kernel_rfl⟩
instance : TInt Tryz.prog 12 .u64 := ⟨Tryz.underlying12⟩
instance : TN Tryz.prog 13 2 := ⟨.inl ⟨_, Tryz.underlying13⟩, by kernel_rfl⟩
instance : TZero Tryz.prog 13 (.agg #[.string ⟨#[]⟩, .int .u64 0]) := ⟨by kernel_rfl⟩
instance : TBuild Tryz.prog 13 [(0, 1), (1, 1)] := ⟨_, Tryz.underlying13, by kernel_rfl⟩
instance : TField Tryz.prog 13 0 0 := ⟨_, _, Tryz.underlying13, rfl, rfl, 1, by kernel_rfl, by decide⟩
instance : TPart Tryz.prog 13 0 0 none := ⟨_, _, Tryz.underlying13, rfl, rfl, (inferInstance : T1 Tryz.prog 9)⟩
instance : TField Tryz.prog 13 1 1 := ⟨_, _, Tryz.underlying13, rfl, rfl, 1, by kernel_rfl, by decide⟩
instance : TPart Tryz.prog 13 1 1 none := ⟨_, _, Tryz.underlying13, rfl, rfl, (inferInstance : T1 Tryz.prog 12)⟩
instance : T1 Tryz.prog 15 := ⟨⟨_, Tryz.underlying15, (fun _ h => nomatch h), (fun _ _ h => nomatch h)⟩, by kernel_rfl⟩
instance : TZero Tryz.prog 15 (.pointer none) := ⟨by kernel_rfl⟩
instance : TPtr Tryz.prog 15 := ⟨⟨_, Tryz.underlying15⟩⟩
instance : T1 Tryz.prog 16 := ⟨⟨_, Tryz.underlying16, (fun _ h => nomatch h), (fun _ _ h => nomatch h)⟩, by kernel_rfl⟩
instance : TZero Tryz.prog 16 (.pointer none) := ⟨by kernel_rfl⟩
instance : TPtr Tryz.prog 16 := ⟨⟨_, Tryz.underlying16⟩⟩
instance : T1 Tryz.prog 17 := ⟨⟨_, Tryz.underlying17, (fun _ h => nomatch h), (fun _ _ h => nomatch h)⟩, by kernel_rfl⟩
instance : TZero Tryz.prog 17 (.pointer none) := ⟨by kernel_rfl⟩
instance : TPtr Tryz.prog 17 := ⟨⟨_, Tryz.underlying17⟩⟩
instance : TN Tryz.prog 18 1 := ⟨.inl ⟨_, Tryz.underlying18⟩, by kernel_rfl⟩
instance : TZero Tryz.prog 18 (.agg #[.pointer none]) := ⟨by kernel_rfl⟩
instance : TBuild Tryz.prog 18 [(0, 1)] := ⟨_, Tryz.underlying18, by kernel_rfl⟩
instance : TField Tryz.prog 18 0 0 := ⟨_, _, Tryz.underlying18, rfl, rfl, 1, by kernel_rfl, by decide⟩
instance : TPart Tryz.prog 18 0 0 none := ⟨_, _, Tryz.underlying18, rfl, rfl, (inferInstance : T1 Tryz.prog 17)⟩
instance : TN Tryz.prog 19 1 := ⟨.inl ⟨_, Tryz.underlying19⟩, by kernel_rfl⟩
instance : TZero Tryz.prog 19 (.agg #[.pointer none]) := ⟨by kernel_rfl⟩
instance : TBuild Tryz.prog 19 [(0, 1)] := ⟨_, Tryz.underlying19, by kernel_rfl⟩
instance : TField Tryz.prog 19 0 0 := ⟨_, _, Tryz.underlying19, rfl, rfl, 1, by kernel_rfl, by decide⟩
instance : TPart Tryz.prog 19 0 0 none := ⟨_, _, Tryz.underlying19, rfl, rfl, (inferInstance : T1 Tryz.prog 17)⟩
instance : T1 Tryz.prog 20 := ⟨⟨_, Tryz.underlying20, (fun _ h => nomatch h), (fun _ _ h => nomatch h)⟩, by kernel_rfl⟩
instance : TZero Tryz.prog 20 (.nilIface) := ⟨by kernel_rfl⟩
instance : T1 Tryz.prog 21 := ⟨⟨_, Tryz.underlying21, (fun _ h => nomatch h), (fun _ _ h => nomatch h)⟩, by kernel_rfl⟩
instance : TZero Tryz.prog 21 (.int .i32 0) := ⟨by kernel_rfl⟩
instance : TInt Tryz.prog 21 .i32 := ⟨Tryz.underlying21⟩
instance : TN Tryz.prog 22 3 := ⟨.inl ⟨_, Tryz.underlying22⟩, by kernel_rfl⟩
instance : TZero Tryz.prog 22 (.agg #[.int .i64 0, .int .i64 0, .int .i64 0]) := ⟨by kernel_rfl⟩
instance : TBuild Tryz.prog 22 [(0, 1), (1, 1), (2, 1)] := ⟨_, Tryz.underlying22, by kernel_rfl⟩
instance : TField Tryz.prog 22 0 0 := ⟨_, _, Tryz.underlying22, rfl, rfl, 1, by kernel_rfl, by decide⟩
instance : TPart Tryz.prog 22 0 0 none := ⟨_, _, Tryz.underlying22, rfl, rfl, (inferInstance : T1 Tryz.prog 3)⟩
instance : TField Tryz.prog 22 1 1 := ⟨_, _, Tryz.underlying22, rfl, rfl, 1, by kernel_rfl, by decide⟩
instance : TPart Tryz.prog 22 1 1 none := ⟨_, _, Tryz.underlying22, rfl, rfl, (inferInstance : T1 Tryz.prog 3)⟩
instance : TField Tryz.prog 22 2 2 := ⟨_, _, Tryz.underlying22, rfl, rfl, 1, by kernel_rfl, by decide⟩
instance : TPart Tryz.prog 22 2 2 none := ⟨_, _, Tryz.underlying22, rfl, rfl, (inferInstance : T1 Tryz.prog 3)⟩
instance : TN Tryz.prog 23 3 := ⟨.inl ⟨_, Tryz.underlying23⟩, by kernel_rfl⟩
instance : TZero Tryz.prog 23 (.agg #[.int .i64 0, .int .i64 0, .int .i64 0]) := ⟨by kernel_rfl⟩
instance : TBuild Tryz.prog 23 [(0, 1), (1, 1), (2, 1)] := ⟨_, Tryz.underlying23, by kernel_rfl⟩
instance : TField Tryz.prog 23 0 0 := ⟨_, _, Tryz.underlying23, rfl, rfl, 1, by kernel_rfl, by decide⟩
instance : TPart Tryz.prog 23 0 0 none := ⟨_, _, Tryz.underlying23, rfl, rfl, (inferInstance : T1 Tryz.prog 3)⟩
instance : TField Tryz.prog 23 1 1 := ⟨_, _, Tryz.underlying23, rfl, rfl, 1, by kernel_rfl, by decide⟩
instance : TPart Tryz.prog 23 1 1 none := ⟨_, _, Tryz.underlying23, rfl, rfl, (inferInstance : T1 Tryz.prog 3)⟩
instance : TField Tryz.prog 23 2 2 := ⟨_, _, Tryz.underlying23, rfl, rfl, 1, by kernel_rfl, by decide⟩
instance : TPart Tryz.prog 23 2 2 none := ⟨_, _, Tryz.underlying23, rfl, rfl, (inferInstance : T1 Tryz.prog 3)⟩
instance : T1 Tryz.prog 24 := ⟨⟨_, Tryz.underlying24, (fun _ h => nomatch h), (fun _ _ h => nomatch h)⟩, by kernel_rfl⟩
instance : TZero Tryz.prog 24 (.slice none 0 0) := ⟨by kernel_rfl⟩
instance : TSlice Tryz.prog 24 34 9 88 := ⟨Tryz.underlying24, by kernel_rfl⟩
instance : T1 Tryz.prog 25 := ⟨⟨_, Tryz.underlying25, (fun _ h => nomatch h), (fun _ _ h => nomatch h)⟩, by kernel_rfl⟩
instance : TZero Tryz.prog 25 (.pointer none) := ⟨by kernel_rfl⟩
instance : TPtr Tryz.prog 25 := ⟨⟨_, Tryz.underlying25⟩⟩
instance : T1 Tryz.prog 26 := ⟨⟨_, Tryz.underlying26, (fun _ h => nomatch h), (fun _ _ h => nomatch h)⟩, by kernel_rfl⟩
instance : TZero Tryz.prog 26 (.nilFunc) := ⟨by kernel_rfl⟩
instance : T1 Tryz.prog 27 := ⟨⟨_, Tryz.underlying27, (fun _ h => nomatch h), (fun _ _ h => nomatch h)⟩, by kernel_rfl⟩
instance : TZero Tryz.prog 27 (.nilFunc) := ⟨by kernel_rfl⟩
instance : T1 Tryz.prog 29 := ⟨⟨_, Tryz.underlying29, (fun _ h => nomatch h), (fun _ _ h => nomatch h)⟩, by kernel_rfl⟩
instance : TZero Tryz.prog 29 (.int .u64 0) := ⟨by kernel_rfl⟩
instance : TInt Tryz.prog 29 .u64 := ⟨Tryz.underlying29⟩
instance : T1 Tryz.prog 30 := ⟨⟨_, Tryz.underlying30, (fun _ h => nomatch h), (fun _ _ h => nomatch h)⟩, by kernel_rfl⟩
instance : TZero Tryz.prog 30 (.slice none 0 0) := ⟨by kernel_rfl⟩
instance : TSlice Tryz.prog 30 29 1 8 := ⟨Tryz.underlying30, by kernel_rfl⟩
instance : TN Tryz.prog 31 2 := ⟨.inl ⟨_, Tryz.underlying31⟩, by kernel_rfl⟩
instance : TZero Tryz.prog 31 (.agg #[.int .i64 0, .int .i64 0]) := ⟨by kernel_rfl⟩
instance : TBuild Tryz.prog 31 [(0, 1), (1, 1)] := ⟨_, Tryz.underlying31, by kernel_rfl⟩
instance : TField Tryz.prog 31 0 0 := ⟨_, _, Tryz.underlying31, rfl, rfl, 1, by kernel_rfl, by decide⟩
instance : TPart Tryz.prog 31 0 0 none := ⟨_, _, Tryz.underlying31, rfl, rfl, (inferInstance : T1 Tryz.prog 3)⟩
instance : TField Tryz.prog 31 1 1 := ⟨_, _, Tryz.underlying31, rfl, rfl, 1, by kernel_rfl, by decide⟩
instance : TPart Tryz.prog 31 1 1 none := ⟨_, _, Tryz.underlying31, rfl, rfl, (inferInstance : T1 Tryz.prog 3)⟩
instance : TPair Tryz.prog 31 := ⟨⟨_, _, _, _, Tryz.underlying31, by decide, by decide, rfl, rfl, Tryz.underlying3, Tryz.underlying3⟩, fun f g h => by rw [Tryz.underlying31] at h; cases h; exact ⟨(inferInstance : T1 Tryz.prog 3), (inferInstance : T1 Tryz.prog 3)⟩, by kernel_rfl, by kernel_rfl⟩
instance : TN Tryz.prog 32 2 := ⟨.inl ⟨_, Tryz.underlying32⟩, by kernel_rfl⟩
instance : TZero Tryz.prog 32 (.agg #[.int .i64 0, .int .i64 0]) := ⟨by kernel_rfl⟩
instance : TBuild Tryz.prog 32 [(0, 1), (1, 1)] := ⟨_, Tryz.underlying32, by kernel_rfl⟩
instance : TField Tryz.prog 32 0 0 := ⟨_, _, Tryz.underlying32, rfl, rfl, 1, by kernel_rfl, by decide⟩
instance : TPart Tryz.prog 32 0 0 none := ⟨_, _, Tryz.underlying32, rfl, rfl, (inferInstance : T1 Tryz.prog 3)⟩
instance : TField Tryz.prog 32 1 1 := ⟨_, _, Tryz.underlying32, rfl, rfl, 1, by kernel_rfl, by decide⟩
instance : TPart Tryz.prog 32 1 1 none := ⟨_, _, Tryz.underlying32, rfl, rfl, (inferInstance : T1 Tryz.prog 3)⟩
instance : TPair Tryz.prog 32 := ⟨⟨_, _, _, _, Tryz.underlying32, by decide, by decide, rfl, rfl, Tryz.underlying3, Tryz.underlying3⟩, fun f g h => by rw [Tryz.underlying32] at h; cases h; exact ⟨(inferInstance : T1 Tryz.prog 3), (inferInstance : T1 Tryz.prog 3)⟩, by kernel_rfl, by kernel_rfl⟩
instance : TN Tryz.prog 33 9 := ⟨.inl ⟨_, Tryz.underlying33⟩, by kernel_rfl⟩
instance : TZero Tryz.prog 33 (.agg #[.int .i64 0, .int .i64 0, .int .i64 0, .int .i64 0, .int .u64 0, .slice none 0 0, .bool false, .int .i64 0, .int .i64 0]) := ⟨by kernel_rfl⟩
instance : TBuild Tryz.prog 33 [(0, 1), (1, 1), (2, 1), (3, 1), (4, 1), (5, 1), (6, 1), (7, 2)] := ⟨_, Tryz.underlying33, by kernel_rfl⟩
instance : TField Tryz.prog 33 0 0 := ⟨_, _, Tryz.underlying33, rfl, rfl, 1, by kernel_rfl, by decide⟩
instance : TPart Tryz.prog 33 0 0 none := ⟨_, _, Tryz.underlying33, rfl, rfl, (inferInstance : T1 Tryz.prog 3)⟩
instance : TField Tryz.prog 33 1 1 := ⟨_, _, Tryz.underlying33, rfl, rfl, 1, by kernel_rfl, by decide⟩
instance : TPart Tryz.prog 33 1 1 none := ⟨_, _, Tryz.underlying33, rfl, rfl, (inferInstance : T1 Tryz.prog 3)⟩
instance : TField Tryz.prog 33 2 2 := ⟨_, _, Tryz.underlying33, rfl, rfl, 1, by kernel_rfl, by decide⟩
instance : TPart Tryz.prog 33 2 2 none := ⟨_, _, Tryz.underlying33, rfl, rfl, (inferInstance : T1 Tryz.prog 3)⟩
instance : TField Tryz.prog 33 3 3 := ⟨_, _, Tryz.underlying33, rfl, rfl, 1, by kernel_rfl, by decide⟩
instance : TPart Tryz.prog 33 3 3 none := ⟨_, _, Tryz.underlying33, rfl, rfl, (inferInstance : T1 Tryz.prog 3)⟩
instance : TField Tryz.prog 33 4 4 := ⟨_, _, Tryz.underlying33, rfl, rfl, 1, by kernel_rfl, by decide⟩
instance : TPart Tryz.prog 33 4 4 none := ⟨_, _, Tryz.underlying33, rfl, rfl, (inferInstance : T1 Tryz.prog 29)⟩
instance : TField Tryz.prog 33 5 5 := ⟨_, _, Tryz.underlying33, rfl, rfl, 1, by kernel_rfl, by decide⟩
instance : TPart Tryz.prog 33 5 5 none := ⟨_, _, Tryz.underlying33, rfl, rfl, (inferInstance : T1 Tryz.prog 30)⟩
instance : TField Tryz.prog 33 6 6 := ⟨_, _, Tryz.underlying33, rfl, rfl, 1, by kernel_rfl, by decide⟩
instance : TPart Tryz.prog 33 6 6 none := ⟨_, _, Tryz.underlying33, rfl, rfl, (inferInstance : T1 Tryz.prog 4)⟩
instance : TField Tryz.prog 33 7 7 := ⟨_, _, Tryz.underlying33, rfl, rfl, 2, by kernel_rfl, by decide⟩
instance : TPart Tryz.prog 33 7 7 (some 2) := ⟨_, _, Tryz.underlying33, rfl, rfl, (inferInstance : TN Tryz.prog 32 2)⟩
instance : TN Tryz.prog 34 9 := ⟨.inl ⟨_, Tryz.underlying34⟩, by kernel_rfl⟩
instance : TZero Tryz.prog 34 (.agg #[.int .i64 0, .int .i64 0, .int .i64 0, .int .i64 0, .int .u64 0, .slice none 0 0, .bool false, .int .i64 0, .int .i64 0]) := ⟨by kernel_rfl⟩
instance : TBuild Tryz.prog 34 [(0, 1), (1, 1), (2, 1), (3, 1), (4, 1), (5, 1), (6, 1), (7, 2)] := ⟨_, Tryz.underlying34, by kernel_rfl⟩
instance : TField Tryz.prog 34 0 0 := ⟨_, _, Tryz.underlying34, rfl, rfl, 1, by kernel_rfl, by decide⟩
instance : TPart Tryz.prog 34 0 0 none := ⟨_, _, Tryz.underlying34, rfl, rfl, (inferInstance : T1 Tryz.prog 3)⟩
instance : TField Tryz.prog 34 1 1 := ⟨_, _, Tryz.underlying34, rfl, rfl, 1, by kernel_rfl, by decide⟩
instance : TPart Tryz.prog 34 1 1 none := ⟨_, _, Tryz.underlying34, rfl, rfl, (inferInstance : T1 Tryz.prog 3)⟩
instance : TField Tryz.prog 34 2 2 := ⟨_, _, Tryz.underlying34, rfl, rfl, 1, by kernel_rfl, by decide⟩
instance : TPart Tryz.prog 34 2 2 none := ⟨_, _, Tryz.underlying34, rfl, rfl, (inferInstance : T1 Tryz.prog 3)⟩
instance : TField Tryz.prog 34 3 3 := ⟨_, _, Tryz.underlying34, rfl, rfl, 1, by kernel_rfl, by decide⟩
instance : TPart Tryz.prog 34 3 3 none := ⟨_, _, Tryz.underlying34, rfl, rfl, (inferInstance : T1 Tryz.prog 3)⟩
instance : TField Tryz.prog 34 4 4 := ⟨_, _, Tryz.underlying34, rfl, rfl, 1, by kernel_rfl, by decide⟩
instance : TPart Tryz.prog 34 4 4 none := ⟨_, _, Tryz.underlying34, rfl, rfl, (inferInstance : T1 Tryz.prog 29)⟩
instance : TField Tryz.prog 34 5 5 := ⟨_, _, Tryz.underlying34, rfl, rfl, 1, by kernel_rfl, by decide⟩
instance : TPart Tryz.prog 34 5 5 none := ⟨_, _, Tryz.underlying34, rfl, rfl, (inferInstance : T1 Tryz.prog 30)⟩
instance : TField Tryz.prog 34 6 6 := ⟨_, _, Tryz.underlying34, rfl, rfl, 1, by kernel_rfl, by decide⟩
instance : TPart Tryz.prog 34 6 6 none := ⟨_, _, Tryz.underlying34, rfl, rfl, (inferInstance : T1 Tryz.prog 4)⟩
instance : TField Tryz.prog 34 7 7 := ⟨_, _, Tryz.underlying34, rfl, rfl, 2, by kernel_rfl, by decide⟩
instance : TPart Tryz.prog 34 7 7 (some 2) := ⟨_, _, Tryz.underlying34, rfl, rfl, (inferInstance : TN Tryz.prog 32 2)⟩
instance : T1 Tryz.prog 35 := ⟨⟨_, Tryz.underlying35, (fun _ h => nomatch h), (fun _ _ h => nomatch h)⟩, by kernel_rfl⟩
instance : TZero Tryz.prog 35 (.nilFunc) := ⟨by kernel_rfl⟩
instance : T1 Tryz.prog 36 := ⟨⟨_, Tryz.underlying36, (fun _ h => nomatch h), (fun _ _ h => nomatch h)⟩, by kernel_rfl⟩
instance : TZero Tryz.prog 36 (.pointer none) := ⟨by kernel_rfl⟩
instance : TPtr Tryz.prog 36 := ⟨⟨_, Tryz.underlying36⟩⟩
instance : T1 Tryz.prog 37 := ⟨⟨_, Tryz.underlying37, (fun _ h => nomatch h), (fun _ _ h => nomatch h)⟩, by kernel_rfl⟩
instance : TZero Tryz.prog 37 (.pointer none) := ⟨by kernel_rfl⟩
instance : TPtr Tryz.prog 37 := ⟨⟨_, Tryz.underlying37⟩⟩
instance : T1 Tryz.prog 38 := ⟨⟨_, Tryz.underlying38, (fun _ h => nomatch h), (fun _ _ h => nomatch h)⟩, by kernel_rfl⟩
instance : TZero Tryz.prog 38 (.slice none 0 0) := ⟨by kernel_rfl⟩
instance : TSlice Tryz.prog 38 32 2 16 := ⟨Tryz.underlying38, by kernel_rfl⟩
instance : TN Tryz.prog 39 3 := ⟨.inl ⟨_, Tryz.underlying39⟩, by kernel_rfl⟩
instance : TZero Tryz.prog 39 (.agg #[.pointer none, .pointer none, .slice none 0 0]) := ⟨by kernel_rfl⟩
instance : TBuild Tryz.prog 39 [(0, 1), (1, 1), (2, 1)] := ⟨_, Tryz.underlying39, by kernel_rfl⟩
instance : TField Tryz.prog 39 0 0 := ⟨_, _, Tryz.underlying39, rfl, rfl, 1, by kernel_rfl, by decide⟩
instance : TPart Tryz.prog 39 0 0 none := ⟨_, _, Tryz.underlying39, rfl, rfl, (inferInstance : T1 Tryz.prog 36)⟩
instance : TField Tryz.prog 39 1 1 := ⟨_, _, Tryz.underlying39, rfl, rfl, 1, by kernel_rfl, by decide⟩
instance : TPart Tryz.prog 39 1 1 none := ⟨_, _, Tryz.underlying39, rfl, rfl, (inferInstance : T1 Tryz.prog 37)⟩
instance : TField Tryz.prog 39 2 2 := ⟨_, _, Tryz.underlying39, rfl, rfl, 1, by kernel_rfl, by decide⟩
instance : TPart Tryz.prog 39 2 2 none := ⟨_, _, Tryz.underlying39, rfl, rfl, (inferInstance : T1 Tryz.prog 38)⟩
instance : TN Tryz.prog 40 3 := ⟨.inl ⟨_, Tryz.underlying40⟩, by kernel_rfl⟩
instance : TZero Tryz.prog 40 (.agg #[.pointer none, .pointer none, .slice none 0 0]) := ⟨by kernel_rfl⟩
instance : TBuild Tryz.prog 40 [(0, 1), (1, 1), (2, 1)] := ⟨_, Tryz.underlying40, by kernel_rfl⟩
instance : TField Tryz.prog 40 0 0 := ⟨_, _, Tryz.underlying40, rfl, rfl, 1, by kernel_rfl, by decide⟩
instance : TPart Tryz.prog 40 0 0 none := ⟨_, _, Tryz.underlying40, rfl, rfl, (inferInstance : T1 Tryz.prog 36)⟩
instance : TField Tryz.prog 40 1 1 := ⟨_, _, Tryz.underlying40, rfl, rfl, 1, by kernel_rfl, by decide⟩
instance : TPart Tryz.prog 40 1 1 none := ⟨_, _, Tryz.underlying40, rfl, rfl, (inferInstance : T1 Tryz.prog 37)⟩
instance : TField Tryz.prog 40 2 2 := ⟨_, _, Tryz.underlying40, rfl, rfl, 1, by kernel_rfl, by decide⟩
instance : TPart Tryz.prog 40 2 2 none := ⟨_, _, Tryz.underlying40, rfl, rfl, (inferInstance : T1 Tryz.prog 38)⟩
instance : T1 Tryz.prog 42 := ⟨⟨_, Tryz.underlying42, (fun _ h => nomatch h), (fun _ _ h => nomatch h)⟩, by kernel_rfl⟩
instance : TZero Tryz.prog 42 (.nilFunc) := ⟨by kernel_rfl⟩
instance : TN Tryz.prog 44 5 := ⟨.inl ⟨_, Tryz.underlying44⟩, by kernel_rfl⟩
instance : TZero Tryz.prog 44 (.agg #[.int .i64 0, .int .i64 0, .int .i64 0, .int .i64 0, .bool false]) := ⟨by kernel_rfl⟩
instance : TBuild Tryz.prog 44 [(0, 1), (1, 1), (2, 1), (3, 1), (4, 1)] := ⟨_, Tryz.underlying44, by kernel_rfl⟩
instance : TField Tryz.prog 44 0 0 := ⟨_, _, Tryz.underlying44, rfl, rfl, 1, by kernel_rfl, by decide⟩
instance : TPart Tryz.prog 44 0 0 none := ⟨_, _, Tryz.underlying44, rfl, rfl, (inferInstance : T1 Tryz.prog 3)⟩
instance : TField Tryz.prog 44 1 1 := ⟨_, _, Tryz.underlying44, rfl, rfl, 1, by kernel_rfl, by decide⟩
instance : TPart Tryz.prog 44 1 1 none := ⟨_, _, Tryz.underlying44, rfl, rfl, (inferInstance : T1 Tryz.prog 3)⟩
instance : TField Tryz.prog 44 2 2 := ⟨_, _, Tryz.underlying44, rfl, rfl, 1, by kernel_rfl, by decide⟩
instance : TPart Tryz.prog 44 2 2 none := ⟨_, _, Tryz.underlying44, rfl, rfl, (inferInstance : T1 Tryz.prog 3)⟩
instance : TField Tryz.prog 44 3 3 := ⟨_, _, Tryz.underlying44, rfl, rfl, 1, by kernel_rfl, by decide⟩
instance : TPart Tryz.prog 44 3 3 none := ⟨_, _, Tryz.underlying44, rfl, rfl, (inferInstance : T1 Tryz.prog 3)⟩
instance : TField Tryz.prog 44 4 4 := ⟨_, _, Tryz.underlying44, rfl, rfl, 1, by kernel_rfl, by decide⟩
instance : TPart Tryz.prog 44 4 4 none := ⟨_, _, Tryz.underlying44, rfl, rfl, (inferInstance : T1 Tryz.prog 4)⟩
instance : T1 Tryz.prog 45 := ⟨⟨_, Tryz.underlying45, (fun _ h => nomatch h), (fun _ _ h => nomatch h)⟩, by kernel_rfl⟩
instance : TZero Tryz.prog 45 (.int .i64 0) := ⟨by kernel_rfl⟩
instance : TInt Tryz.prog 45 .i64 := ⟨Tryz.underlying45⟩
instance : T1 Tryz.prog 47 := ⟨⟨_, Tryz.underlying47, (fun _ h => nomatch h), (fun _ _ h => nomatch h)⟩, by kernel_rfl⟩
instance : TZero Tryz.prog 47 (.nilFunc) := ⟨by kernel_rfl⟩
instance : T1 Tryz.prog 48 := ⟨⟨_, Tryz.underlying48, (fun _ h => nomatch h), (fun _ _ h => nomatch h)⟩, by kernel_rfl⟩
instance : TZero Tryz.prog 48 (.slice none 0 0) := ⟨by kernel_rfl⟩
instance : TSlice Tryz.prog 48 3 1 8 := ⟨Tryz.underlying48, by kernel_rfl⟩
instance : TN Tryz.prog 49 9 := ⟨.inl ⟨_, Tryz.underlying49⟩, by kernel_rfl⟩
instance : TZero Tryz.prog 49 (.agg #[.int .i64 0, .int .i64 0, .int .i64 0, .slice none 0 0, .slice none 0 0, .slice none 0 0, .bool false, .bool false, .bool false]) := ⟨by kernel_rfl⟩
instance : TBuild Tryz.prog 49 [(0, 1), (1, 1), (2, 1), (3, 1), (4, 1), (5, 1), (6, 1), (7, 1), (8, 1)] := ⟨_, Tryz.underlying49, by kernel_rfl⟩
instance : TField Tryz.prog 49 0 0 := ⟨_, _, Tryz.underlying49, rfl, rfl, 1, by kernel_rfl, by decide⟩
instance : TPart Tryz.prog 49 0 0 none := ⟨_, _, Tryz.underlying49, rfl, rfl, (inferInstance : T1 Tryz.prog 3)⟩
instance : TField Tryz.prog 49 1 1 := ⟨_, _, Tryz.underlying49, rfl, rfl, 1, by kernel_rfl, by decide⟩
instance : TPart Tryz.prog 49 1 1 none := ⟨_, _, Tryz.underlying49, rfl, rfl, (inferInstance : T1 Tryz.prog 3)⟩
instance : TField Tryz.prog 49 2 2 := ⟨_, _, Tryz.underlying49, rfl, rfl, 1, by kernel_rfl, by decide⟩
instance : TPart Tryz.prog 49 2 2 none := ⟨_, _, Tryz.underlying49, rfl, rfl, (inferInstance : T1 Tryz.prog 3)⟩
instance : TField Tryz.prog 49 3 3 := ⟨_, _, Tryz.underlying49, rfl, rfl, 1, by kernel_rfl, by decide⟩
instance : TPart Tryz.prog 49 3 3 none := ⟨_, _, Tryz.underlying49, rfl, rfl, (inferInstance : T1 Tryz.prog 30)⟩
instance : TField Tryz.prog 49 4 4 := ⟨_, _, Tryz.underlying49, rfl, rfl, 1, by kernel_rfl, by decide⟩
instance : TPart Tryz.prog 49 4 4 none := ⟨_, _, Tryz.underlying49, rfl, rfl, (inferInstance : T1 Tryz.prog 48)⟩
instance : TField Tryz.prog 49 5 5 := ⟨_, _, Tryz.underlying49, rfl, rfl, 1, by kernel_rfl, by decide⟩
instance : TPart Tryz.prog 49 5 5 none := ⟨_, _, Tryz.underlying49, rfl, rfl, (inferInstance : T1 Tryz.prog 48)⟩
instance : TField Tryz.prog 49 6 6 := ⟨_, _, Tryz.underlying49, rfl, rfl, 1, by kernel_rfl, by decide⟩
instance : TPart Tryz.prog 49 6 6 none := ⟨_, _, Tryz.underlying49, rfl, rfl, (inferInstance : T1 Tryz.prog 4)⟩
instance : TField Tryz.prog 49 7 7 := ⟨_, _, Tryz.underlying49, rfl, rfl, 1, by kernel_rfl, by decide⟩
instance : TPart Tryz.prog 49 7 7 none := ⟨_, _, Tryz.underlying49, rfl, rfl, (inferInstance : T1 Tryz.prog 4)⟩
instance : TField Tryz.prog 49 8 8 := ⟨_, _, Tryz.underlying49, rfl, rfl, 1, by kernel_rfl, by decide⟩
instance : TPart Tryz.prog 49 8 8 none := ⟨_, _, Tryz.underlying49, rfl, rfl, (inferInstance : T1 Tryz.prog 4)⟩
instance : TN Tryz.prog 50 9 := ⟨.inl ⟨_, Tryz.underlying50⟩, by kernel_rfl⟩
instance : TZero Tryz.prog 50 (.agg #[.int .i64 0, .int .i64 0, .int .i64 0, .slice none 0 0, .slice none 0 0, .slice none 0 0, .bool false, .bool false, .bool false]) := ⟨by kernel_rfl⟩
instance : TBuild Tryz.prog 50 [(0, 1), (1, 1), (2, 1), (3, 1), (4, 1), (5, 1), (6, 1), (7, 1), (8, 1)] := ⟨_, Tryz.underlying50, by kernel_rfl⟩
instance : TField Tryz.prog 50 0 0 := ⟨_, _, Tryz.underlying50, rfl, rfl, 1, by kernel_rfl, by decide⟩
instance : TPart Tryz.prog 50 0 0 none := ⟨_, _, Tryz.underlying50, rfl, rfl, (inferInstance : T1 Tryz.prog 3)⟩
instance : TField Tryz.prog 50 1 1 := ⟨_, _, Tryz.underlying50, rfl, rfl, 1, by kernel_rfl, by decide⟩
instance : TPart Tryz.prog 50 1 1 none := ⟨_, _, Tryz.underlying50, rfl, rfl, (inferInstance : T1 Tryz.prog 3)⟩
instance : TField Tryz.prog 50 2 2 := ⟨_, _, Tryz.underlying50, rfl, rfl, 1, by kernel_rfl, by decide⟩
instance : TPart Tryz.prog 50 2 2 none := ⟨_, _, Tryz.underlying50, rfl, rfl, (inferInstance : T1 Tryz.prog 3)⟩
instance : TField Tryz.prog 50 3 3 := ⟨_, _, Tryz.underlying50, rfl, rfl, 1, by kernel_rfl, by decide⟩
instance : TPart Tryz.prog 50 3 3 none := ⟨_, _, Tryz.underlying50, rfl, rfl, (inferInstance : T1 Tryz.prog 30)⟩
instance : TField Tryz.prog 50 4 4 := ⟨_, _, Tryz.underlying50, rfl, rfl, 1, by kernel_rfl, by decide⟩
instance : TPart Tryz.prog 50 4 4 none := ⟨_, _, Tryz.underlying50, rfl, rfl, (inferInstance : T1 Tryz.prog 48)⟩
instance : TField Tryz.prog 50 5 5 := ⟨_, _, Tryz.underlying50, rfl, rfl, 1, by kernel_rfl, by decide⟩
instance : TPart Tryz.prog 50 5 5 none := ⟨_, _, Tryz.underlying50, rfl, rfl, (inferInstance : T1 Tryz.prog 48)⟩
instance : TField Tryz.prog 50 6 6 := ⟨_, _, Tryz.underlying50, rfl, rfl, 1, by kernel_rfl, by decide⟩
instance : TPart Tryz.prog 50 6 6 none := ⟨_, _, Tryz.underlying50, rfl, rfl, (inferInstance : T1 Tryz.prog 4)⟩
instance : TField Tryz.prog 50 7 7 := ⟨_, _, Tryz.underlying50, rfl, rfl, 1, by kernel_rfl, by decide⟩
instance : TPart Tryz.prog 50 7 7 none := ⟨_, _, Tryz.underlying50, rfl, rfl, (inferInstance : T1 Tryz.prog 4)⟩
instance : TField Tryz.prog 50 8 8 := ⟨_, _, Tryz.underlying50, rfl, rfl, 1, by kernel_rfl, by decide⟩
instance : TPart Tryz.prog 50 8 8 none := ⟨_, _, Tryz.underlying50, rfl, rfl, (inferInstance : T1 Tryz.prog 4)⟩
instance : T1 Tryz.prog 52 := ⟨⟨_, Tryz.underlying52, (fun _ h => nomatch h), (fun _ _ h => nomatch h)⟩, by kernel_rfl⟩
instance : TZero Tryz.prog 52 (.pointer none) := ⟨by kernel_rfl⟩
instance : TPtr Tryz.prog 52 := ⟨⟨_, Tryz.underlying52⟩⟩
instance : T1 Tryz.prog 53 := ⟨⟨_, Tryz.underlying53, (fun _ h => nomatch h), (fun _ _ h => nomatch h)⟩, by kernel_rfl⟩
instance : TZero Tryz.prog 53 (.slice none 0 0) := ⟨by kernel_rfl⟩
instance : TSlice Tryz.prog 53 101 4 64 := ⟨Tryz.underlying53, by kernel_rfl⟩
instance : T1 Tryz.prog 54 := ⟨⟨_, Tryz.underlying54, (fun _ h => nomatch h), (fun _ _ h => nomatch h)⟩, by kernel_rfl⟩
instance : TZero Tryz.prog 54 (.slice none 0 0) := ⟨by kernel_rfl⟩
instance : TSlice Tryz.prog 54 51 1 8 := ⟨Tryz.underlying54, by kernel_rfl⟩
instance : TN Tryz.prog 55 3 := ⟨.inl ⟨_, Tryz.underlying55⟩, by kernel_rfl⟩
instance : TZero Tryz.prog 55 (.agg #[.pointer none, .slice none 0 0, .slice none 0 0]) := ⟨by kernel_rfl⟩
instance : TBuild Tryz.prog 55 [(0, 1), (1, 1), (2, 1)] := ⟨_, Tryz.underlying55, by kernel_rfl⟩
instance : TField Tryz.prog 55 0 0 := ⟨_, _, Tryz.underlying55, rfl, rfl, 1, by kernel_rfl, by decide⟩
instance : TPart Tryz.prog 55 0 0 none := ⟨_, _, Tryz.underlying55, rfl, rfl, (inferInstance : T1 Tryz.prog 52)⟩
instance : TField Tryz.prog 55 1 1 := ⟨_, _, Tryz.underlying55, rfl, rfl, 1, by kernel_rfl, by decide⟩
instance : TPart Tryz.prog 55 1 1 none := ⟨_, _, Tryz.underlying55, rfl, rfl, (inferInstance : T1 Tryz.prog 53)⟩
instance : TField Tryz.prog 55 2 2 := ⟨_, _, Tryz.underlying55, rfl, rfl, 1, by kernel_rfl, by decide⟩
instance : TPart Tryz.prog 55 2 2 none := ⟨_, _, Tryz.underlying55, rfl, rfl, (inferInstance : T1 Tryz.prog 54)⟩
instance : TN Tryz.prog 56 3 := ⟨.inl ⟨_, Tryz.underlying56⟩, by kernel_rfl⟩
instance : TZero Tryz.prog 56 (.agg #[.pointer none, .slice none 0 0, .slice none 0 0]) := ⟨by kernel_rfl⟩
instance : TBuild Tryz.prog 56 [(0, 1), (1, 1), (2, 1)] := ⟨_, Tryz.underlying56, by kernel_rfl⟩
instance : TField Tryz.prog 56 0 0 := ⟨_, _, Tryz.underlying56, rfl, rfl, 1, by kernel_rfl, by decide⟩
instance : TPart Tryz.prog 56 0 0 none := ⟨_, _, Tryz.underlying56, rfl, rfl, (inferInstance : T1 Tryz.prog 52)⟩
instance : TField Tryz.prog 56 1 1 := ⟨_, _, Tryz.underlying56, rfl, rfl, 1, by kernel_rfl, by decide⟩
instance : TPart Tryz.prog 56 1 1 none := ⟨_, _, Tryz.underlying56, rfl, rfl, (inferInstance : T1 Tryz.prog 53)⟩
instance : TField Tryz.prog 56 2 2 := ⟨_, _, Tryz.underlying56, rfl, rfl, 1, by kernel_rfl, by decide⟩
instance : TPart Tryz.prog 56 2 2 none := ⟨_, _, Tryz.underlying56, rfl, rfl, (inferInstance : T1 Tryz.prog 54)⟩
instance : T1 Tryz.prog 59 := ⟨⟨_, Tryz.underlying59, (fun _ h => nomatch h), (fun _ _ h => nomatch h)⟩, by kernel_rfl⟩
instance : TZero Tryz.prog 59 (.nilFunc) := ⟨by kernel_rfl⟩
instance : TN Tryz.prog 60 3 := ⟨.inl ⟨_, Tryz.underlying60⟩, by kernel_rfl⟩
instance : TZero Tryz.prog 60 (.agg #[.int .i64 0, .int .i64 0, .int .i64 0]) := ⟨by kernel_rfl⟩
instance : TBuild Tryz.prog 60 [(0, 1), (1, 2)] := ⟨_, Tryz.underlying60, by kernel_rfl⟩
instance : TField Tryz.prog 60 0 0 := ⟨_, _, Tryz.underlying60, rfl, rfl, 1, by kernel_rfl, by decide⟩
instance : TPart Tryz.prog 60 0 0 none := ⟨_, _, Tryz.underlying60, rfl, rfl, (inferInstance : T1 Tryz.prog 3)⟩
instance : TField Tryz.prog 60 1 1 := ⟨_, _, Tryz.underlying60, rfl, rfl, 2, by kernel_rfl, by decide⟩
instance : TPart Tryz.prog 60 1 1 (some 2) := ⟨_, _, Tryz.underlying60, rfl, rfl, (inferInstance : TN Tryz.prog 32 2)⟩
instance : TN Tryz.prog 61 3 := ⟨.inl ⟨_, Tryz.underlying61⟩, by kernel_rfl⟩
instance : TZero Tryz.prog 61 (.agg #[.int .i64 0, .int .i64 0, .int .i64 0]) := ⟨by kernel_rfl⟩
instance : TBuild Tryz.prog 61 [(0, 1), (1, 2)] := ⟨_, Tryz.underlying61, by kernel_rfl⟩
instance : TField Tryz.prog 61 0 0 := ⟨_, _, Tryz.underlying61, rfl, rfl, 1, by kernel_rfl, by decide⟩
instance : TPart Tryz.prog 61 0 0 none := ⟨_, _, Tryz.underlying61, rfl, rfl, (inferInstance : T1 Tryz.prog 3)⟩
instance : TField Tryz.prog 61 1 1 := ⟨_, _, Tryz.underlying61, rfl, rfl, 2, by kernel_rfl, by decide⟩
instance : TPart Tryz.prog 61 1 1 (some 2) := ⟨_, _, Tryz.underlying61, rfl, rfl, (inferInstance : TN Tryz.prog 32 2)⟩
instance : T1 Tryz.prog 63 := ⟨⟨_, Tryz.underlying63, (fun _ h => nomatch h), (fun _ _ h => nomatch h)⟩, by kernel_rfl⟩
instance : TZero Tryz.prog 63 (.nilFunc) := ⟨by kernel_rfl⟩
instance : T1 Tryz.prog 64 := ⟨⟨_, Tryz.underlying64, (fun _ h => nomatch h), (fun _ _ h => nomatch h)⟩, by kernel_rfl⟩
instance : TZero Tryz.prog 64 (.nilFunc) := ⟨by kernel_rfl⟩
instance : T1 Tryz.prog 65 := ⟨⟨_, Tryz.underlying65, (fun _ h => nomatch h), (fun _ _ h => nomatch h)⟩, by kernel_rfl⟩
instance : TZero Tryz.prog 65 (.nilFunc) := ⟨by kernel_rfl⟩
instance : T1 Tryz.prog 66 := ⟨⟨_, Tryz.underlying66, (fun _ h => nomatch h), (fun _ _ h => nomatch h)⟩, by kernel_rfl⟩
instance : TZero Tryz.prog 66 (.nilFunc) := ⟨by kernel_rfl⟩
instance : T1 Tryz.prog 67 := ⟨⟨_, Tryz.underlying67, (fun _ h => nomatch h), (fun _ _ h => nomatch h)⟩, by kernel_rfl⟩
instance : TZero Tryz.prog 67 (.nilFunc) := ⟨by kernel_rfl⟩
instance : T1 Tryz.prog 68 := ⟨⟨_, Tryz.underlying68, (fun _ h => nomatch h), (fun _ _ h => nomatch h)⟩, by kernel_rfl⟩
instance : TZero Tryz.prog 68 (.nilFunc) := ⟨by kernel_rfl⟩
instance : TN Tryz.prog 71 3 := ⟨.inl ⟨_, Tryz.underlying71⟩, by kernel_rfl⟩
instance : TZero Tryz.prog 71 (.agg #[.int .i64 0, .int .i64 0, .int .u64 0]) := ⟨by kernel_rfl⟩
instance : TBuild Tryz.prog 71 [(0, 1), (1, 1), (2, 1)] := ⟨_, Tryz.underlying71, by kernel_rfl⟩
instance : TField Tryz.prog 71 0 0 := ⟨_, _, Tryz.underlying71, rfl, rfl, 1, by kernel_rfl, by decide⟩
instance : TPart Tryz.prog 71 0 0 none := ⟨_, _, Tryz.underlying71, rfl, rfl, (inferInstance : T1 Tryz.prog 3)⟩
instance : TField Tryz.prog 71 1 1 := ⟨_, _, Tryz.underlying71, rfl, rfl, 1, by kernel_rfl, by decide⟩
instance : TPart Tryz.prog 71 1 1 none := ⟨_, _, Tryz.underlying71, rfl, rfl, (inferInstance : T1 Tryz.prog 3)⟩
instance : TField Tryz.prog 71 2 2 := ⟨_, _, Tryz.underlying71, rfl, rfl, 1, by kernel_rfl, by decide⟩
instance : TPart Tryz.prog 71 2 2 none := ⟨_, _, Tryz.underlying71, rfl, rfl, (inferInstance : T1 Tryz.prog 29)⟩
instance : TN Tryz.prog 73 2 := ⟨.inr ⟨_, _, Tryz.underlying73⟩, by kernel_rfl⟩
instance : TZero Tryz.prog 73 (.agg #[.int .i64 0, .int .i64 0]) := ⟨by kernel_rfl⟩
instance : TArr Tryz.prog 73 2 3 1 := ⟨Tryz.underlying73, by kernel_rfl⟩
instance : T1 Tryz.prog 74 := ⟨⟨_, Tryz.underlying74, (fun _ h => nomatch h), (fun _ _ h => nomatch h)⟩, by kernel_rfl⟩
instance : TZero Tryz.prog 74 (.nilFunc) := ⟨by kernel_rfl⟩
instance : T1 Tryz.prog 75 := ⟨⟨_, Tryz.underlying75, (fun _ h => nomatch h), (fun _ _ h => nomatch h)⟩, by kernel_rfl⟩
instance : TZero Tryz.prog 75 (.nilFunc) := ⟨by kernel_rfl⟩
instance : T1 Tryz.prog 76 := ⟨⟨_, Tryz.underlying76, (fun _ h => nomatch h), (fun _ _ h => nomatch h)⟩, by kernel_rfl⟩
instance : TZero Tryz.prog 76 (.slice none 0 0) := ⟨by kernel_rfl⟩
instance : TSlice Tryz.prog 76 4 1 1 := ⟨Tryz.underlying76, by kernel_rfl⟩
instance : TN Tryz.prog 77 3 := ⟨.inr ⟨_, _, Tryz.underlying77⟩, by kernel_rfl⟩
instance : TZero Tryz.prog 77 (.agg #[.int .i64 0, .int .i64 0, .int .i64 0]) := ⟨by kernel_rfl⟩
instance : TArr Tryz.prog 77 3 3 1 := ⟨Tryz.underlying77, by kernel_rfl⟩
instance : T1 Tryz.prog 79 := ⟨⟨_, Tryz.underlying79, (fun _ h => nomatch h), (fun _ _ h => nomatch h)⟩, by kernel_rfl⟩
instance : TZero Tryz.prog 79 (.nilFunc) := ⟨by kernel_rfl⟩
instance : T1 Tryz.prog 80 := ⟨⟨_, Tryz.underlying80, (fun _ h => nomatch h), (fun _ _ h => nomatch h)⟩, by kernel_rfl⟩
instance : TZero Tryz.prog 80 (.pointer none) := ⟨by kernel_rfl⟩
instance : TPtr Tryz.prog 80 := ⟨⟨_, Tryz.underlying80⟩⟩
instance : T1 Tryz.prog 81 := ⟨⟨_, Tryz.underlying81, (fun _ h => nomatch h), (fun _ _ h => nomatch h)⟩, by kernel_rfl⟩
instance : TZero Tryz.prog 81 (.pointer none) := ⟨by kernel_rfl⟩
instance : TPtr Tryz.prog 81 := ⟨⟨_, Tryz.underlying81⟩⟩
instance : T1 Tryz.prog 82 := ⟨⟨_, Tryz.underlying82, (fun _ h => nomatch h), (fun _ _ h => nomatch h)⟩, by kernel_rfl⟩
instance : TZero Tryz.prog 82 (.pointer none) := ⟨by kernel_rfl⟩
instance : TPtr Tryz.prog 82 := ⟨⟨_, Tryz.underlying82⟩⟩
instance : T1 Tryz.prog 83 := ⟨⟨_, Tryz.underlying83, (fun _ h => nomatch h), (fun _ _ h => nomatch h)⟩, by kernel_rfl⟩
instance : TZero Tryz.prog 83 (.pointer none) := ⟨by kernel_rfl⟩
instance : TPtr Tryz.prog 83 := ⟨⟨_, Tryz.underlying83⟩⟩
instance : T1 Tryz.prog 84 := ⟨⟨_, Tryz.underlying84, (fun _ h => nomatch h), (fun _ _ h => nomatch h)⟩, by kernel_rfl⟩
instance : TZero Tryz.prog 84 (.pointer none) := ⟨by kernel_rfl⟩
instance : TPtr Tryz.prog 84 := ⟨⟨_, Tryz.underlying84⟩⟩
instance : T1 Tryz.prog 85 := ⟨⟨_, Tryz.underlying85, (fun _ h => nomatch h), (fun _ _ h => nomatch h)⟩, by kernel_rfl⟩
instance : TZero Tryz.prog 85 (.pointer none) := ⟨by kernel_rfl⟩
instance : TPtr Tryz.prog 85 := ⟨⟨_, Tryz.underlying85⟩⟩
instance : T1 Tryz.prog 86 := ⟨⟨_, Tryz.underlying86, (fun _ h => nomatch h), (fun _ _ h => nomatch h)⟩, by kernel_rfl⟩
instance : TZero Tryz.prog 86 (.pointer none) := ⟨by kernel_rfl⟩
instance : TPtr Tryz.prog 86 := ⟨⟨_, Tryz.underlying86⟩⟩
instance : T1 Tryz.prog 87 := ⟨⟨_, Tryz.underlying87, (fun _ h => nomatch h), (fun _ _ h => nomatch h)⟩, by kernel_rfl⟩
instance : TZero Tryz.prog 87 (.map none) := ⟨by kernel_rfl⟩
instance : TMap Tryz.prog 87 3 143 := ⟨Tryz.underlying87⟩
instance : T1 Tryz.prog 88 := ⟨⟨_, Tryz.underlying88, (fun _ h => nomatch h), (fun _ _ h => nomatch h)⟩, by kernel_rfl⟩
instance : TZero Tryz.prog 88 (.map none) := ⟨by kernel_rfl⟩
instance : TMap Tryz.prog 88 3 80 := ⟨Tryz.underlying88⟩
instance : TN Tryz.prog 90 8 := ⟨.inl ⟨_, Tryz.underlying90⟩, by kernel_rfl⟩
instance : TZero Tryz.prog 90 (.agg #[.pointer none, .pointer none, .pointer none, .pointer none, .pointer none, .pointer none, .map none, .map none]) := ⟨by kernel_rfl⟩
instance : TBuild Tryz.prog 90 [(0, 1), (1, 1), (2, 1), (3, 1), (4, 1), (5, 1), (6, 1), (7, 1)] := ⟨_, Tryz.underlying90, by kernel_rfl⟩
instance : TField Tryz.prog 90 0 0 := ⟨_, _, Tryz.underlying90, rfl, rfl, 1, by kernel_rfl, by decide⟩
instance : TPart Tryz.prog 90 0 0 none := ⟨_, _, Tryz.underlying90, rfl, rfl, (inferInstance : T1 Tryz.prog 81)⟩
instance : TField Tryz.prog 90 1 1 := ⟨_, _, Tryz.underlying90, rfl, rfl, 1, by kernel_rfl, by decide⟩
instance : TPart Tryz.prog 90 1 1 none := ⟨_, _, Tryz.underlying90, rfl, rfl, (inferInstance : T1 Tryz.prog 82)⟩
instance : TField Tryz.prog 90 2 2 := ⟨_, _, Tryz.underlying90, rfl, rfl, 1, by kernel_rfl, by decide⟩
instance : TPart Tryz.prog 90 2 2 none := ⟨_, _, Tryz.underlying90, rfl, rfl, (inferInstance : T1 Tryz.prog 83)⟩
instance : TField Tryz.prog 90 3 3 := ⟨_, _, Tryz.underlying90, rfl, rfl, 1, by kernel_rfl, by decide⟩
instance : TPart Tryz.prog 90 3 3 none := ⟨_, _, Tryz.underlying90, rfl, rfl, (inferInstance : T1 Tryz.prog 84)⟩
instance : TField Tryz.prog 90 4 4 := ⟨_, _, Tryz.underlying90, rfl, rfl, 1, by kernel_rfl, by decide⟩
instance : TPart Tryz.prog 90 4 4 none := ⟨_, _, Tryz.underlying90, rfl, rfl, (inferInstance : T1 Tryz.prog 85)⟩
instance : TField Tryz.prog 90 5 5 := ⟨_, _, Tryz.underlying90, rfl, rfl, 1, by kernel_rfl, by decide⟩
instance : TPart Tryz.prog 90 5 5 none := ⟨_, _, Tryz.underlying90, rfl, rfl, (inferInstance : T1 Tryz.prog 86)⟩
instance : TField Tryz.prog 90 6 6 := ⟨_, _, Tryz.underlying90, rfl, rfl, 1, by kernel_rfl, by decide⟩
instance : TPart Tryz.prog 90 6 6 none := ⟨_, _, Tryz.underlying90, rfl, rfl, (inferInstance : T1 Tryz.prog 87)⟩
instance : TField Tryz.prog 90 7 7 := ⟨_, _, Tryz.underlying90, rfl, rfl, 1, by kernel_rfl, by decide⟩
instance : TPart Tryz.prog 90 7 7 none := ⟨_, _, Tryz.underlying90, rfl, rfl, (inferInstance : T1 Tryz.prog 88)⟩
instance : T1 Tryz.prog 91 := ⟨⟨_, Tryz.underlying91, (fun _ h => nomatch h), (fun _ _ h => nomatch h)⟩, by kernel_rfl⟩
instance : TZero Tryz.prog 91 (.nilFunc) := ⟨by kernel_rfl⟩
instance : T1 Tryz.prog 92 := ⟨⟨_, Tryz.underlying92, (fun _ h => nomatch h), (fun _ _ h => nomatch h)⟩, by kernel_rfl⟩
instance : TZero Tryz.prog 92 (.nilFunc) := ⟨by kernel_rfl⟩
instance : T1 Tryz.prog 93 := ⟨⟨_, Tryz.underlying93, (fun _ h => nomatch h), (fun _ _ h => nomatch h)⟩, by kernel_rfl⟩
instance : TZero Tryz.prog 93 (.nilFunc) := ⟨by kernel_rfl⟩
instance : T1 Tryz.prog 95 := ⟨⟨_, Tryz.underlying95, (fun _ h => nomatch h), (fun _ _ h => nomatch h)⟩, by kernel_rfl⟩
instance : TZero Tryz.prog 95 (.nilFunc) := ⟨by kernel_rfl⟩
instance : T1 Tryz.prog 96 := ⟨⟨_, Tryz.underlying96, (fun _ h => nomatch h), (fun _ _ h => nomatch h)⟩, by kernel_rfl⟩
instance : TZero Tryz.prog 96 (.nilFunc) := ⟨by kernel_rfl⟩
instance : T1 Tryz.prog 97 := ⟨⟨_, Tryz.underlying97, (fun _ h => nomatch h), (fun _ _ h => nomatch h)⟩, by kernel_rfl⟩
instance : TZero Tryz.prog 97 (.nilFunc) := ⟨by kernel_rfl⟩
instance : TN Tryz.prog 100 4 := ⟨.inl ⟨_, Tryz.underlying100⟩, by kernel_rfl⟩
instance : TZero Tryz.prog 100 (.agg #[.int .i64 0, .slice none 0 0, .int .i64 0, .slice none 0 0]) := ⟨by kernel_rfl⟩
instance : TBuild Tryz.prog 100 [(0, 1), (1, 1), (2, 1), (3, 1)] := ⟨_, Tryz.underlying100, by kernel_rfl⟩
instance : TField Tryz.prog 100 0 0 := ⟨_, _, Tryz.underlying100, rfl, rfl, 1, by kernel_rfl, by decide⟩
instance : TPart Tryz.prog 100 0 0 none := ⟨_, _, Tryz.underlying100, rfl, rfl, (inferInstance : T1 Tryz.prog 3)⟩
instance : TField Tryz.prog 100 1 1 := ⟨_, _, Tryz.underlying100, rfl, rfl, 1, by kernel_rfl, by decide⟩
instance : TPart Tryz.prog 100 1 1 none := ⟨_, _, Tryz.underlying100, rfl, rfl, (inferInstance : T1 Tryz.prog 48)⟩
instance : TField Tryz.prog 100 2 2 := ⟨_, _, Tryz.underlying100, rfl, rfl, 1, by kernel_rfl, by decide⟩
instance : TPart Tryz.prog 100 2 2 none := ⟨_, _, Tryz.underlying100, rfl, rfl, (inferInstance : T1 Tryz.prog 3)⟩
instance : TField Tryz.prog 100 3 3 := ⟨_, _, Tryz.underlying100, rfl, rfl, 1, by kernel_rfl, by decide⟩
instance : TPart Tryz.prog 100 3 3 none := ⟨_, _, Tryz.underlying100, rfl, rfl, (inferInstance : T1 Tryz.prog 48)⟩
instance : TN Tryz.prog 101 4 := ⟨.inl ⟨_, Tryz.underlying101⟩, by kernel_rfl⟩
instance : TZero Tryz.prog 101 (.agg #[.int .i64 0, .slice none 0 0, .int .i64 0, .slice none 0 0]) := ⟨by kernel_rfl⟩
instance : TBuild Tryz.prog 101 [(0, 1), (1, 1), (2, 1), (3, 1)] := ⟨_, Tryz.underlying101, by kernel_rfl⟩
instance : TField Tryz.prog 101 0 0 := ⟨_, _, Tryz.underlying101, rfl, rfl, 1, by kernel_rfl, by decide⟩
instance : TPart Tryz.prog 101 0 0 none := ⟨_, _, Tryz.underlying101, rfl, rfl, (inferInstance : T1 Tryz.prog 3)⟩
instance : TField Tryz.prog 101 1 1 := ⟨_, _, Tryz.underlying101, rfl, rfl, 1, by kernel_rfl, by decide⟩
instance : TPart Tryz.prog 101 1 1 none := ⟨_, _, Tryz.underlying101, rfl, rfl, (inferInstance : T1 Tryz.prog 48)⟩
instance : TField Tryz.prog 101 2 2 := ⟨_, _, Tryz.underlying101, rfl, rfl, 1, by kernel_rfl, by decide⟩
instance : TPart Tryz.prog 101 2 2 none := ⟨_, _, Tryz.underlying101, rfl, rfl, (inferInstance : T1 Tryz.prog 3)⟩
instance : TField Tryz.prog 101 3 3 := ⟨_, _, Tryz.underlying101, rfl, rfl, 1, by kernel_rfl, by decide⟩
instance : TPart Tryz.prog 101 3 3 none := ⟨_, _, Tryz.underlying101, rfl, rfl, (inferInstance : T1 Tryz.prog 48)⟩
instance : T1 Tryz.prog 103 := ⟨⟨_, Tryz.underlying103, (fun _ h => nomatch h), (fun _ _ h => nomatch h)⟩, by kernel_rfl⟩
instance : TZero Tryz.prog 103 (.nilFunc) := ⟨by kernel_rfl⟩
instance : T1 Tryz.prog 104 := ⟨⟨_, Tryz.underlying104, (fun _ h => nomatch h), (fun _ _ h => nomatch h)⟩, by kernel_rfl⟩
instance : TZero Tryz.prog 104 (.nilFunc) := ⟨by kernel_rfl⟩
instance : T1 Tryz.prog 105 := ⟨⟨_, Tryz.underlying105, (fun _ h => nomatch h), (fun _ _ h => nomatch h)⟩, by kernel_rfl⟩
instance : TZero Tryz.prog 105 (.nilFunc) := ⟨by kernel_rfl⟩
instance : T1 Tryz.prog 106 := ⟨⟨_, Tryz.underlying106, (fun _ h => nomatch h), (fun _ _ h => nomatch h)⟩, by kernel_rfl⟩
instance : TZero Tryz.prog 106 (.slice none 0 0) := ⟨by kernel_rfl⟩
instance : TSlice Tryz.prog 106 241 2 16 := ⟨Tryz.underlying106, by kernel_rfl⟩
instance : T1 Tryz.prog 107 := ⟨⟨_, Tryz.underlying107, (fun _ h => nomatch h), (fun _ _ h => nomatch h)⟩, by kernel_rfl⟩
instance : TZero Tryz.prog 107 (.nilFunc) := ⟨by kernel_rfl⟩
instance : TN Tryz.prog 108 4 := ⟨.inl ⟨_, Tryz.underlying108⟩, by kernel_rfl⟩
instance : TZero Tryz.prog 108 (.agg #[.int .i64 0, .int .i64 0, .bool false, .bool false]) := ⟨by kernel_rfl⟩
instance : TBuild Tryz.prog 108 [(0, 1), (1, 1), (2, 1), (3, 1)] := ⟨_, Tryz.underlying108, by kernel_rfl⟩
instance : TField Tryz.prog 108 0 0 := ⟨_, _, Tryz.underlying108, rfl, rfl, 1, by kernel_rfl, by decide⟩
instance : TPart Tryz.prog 108 0 0 none := ⟨_, _, Tryz.underlying108, rfl, rfl, (inferInstance : T1 Tryz.prog 3)⟩
instance : TField Tryz.prog 108 1 1 := ⟨_, _, Tryz.underlying108, rfl, rfl, 1, by kernel_rfl, by decide⟩
instance : TPart Tryz.prog 108 1 1 none := ⟨_, _, Tryz.underlying108, rfl, rfl, (inferInstance : T1 Tryz.prog 3)⟩
instance : TField Tryz.prog 108 2 2 := ⟨_, _, Tryz.underlying108, rfl, rfl, 1, by kernel_rfl, by decide⟩
instance : TPart Tryz.prog 108 2 2 none := ⟨_, _, Tryz.underlying108, rfl, rfl, (inferInstance : T1 Tryz.prog 4)⟩
instance : TField Tryz.prog 108 3 3 := ⟨_, _, Tryz.underlying108, rfl, rfl, 1, by kernel_rfl, by decide⟩
instance : TPart Tryz.prog 108 3 3 none := ⟨_, _, Tryz.underlying108, rfl, rfl, (inferInstance : T1 Tryz.prog 4)⟩
instance : TN Tryz.prog 109 4 := ⟨.inl ⟨_, Tryz.underlying109⟩, by kernel_rfl⟩
instance : TZero Tryz.prog 109 (.agg #[.int .i64 0, .int .i64 0, .bool false, .bool false]) := ⟨by kernel_rfl⟩
instance : TBuild Tryz.prog 109 [(0, 1), (1, 1), (2, 1), (3, 1)] := ⟨_, Tryz.underlying109, by kernel_rfl⟩
instance : TField Tryz.prog 109 0 0 := ⟨_, _, Tryz.underlying109, rfl, rfl, 1, by kernel_rfl, by decide⟩
instance : TPart Tryz.prog 109 0 0 none := ⟨_, _, Tryz.underlying109, rfl, rfl, (inferInstance : T1 Tryz.prog 3)⟩
instance : TField Tryz.prog 109 1 1 := ⟨_, _, Tryz.underlying109, rfl, rfl, 1, by kernel_rfl, by decide⟩
instance : TPart Tryz.prog 109 1 1 none := ⟨_, _, Tryz.underlying109, rfl, rfl, (inferInstance : T1 Tryz.prog 3)⟩
instance : TField Tryz.prog 109 2 2 := ⟨_, _, Tryz.underlying109, rfl, rfl, 1, by kernel_rfl, by decide⟩
instance : TPart Tryz.prog 109 2 2 none := ⟨_, _, Tryz.underlying109, rfl, rfl, (inferInstance : T1 Tryz.prog 4)⟩
instance : TField Tryz.prog 109 3 3 := ⟨_, _, Tryz.underlying109, rfl, rfl, 1, by kernel_rfl, by decide⟩
instance : TPart Tryz.prog 109 3 3 none := ⟨_, _, Tryz.underlying109, rfl, rfl, (inferInstance : T1 Tryz.prog 4)⟩
instance : T1 Tryz.prog 112 := ⟨⟨_, Tryz.underlying112, (fun _ h => nomatch h), (fun _ _ h => nomatch h)⟩, by kernel_rfl⟩
instance : TZero Tryz.prog 112 (.nilFunc) := ⟨by kernel_rfl⟩
instance : T1 Tryz.prog 114 := ⟨⟨_, Tryz.underlying114, (fun _ h => nomatch h), (fun _ _ h => nomatch h)⟩, by kernel_rfl⟩
instance : TZero Tryz.prog 114 (.nilFunc) := ⟨by kernel_rfl⟩
instance : T1 Tryz.prog 118 := ⟨⟨_, Tryz.underlying118, (fun _ h => nomatch h), (fun _ _ h => nomatch h)⟩, by kernel_rfl⟩
instance : TZero Tryz.prog 118 (.nilFunc) := ⟨by kernel_rfl⟩
instance : T1 Tryz.prog 119 := ⟨⟨_, Tryz.underlying119, (fun _ h => nomatch h), (fun _ _ h => nomatch h)⟩, by kernel_rfl⟩
instance : TZero Tryz.prog 119 (.nilFunc) := ⟨by kernel_rfl⟩
instance : T1 Tryz.prog 120 := ⟨⟨_, Tryz.underlying120, (fun _ h => nomatch h), (fun _ _ h => nomatch h)⟩, by kernel_rfl⟩
instance : TZero Tryz.prog 120 (.nilFunc) := ⟨by kernel_rfl⟩
instance : T1 Tryz.prog 121 := ⟨⟨_, Tryz.underlying121, (fun _ h => nomatch h), (fun _ _ h => nomatch h)⟩, by kernel_rfl⟩
instance : TZero Tryz.prog 121 (.nilFunc) := ⟨by kernel_rfl⟩
instance : T1 Tryz.prog 122 := ⟨⟨_, Tryz.underlying122, (fun _ h => nomatch h), (fun _ _ h => nomatch h)⟩, by kernel_rfl⟩
instance : TZero Tryz.prog 122 (.nilFunc) := ⟨by kernel_rfl⟩
instance : T1 Tryz.prog 123 := ⟨⟨_, Tryz.underlying123, (fun _ h => nomatch h), (fun _ _ h => nomatch h)⟩, by kernel_rfl⟩
instance : TZero Tryz.prog 123 (.nilFunc) := ⟨by kernel_rfl⟩
instance : T1 Tryz.prog 124 := ⟨⟨_, Tryz.underlying124, (fun _ h => nomatch h), (fun _ _ h => nomatch h)⟩, by kernel_rfl⟩
instance : TZero Tryz.prog 124 (.int .u64 0) := ⟨by kernel_rfl⟩
instance : TInt Tryz.prog 124 .u64 := ⟨Tryz.underlying124⟩
instance : T1 Tryz.prog 125 := ⟨⟨_, Tryz.underlying125, (fun _ h => nomatch h), (fun _ _ h => nomatch h)⟩, by kernel_rfl⟩
instance : TZero Tryz.prog 125 (.nilFunc) := ⟨by kernel_rfl⟩
instance : TN Tryz.prog 126 3 := ⟨.inl ⟨_, Tryz.underlying126⟩, by kernel_rfl⟩
instance : TZero Tryz.prog 126 (.agg #[.int .i64 0, .int .i64 0, .int .i64 0]) := ⟨by kernel_rfl⟩
instance : TBuild Tryz.prog 126 [(0, 1), (1, 1), (2, 1)] := ⟨_, Tryz.underlying126, by kernel_rfl⟩
instance : TField Tryz.prog 126 0 0 := ⟨_, _, Tryz.underlying126, rfl, rfl, 1, by kernel_rfl, by decide⟩
instance : TPart Tryz.prog 126 0 0 none := ⟨_, _, Tryz.underlying126, rfl, rfl, (inferInstance : T1 Tryz.prog 3)⟩
instance : TField Tryz.prog 126 1 1 := ⟨_, _, Tryz.underlying126, rfl, rfl, 1, by kernel_rfl, by decide⟩
instance : TPart Tryz.prog 126 1 1 none := ⟨_, _, Tryz.underlying126, rfl, rfl, (inferInstance : T1 Tryz.prog 3)⟩
instance : TField Tryz.prog 126 2 2 := ⟨_, _, Tryz.underlying126, rfl, rfl, 1, by kernel_rfl, by decide⟩
instance : TPart Tryz.prog 126 2 2 none := ⟨_, _, Tryz.underlying126, rfl, rfl, (inferInstance : T1 Tryz.prog 3)⟩
instance : TN Tryz.prog 127 3 := ⟨.inl ⟨_, Tryz.underlying127⟩, by kernel_rfl⟩
instance : TZero Tryz.prog 127 (.agg #[.int .i64 0, .int .i64 0, .int .i64 0]) := ⟨by kernel_rfl⟩
instance : TBuild Tryz.prog 127 [(0, 1), (1, 1), (2, 1)] := ⟨_, Tryz.underlying127, by kernel_rfl⟩
instance : TField Tryz.prog 127 0 0 := ⟨_, _, Tryz.underlying127, rfl, rfl, 1, by kernel_rfl, by decide⟩
instance : TPart Tryz.prog 127 0 0 none := ⟨_, _, Tryz.underlying127, rfl, rfl, (inferInstance : T1 Tryz.prog 3)⟩
instance : TField Tryz.prog 127 1 1 := ⟨_, _, Tryz.underlying127, rfl, rfl, 1, by kernel_rfl, by decide⟩
instance : TPart Tryz.prog 127 1 1 none := ⟨_, _, Tryz.underlying127, rfl, rfl, (inferInstance : T1 Tryz.prog 3)⟩
instance : TField Tryz.prog 127 2 2 := ⟨_, _, Tryz.underlying127, rfl, rfl, 1, by kernel_rfl, by decide⟩
instance : TPart Tryz.prog 127 2 2 none := ⟨_, _, Tryz.underlying127, rfl, rfl, (inferInstance : T1 Tryz.prog 3)⟩
instance : T1 Tryz.prog 129 := ⟨⟨_, Tryz.underlying129, (fun _ h => nomatch h), (fun _ _ h => nomatch h)⟩, by kernel_rfl⟩
instance : TZero Tryz.prog 129 (.nilFunc) := ⟨by kernel_rfl⟩
instance : T1 Tryz.prog 130 := ⟨⟨_, Tryz.underlying130, (fun _ h => nomatch h), (fun _ _ h => nomatch h)⟩, by kernel_rfl⟩
instance : TZero Tryz.prog 130 (.nilFunc) := ⟨by kernel_rfl⟩
instance : T1 Tryz.prog 131 := ⟨⟨_, Tryz.underlying131, (fun _ h => nomatch h), (fun _ _ h => nomatch h)⟩, by kernel_rfl⟩
instance : TZero Tryz.prog 131 (.nilFunc) := ⟨by kernel_rfl⟩
instance : T1 Tryz.prog 132 := ⟨⟨_, Tryz.underlying132, (fun _ h => nomatch h), (fun _ _ h => nomatch h)⟩, by kernel_rfl⟩
instance : TZero Tryz.prog 132 (.nilFunc) := ⟨by kernel_rfl⟩
instance : T1 Tryz.prog 133 := ⟨⟨_, Tryz.underlying133, (fun _ h => nomatch h), (fun _ _ h => nomatch h)⟩, by kernel_rfl⟩
instance : TZero Tryz.prog 133 (.nilFunc) := ⟨by kernel_rfl⟩
instance : T1 Tryz.prog 134 := ⟨⟨_, Tryz.underlying134, (fun _ h => nomatch h), (fun _ _ h => nomatch h)⟩, by kernel_rfl⟩
instance : TZero Tryz.prog 134 (.nilFunc) := ⟨by kernel_rfl⟩
instance : T1 Tryz.prog 135 := ⟨⟨_, Tryz.underlying135, (fun _ h => nomatch h), (fun _ _ h => nomatch h)⟩, by kernel_rfl⟩
instance : TZero Tryz.prog 135 (.nilFunc) := ⟨by kernel_rfl⟩
instance : T1 Tryz.prog 136 := ⟨⟨_, Tryz.underlying136, (fun _ h => nomatch h), (fun _ _ h => nomatch h)⟩, by kernel_rfl⟩
instance : TZero Tryz.prog 136 (.nilFunc) := ⟨by kernel_rfl⟩
instance : T1 Tryz.prog 137 := ⟨⟨_, Tryz.underlying137, (fun _ h => nomatch h), (fun _ _ h => nomatch h)⟩, by kernel_rfl⟩
instance : TZero Tryz.prog 137 (.nilFunc) := ⟨by kernel_rfl⟩
instance : T1 Tryz.prog 139 := ⟨⟨_, Tryz.underlying139, (fun _ h => nomatch h), (fun _ _ h => nomatch h)⟩, by kernel_rfl⟩
instance : TZero Tryz.prog 139 (.nilFunc) := ⟨by kernel_rfl⟩
instance : T1 Tryz.prog 141 := ⟨⟨_, Tryz.underlying141, (fun _ h => nomatch h), (fun _ _ h => nomatch h)⟩, by kernel_rfl⟩
instance : TZero Tryz.prog 141 (.nilFunc) := ⟨by kernel_rfl⟩
instance : T1 Tryz.prog 143 := ⟨⟨_, Tryz.underlying143, (fun _ h => nomatch h), (fun _ _ h => nomatch h)⟩, by kernel_rfl⟩
instance : TZero Tryz.prog 143 (.pointer none) := ⟨by kernel_rfl⟩
instance : TPtr Tryz.prog 143 := ⟨⟨_, Tryz.underlying143⟩⟩
instance : T1 Tryz.prog 144 := ⟨⟨_, Tryz.underlying144, (fun _ h => nomatch h), (fun _ _ h => nomatch h)⟩, by kernel_rfl⟩
instance : TZero Tryz.prog 144 (.nilFunc) := ⟨by kernel_rfl⟩
instance : TN Tryz.prog 148 1 := ⟨.inl ⟨_, Tryz.underlying148⟩, by kernel_rfl⟩
instance : TZero Tryz.prog 148 (.agg #[.slice none 0 0]) := ⟨by kernel_rfl⟩
instance : TBuild Tryz.prog 148 [(0, 1)] := ⟨_, Tryz.underlying148, by kernel_rfl⟩
instance : TField Tryz.prog 148 0 0 := ⟨_, _, Tryz.underlying148, rfl, rfl, 1, by kernel_rfl, by decide⟩
instance : TPart Tryz.prog 148 0 0 none := ⟨_, _, Tryz.underlying148, rfl, rfl, (inferInstance : T1 Tryz.prog 48)⟩
instance : TN Tryz.prog 149 1 := ⟨.inl ⟨_, Tryz.underlying149⟩, by kernel_rfl⟩
instance : TZero Tryz.prog 149 (.agg #[.slice none 0 0]) := ⟨by kernel_rfl⟩
instance : TBuild Tryz.prog 149 [(0, 1)] := ⟨_, Tryz.underlying149, by kernel_rfl⟩
instance : TField Tryz.prog 149 0 0 := ⟨_, _, Tryz.underlying149, rfl, rfl, 1, by kernel_rfl, by decide⟩
instance : TPart Tryz.prog 149 0 0 none := ⟨_, _, Tryz.underlying149, rfl, rfl, (inferInstance : T1 Tryz.prog 48)⟩
instance : T1 Tryz.prog 151 := ⟨⟨_, Tryz.underlying151, (fun _ h => nomatch h), (fun _ _ h => nomatch h)⟩, by kernel_rfl⟩
instance : TZero Tryz.prog 151 (.nilFunc) := ⟨by kernel_rfl⟩
instance : T1 Tryz.prog 152 := ⟨⟨_, Tryz.underlying152, (fun _ h => nomatch h), (fun _ _ h => nomatch h)⟩, by kernel_rfl⟩
instance : TZero Tryz.prog 152 (.nilFunc) := ⟨by kernel_rfl⟩
instance : T1 Tryz.prog 153 := ⟨⟨_, Tryz.underlying153, (fun _ h => nomatch h), (fun _ _ h => nomatch h)⟩, by kernel_rfl⟩
instance : TZero Tryz.prog 153 (.nilFunc) := ⟨by kernel_rfl⟩
instance : T1 Tryz.prog 154 := ⟨⟨_, Tryz.underlying154, (fun _ h => nomatch h), (fun _ _ h => nomatch h)⟩, by kernel_rfl⟩
instance : TZero Tryz.prog 154 (.nilFunc) := ⟨by kernel_rfl⟩
instance : T1 Tryz.prog 155 := ⟨⟨_, Tryz.underlying155, (fun _ h => nomatch h), (fun _ _ h => nomatch h)⟩, by kernel_rfl⟩
instance : TZero Tryz.prog 155 (.map none) := ⟨by kernel_rfl⟩
instance : TMap Tryz.prog 155 3 3 := ⟨Tryz.underlying155⟩
instance : T1 Tryz.prog 156 := ⟨⟨_, Tryz.underlying156, (fun _ h => nomatch h), (fun _ _ h => nomatch h)⟩, by kernel_rfl⟩
instance : TZero Tryz.prog 156 (.nilFunc) := ⟨by kernel_rfl⟩
instance : T1 Tryz.prog 157 := ⟨⟨_, Tryz.underlying157, (fun _ h => nomatch h), (fun _ _ h => nomatch h)⟩, by kernel_rfl⟩
instance : TZero Tryz.prog 157 (.nilFunc) := ⟨by kernel_rfl⟩
instance : T1 Tryz.prog 159 := ⟨⟨_, Tryz.underlying159, (fun _ h => nomatch h), (fun _ _ h => nomatch h)⟩, by kernel_rfl⟩
instance : TZero Tryz.prog 159 (.nilFunc) := ⟨by kernel_rfl⟩
instance : T1 Tryz.prog 163 := ⟨⟨_, Tryz.underlying163, (fun _ h => nomatch h), (fun _ _ h => nomatch h)⟩, by kernel_rfl⟩
instance : TZero Tryz.prog 163 (.nilFunc) := ⟨by kernel_rfl⟩
instance : T1 Tryz.prog 166 := ⟨⟨_, Tryz.underlying166, (fun _ h => nomatch h), (fun _ _ h => nomatch h)⟩, by kernel_rfl⟩
instance : TZero Tryz.prog 166 (.nilFunc) := ⟨by kernel_rfl⟩
instance : T1 Tryz.prog 168 := ⟨⟨_, Tryz.underlying168, (fun _ h => nomatch h), (fun _ _ h => nomatch h)⟩, by kernel_rfl⟩
instance : TZero Tryz.prog 168 (.nilFunc) := ⟨by kernel_rfl⟩
instance : T1 Tryz.prog 170 := ⟨⟨_, Tryz.underlying170, (fun _ h => nomatch h), (fun _ _ h => nomatch h)⟩, by kernel_rfl⟩
instance : TZero Tryz.prog 170 (.nilFunc) := ⟨by kernel_rfl⟩
instance : T1 Tryz.prog 171 := ⟨⟨_, Tryz.underlying171, (fun _ h => nomatch h), (fun _ _ h => nomatch h)⟩, by kernel_rfl⟩
instance : TZero Tryz.prog 171 (.nilFunc) := ⟨by kernel_rfl⟩
instance : T1 Tryz.prog 173 := ⟨⟨_, Tryz.underlying173, (fun _ h => nomatch h), (fun _ _ h => nomatch h)⟩, by kernel_rfl⟩
instance : TZero Tryz.prog 173 (.nilFunc) := ⟨by kernel_rfl⟩
instance : T1 Tryz.prog 174 := ⟨⟨_, Tryz.underlying174, (fun _ h => nomatch h), (fun _ _ h => nomatch h)⟩, by kernel_rfl⟩
instance : TZero Tryz.prog 174 (.nilFunc) := ⟨by kernel_rfl⟩
instance : T1 Tryz.prog 175 := ⟨⟨_, Tryz.underlying175, (fun _ h => nomatch h), (fun _ _ h => nomatch h)⟩, by kernel_rfl⟩
instance : TZero Tryz.prog 175 (.nilFunc) := ⟨by kernel_rfl⟩
instance : T1 Tryz.prog 176 := ⟨⟨_, Tryz.underlying176, (fun _ h => nomatch h), (fun _ _ h => nomatch h)⟩, by kernel_rfl⟩
instance : TZero Tryz.prog 176 (.nilFunc) := ⟨by kernel_rfl⟩
instance : T1 Tryz.prog 177 := ⟨⟨_, Tryz.underlying177, (fun _ h => nomatch h), (fun _ _ h => nomatch h)⟩, by kernel_rfl⟩
instance : TZero Tryz.prog 177 (.nilFunc) := ⟨by kernel_rfl⟩
instance : T1 Tryz.prog 178 := ⟨⟨_, Tryz.underlying178, (fun _ h => nomatch h), (fun _ _ h => nomatch h)⟩, by kernel_rfl⟩
instance : TZero Tryz.prog 178 (.pointer none) := ⟨by kernel_rfl⟩
instance : TPtr Tryz.prog 178 := ⟨⟨_, Tryz.underlying178⟩⟩
instance : TN Tryz.prog 179 4 := ⟨.inl ⟨_, Tryz.underlying179⟩, by kernel_rfl⟩
instance : TZero Tryz.prog 179 (.agg #[.slice none 0 0, .int .i64 0, .slice none 0 0, .pointer none]) := ⟨by kernel_rfl⟩
instance : TBuild Tryz.prog 179 [(0, 1), (1, 1), (2, 1), (3, 1)] := ⟨_, Tryz.underlying179, by kernel_rfl⟩
instance : TField Tryz.prog 179 0 0 := ⟨_, _, Tryz.underlying179, rfl, rfl, 1, by kernel_rfl, by decide⟩
instance : TPart Tryz.prog 179 0 0 none := ⟨_, _, Tryz.underlying179, rfl, rfl, (inferInstance : T1 Tryz.prog 30)⟩
instance : TField Tryz.prog 179 1 1 := ⟨_, _, Tryz.underlying179, rfl, rfl, 1, by kernel_rfl, by decide⟩
instance : TPart Tryz.prog 179 1 1 none := ⟨_, _, Tryz.underlying179, rfl, rfl, (inferInstance : T1 Tryz.prog 3)⟩
instance : TField Tryz.prog 179 2 2 := ⟨_, _, Tryz.underlying179, rfl, rfl, 1, by kernel_rfl, by decide⟩
instance : TPart Tryz.prog 179 2 2 none := ⟨_, _, Tryz.underlying179, rfl, rfl, (inferInstance : T1 Tryz.prog 48)⟩
instance : TField Tryz.prog 179 3 3 := ⟨_, _, Tryz.underlying179, rfl, rfl, 1, by kernel_rfl, by decide⟩
instance : TPart Tryz.prog 179 3 3 none := ⟨_, _, Tryz.underlying179, rfl, rfl, (inferInstance : T1 Tryz.prog 178)⟩
instance : TN Tryz.prog 180 4 := ⟨.inl ⟨_, Tryz.underlying180⟩, by kernel_rfl⟩
instance : TZero Tryz.prog 180 (.agg #[.slice none 0 0, .int .i64 0, .slice none 0 0, .pointer none]) := ⟨by kernel_rfl⟩
instance : TBuild Tryz.prog 180 [(0, 1), (1, 1), (2, 1), (3, 1)] := ⟨_, Tryz.underlying180, by kernel_rfl⟩
instance : TField Tryz.prog 180 0 0 := ⟨_, _, Tryz.underlying180, rfl, rfl, 1, by kernel_rfl, by decide⟩
instance : TPart Tryz.prog 180 0 0 none := ⟨_, _, Tryz.underlying180, rfl, rfl, (inferInstance : T1 Tryz.prog 30)⟩
instance : TField Tryz.prog 180 1 1 := ⟨_, _, Tryz.underlying180, rfl, rfl, 1, by kernel_rfl, by decide⟩
instance : TPart Tryz.prog 180 1 1 none := ⟨_, _, Tryz.underlying180, rfl, rfl, (inferInstance : T1 Tryz.prog 3)⟩
instance : TField Tryz.prog 180 2 2 := ⟨_, _, Tryz.underlying180, rfl, rfl, 1, by kernel_rfl, by decide⟩
instance : TPart Tryz.prog 180 2 2 none := ⟨_, _, Tryz.underlying180, rfl, rfl, (inferInstance : T1 Tryz.prog 48)⟩
instance : TField Tryz.prog 180 3 3 := ⟨_, _, Tryz.underlying180, rfl, rfl, 1, by kernel_rfl, by decide⟩
instance : TPart Tryz.prog 180 3 3 none := ⟨_, _, Tryz.underlying180, rfl, rfl, (inferInstance : T1 Tryz.prog 178)⟩
instance : T1 Tryz.prog 181 := ⟨⟨_, Tryz.underlying181, (fun _ h => nomatch h), (fun _ _ h => nomatch h)⟩, by kernel_rfl⟩
instance : TZero Tryz.prog 181 (.slice none 0 0) := ⟨by kernel_rfl⟩
instance : TSlice Tryz.prog 181 193 6 40 := ⟨Tryz.underlying181, by kernel_rfl⟩
instance : TN Tryz.prog 182 3 := ⟨.inl ⟨_, Tryz.underlying182⟩, by kernel_rfl⟩
instance : TZero Tryz.prog 182 (.agg #[.slice none 0 0, .pointer none, .int .i64 0]) := ⟨by kernel_rfl⟩
instance : TBuild Tryz.prog 182 [(0, 1), (1, 1), (2, 1)] := ⟨_, Tryz.underlying182, by kernel_rfl⟩
instance : TField Tryz.prog 182 0 0 := ⟨_, _, Tryz.underlying182, rfl, rfl, 1, by kernel_rfl, by decide⟩
instance : TPart Tryz.prog 182 0 0 none := ⟨_, _, Tryz.underlying182, rfl, rfl, (inferInstance : T1 Tryz.prog 181)⟩
instance : TField Tryz.prog 182 1 1 := ⟨_, _, Tryz.underlying182, rfl, rfl, 1, by kernel_rfl, by decide⟩
instance : TPart Tryz.prog 182 1 1 none := ⟨_, _, Tryz.underlying182, rfl, rfl, (inferInstance : T1 Tryz.prog 178)⟩
instance : TField Tryz.prog 182 2 2 := ⟨_, _, Tryz.underlying182, rfl, rfl, 1, by kernel_rfl, by decide⟩
instance : TPart Tryz.prog 182 2 2 none := ⟨_, _, Tryz.underlying182, rfl, rfl, (inferInstance : T1 Tryz.prog 3)⟩
instance : TN Tryz.prog 183 3 := ⟨.inl ⟨_, Tryz.underlying183⟩, by kernel_rfl⟩
instance : TZero Tryz.prog 183 (.agg #[.slice none 0 0, .pointer none, .int .i64 0]) := ⟨by kernel_rfl⟩
instance : TBuild Tryz.prog 183 [(0, 1), (1, 1), (2, 1)] := ⟨_, Tryz.underlying183, by kernel_rfl⟩
instance : TField Tryz.prog 183 0 0 := ⟨_, _, Tryz.underlying183, rfl, rfl, 1, by kernel_rfl, by decide⟩
instance : TPart Tryz.prog 183 0 0 none := ⟨_, _, Tryz.underlying183, rfl, rfl, (inferInstance : T1 Tryz.prog 181)⟩
instance : TField Tryz.prog 183 1 1 := ⟨_, _, Tryz.underlying183, rfl, rfl, 1, by kernel_rfl, by decide⟩
instance : TPart Tryz.prog 183 1 1 none := ⟨_, _, Tryz.underlying183, rfl, rfl, (inferInstance : T1 Tryz.prog 178)⟩
instance : TField Tryz.prog 183 2 2 := ⟨_, _, Tryz.underlying183, rfl, rfl, 1, by kernel_rfl, by decide⟩
instance : TPart Tryz.prog 183 2 2 none := ⟨_, _, Tryz.underlying183, rfl, rfl, (inferInstance : T1 Tryz.prog 3)⟩
instance : T1 Tryz.prog 185 := ⟨⟨_, Tryz.underlying185, (fun _ h => nomatch h), (fun _ _ h => nomatch h)⟩, by kernel_rfl⟩
instance : TZero Tryz.prog 185 (.map none) := ⟨by kernel_rfl⟩
instance : TMap Tryz.prog 185 241 3 := ⟨Tryz.underlying185⟩
instance : T1 Tryz.prog 186 := ⟨⟨_, Tryz.underlying186, (fun _ h => nomatch h), (fun _ _ h => nomatch h)⟩, by kernel_rfl⟩
instance : TZero Tryz.prog 186 (.map none) := ⟨by kernel_rfl⟩
instance : TMap Tryz.prog 186 3 185 := ⟨Tryz.underlying186⟩
instance : TN Tryz.prog 187 3 := ⟨.inl ⟨_, Tryz.underlying187⟩, by kernel_rfl⟩
instance : TZero Tryz.prog 187 (.agg #[.map none, .map none, .map none]) := ⟨by kernel_rfl⟩
instance : TBuild Tryz.prog 187 [(0, 1), (1, 1), (2, 1)] := ⟨_, Tryz.underlying187, by kernel_rfl⟩
instance : TField Tryz.prog 187 0 0 := ⟨_, _, Tryz.underlying187, rfl, rfl, 1, by kernel_rfl, by decide⟩
instance : TPart Tryz.prog 187 0 0 none := ⟨_, _, Tryz.underlying187, rfl, rfl, (inferInstance : T1 Tryz.prog 185)⟩
instance : TField Tryz.prog 187 1 1 := ⟨_, _, Tryz.underlying187, rfl, rfl, 1, by kernel_rfl, by decide⟩
instance : TPart Tryz.prog 187 1 1 none := ⟨_, _, Tryz.underlying187, rfl, rfl, (inferInstance : T1 Tryz.prog 186)⟩
instance : TField Tryz.prog 187 2 2 := ⟨_, _, Tryz.underlying187, rfl, rfl, 1, by kernel_rfl, by decide⟩
instance : TPart Tryz.prog 187 2 2 none := ⟨_, _, Tryz.underlying187, rfl, rfl, (inferInstance : T1 Tryz.prog 186)⟩
instance : TN Tryz.prog 188 3 := ⟨.inl ⟨_, Tryz.underlying188⟩, by kernel_rfl⟩
instance : TZero Tryz.prog 188 (.agg #[.map none, .map none, .map none]) := ⟨by kernel_rfl⟩
instance : TBuild Tryz.prog 188 [(0, 1), (1, 1), (2, 1)] := ⟨_, Tryz.underlying188, by kernel_rfl⟩
instance : TField Tryz.prog 188 0 0 := ⟨_, _, Tryz.underlying188, rfl, rfl, 1, by kernel_rfl, by decide⟩
instance : TPart Tryz.prog 188 0 0 none := ⟨_, _, Tryz.underlying188, rfl, rfl, (inferInstance : T1 Tryz.prog 185)⟩
instance : TField Tryz.prog 188 1 1 := ⟨_, _, Tryz.underlying188, rfl, rfl, 1, by kernel_rfl, by decide⟩
instance : TPart Tryz.prog 188 1 1 none := ⟨_, _, Tryz.underlying188, rfl, rfl, (inferInstance : T1 Tryz.prog 186)⟩
instance : TField Tryz.prog 188 2 2 := ⟨_, _, Tryz.underlying188, rfl, rfl, 1, by kernel_rfl, by decide⟩
instance : TPart Tryz.prog 188 2 2 none := ⟨_, _, Tryz.underlying188, rfl, rfl, (inferInstance : T1 Tryz.prog 186)⟩
instance : T1 Tryz.prog 189 := ⟨⟨_, Tryz.underlying189, (fun _ h => nomatch h), (fun _ _ h => nomatch h)⟩, by kernel_rfl⟩
instance : TZero Tryz.prog 189 (.pointer none) := ⟨by kernel_rfl⟩
instance : TPtr Tryz.prog 189 := ⟨⟨_, Tryz.underlying189⟩⟩
instance : TN Tryz.prog 193 6 := ⟨.inl ⟨_, Tryz.underlying193⟩, by kernel_rfl⟩
instance : TZero Tryz.prog 193 (.agg #[.int .i64 0, .bool false, .int .i64 0, .int .i64 0, .bool false, .bool false]) := ⟨by kernel_rfl⟩
instance : TBuild Tryz.prog 193 [(0, 1), (1, 1), (2, 4)] := ⟨_, Tryz.underlying193, by kernel_rfl⟩
instance : TField Tryz.prog 193 0 0 := ⟨_, _, Tryz.underlying193, rfl, rfl, 1, by kernel_rfl, by decide⟩
instance : TPart Tryz.prog 193 0 0 none := ⟨_, _, Tryz.underlying193, rfl, rfl, (inferInstance : T1 Tryz.prog 3)⟩
instance : TField Tryz.prog 193 1 1 := ⟨_, _, Tryz.underlying193, rfl, rfl, 1, by kernel_rfl, by decide⟩
instance : TPart Tryz.prog 193 1 1 none := ⟨_, _, Tryz.underlying193, rfl, rfl, (inferInstance : T1 Tryz.prog 4)⟩
instance : TField Tryz.prog 193 2 2 := ⟨_, _, Tryz.underlying193, rfl, rfl, 4, by kernel_rfl, by decide⟩
instance : TPart Tryz.prog 193 2 2 (some 4) := ⟨_, _, Tryz.underlying193, rfl, rfl, (inferInstance : TN Tryz.prog 109 4)⟩
instance : T1 Tryz.prog 194 := ⟨⟨_, Tryz.underlying194, (fun _ h => nomatch h), (fun _ _ h => nomatch h)⟩, by kernel_rfl⟩
instance : TZero Tryz.prog 194 (.nilFunc) := ⟨by kernel_rfl⟩
instance : T1 Tryz.prog 195 := ⟨⟨_, Tryz.underlying195, (fun _ h => nomatch h), (fun _ _ h => nomatch h)⟩, by kernel_rfl⟩
instance : TZero Tryz.prog 195 (.nilFunc) := ⟨by kernel_rfl⟩
instance : T1 Tryz.prog 196 := ⟨⟨_, Tryz.underlying196, (fun _ h => nomatch h), (fun _ _ h => nomatch h)⟩, by kernel_rfl⟩
instance : TZero Tryz.prog 196 (.nilFunc) := ⟨by kernel_rfl⟩
instance : T1 Tryz.prog 198 := ⟨⟨_, Tryz.underlying198, (fun _ h => nomatch h), (fun _ _ h => nomatch h)⟩, by kernel_rfl⟩
instance : TZero Tryz.prog 198 (.nilFunc) := ⟨by kernel_rfl⟩
instance : T1 Tryz.prog 199 := ⟨⟨_, Tryz.underlying199, (fun _ h => nomatch h), (fun _ _ h => nomatch h)⟩, by kernel_rfl⟩
instance : TZero Tryz.prog 199 (.nilFunc) := ⟨by kernel_rfl⟩
instance : T1 Tryz.prog 200 := ⟨⟨_, Tryz.underlying200, (fun _ h => nomatch h), (fun _ _ h => nomatch h)⟩, by kernel_rfl⟩
instance : TZero Tryz.prog 200 (.nilFunc) := ⟨by kernel_rfl⟩
instance : T1 Tryz.prog 201 := ⟨⟨_, Tryz.underlying201, (fun _ h => nomatch h), (fun _ _ h => nomatch h)⟩, by kernel_rfl⟩
instance : TZero Tryz.prog 201 (.nilFunc) := ⟨by kernel_rfl⟩
instance : T1 Tryz.prog 202 := ⟨⟨_, Tryz.underlying202, (fun _ h => nomatch h), (fun _ _ h => nomatch h)⟩, by kernel_rfl⟩
instance : TZero Tryz.prog 202 (.nilFunc) := ⟨by kernel_rfl⟩
instance : T1 Tryz.prog 203 := ⟨⟨_, Tryz.underlying203, (fun _ h => nomatch h), (fun _ _ h => nomatch h)⟩, by kernel_rfl⟩
instance : TZero Tryz.prog 203 (.nilFunc) := ⟨by kernel_rfl⟩
instance : T1 Tryz.prog 204 := ⟨⟨_, Tryz.underlying204, (fun _ h => nomatch h), (fun _ _ h => nomatch h)⟩, by kernel_rfl⟩
instance : TZero Tryz.prog 204 (.nilFunc) := ⟨by kernel_rfl⟩
instance : T1 Tryz.prog 205 := ⟨⟨_, Tryz.underlying205, (fun _ h => nomatch h), (fun _ _ h => nomatch h)⟩, by kernel_rfl⟩
instance : TZero Tryz.prog 205 (.nilFunc) := ⟨by kernel_rfl⟩
instance : TN Tryz.prog 206 2 := ⟨.inl ⟨_, Tryz.underlying206⟩, by kernel_rfl⟩
instance : TZero Tryz.prog 206 (.agg #[.pointer none, .pointer none]) := ⟨by kernel_rfl⟩
instance : TBuild Tryz.prog 206 [(0, 1), (1, 1)] := ⟨_, Tryz.underlying206, by kernel_rfl⟩
instance : TField Tryz.prog 206 0 0 := ⟨_, _, Tryz.underlying206, rfl, rfl, 1, by kernel_rfl, by decide⟩
instance : TPart Tryz.prog 206 0 0 none := ⟨_, _, Tryz.underlying206, rfl, rfl, (inferInstance : T1 Tryz.prog 81)⟩
instance : TField Tryz.prog 206 1 1 := ⟨_, _, Tryz.underlying206, rfl, rfl, 1, by kernel_rfl, by decide⟩
instance : TPart Tryz.prog 206 1 1 none := ⟨_, _, Tryz.underlying206, rfl, rfl, (inferInstance : T1 Tryz.prog 82)⟩
instance : TN Tryz.prog 207 2 := ⟨.inl ⟨_, Tryz.underlying207⟩, by kernel_rfl⟩
instance : TZero Tryz.prog 207 (.agg #[.pointer none, .pointer none]) := ⟨by kernel_rfl⟩
instance : TBuild Tryz.prog 207 [(0, 1), (1, 1)] := ⟨_, Tryz.underlying207, by kernel_rfl⟩
instance : TField Tryz.prog 207 0 0 := ⟨_, _, Tryz.underlying207, rfl, rfl, 1, by kernel_rfl, by decide⟩
instance : TPart Tryz.prog 207 0 0 none := ⟨_, _, Tryz.underlying207, rfl, rfl, (inferInstance : T1 Tryz.prog 81)⟩
instance : TField Tryz.prog 207 1 1 := ⟨_, _, Tryz.underlying207, rfl, rfl, 1, by kernel_rfl, by decide⟩
instance : TPart Tryz.prog 207 1 1 none := ⟨_, _, Tryz.underlying207, rfl, rfl, (inferInstance : T1 Tryz.prog 82)⟩
instance : T1 Tryz.prog 208 := ⟨⟨_, Tryz.underlying208, (fun _ h => nomatch h), (fun _ _ h => nomatch h)⟩, by kernel_rfl⟩
instance : TZero Tryz.prog 208 (.nilFunc) := ⟨by kernel_rfl⟩
instance : TN Tryz.prog 211 1 := ⟨.inl ⟨_, Tryz.underlying211⟩, by kernel_rfl⟩
instance : TZero Tryz.prog 211 (.agg #[.slice none 0 0]) := ⟨by kernel_rfl⟩
instance : TBuild Tryz.prog 211 [(0, 1)] := ⟨_, Tryz.underlying211, by kernel_rfl⟩
instance : TField Tryz.prog 211 0 0 := ⟨_, _, Tryz.underlying211, rfl, rfl, 1, by kernel_rfl, by decide⟩
instance : TPart Tryz.prog 211 0 0 none := ⟨_, _, Tryz.underlying211, rfl, rfl, (inferInstance : T1 Tryz.prog 48)⟩
instance : T1 Tryz.prog 212 := ⟨⟨_, Tryz.underlying212, (fun _ h => nomatch h), (fun _ _ h => nomatch h)⟩, by kernel_rfl⟩
instance : TZero Tryz.prog 212 (.nilFunc) := ⟨by kernel_rfl⟩
instance : TN Tryz.prog 213 2 := ⟨.inl ⟨_, Tryz.underlying213⟩, by kernel_rfl⟩
instance : TZero Tryz.prog 213 (.agg #[.map none, .int .i64 0]) := ⟨by kernel_rfl⟩
instance : TBuild Tryz.prog 213 [(0, 1), (1, 1)] := ⟨_, Tryz.underlying213, by kernel_rfl⟩
instance : TField Tryz.prog 213 0 0 := ⟨_, _, Tryz.underlying213, rfl, rfl, 1, by kernel_rfl, by decide⟩
instance : TPart Tryz.prog 213 0 0 none := ⟨_, _, Tryz.underlying213, rfl, rfl, (inferInstance : T1 Tryz.prog 155)⟩
instance : TField Tryz.prog 213 1 1 := ⟨_, _, Tryz.underlying213, rfl, rfl, 1, by kernel_rfl, by decide⟩
instance : TPart Tryz.prog 213 1 1 none := ⟨_, _, Tryz.underlying213, rfl, rfl, (inferInstance : T1 Tryz.prog 3)⟩
instance : TN Tryz.prog 214 2 := ⟨.inl ⟨_, Tryz.underlying214⟩, by kernel_rfl⟩
instance : TZero Tryz.prog 214 (.agg #[.map none, .int .i64 0]) := ⟨by kernel_rfl⟩
instance : TBuild Tryz.prog 214 [(0, 1), (1, 1)] := ⟨_, Tryz.underlying214, by kernel_rfl⟩
instance : TField Tryz.prog 214 0 0 := ⟨_, _, Tryz.underlying214, rfl, rfl, 1, by kernel_rfl, by decide⟩
instance : TPart Tryz.prog 214 0 0 none := ⟨_, _, Tryz.underlying214, rfl, rfl, (inferInstance : T1 Tryz.prog 155)⟩
instance : TField Tryz.prog 214 1 1 := ⟨_, _, Tryz.underlying214, rfl, rfl, 1, by kernel_rfl, by decide⟩
instance : TPart Tryz.prog 214 1 1 none := ⟨_, _, Tryz.underlying214, rfl, rfl, (inferInstance : T1 Tryz.prog 3)⟩
instance : T1 Tryz.prog 215 := ⟨⟨_, Tryz.underlying215, (fun _ h => nomatch h), (fun _ _ h => nomatch h)⟩, by kernel_rfl⟩
instance : TZero Tryz.prog 215 (.nilFunc) := ⟨by kernel_rfl⟩
instance : TN Tryz.prog 216 1 := ⟨.inl ⟨_, Tryz.underlying216⟩, by kernel_rfl⟩
instance : TZero Tryz.prog 216 (.agg #[.slice none 0 0]) := ⟨by kernel_rfl⟩
instance : TBuild Tryz.prog 216 [(0, 1)] := ⟨_, Tryz.underlying216, by kernel_rfl⟩
instance : TField Tryz.prog 216 0 0 := ⟨_, _, Tryz.underlying216, rfl, rfl, 1, by kernel_rfl, by decide⟩
instance : TPart Tryz.prog 216 0 0 none := ⟨_, _, Tryz.underlying216, rfl, rfl, (inferInstance : T1 Tryz.prog 53)⟩
instance : TN Tryz.prog 217 1 := ⟨.inl ⟨_, Tryz.underlying217⟩, by kernel_rfl⟩
instance : TZero Tryz.prog 217 (.agg #[.slice none 0 0]) := ⟨by kernel_rfl⟩
instance : TBuild Tryz.prog 217 [(0, 1)] := ⟨_, Tryz.underlying217, by kernel_rfl⟩
instance : TField Tryz.prog 217 0 0 := ⟨_, _, Tryz.underlying217, rfl, rfl, 1, by kernel_rfl, by decide⟩
instance : TPart Tryz.prog 217 0 0 none := ⟨_, _, Tryz.underlying217, rfl, rfl, (inferInstance : T1 Tryz.prog 53)⟩
instance : T1 Tryz.prog 219 := ⟨⟨_, Tryz.underlying219, (fun _ h => nomatch h), (fun _ _ h => nomatch h)⟩, by kernel_rfl⟩
instance : TZero Tryz.prog 219 (.slice none 0 0) := ⟨by kernel_rfl⟩
instance : TSlice Tryz.prog 219 224 2 16 := ⟨Tryz.underlying219, by kernel_rfl⟩
instance : TN Tryz.prog 221 5 := ⟨.inl ⟨_, Tryz.underlying221⟩, by kernel_rfl⟩
instance : TZero Tryz.prog 221 (.agg #[.pointer none, .int .i64 0, .slice none 0 0, .int .i64 0, .int .i64 0]) := ⟨by kernel_rfl⟩
instance : TBuild Tryz.prog 221 [(0, 1), (1, 1), (2, 1), (3, 1), (4, 1)] := ⟨_, Tryz.underlying221, by kernel_rfl⟩
instance : TField Tryz.prog 221 0 0 := ⟨_, _, Tryz.underlying221, rfl, rfl, 1, by kernel_rfl, by decide⟩
instance : TPart Tryz.prog 221 0 0 none := ⟨_, _, Tryz.underlying221, rfl, rfl, (inferInstance : T1 Tryz.prog 81)⟩
instance : TField Tryz.prog 221 1 1 := ⟨_, _, Tryz.underlying221, rfl, rfl, 1, by kernel_rfl, by decide⟩
instance : TPart Tryz.prog 221 1 1 none := ⟨_, _, Tryz.underlying221, rfl, rfl, (inferInstance : T1 Tryz.prog 3)⟩
instance : TField Tryz.prog 221 2 2 := ⟨_, _, Tryz.underlying221, rfl, rfl, 1, by kernel_rfl, by decide⟩
instance : TPart Tryz.prog 221 2 2 none := ⟨_, _, Tryz.underlying221, rfl, rfl, (inferInstance : T1 Tryz.prog 219)⟩
instance : TField Tryz.prog 221 3 3 := ⟨_, _, Tryz.underlying221, rfl, rfl, 1, by kernel_rfl, by decide⟩
instance : TPart Tryz.prog 221 3 3 none := ⟨_, _, Tryz.underlying221, rfl, rfl, (inferInstance : T1 Tryz.prog 3)⟩
instance : TField Tryz.prog 221 4 4 := ⟨_, _, Tryz.underlying221, rfl, rfl, 1, by kernel_rfl, by decide⟩
instance : TPart Tryz.prog 221 4 4 none := ⟨_, _, Tryz.underlying221, rfl, rfl, (inferInstance : T1 Tryz.prog 3)⟩
instance : T1 Tryz.prog 222 := ⟨⟨_, Tryz.underlying222, (fun _ h => nomatch h), (fun _ _ h => nomatch h)⟩, by kernel_rfl⟩
instance : TZero Tryz.prog 222 (.nilFunc) := ⟨by kernel_rfl⟩
instance : TN Tryz.prog 224 2 := ⟨.inl ⟨_, Tryz.underlying224⟩, by kernel_rfl⟩
instance : TZero Tryz.prog 224 (.agg #[.int .i64 0, .int .i64 0]) := ⟨by kernel_rfl⟩
instance : TBuild Tryz.prog 224 [(0, 1), (1, 1)] := ⟨_, Tryz.underlying224, by kernel_rfl⟩
instance : TField Tryz.prog 224 0 0 := ⟨_, _, Tryz.underlying224, rfl, rfl, 1, by kernel_rfl, by decide⟩
instance : TPart Tryz.prog 224 0 0 none := ⟨_, _, Tryz.underlying224, rfl, rfl, (inferInstance : T1 Tryz.prog 3)⟩
instance : TField Tryz.prog 224 1 1 := ⟨_, _, Tryz.underlying224, rfl, rfl, 1, by kernel_rfl, by decide⟩
instance : TPart Tryz.prog 224 1 1 none := ⟨_, _, Tryz.underlying224, rfl, rfl, (inferInstance : T1 Tryz.prog 3)⟩
instance : TPair Tryz.prog 224 := ⟨⟨_, _, _, _, Tryz.underlying224, by decide, by decide, rfl, rfl, Tryz.underlying3, Tryz.underlying3⟩, fun f g h => by rw [Tryz.underlying224] at h; cases h; exact ⟨(inferInstance : T1 Tryz.prog 3), (inferInstance : T1 Tryz.prog 3)⟩, by kernel_rfl, by kernel_rfl⟩
instance : T1 Tryz.prog 226 := ⟨⟨_, Tryz.underlying226, (fun _ h => nomatch h), (fun _ _ h => nomatch h)⟩, by kernel_rfl⟩
instance : TZero Tryz.prog 226 (.nilFunc) := ⟨by kernel_rfl⟩
instance : T1 Tryz.prog 237 := ⟨⟨_, Tryz.underlying237, (fun _ h => nomatch h), (fun _ _ h => nomatch h)⟩, by kernel_rfl⟩
instance : TZero Tryz.prog 237 (.nilFunc) := ⟨by kernel_rfl⟩
instance : T1 Tryz.prog 238 := ⟨⟨_, Tryz.underlying238, (fun _ h => nomatch h), (fun _ _ h => nomatch h)⟩, by kernel_rfl⟩
instance : TZero Tryz.prog 238 (.nilFunc) := ⟨by kernel_rfl⟩
instance : TN Tryz.prog 241 2 := ⟨.inl ⟨_, Tryz.underlying241⟩, by kernel_rfl⟩
instance : TZero Tryz.prog 241 (.agg #[.int .i64 0, .int .i64 0]) := ⟨by kernel_rfl⟩
instance : TBuild Tryz.prog 241 [(0, 1), (1, 1)] := ⟨_, Tryz.underlying241, by kernel_rfl⟩
instance : TField Tryz.prog 241 0 0 := ⟨_, _, Tryz.underlying241, rfl, rfl, 1, by kernel_rfl, by decide⟩
instance : TPart Tryz.prog 241 0 0 none := ⟨_, _, Tryz.underlying241, rfl, rfl, (inferInstance : T1 Tryz.prog 3)⟩
instance : TField Tryz.prog 241 1 1 := ⟨_, _, Tryz.underlying241, rfl, rfl, 1, by kernel_rfl, by decide⟩
instance : TPart Tryz.prog 241 1 1 none := ⟨_, _, Tryz.underlying241, rfl, rfl, (inferInstance : T1 Tryz.prog 3)⟩
instance : TPair Tryz.prog 241 := ⟨⟨_, _, _, _, Tryz.underlying241, by decide, by decide, rfl, rfl, Tryz.underlying3, Tryz.underlying3⟩, fun f g h => by rw [Tryz.underlying241] at h; cases h; exact ⟨(inferInstance : T1 Tryz.prog 3), (inferInstance : T1 Tryz.prog 3)⟩, by kernel_rfl, by kernel_rfl⟩
instance : T1 Tryz.prog 244 := ⟨⟨_, Tryz.underlying244, (fun _ h => nomatch h), (fun _ _ h => nomatch h)⟩, by kernel_rfl⟩
instance : TZero Tryz.prog 244 (.slice none 0 0) := ⟨by kernel_rfl⟩
instance : TSlice Tryz.prog 244 277 2 16 := ⟨Tryz.underlying244, by kernel_rfl⟩
instance : T1 Tryz.prog 251 := ⟨⟨_, Tryz.underlying251, (fun _ h => nomatch h), (fun _ _ h => nomatch h)⟩, by kernel_rfl⟩
instance : TZero Tryz.prog 251 (.nilFunc) := ⟨by kernel_rfl⟩
instance : TN Tryz.prog 253 3 := ⟨.inl ⟨_, Tryz.underlying253⟩, by kernel_rfl⟩
instance : TZero Tryz.prog 253 (.agg #[.int .i64 0, .slice none 0 0, .int .i64 0]) := ⟨by kernel_rfl⟩
instance : TBuild Tryz.prog 253 [(0, 1), (1, 1), (2, 1)] := ⟨_, Tryz.underlying253, by kernel_rfl⟩
instance : TField Tryz.prog 253 0 0 := ⟨_, _, Tryz.underlying253, rfl, rfl, 1, by kernel_rfl, by decide⟩
instance : TPart Tryz.prog 253 0 0 none := ⟨_, _, Tryz.underlying253, rfl, rfl, (inferInstance : T1 Tryz.prog 3)⟩
instance : TField Tryz.prog 253 1 1 := ⟨_, _, Tryz.underlying253, rfl, rfl, 1, by kernel_rfl, by decide⟩
instance : TPart Tryz.prog 253 1 1 none := ⟨_, _, Tryz.underlying253, rfl, rfl, (inferInstance : T1 Tryz.prog 30)⟩
instance : TField Tryz.prog 253 2 2 := ⟨_, _, Tryz.underlying253, rfl, rfl, 1, by kernel_rfl, by decide⟩
instance : TPart Tryz.prog 253 2 2 none := ⟨_, _, Tryz.underlying253, rfl, rfl, (inferInstance : T1 Tryz.prog 3)⟩
instance : T1 Tryz.prog 256 := ⟨⟨_, Tryz.underlying256, (fun _ h => nomatch h), (fun _ _ h => nomatch h)⟩, by kernel_rfl⟩
instance : TZero Tryz.prog 256 (.nilFunc) := ⟨by kernel_rfl⟩
instance : T1 Tryz.prog 262 := ⟨⟨_, Tryz.underlying262, (fun _ h => nomatch h), (fun _ _ h => nomatch h)⟩, by kernel_rfl⟩
instance : TZero Tryz.prog 262 (.nilFunc) := ⟨by kernel_rfl⟩
instance : T1 Tryz.prog 274 := ⟨⟨_, Tryz.underlying274, (fun _ h => nomatch h), (fun _ _ h => nomatch h)⟩, by kernel_rfl⟩
instance : TZero Tryz.prog 274 (.nilFunc) := ⟨by kernel_rfl⟩
instance : TN Tryz.prog 277 2 := ⟨.inl ⟨_, Tryz.underlying277⟩, by kernel_rfl⟩
instance : TZero Tryz.prog 277 (.agg #[.int .i64 0, .int .i64 0]) := ⟨by kernel_rfl⟩
instance : TBuild Tryz.prog 277 [(0, 1), (1, 1)] := ⟨_, Tryz.underlying277, by kernel_rfl⟩
instance : TField Tryz.prog 277 0 0 := ⟨_, _, Tryz.underlying277, rfl, rfl, 1, by kernel_rfl, by decide⟩
instance : TPart Tryz.prog 277 0 0 none := ⟨_, _, Tryz.underlying277, rfl, rfl, (inferInstance : T1 Tryz.prog 3)⟩
instance : TField Tryz.prog 277 1 1 := ⟨_, _, Tryz.underlying277, rfl, rfl, 1, by kernel_rfl, by decide⟩
instance : TPart Tryz.prog 277 1 1 none := ⟨_, _, Tryz.underlying277, rfl, rfl, (inferInstance : T1 Tryz.prog 3)⟩
instance : TPair Tryz.prog 277 := ⟨⟨_, _, _, _, Tryz.underlying277, by decide, by decide, rfl, rfl, Tryz.underlying3, Tryz.underlying3⟩, fun f g h => by rw [Tryz.underlying277] at h; cases h; exact ⟨(inferInstance : T1 Tryz.prog 3), (inferInstance : T1 Tryz.prog 3)⟩, by kernel_rfl, by kernel_rfl⟩
instance : T1 Tryz.prog 284 := ⟨⟨_, Tryz.underlying284, (fun _ h => nomatch h), (fun _ _ h => nomatch h)⟩, by kernel_rfl⟩
instance : TZero Tryz.prog 284 (.int .i64 0) := ⟨by kernel_rfl⟩
instance : TInt Tryz.prog 284 .i64 := ⟨Tryz.underlying284⟩
instance : T1 Tryz.prog 291 := ⟨⟨_, Tryz.underlying291, (fun _ h => nomatch h), (fun _ _ h => nomatch h)⟩, by kernel_rfl⟩
instance : TZero Tryz.prog 291 (.int .u32 0) := ⟨by kernel_rfl⟩
instance : TInt Tryz.prog 291 .u32 := ⟨Tryz.underlying291⟩
instance : TN Tryz.prog 293 64 := ⟨.inr ⟨_, _, Tryz.underlying293⟩, by kernel_rfl⟩
instance : TZero Tryz.prog 293 (.agg #[.int .u8 0, .int .u8 0, .int .u8 0, .int .u8 0, .int .u8 0, .int .u8 0, .int .u8 0, .int .u8 0, .int .u8 0, .int .u8 0, .int .u8 0, .int .u8 0, .int .u8 0, .int .u8 0, .int .u8 0, .int .u8 0, .int .u8 0, .int .u8 0, .int .u8 0, .int .u8 0, .int .u8 0, .int .u8 0, .int .u8 0, .int .u8 0, .int .u8 0, .int .u8 0, .int .u8 0, .int .u8 0, .int .u8 0, .int .u8 0, .int .u8 0, .int .u8 0, .int .u8 0, .int .u8 0, .int .u8 0, .int .u8 0, .int .u8 0, .int .u8 0, .int .u8 0, .int .u8 0, .int .u8 0, .int .u8 0, .int .u8 0, .int .u8 0, .int .u8 0, .int .u8 0, .int .u8 0, .int .u8 0, .int .u8 0, .int .u8 0, .int .u8 0, .int .u8 0, .int .u8 0, .int .u8 0, .int .u8 0, .int .u8 0, .int .u8 0, .int .u8 0, .int .u8 0, .int .u8 0, .int .u8 0, .int .u8 0, .int .u8 0, .int .u8 0]) := ⟨by kernel_rfl⟩
instance : TArr Tryz.prog 293 64 5 1 := ⟨Tryz.underlying293, by kernel_rfl⟩
instance : T1 Tryz.prog 297 := ⟨⟨_, Tryz.underlying297, (fun _ h => nomatch h), (fun _ _ h => nomatch h)⟩, by kernel_rfl⟩
instance : TZero Tryz.prog 297 (.nilFunc) := ⟨by kernel_rfl⟩
instance : T1 Tryz.prog 298 := ⟨⟨_, Tryz.underlying298, (fun _ h => nomatch h), (fun _ _ h => nomatch h)⟩, by kernel_rfl⟩
instance : TZero Tryz.prog 298 (.int .u64 0) := ⟨by kernel_rfl⟩
instance : TInt Tryz.prog 298 .u64 := ⟨Tryz.underlying298⟩
instance : T1 Tryz.prog 302 := ⟨⟨_, Tryz.underlying302, (fun _ h => nomatch h), (fun _ _ h => nomatch h)⟩, by kernel_rfl⟩
instance : TZero Tryz.prog 302 (.pointer none) := ⟨by kernel_rfl⟩
instance : TPtr Tryz.prog 302 := ⟨⟨_, Tryz.underlying302⟩⟩
instance : T1 Tryz.prog 306 := ⟨⟨_, Tryz.underlying306, (fun _ h => nomatch h), (fun _ _ h => nomatch h)⟩, by kernel_rfl⟩
instance : TZero Tryz.prog 306 (.nilFunc) := ⟨by kernel_rfl⟩
instance : T1 Tryz.prog 307 := ⟨⟨_, Tryz.underlying307, (fun _ h => nomatch h), (fun _ _ h => nomatch h)⟩, by kernel_rfl⟩
instance : TZero Tryz.prog 307 (.nilFunc) := ⟨by kernel_rfl⟩
instance : T1 Tryz.prog 309 := ⟨⟨_, Tryz.underlying309, (fun _ h => nomatch h), (fun _ _ h => nomatch h)⟩, by kernel_rfl⟩
instance : TZero Tryz.prog 309 (.pointer none) := ⟨by kernel_rfl⟩
instance : TPtr Tryz.prog 309 := ⟨⟨_, Tryz.underlying309⟩⟩
instance : T1 Tryz.prog 314 := ⟨⟨_, Tryz.underlying314, (fun _ h => nomatch h), (fun _ _ h => nomatch h)⟩, by kernel_rfl⟩
instance : TZero Tryz.prog 314 (.nilFunc) := ⟨by kernel_rfl⟩
instance : TBody Tryz.prog 10 := ⟨_, Tryz.func10, by kernel_rfl, by kernel_rfl⟩
instance : TBody Tryz.prog 13 := ⟨_, Tryz.func13, by kernel_rfl, by kernel_rfl⟩
instance : TBody Tryz.prog 17 := ⟨_, Tryz.func17, by kernel_rfl, by kernel_rfl⟩
instance : TBody Tryz.prog 18 := ⟨_, Tryz.func18, by kernel_rfl, by kernel_rfl⟩
instance : TBody Tryz.prog 19 := ⟨_, Tryz.func19, by kernel_rfl, by kernel_rfl⟩
instance : TBody Tryz.prog 20 := ⟨_, Tryz.func20, by kernel_rfl, by kernel_rfl⟩
instance : TBody Tryz.prog 21 := ⟨_, Tryz.func21, by kernel_rfl, by kernel_rfl⟩
instance : TBody Tryz.prog 22 := ⟨_, Tryz.func22, by kernel_rfl, by kernel_rfl⟩
instance : TBody Tryz.prog 23 := ⟨_, Tryz.func23, by kernel_rfl, by kernel_rfl⟩
instance : TBody Tryz.prog 24 := ⟨_, Tryz.func24, by kernel_rfl, by kernel_rfl⟩
instance : TBody Tryz.prog 25 := ⟨_, Tryz.func25, by kernel_rfl, by kernel_rfl⟩
instance : TBody Tryz.prog 29 := ⟨_, Tryz.func29, by kernel_rfl, by kernel_rfl⟩
instance : TBody Tryz.prog 31 := ⟨_, Tryz.func31, by kernel_rfl, by kernel_rfl⟩
instance : TBody Tryz.prog 34 := ⟨_, Tryz.func34, by kernel_rfl, by kernel_rfl⟩
instance : TBody Tryz.prog 35 := ⟨_, Tryz.func35, by kernel_rfl, by kernel_rfl⟩
instance : TBody Tryz.prog 36 := ⟨_, Tryz.func36, by kernel_rfl, by kernel_rfl⟩
instance : TBody Tryz.prog 37 := ⟨_, Tryz.func37, by kernel_rfl, by kernel_rfl⟩
instance : TBody Tryz.prog 38 := ⟨_, Tryz.func38, by kernel_rfl, by kernel_rfl⟩
instance : TBody Tryz.prog 39 := ⟨_, Tryz.func39, by kernel_rfl, by kernel_rfl⟩
instance : TBody Tryz.prog 40 := ⟨_, Tryz.func40, by kernel_rfl, by kernel_rfl⟩
instance : TBody Tryz.prog 41 := ⟨_, Tryz.func41, by kernel_rfl, by kernel_rfl⟩
instance : TBody Tryz.prog 44 := ⟨_, Tryz.func44, by kernel_rfl, by kernel_rfl⟩
instance : TBody Tryz.prog 56 := ⟨_, Tryz.func56, by kernel_rfl, by kernel_rfl⟩
instance : TBody Tryz.prog 59 := ⟨_, Tryz.func59, by kernel_rfl, by kernel_rfl⟩
instance : TBody Tryz.prog 60 := ⟨_, Tryz.func60, by kernel_rfl, by kernel_rfl⟩
instance : TBody Tryz.prog 61 := ⟨_, Tryz.func61, by kernel_rfl, by kernel_rfl⟩
instance : TBody Tryz.prog 62 := ⟨_, Tryz.func62, by kernel_rfl, by kernel_rfl⟩
instance : TBody Tryz.prog 63 := ⟨_, Tryz.func63, by kernel_rfl, by kernel_rfl⟩
instance : TBody Tryz.prog 64 := ⟨_, Tryz.func64, by kernel_rfl, by kernel_rfl⟩
instance : TBody Tryz.prog 67 := ⟨_, Tryz.func67, by kernel_rfl, by kernel_rfl⟩
instance : TBody Tryz.prog 68 := ⟨_, Tryz.func68, by kernel_rfl, by kernel_rfl⟩
instance : TBody Tryz.prog 75 := ⟨_, Tryz.func75, by kernel_rfl, by kernel_rfl⟩
instance : TBody Tryz.prog 76 := ⟨_, Tryz.func76, by kernel_rfl, by kernel_rfl⟩
instance : TBody Tryz.prog 77 := ⟨_, Tryz.func77, by kernel_rfl, by kernel_rfl⟩
instance : TBody Tryz.prog 78 := ⟨_, Tryz.func78, by kernel_rfl, by kernel_rfl⟩
instance : TBody Tryz.prog 79 := ⟨_, Tryz.func79, by kernel_rfl, by kernel_rfl⟩
instance : TBody Tryz.prog 80 := ⟨_, Tryz.func80, by kernel_rfl, by kernel_rfl⟩
instance : TBody Tryz.prog 81 := ⟨_, Tryz.func81, by kernel_rfl, by kernel_rfl⟩
instance : TBody Tryz.prog 82 := ⟨_, Tryz.func82, by kernel_rfl, by kernel_rfl⟩
instance : TBody Tryz.prog 83 := ⟨_, Tryz.func83, by kernel_rfl, by kernel_rfl⟩
instance : TBody Tryz.prog 87 := ⟨_, Tryz.func87, by kernel_rfl, by kernel_rfl⟩
instance : TBody Tryz.prog 92 := ⟨_, Tryz.func92, by kernel_rfl, by kernel_rfl⟩
instance : TBody Tryz.prog 93 := ⟨_, Tryz.func93, by kernel_rfl, by kernel_rfl⟩
instance : TBody Tryz.prog 94 := ⟨_, Tryz.func94, by kernel_rfl, by kernel_rfl⟩
instance : TBody Tryz.prog 95 := ⟨_, Tryz.func95, by kernel_rfl, by kernel_rfl⟩
instance : TBody Tryz.prog 96 := ⟨_, Tryz.func96, by kernel_rfl, by kernel_rfl⟩
instance : TBody Tryz.prog 97 := ⟨_, Tryz.func97, by kernel_rfl, by kernel_rfl⟩
instance : TBody Tryz.prog 98 := ⟨_, Tryz.func98, by kernel_rfl, by kernel_rfl⟩
instance : TBody Tryz.prog 102 := ⟨_, Tryz.func102, by kernel_rfl, by kernel_rfl⟩
instance : TBody Tryz.prog 103 := ⟨_, Tryz.func103, by kernel_rfl, by kernel_rfl⟩
instance : TBody Tryz.prog 104 := ⟨_, Tryz.func104, by kernel_rfl, by kernel_rfl⟩
instance : TBody Tryz.prog 105 := ⟨_, Tryz.func105, by kernel_rfl, by kernel_rfl⟩
instance : TBody Tryz.prog 106 := ⟨_, Tryz.func106, by kernel_rfl, by kernel_rfl⟩
instance : TBody Tryz.prog 107 := ⟨_, Tryz.func107, by kernel_rfl, by kernel_rfl⟩
instance : TBody Tryz.prog 108 := ⟨_, Tryz.func108, by kernel_rfl, by kernel_rfl⟩
instance : TBody Tryz.prog 109 := ⟨_, Tryz.func109, by kernel_rfl, by kernel_rfl⟩
instance : TBody Tryz.prog 110 := ⟨_, Tryz.func110, by kernel_rfl, by kernel_rfl⟩
instance : TBody Tryz.prog 112 := ⟨_, Tryz.func112, by kernel_rfl, by kernel_rfl⟩
instance : TBody Tryz.prog 118 := ⟨_, Tryz.func118, by kernel_rfl, by kernel_rfl⟩
instance : TBody Tryz.prog 119 := ⟨_, Tryz.func119, by kernel_rfl, by kernel_rfl⟩
instance : TBody Tryz.prog 120 := ⟨_, Tryz.func120, by kernel_rfl, by kernel_rfl⟩
instance : TBody Tryz.prog 121 := ⟨_, Tryz.func121, by kernel_rfl, by kernel_rfl⟩
instance : TBody Tryz.prog 122 := ⟨_, Tryz.func122, by kernel_rfl, by kernel_rfl⟩
instance : TBody Tryz.prog 123 := ⟨_, Tryz.func123, by kernel_rfl, by kernel_rfl⟩
instance : TBody Tryz.prog 124 := ⟨_, Tryz.func124, by kernel_rfl, by kernel_rfl⟩
instance : TBody Tryz.prog 125 := ⟨_, Tryz.func125, by kernel_rfl, by kernel_rfl⟩
instance : TBody Tryz.prog 126 := ⟨_, Tryz.func126, by kernel_rfl, by kernel_rfl⟩
instance : TBody Tryz.prog 129 := ⟨_, Tryz.func129, by kernel_rfl, by kernel_rfl⟩
instance : TBody Tryz.prog 130 := ⟨_, Tryz.func130, by kernel_rfl, by kernel_rfl⟩
instance : TBody Tryz.prog 131 := ⟨_, Tryz.func131, by kernel_rfl, by kernel_rfl⟩
instance : TBody Tryz.prog 132 := ⟨_, Tryz.func132, by kernel_rfl, by kernel_rfl⟩
instance : TBody Tryz.prog 133 := ⟨_, Tryz.func133, by kernel_rfl, by kernel_rfl⟩
instance : TBody Tryz.prog 134 := ⟨_, Tryz.func134, by kernel_rfl, by kernel_rfl⟩
instance : TBody Tryz.prog 135 := ⟨_, Tryz.func135, by kernel_rfl, by kernel_rfl⟩
instance : TBody Tryz.prog 136 := ⟨_, Tryz.func136, by kernel_rfl, by kernel_rfl⟩
instance : TBody Tryz.prog 137 := ⟨_, Tryz.func137, by kernel_rfl, by kernel_rfl⟩
instance : TBody Tryz.prog 138 := ⟨_, Tryz.func138, by kernel_rfl, by kernel_rfl⟩
instance : TBody Tryz.prog 139 := ⟨_, Tryz.func139, by kernel_rfl, by kernel_rfl⟩
instance : TBody Tryz.prog 140 := ⟨_, Tryz.func140, by kernel_rfl, by kernel_rfl⟩
instance : TBody Tryz.prog 141 := ⟨_, Tryz.func141, by kernel_rfl, by kernel_rfl⟩
instance : TBody Tryz.prog 146 := ⟨_, Tryz.func146, by kernel_rfl, by kernel_rfl⟩
instance : TBody Tryz.prog 148 := ⟨_, Tryz.func148, by kernel_rfl, by kernel_rfl⟩
instance : TBody Tryz.prog 149 := ⟨_, Tryz.func149, by kernel_rfl, by kernel_rfl⟩
instance : TBody Tryz.prog 150 := ⟨_, Tryz.func150, by kernel_rfl, by kernel_rfl⟩
instance : TBody Tryz.prog 151 := ⟨_, Tryz.func151, by kernel_rfl, by kernel_rfl⟩
instance : TBody Tryz.prog 152 := ⟨_, Tryz.func152, by kernel_rfl, by kernel_rfl⟩
instance : TBody Tryz.prog 153 := ⟨_, Tryz.func153, by kernel_rfl, by kernel_rfl⟩
instance : TBody Tryz.prog 154 := ⟨_, Tryz.func154, by kernel_rfl, by kernel_rfl⟩
instance : TBody Tryz.prog 156 := ⟨_, Tryz.func156, by kernel_rfl, by kernel_rfl⟩
instance : TBody Tryz.prog 157 := ⟨_, Tryz.func157, by kernel_rfl, by kernel_rfl⟩
instance : TBody Tryz.prog 165 := ⟨_, Tryz.func165, by kernel_rfl, by kernel_rfl⟩
instance : TBody Tryz.prog 166 := ⟨_, Tryz.func166, by kernel_rfl, by kernel_rfl⟩
instance : TBody Tryz.prog 167 := ⟨_, Tryz.func167, by kernel_rfl, by kernel_rfl⟩
instance : TBody Tryz.prog 168 := ⟨_, Tryz.func168, by kernel_rfl, by kernel_rfl⟩
instance : TBody Tryz.prog 169 := ⟨_, Tryz.func169, by kernel_rfl, by kernel_rfl⟩
instance : TBody Tryz.prog 170 := ⟨_, Tryz.func170, by kernel_rfl, by kernel_rfl⟩
instance : TBody Tryz.prog 171 := ⟨_, Tryz.func171, by kernel_rfl, by kernel_rfl⟩
instance : TBody Tryz.prog 172 := ⟨_, Tryz.func172, by kernel_rfl, by kernel_rfl⟩
instance : TBody Tryz.prog 173 := ⟨_, Tryz.func173, by kernel_rfl, by kernel_rfl⟩
instance : TBody Tryz.prog 174 := ⟨_, Tryz.func174, by kernel_rfl, by kernel_rfl⟩
instance : TBody Tryz.prog 175 := ⟨_, Tryz.func175, by kernel_rfl, by kernel_rfl⟩
instance : TBody Tryz.prog 176 := ⟨_, Tryz.func176, by kernel_rfl, by kernel_rfl⟩
instance : TBody Tryz.prog 177 := ⟨_, Tryz.func177, by kernel_rfl, by kernel_rfl⟩
instance : TBody Tryz.prog 178 := ⟨_, Tryz.func178, by kernel_rfl, by kernel_rfl⟩
instance : TBody Tryz.prog 179 := ⟨_, Tryz.func179, by kernel_rfl, by kernel_rfl⟩
instance : TBody Tryz.prog 182 := ⟨_, Tryz.func182, by kernel_rfl, by kernel_rfl⟩
instance : TBody Tryz.prog 185 := ⟨_, Tryz.func185, by kernel_rfl, by kernel_rfl⟩
instance : TBody Tryz.prog 186 := ⟨_, Tryz.func186, by kernel_rfl, by kernel_rfl⟩
instance : TBody Tryz.prog 187 := ⟨_, Tryz.func187, by kernel_rfl, by kernel_rfl⟩
instance : TBody Tryz.prog 188 := ⟨_, Tryz.func188, by kernel_rfl, by kernel_rfl⟩
instance : TBody Tryz.prog 189 := ⟨_, Tryz.func189, by kernel_rfl, by kernel_rfl⟩
instance : TBody Tryz.prog 193 := ⟨_, Tryz.func193, by kernel_rfl, by kernel_rfl⟩
instance : TBody Tryz.prog 194 := ⟨_, Tryz.func194, by kernel_rfl, by kernel_rfl⟩
instance : TBody Tryz.prog 195 := ⟨_, Tryz.func195, by kernel_rfl, by kernel_rfl⟩
instance : TBody Tryz.prog 196 := ⟨_, Tryz.func196, by kernel_rfl, by kernel_rfl⟩
instance : TBody Tryz.prog 197 := ⟨_, Tryz.func197, by kernel_rfl, by kernel_rfl⟩
instance : TBody Tryz.prog 198 := ⟨_, Tryz.func198, by kernel_rfl, by kernel_rfl⟩
instance : TBody Tryz.prog 199 := ⟨_, Tryz.func199, by kernel_rfl, by kernel_rfl⟩
instance : TBody Tryz.prog 200 := ⟨_, Tryz.func200, by kernel_rfl, by kernel_rfl⟩
instance : TBody Tryz.prog 201 := ⟨_, Tryz.func201, by kernel_rfl, by kernel_rfl⟩
instance : TBody Tryz.prog 202 := ⟨_, Tryz.func202, by kernel_rfl, by kernel_rfl⟩
instance : TBody Tryz.prog 203 := ⟨_, Tryz.func203, by kernel_rfl, by kernel_rfl⟩
instance : TBody Tryz.prog 204 := ⟨_, Tryz.func204, by kernel_rfl, by kernel_rfl⟩
instance : TBody Tryz.prog 205 := ⟨_, Tryz.func205, by kernel_rfl, by kernel_rfl⟩
instance : TBody Tryz.prog 206 := ⟨_, Tryz.func206, by kernel_rfl, by kernel_rfl⟩
instance : TBody Tryz.prog 208 := ⟨_, Tryz.func208, by kernel_rfl, by kernel_rfl⟩
instance : TBody Tryz.prog 211 := ⟨_, Tryz.func211, by kernel_rfl, by kernel_rfl⟩
instance : TBody Tryz.prog 212 := ⟨_, Tryz.func212, by kernel_rfl, by kernel_rfl⟩
instance : TBody Tryz.prog 213 := ⟨_, Tryz.func213, by kernel_rfl, by kernel_rfl⟩
instance : TBody Tryz.prog 214 := ⟨_, Tryz.func214, by kernel_rfl, by kernel_rfl⟩
instance : TBody Tryz.prog 215 := ⟨_, Tryz.func215, by kernel_rfl, by kernel_rfl⟩
instance : TBody Tryz.prog 216 := ⟨_, Tryz.func216, by kernel_rfl, by kernel_rfl⟩
instance : TBody Tryz.prog 226 := ⟨_, Tryz.func226, by kernel_rfl, by kernel_rfl⟩
theorem mixed : Tryz.prog.follows .mixedOrders = true := by kernel_rfl
end Go.Proofs.YtcaaojbnjfdglaaGreatDoor
