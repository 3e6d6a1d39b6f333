/- What the walk asks of the program's types and functions: closed facts, by program. No condition. -/
import Derived.Test.YtdpephigccnkdaaDoorSlL
import Derived.Test.YtdpephigccnkdaaDoorProg
import Derived.KernelRfl
set_option linter.unusedVariables false
namespace Go.Proofs.YtdpephigccnkdaaDoor
open Go.SL
instance : T1 Tryd.prog 1 := ⟨⟨_, Tryd.underlying1, (fun _ h => nomatch h), (fun _ _ h => nomatch h)⟩, by kernel_rfl⟩
instance : TZero Tryd.prog 1 (.nilFunc) := ⟨by kernel_rfl⟩
instance : T1 Tryd.prog 2 := ⟨⟨_, Tryd.underlying2, (fun _ h => nomatch h), (fun _ _ h => nomatch h)⟩, by kernel_rfl⟩
instance : TZero Tryd.prog 2 (.int .i64 0) := ⟨by kernel_rfl⟩
instance : TInt Tryd.prog 2 .i64 := ⟨Tryd.underlying2⟩
instance : T1 Tryd.prog 3 := ⟨⟨_, Tryd.underlying3, (fun _ h => nomatch h), (fun _ _ h => nomatch h)⟩, by kernel_rfl⟩
instance : TZero Tryd.prog 3 (.int .i64 0) := ⟨by kernel_rfl⟩
instance : TInt Tryd.prog 3 .i64 := ⟨Tryd.underlying3⟩
instance : T1 Tryd.prog 4 := ⟨⟨_, Tryd.underlying4, (fun _ h => nomatch h), (fun _ _ h => nomatch h)⟩, by kernel_rfl⟩
instance : TZero Tryd.prog 4 (.bool false) := ⟨by kernel_rfl⟩
instance : TBool Tryd.prog 4 := ⟨Tryd.underlying4⟩
instance : T1 Tryd.prog 5 := ⟨⟨_, Tryd.underlying5, (fun _ h => nomatch h), (fun _ _ h => nomatch h)⟩, by kernel_rfl⟩
instance : TZero Tryd.prog 5 (.int .u8 0) := ⟨by kernel_rfl⟩
instance : TInt Tryd.prog 5 .u8 := ⟨Tryd.underlying5⟩
instance : T1 Tryd.prog 6 := ⟨⟨_, Tryd.underlying6, (fun _ h => nomatch h), (fun _ _ h => nomatch h)⟩, by kernel_rfl⟩
instance : TZero Tryd.prog 6 (.int .u8 0) := ⟨by kernel_rfl⟩
instance : TInt Tryd.prog 6 .u8 := ⟨Tryd.underlying6⟩
instance : TN Tryd.prog 7 4 := ⟨.inl ⟨_, Tryd.underlying7⟩, by kernel_rfl⟩
instance : TZero Tryd.prog 7 (.agg #[.int .i64 0, .int .i64 0, .bool false, .int .u8 0]) := ⟨by kernel_rfl⟩
instance : TBuild Tryd.prog 7 [(0, 1), (1, 1), (2, 1), (3, 1)] := ⟨_, Tryd.underlying7, by kernel_rfl⟩
instance : TField Tryd.prog 7 0 0 := ⟨_, _, Tryd.underlying7, rfl, rfl, 1, by kernel_rfl, by decide⟩
instance : TPart Tryd.prog 7 0 0 none := ⟨_, _, Tryd.underlying7, rfl, rfl, (inferInstance : T1 Tryd.prog 2)⟩
instance : TField Tryd.prog 7 1 1 := ⟨_, _, Tryd.underlying7, rfl, rfl, 1, by kernel_rfl, by decide⟩
instance : TPart Tryd.prog 7 1 1 none := ⟨_, _, Tryd.underlying7, rfl, rfl, (inferInstance : T1 Tryd.prog 3)⟩
instance : TField Tryd.prog 7 2 2 := ⟨_, _, Tryd.underlying7, rfl, rfl, 1, by kernel_rfl, by decide⟩
instance : TPart Tryd.prog 7 2 2 none := ⟨_, _, Tryd.underlying7, rfl, rfl, (inferInstance : T1 Tryd.prog 4)⟩
instance : TField Tryd.prog 7 3 3 := ⟨_, _, Tryd.underlying7, rfl, rfl, 1, by kernel_rfl, by decide⟩
instance : TPart Tryd.prog 7 3 3 none := ⟨_, _, Tryd.underlying7, rfl, rfl, (inferInstance : T1 Tryd.prog 6)⟩
instance : TN Tryd.prog 8 4 := ⟨.inl ⟨_, Tryd.underlying8⟩, by kernel_rfl⟩
instance : TZero Tryd.prog 8 (.agg #[.int .i64 0, .int .i64 0, .bool false, .int .u8 0]) := ⟨by kernel_rfl⟩
instance : TBuild Tryd.prog 8 [(0, 1), (1, 1), (2, 1), (3, 1)] := ⟨_, Tryd.underlying8, by kernel_rfl⟩
instance : TField Tryd.prog 8 0 0 := ⟨_, _, Tryd.underlying8, rfl, rfl, 1, by kernel_rfl, by decide⟩
instance : TPart Tryd.prog 8 0 0 none := ⟨_, _, Tryd.underlying8, rfl, rfl, (inferInstance : T1 Tryd.prog 2)⟩
instance : TField Tryd.prog 8 1 1 := ⟨_, _, Tryd.underlying8, rfl, rfl, 1, by kernel_rfl, by decide⟩
instance : TPart Tryd.prog 8 1 1 none := ⟨_, _, Tryd.underlying8, rfl, rfl, (inferInstance : T1 Tryd.prog 3)⟩
instance : TField Tryd.prog 8 2 2 := ⟨_, _, Tryd.underlying8, rfl, rfl, 1, by kernel_rfl, by decide⟩
instance : TPart Tryd.prog 8 2 2 none := ⟨_, _, Tryd.underlying8, rfl, rfl, (inferInstance : T1 Tryd.prog 4)⟩
instance : TField Tryd.prog 8 3 3 := ⟨_, _, Tryd.underlying8, rfl, rfl, 1, by kernel_rfl, by decide⟩
instance : TPart Tryd.prog 8 3 3 none := ⟨_, _, Tryd.underlying8, rfl, rfl, (inferInstance : T1 Tryd.prog 6)⟩
instance : T1 Tryd.prog 9 := ⟨⟨_, Tryd.underlying9, (fun _ h => nomatch h), (fun _ _ h => nomatch h)⟩, by kernel_rfl⟩
instance : TZero Tryd.prog 9 (.string ⟨#[]⟩) := ⟨by kernel_rfl⟩
instance : TString Tryd.prog 9 := ⟨Tryd.underlying9⟩
instance : T1 Tryd.prog 10 := ⟨⟨_, Tryd.underlying10, (fun _ h => nomatch h), (fun _ _ h => nomatch h)⟩, by kernel_rfl⟩
instance : TZero Tryd.prog 10 (.string ⟨#[]⟩) := ⟨by kernel_rfl⟩
instance : TString Tryd.prog 10 := ⟨Tryd.underlying10⟩
instance : T1 Tryd.prog 11 := ⟨⟨_, Tryd.underlying11, (fun _ h => nomatch h), (fun _ _ h => nomatch h)⟩, by kernel_rfl⟩
instance : TZero Tryd.prog 11 (.string ⟨#[]⟩) := ⟨by kernel_rfl⟩
instance : TString Tryd.prog 11 := ⟨Tryd.underlying11⟩
instance : T1 Tryd.prog 12 := ⟨⟨_, Tryd.underlying12, (fun _ h => nomatch h), (fun _ _ h => nomatch h)⟩, by kernel_rfl⟩
instance : TZero Tryd.prog 12 (.int .u64 0) := ⟨by kernel_rfl⟩
instance : TInt Tryd.prog 12 .u64 := ⟨Tryd.underlying12⟩
instance : TN Tryd.prog 13 2 := ⟨.inl ⟨_, Tryd.underlying13⟩, by kernel_rfl⟩
instance : TZero Tryd.prog 13 (.agg #[.string ⟨#[]⟩, .int .u64 0]) := ⟨by kernel_rfl⟩
instance : TBuild Tryd.prog 13 [(0, 1), (1, 1)] := ⟨_, Tryd.underlying13, by kernel_rfl⟩
instance : TField Tryd.prog 13 0 0 := ⟨_, _, Tryd.underlying13, rfl, rfl, 1, by kernel_rfl, by decide⟩
instance : TPart Tryd.prog 13 0 0 none := ⟨_, _, Tryd.underlying13, rfl, rfl, (inferInstance : T1 Tryd.prog 9)⟩
instance : TField Tryd.prog 13 1 1 := ⟨_, _, Tryd.underlying13, rfl, rfl, 1, by kernel_rfl, by decide⟩
instance : TPart Tryd.prog 13 1 1 none := ⟨_, _, Tryd.underlying13, rfl, rfl, (inferInstance : T1 Tryd.prog 12)⟩
instance : TN Tryd.prog 14 2 := ⟨.inl ⟨_, Tryd.underlying14⟩, by kernel_rfl⟩
instance : TZero Tryd.prog 14 (.agg #[.string ⟨#[]⟩, .int .u64 0]) := ⟨by kernel_rfl⟩
instance : TBuild Tryd.prog 14 [(0, 1), (1, 1)] := ⟨_, Tryd.underlying14, by kernel_rfl⟩
instance : TField Tryd.prog 14 0 0 := ⟨_, _, Tryd.underlying14, rfl, rfl, 1, by kernel_rfl, by decide⟩
instance : TPart Tryd.prog 14 0 0 none := ⟨_, _, Tryd.underlying14, rfl, rfl, (inferInstance : T1 Tryd.prog 9)⟩
instance : TField Tryd.prog 14 1 1 := ⟨_, _, Tryd.underlying14, rfl, rfl, 1, by kernel_rfl, by decide⟩
instance : TPart Tryd.prog 14 1 1 none := ⟨_, _, Tryd.underlying14, rfl, rfl, (inferInstance : T1 Tryd.prog 12)⟩
instance : T1 Tryd.prog 15 := ⟨⟨_, Tryd.underlying15, (fun _ h => nomatch h), (fun _ _ h => nomatch h)⟩, by kernel_rfl⟩
instance : TZero Tryd.prog 15 (.pointer none) := ⟨by kernel_rfl⟩
instance : TPtr Tryd.prog 15 := ⟨⟨_, Tryd.underlying15⟩⟩
instance : T1 Tryd.prog 16 := ⟨⟨_, Tryd.underlying16, (fun _ h => nomatch h), (fun _ _ h => nomatch h)⟩, by kernel_rfl⟩
instance : TZero Tryd.prog 16 (.pointer none) := ⟨by kernel_rfl⟩
instance : TPtr Tryd.prog 16 := ⟨⟨_, Tryd.underlying16⟩⟩
instance : T1 Tryd.prog 17 := ⟨⟨_, Tryd.underlying17, (fun _ h => nomatch h), (fun _ _ h => nomatch h)⟩, by kernel_rfl⟩
instance : TZero Tryd.prog 17 (.pointer none) := ⟨by kernel_rfl⟩
instance : TPtr Tryd.prog 17 := ⟨⟨_, Tryd.underlying17⟩⟩
instance : TN Tryd.prog 18 1 := ⟨.inl ⟨_, Tryd.underlying18⟩, by kernel_rfl⟩
instance : TZero Tryd.prog 18 (.agg #[.pointer none]) := ⟨by kernel_rfl⟩
instance : TBuild Tryd.prog 18 [(0, 1)] := ⟨_, Tryd.underlying18, by kernel_rfl⟩
instance : TField Tryd.prog 18 0 0 := ⟨_, _, Tryd.underlying18, rfl, rfl, 1, by kernel_rfl, by decide⟩
instance : TPart Tryd.prog 18 0 0 none := ⟨_, _, Tryd.underlying18, rfl, rfl, (inferInstance : T1 Tryd.prog 17)⟩
instance : TN Tryd.prog 19 1 := ⟨.inl ⟨_, Tryd.underlying19⟩, by kernel_rfl⟩
instance : TZero Tryd.prog 19 (.agg #[.pointer none]) := ⟨by kernel_rfl⟩
instance : TBuild Tryd.prog 19 [(0, 1)] := ⟨_, Tryd.underlying19, by kernel_rfl⟩
instance : TField Tryd.prog 19 0 0 := ⟨_, _, Tryd.underlying19, rfl, rfl, 1, by kernel_rfl, by decide⟩
instance : TPart Tryd.prog 19 0 0 none := ⟨_, _, Tryd.underlying19, rfl, rfl, (inferInstance : T1 Tryd.prog 17)⟩
instance : T1 Tryd.prog 20 := ⟨⟨_, Tryd.underlying20, (fun _ h => nomatch h), (fun _ _ h => nomatch h)⟩, by kernel_rfl⟩
instance : TZero Tryd.prog 20 (.nilIface) := ⟨by kernel_rfl⟩
instance : T1 Tryd.prog 21 := ⟨⟨_, Tryd.underlying21, (fun _ h => nomatch h), (fun _ _ h => nomatch h)⟩, by kernel_rfl⟩
instance : TZero Tryd.prog 21 (.int .i32 0) := ⟨by kernel_rfl⟩
instance : TInt Tryd.prog 21 .i32 := ⟨Tryd.underlying21⟩
instance : TN Tryd.prog 22 2 := ⟨.inl ⟨_, Tryd.underlying22⟩, by kernel_rfl⟩
instance : TZero Tryd.prog 22 (.agg #[.int .i64 0, .int .i64 0]) := ⟨by kernel_rfl⟩
instance : TBuild Tryd.prog 22 [(0, 1), (1, 1)] := ⟨_, Tryd.underlying22, by kernel_rfl⟩
instance : TField Tryd.prog 22 0 0 := ⟨_, _, Tryd.underlying22, rfl, rfl, 1, by kernel_rfl, by decide⟩
instance : TPart Tryd.prog 22 0 0 none := ⟨_, _, Tryd.underlying22, rfl, rfl, (inferInstance : T1 Tryd.prog 3)⟩
instance : TField Tryd.prog 22 1 1 := ⟨_, _, Tryd.underlying22, rfl, rfl, 1, by kernel_rfl, by decide⟩
instance : TPart Tryd.prog 22 1 1 none := ⟨_, _, Tryd.underlying22, rfl, rfl, (inferInstance : T1 Tryd.prog 3)⟩
instance : TPair Tryd.prog 22 := ⟨⟨_, _, _, _, Tryd.underlying22, by decide, by decide, rfl, rfl, Tryd.underlying3, Tryd.underlying3⟩, fun f g h => by rw [Tryd.underlying22] at h; cases h; exact ⟨(inferInstance : T1 Tryd.prog 3), (inferInstance : T1 Tryd.prog 3)⟩, by kernel_rfl, by kernel_rfl⟩
instance : TN Tryd.prog 23 2 := ⟨.inl ⟨_, Tryd.underlying23⟩, by kernel_rfl⟩
instance : TZero Tryd.prog 23 (.agg #[.int .i64 0, .int .i64 0]) := ⟨by kernel_rfl⟩
instance : TBuild Tryd.prog 23 [(0, 1), (1, 1)] := ⟨_, Tryd.underlying23, by kernel_rfl⟩
instance : TField Tryd.prog 23 0 0 := ⟨_, _, Tryd.underlying23, rfl, rfl, 1, by kernel_rfl, by decide⟩
instance : TPart Tryd.prog 23 0 0 none := ⟨_, _, Tryd.underlying23, rfl, rfl, (inferInstance : T1 Tryd.prog 3)⟩
instance : TField Tryd.prog 23 1 1 := ⟨_, _, Tryd.underlying23, rfl, rfl, 1, by kernel_rfl, by decide⟩
instance : TPart Tryd.prog 23 1 1 none := ⟨_, _, Tryd.underlying23, rfl, rfl, (inferInstance : T1 Tryd.prog 3)⟩
instance : TPair Tryd.prog 23 := ⟨⟨_, _, _, _, Tryd.underlying23, by decide, by decide, rfl, rfl, Tryd.underlying3, Tryd.underlying3⟩, fun f g h => by rw [Tryd.underlying23] at h; cases h; exact ⟨(inferInstance : T1 Tryd.prog 3), (inferInstance : T1 Tryd.prog 3)⟩, by kernel_rfl, by kernel_rfl⟩
instance : T1 Tryd.prog 24 := ⟨⟨_, Tryd.underlying24, (fun _ h => nomatch h), (fun _ _ h => nomatch h)⟩, by kernel_rfl⟩
instance : TZero Tryd.prog 24 (.int .i64 0) := ⟨by kernel_rfl⟩
instance : TInt Tryd.prog 24 .i64 := ⟨Tryd.underlying24⟩
instance : T1 Tryd.prog 26 := ⟨⟨_, Tryd.underlying26, (fun _ h => nomatch h), (fun _ _ h => nomatch h)⟩, by kernel_rfl⟩
instance : TZero Tryd.prog 26 (.nilFunc) := ⟨by kernel_rfl⟩
instance : T1 Tryd.prog 27 := ⟨⟨_, Tryd.underlying27, (fun _ h => nomatch h), (fun _ _ h => nomatch h)⟩, by kernel_rfl⟩
instance : TZero Tryd.prog 27 (.nilFunc) := ⟨by kernel_rfl⟩
instance : T1 Tryd.prog 28 := ⟨⟨_, Tryd.underlying28, (fun _ h => nomatch h), (fun _ _ h => nomatch h)⟩, by kernel_rfl⟩
instance : TZero Tryd.prog 28 (.nilFunc) := ⟨by kernel_rfl⟩
instance : T1 Tryd.prog 30 := ⟨⟨_, Tryd.underlying30, (fun _ h => nomatch h), (fun _ _ h => nomatch h)⟩, by kernel_rfl⟩
instance : TZero Tryd.prog 30 (.nilFunc) := ⟨by kernel_rfl⟩
instance : T1 Tryd.prog 32 := ⟨⟨_, Tryd.underlying32, (fun _ h => nomatch h), (fun _ _ h => nomatch h)⟩, by kernel_rfl⟩
instance : TZero Tryd.prog 32 (.nilFunc) := ⟨by kernel_rfl⟩
instance : T1 Tryd.prog 33 := ⟨⟨_, Tryd.underlying33, (fun _ h => nomatch h), (fun _ _ h => nomatch h)⟩, by kernel_rfl⟩
instance : TZero Tryd.prog 33 (.nilFunc) := ⟨by kernel_rfl⟩
instance : T1 Tryd.prog 34 := ⟨⟨_, Tryd.underlying34, (fun _ h => nomatch h), (fun _ _ h => nomatch h)⟩, by kernel_rfl⟩
instance : TZero Tryd.prog 34 (.nilFunc) := ⟨by kernel_rfl⟩
instance : T1 Tryd.prog 35 := ⟨⟨_, Tryd.underlying35, (fun _ h => nomatch h), (fun _ _ h => nomatch h)⟩, by kernel_rfl⟩
instance : TZero Tryd.prog 35 (.nilFunc) := ⟨by kernel_rfl⟩
instance : T1 Tryd.prog 36 := ⟨⟨_, Tryd.underlying36, (fun _ h => nomatch h), (fun _ _ h => nomatch h)⟩, by kernel_rfl⟩
instance : TZero Tryd.prog 36 (.nilFunc) := ⟨by kernel_rfl⟩
instance : T1 Tryd.prog 37 := ⟨⟨_, Tryd.underlying37, (fun _ h => nomatch h), (fun _ _ h => nomatch h)⟩, by kernel_rfl⟩
instance : TZero Tryd.prog 37 (.slice none 0 0) := ⟨by kernel_rfl⟩
instance : TSlice Tryd.prog 37 23 2 16 := ⟨Tryd.underlying37, by kernel_rfl⟩
instance : T1 Tryd.prog 39 := ⟨⟨_, Tryd.underlying39, (fun _ h => nomatch h), (fun _ _ h => nomatch h)⟩, by kernel_rfl⟩
instance : TZero Tryd.prog 39 (.nilFunc) := ⟨by kernel_rfl⟩
instance : T1 Tryd.prog 40 := ⟨⟨_, Tryd.underlying40, (fun _ h => nomatch h), (fun _ _ h => nomatch h)⟩, by kernel_rfl⟩
instance : TZero Tryd.prog 40 (.nilFunc) := ⟨by kernel_rfl⟩
instance : T1 Tryd.prog 41 := ⟨⟨_, Tryd.underlying41, (fun _ h => nomatch h), (fun _ _ h => nomatch h)⟩, by kernel_rfl⟩
instance : TZero Tryd.prog 41 (.int .u64 0) := ⟨by kernel_rfl⟩
instance : TInt Tryd.prog 41 .u64 := ⟨Tryd.underlying41⟩
instance : T1 Tryd.prog 42 := ⟨⟨_, Tryd.underlying42, (fun _ h => nomatch h), (fun _ _ h => nomatch h)⟩, by kernel_rfl⟩
instance : TZero Tryd.prog 42 (.nilFunc) := ⟨by kernel_rfl⟩
instance : T1 Tryd.prog 43 := ⟨⟨_, Tryd.underlying43, (fun _ h => nomatch h), (fun _ _ h => nomatch h)⟩, by kernel_rfl⟩
instance : TZero Tryd.prog 43 (.nilFunc) := ⟨by kernel_rfl⟩
instance : T1 Tryd.prog 45 := ⟨⟨_, Tryd.underlying45, (fun _ h => nomatch h), (fun _ _ h => nomatch h)⟩, by kernel_rfl⟩
instance : TZero Tryd.prog 45 (.nilFunc) := ⟨by kernel_rfl⟩
instance : T1 Tryd.prog 47 := ⟨⟨_, Tryd.underlying47, (fun _ h => nomatch h), (fun _ _ h => nomatch h)⟩, by kernel_rfl⟩
instance : TZero Tryd.prog 47 (.nilFunc) := ⟨by kernel_rfl⟩
instance : T1 Tryd.prog 48 := ⟨⟨_, Tryd.underlying48, (fun _ h => nomatch h), (fun _ _ h => nomatch h)⟩, by kernel_rfl⟩
instance : TZero Tryd.prog 48 (.nilFunc) := ⟨by kernel_rfl⟩
instance : TN Tryd.prog 49 2 := ⟨.inr ⟨_, _, Tryd.underlying49⟩, by kernel_rfl⟩
instance : TZero Tryd.prog 49 (.agg #[.int .i64 0, .int .i64 0]) := ⟨by kernel_rfl⟩
instance : TArr Tryd.prog 49 2 3 1 := ⟨Tryd.underlying49, by kernel_rfl⟩
instance : T1 Tryd.prog 50 := ⟨⟨_, Tryd.underlying50, (fun _ h => nomatch h), (fun _ _ h => nomatch h)⟩, by kernel_rfl⟩
instance : TZero Tryd.prog 50 (.nilFunc) := ⟨by kernel_rfl⟩
instance : T1 Tryd.prog 51 := ⟨⟨_, Tryd.underlying51, (fun _ h => nomatch h), (fun _ _ h => nomatch h)⟩, by kernel_rfl⟩
instance : TZero Tryd.prog 51 (.nilFunc) := ⟨by kernel_rfl⟩
instance : T1 Tryd.prog 52 := ⟨⟨_, Tryd.underlying52, (fun _ h => nomatch h), (fun _ _ h => nomatch h)⟩, by kernel_rfl⟩
instance : TZero Tryd.prog 52 (.nilFunc) := ⟨by kernel_rfl⟩
instance : T1 Tryd.prog 53 := ⟨⟨_, Tryd.underlying53, (fun _ h => nomatch h), (fun _ _ h => nomatch h)⟩, by kernel_rfl⟩
instance : TZero Tryd.prog 53 (.nilFunc) := ⟨by kernel_rfl⟩
instance : T1 Tryd.prog 54 := ⟨⟨_, Tryd.underlying54, (fun _ h => nomatch h), (fun _ _ h => nomatch h)⟩, by kernel_rfl⟩
instance : TZero Tryd.prog 54 (.slice none 0 0) := ⟨by kernel_rfl⟩
instance : TSlice Tryd.prog 54 5 1 1 := ⟨Tryd.underlying54, by kernel_rfl⟩
instance : T1 Tryd.prog 55 := ⟨⟨_, Tryd.underlying55, (fun _ h => nomatch h), (fun _ _ h => nomatch h)⟩, by kernel_rfl⟩
instance : TZero Tryd.prog 55 (.slice none 0 0) := ⟨by kernel_rfl⟩
instance : TSlice Tryd.prog 55 3 1 8 := ⟨Tryd.underlying55, by kernel_rfl⟩
instance : T1 Tryd.prog 56 := ⟨⟨_, Tryd.underlying56, (fun _ h => nomatch h), (fun _ _ h => nomatch h)⟩, by kernel_rfl⟩
instance : TZero Tryd.prog 56 (.nilFunc) := ⟨by kernel_rfl⟩
instance : T1 Tryd.prog 57 := ⟨⟨_, Tryd.underlying57, (fun _ h => nomatch h), (fun _ _ h => nomatch h)⟩, by kernel_rfl⟩
instance : TZero Tryd.prog 57 (.nilFunc) := ⟨by kernel_rfl⟩
instance : T1 Tryd.prog 58 := ⟨⟨_, Tryd.underlying58, (fun _ h => nomatch h), (fun _ _ h => nomatch h)⟩, by kernel_rfl⟩
instance : TZero Tryd.prog 58 (.nilFunc) := ⟨by kernel_rfl⟩
instance : T1 Tryd.prog 59 := ⟨⟨_, Tryd.underlying59, (fun _ h => nomatch h), (fun _ _ h => nomatch h)⟩, by kernel_rfl⟩
instance : TZero Tryd.prog 59 (.nilFunc) := ⟨by kernel_rfl⟩
instance : T1 Tryd.prog 60 := ⟨⟨_, Tryd.underlying60, (fun _ h => nomatch h), (fun _ _ h => nomatch h)⟩, by kernel_rfl⟩
instance : TZero Tryd.prog 60 (.nilFunc) := ⟨by kernel_rfl⟩
instance : T1 Tryd.prog 61 := ⟨⟨_, Tryd.underlying61, (fun _ h => nomatch h), (fun _ _ h => nomatch h)⟩, by kernel_rfl⟩
instance : TZero Tryd.prog 61 (.nilFunc) := ⟨by kernel_rfl⟩
instance : T1 Tryd.prog 62 := ⟨⟨_, Tryd.underlying62, (fun _ h => nomatch h), (fun _ _ h => nomatch h)⟩, by kernel_rfl⟩
instance : TZero Tryd.prog 62 (.nilFunc) := ⟨by kernel_rfl⟩
instance : T1 Tryd.prog 63 := ⟨⟨_, Tryd.underlying63, (fun _ h => nomatch h), (fun _ _ h => nomatch h)⟩, by kernel_rfl⟩
instance : TZero Tryd.prog 63 (.int .i64 0) := ⟨by kernel_rfl⟩
instance : TInt Tryd.prog 63 .i64 := ⟨Tryd.underlying63⟩
instance : T1 Tryd.prog 65 := ⟨⟨_, Tryd.underlying65, (fun _ h => nomatch h), (fun _ _ h => nomatch h)⟩, by kernel_rfl⟩
instance : TZero Tryd.prog 65 (.nilFunc) := ⟨by kernel_rfl⟩
instance : T1 Tryd.prog 66 := ⟨⟨_, Tryd.underlying66, (fun _ h => nomatch h), (fun _ _ h => nomatch h)⟩, by kernel_rfl⟩
instance : TZero Tryd.prog 66 (.nilFunc) := ⟨by kernel_rfl⟩
instance : T1 Tryd.prog 67 := ⟨⟨_, Tryd.underlying67, (fun _ h => nomatch h), (fun _ _ h => nomatch h)⟩, by kernel_rfl⟩
instance : TZero Tryd.prog 67 (.nilFunc) := ⟨by kernel_rfl⟩
instance : T1 Tryd.prog 69 := ⟨⟨_, Tryd.underlying69, (fun _ h => nomatch h), (fun _ _ h => nomatch h)⟩, by kernel_rfl⟩
instance : TZero Tryd.prog 69 (.nilFunc) := ⟨by kernel_rfl⟩
instance : T1 Tryd.prog 70 := ⟨⟨_, Tryd.underlying70, (fun _ h => nomatch h), (fun _ _ h => nomatch h)⟩, by kernel_rfl⟩
instance : TZero Tryd.prog 70 (.nilFunc) := ⟨by kernel_rfl⟩
instance : T1 Tryd.prog 71 := ⟨⟨_, Tryd.underlying71, (fun _ h => nomatch h), (fun _ _ h => nomatch h)⟩, by kernel_rfl⟩
instance : TZero Tryd.prog 71 (.int .u32 0) := ⟨by kernel_rfl⟩
instance : TInt Tryd.prog 71 .u32 := ⟨Tryd.underlying71⟩
instance : T1 Tryd.prog 72 := ⟨⟨_, Tryd.underlying72, (fun _ h => nomatch h), (fun _ _ h => nomatch h)⟩, by kernel_rfl⟩
instance : TZero Tryd.prog 72 (.nilFunc) := ⟨by kernel_rfl⟩
instance : T1 Tryd.prog 73 := ⟨⟨_, Tryd.underlying73, (fun _ h => nomatch h), (fun _ _ h => nomatch h)⟩, by kernel_rfl⟩
instance : TZero Tryd.prog 73 (.int .u64 0) := ⟨by kernel_rfl⟩
instance : TInt Tryd.prog 73 .u64 := ⟨Tryd.underlying73⟩
instance : TN Tryd.prog 74 24 := ⟨.inr ⟨_, _, Tryd.underlying74⟩, by kernel_rfl⟩
instance : TZero Tryd.prog 74 (.agg #[.int .u8 0, .int .u8 0, .int .u8 0, .int .u8 0, .int .u8 0, .int .u8 0, .int .u8 0, .int .u8 0, .int .u8 0, .int .u8 0, .int .u8 0, .int .u8 0, .int .u8 0, .int .u8 0, .int .u8 0, .int .u8 0, .int .u8 0, .int .u8 0, .int .u8 0, .int .u8 0, .int .u8 0, .int .u8 0, .int .u8 0, .int .u8 0]) := ⟨by kernel_rfl⟩
instance : TArr Tryd.prog 74 24 5 1 := ⟨Tryd.underlying74, by kernel_rfl⟩
instance : T1 Tryd.prog 75 := ⟨⟨_, Tryd.underlying75, (fun _ h => nomatch h), (fun _ _ h => nomatch h)⟩, by kernel_rfl⟩
instance : TZero Tryd.prog 75 (.nilFunc) := ⟨by kernel_rfl⟩
instance : T1 Tryd.prog 77 := ⟨⟨_, Tryd.underlying77, (fun _ h => nomatch h), (fun _ _ h => nomatch h)⟩, by kernel_rfl⟩
instance : TZero Tryd.prog 77 (.nilFunc) := ⟨by kernel_rfl⟩
instance : T1 Tryd.prog 78 := ⟨⟨_, Tryd.underlying78, (fun _ h => nomatch h), (fun _ _ h => nomatch h)⟩, by kernel_rfl⟩
instance : TZero Tryd.prog 78 (.nilFunc) := ⟨by kernel_rfl⟩
instance : T1 Tryd.prog 79 := ⟨⟨_, Tryd.underlying79, (fun _ h => nomatch h), (fun _ _ h => nomatch h)⟩, by kernel_rfl⟩
instance : TZero Tryd.prog 79 (.nilFunc) := ⟨by kernel_rfl⟩
instance : T1 Tryd.prog 80 := ⟨⟨_, Tryd.underlying80, (fun _ h => nomatch h), (fun _ _ h => nomatch h)⟩, by kernel_rfl⟩
instance : TZero Tryd.prog 80 (.int .u64 0) := ⟨by kernel_rfl⟩
instance : TInt Tryd.prog 80 .u64 := ⟨Tryd.underlying80⟩
instance : T1 Tryd.prog 81 := ⟨⟨_, Tryd.underlying81, (fun _ h => nomatch h), (fun _ _ h => nomatch h)⟩, by kernel_rfl⟩
instance : TZero Tryd.prog 81 (.nilFunc) := ⟨by kernel_rfl⟩
instance : T1 Tryd.prog 82 := ⟨⟨_, Tryd.underlying82, (fun _ h => nomatch h), (fun _ _ h => nomatch h)⟩, by kernel_rfl⟩
instance : TZero Tryd.prog 82 (.nilFunc) := ⟨by kernel_rfl⟩
instance : T1 Tryd.prog 83 := ⟨⟨_, Tryd.underlying83, (fun _ h => nomatch h), (fun _ _ h => nomatch h)⟩, by kernel_rfl⟩
instance : TZero Tryd.prog 83 (.nilFunc) := ⟨by kernel_rfl⟩
instance : T1 Tryd.prog 84 := ⟨⟨_, Tryd.underlying84, (fun _ h => nomatch h), (fun _ _ h => nomatch h)⟩, by kernel_rfl⟩
instance : TZero Tryd.prog 84 (.pointer none) := ⟨by kernel_rfl⟩
instance : TPtr Tryd.prog 84 := ⟨⟨_, Tryd.underlying84⟩⟩
instance : T1 Tryd.prog 85 := ⟨⟨_, Tryd.underlying85, (fun _ h => nomatch h), (fun _ _ h => nomatch h)⟩, by kernel_rfl⟩
instance : TZero Tryd.prog 85 (.nilFunc) := ⟨by kernel_rfl⟩
instance : T1 Tryd.prog 86 := ⟨⟨_, Tryd.underlying86, (fun _ h => nomatch h), (fun _ _ h => nomatch h)⟩, by kernel_rfl⟩
instance : TZero Tryd.prog 86 (.nilFunc) := ⟨by kernel_rfl⟩
instance : TN Tryd.prog 87 20 := ⟨.inr ⟨_, _, Tryd.underlying87⟩, by kernel_rfl⟩
instance : TZero Tryd.prog 87 (.agg #[.int .u64 0, .int .u64 0, .int .u64 0, .int .u64 0, .int .u64 0, .int .u64 0, .int .u64 0, .int .u64 0, .int .u64 0, .int .u64 0, .int .u64 0, .int .u64 0, .int .u64 0, .int .u64 0, .int .u64 0, .int .u64 0, .int .u64 0, .int .u64 0, .int .u64 0, .int .u64 0]) := ⟨by kernel_rfl⟩
instance : TArr Tryd.prog 87 20 73 1 := ⟨Tryd.underlying87, by kernel_rfl⟩
instance : TN Tryd.prog 88 65 := ⟨.inr ⟨_, _, Tryd.underlying88⟩, by kernel_rfl⟩
instance : TZero Tryd.prog 88 (.agg #[.int .u8 0, .int .u8 0, .int .u8 0, .int .u8 0, .int .u8 0, .int .u8 0, .int .u8 0, .int .u8 0, .int .u8 0, .int .u8 0, .int .u8 0, .int .u8 0, .int .u8 0, .int .u8 0, .int .u8 0, .int .u8 0, .int .u8 0, .int .u8 0, .int .u8 0, .int .u8 0, .int .u8 0, .int .u8 0, .int .u8 0, .int .u8 0, .int .u8 0, .int .u8 0, .int .u8 0, .int .u8 0, .int .u8 0, .int .u8 0, .int .u8 0, .int .u8 0, .int .u8 0, .int .u8 0, .int .u8 0, .int .u8 0, .int .u8 0, .int .u8 0, .int .u8 0, .int .u8 0, .int .u8 0, .int .u8 0, .int .u8 0, .int .u8 0, .int .u8 0, .int .u8 0, .int .u8 0, .int .u8 0, .int .u8 0, .int .u8 0, .int .u8 0, .int .u8 0, .int .u8 0, .int .u8 0, .int .u8 0, .int .u8 0, .int .u8 0, .int .u8 0, .int .u8 0, .int .u8 0, .int .u8 0, .int .u8 0, .int .u8 0, .int .u8 0, .int .u8 0]) := ⟨by kernel_rfl⟩
instance : TArr Tryd.prog 88 65 5 1 := ⟨Tryd.underlying88, by kernel_rfl⟩
instance : T1 Tryd.prog 90 := ⟨⟨_, Tryd.underlying90, (fun _ h => nomatch h), (fun _ _ h => nomatch h)⟩, by kernel_rfl⟩
instance : TZero Tryd.prog 90 (.nilFunc) := ⟨by kernel_rfl⟩
instance : T1 Tryd.prog 91 := ⟨⟨_, Tryd.underlying91, (fun _ h => nomatch h), (fun _ _ h => nomatch h)⟩, by kernel_rfl⟩
instance : TZero Tryd.prog 91 (.pointer none) := ⟨by kernel_rfl⟩
instance : TPtr Tryd.prog 91 := ⟨⟨_, Tryd.underlying91⟩⟩
instance : T1 Tryd.prog 93 := ⟨⟨_, Tryd.underlying93, (fun _ h => nomatch h), (fun _ _ h => nomatch h)⟩, by kernel_rfl⟩
instance : TZero Tryd.prog 93 (.nilFunc) := ⟨by kernel_rfl⟩
instance : TN Tryd.prog 94 32 := ⟨.inr ⟨_, _, Tryd.underlying94⟩, by kernel_rfl⟩
instance : TZero Tryd.prog 94 (.agg #[.int .u8 0, .int .u8 0, .int .u8 0, .int .u8 0, .int .u8 0, .int .u8 0, .int .u8 0, .int .u8 0, .int .u8 0, .int .u8 0, .int .u8 0, .int .u8 0, .int .u8 0, .int .u8 0, .int .u8 0, .int .u8 0, .int .u8 0, .int .u8 0, .int .u8 0, .int .u8 0, .int .u8 0, .int .u8 0, .int .u8 0, .int .u8 0, .int .u8 0, .int .u8 0, .int .u8 0, .int .u8 0, .int .u8 0, .int .u8 0, .int .u8 0, .int .u8 0]) := ⟨by kernel_rfl⟩
instance : TArr Tryd.prog 94 32 5 1 := ⟨Tryd.underlying94, by kernel_rfl⟩
instance : TN Tryd.prog 95 64 := ⟨.inr ⟨_, _, Tryd.underlying95⟩, by kernel_rfl⟩
instance : TZero Tryd.prog 95 (.agg #[.int .u8 0, .int .u8 0, .int .u8 0, .int .u8 0, .int .u8 0, .int .u8 0, .int .u8 0, .int .u8 0, .int .u8 0, .int .u8 0, .int .u8 0, .int .u8 0, .int .u8 0, .int .u8 0, .int .u8 0, .int .u8 0, .int .u8 0, .int .u8 0, .int .u8 0, .int .u8 0, .int .u8 0, .int .u8 0, .int .u8 0, .int .u8 0, .int .u8 0, .int .u8 0, .int .u8 0, .int .u8 0, .int .u8 0, .int .u8 0, .int .u8 0, .int .u8 0, .int .u8 0, .int .u8 0, .int .u8 0, .int .u8 0, .int .u8 0, .int .u8 0, .int .u8 0, .int .u8 0, .int .u8 0, .int .u8 0, .int .u8 0, .int .u8 0, .int .u8 0, .int .u8 0, .int .u8 0, .int .u8 0, .int .u8 0, .int .u8 0, .int .u8 0, .int .u8 0, .int .u8 0, .int .u8 0, .int .u8 0, .int .u8 0, .int .u8 0, .int .u8 0, .int .u8 0, .int .u8 0, .int .u8 0, .int .u8 0, .int .u8 0, .int .u8 0]) := ⟨by kernel_rfl⟩
instance : TArr Tryd.prog 95 64 5 1 := ⟨Tryd.underlying95, by kernel_rfl⟩
instance : T1 Tryd.prog 96 := ⟨⟨_, Tryd.underlying96, (fun _ h => nomatch h), (fun _ _ h => nomatch h)⟩, by kernel_rfl⟩
instance : TZero Tryd.prog 96 (.nilFunc) := ⟨by kernel_rfl⟩
instance : TN Tryd.prog 97 4 := ⟨.inl ⟨_, Tryd.underlying97⟩, by kernel_rfl⟩
instance : TZero Tryd.prog 97 (.agg #[.pointer none, .pointer none, .pointer none, .string ⟨#[]⟩]) := ⟨by kernel_rfl⟩
instance : TBuild Tryd.prog 97 [(0, 1), (1, 1), (2, 1), (3, 1)] := ⟨_, Tryd.underlying97, by kernel_rfl⟩
instance : TField Tryd.prog 97 0 0 := ⟨_, _, Tryd.underlying97, rfl, rfl, 1, by kernel_rfl, by decide⟩
instance : TPart Tryd.prog 97 0 0 none := ⟨_, _, Tryd.underlying97, rfl, rfl, (inferInstance : T1 Tryd.prog 17)⟩
instance : TField Tryd.prog 97 1 1 := ⟨_, _, Tryd.underlying97, rfl, rfl, 1, by kernel_rfl, by decide⟩
instance : TPart Tryd.prog 97 1 1 none := ⟨_, _, Tryd.underlying97, rfl, rfl, (inferInstance : T1 Tryd.prog 17)⟩
instance : TField Tryd.prog 97 2 2 := ⟨_, _, Tryd.underlying97, rfl, rfl, 1, by kernel_rfl, by decide⟩
instance : TPart Tryd.prog 97 2 2 none := ⟨_, _, Tryd.underlying97, rfl, rfl, (inferInstance : T1 Tryd.prog 17)⟩
instance : TField Tryd.prog 97 3 3 := ⟨_, _, Tryd.underlying97, rfl, rfl, 1, by kernel_rfl, by decide⟩
instance : TPart Tryd.prog 97 3 3 none := ⟨_, _, Tryd.underlying97, rfl, rfl, (inferInstance : T1 Tryd.prog 9)⟩
instance : TN Tryd.prog 98 4 := ⟨.inl ⟨_, Tryd.underlying98⟩, by kernel_rfl⟩
instance : TZero Tryd.prog 98 (.agg #[.pointer none, .pointer none, .pointer none, .string ⟨#[]⟩]) := ⟨by kernel_rfl⟩
instance : TBuild Tryd.prog 98 [(0, 1), (1, 1), (2, 1), (3, 1)] := ⟨_, Tryd.underlying98, by kernel_rfl⟩
instance : TField Tryd.prog 98 0 0 := ⟨_, _, Tryd.underlying98, rfl, rfl, 1, by kernel_rfl, by decide⟩
instance : TPart Tryd.prog 98 0 0 none := ⟨_, _, Tryd.underlying98, rfl, rfl, (inferInstance : T1 Tryd.prog 17)⟩
instance : TField Tryd.prog 98 1 1 := ⟨_, _, Tryd.underlying98, rfl, rfl, 1, by kernel_rfl, by decide⟩
instance : TPart Tryd.prog 98 1 1 none := ⟨_, _, Tryd.underlying98, rfl, rfl, (inferInstance : T1 Tryd.prog 17)⟩
instance : TField Tryd.prog 98 2 2 := ⟨_, _, Tryd.underlying98, rfl, rfl, 1, by kernel_rfl, by decide⟩
instance : TPart Tryd.prog 98 2 2 none := ⟨_, _, Tryd.underlying98, rfl, rfl, (inferInstance : T1 Tryd.prog 17)⟩
instance : TField Tryd.prog 98 3 3 := ⟨_, _, Tryd.underlying98, rfl, rfl, 1, by kernel_rfl, by decide⟩
instance : TPart Tryd.prog 98 3 3 none := ⟨_, _, Tryd.underlying98, rfl, rfl, (inferInstance : T1 Tryd.prog 9)⟩
instance : T1 Tryd.prog 102 := ⟨⟨_, Tryd.underlying102, (fun _ h => nomatch h), (fun _ _ h => nomatch h)⟩, by kernel_rfl⟩
instance : TZero Tryd.prog 102 (.nilFunc) := ⟨by kernel_rfl⟩
instance : T1 Tryd.prog 103 := ⟨⟨_, Tryd.underlying103, (fun _ h => nomatch h), (fun _ _ h => nomatch h)⟩, by kernel_rfl⟩
instance : TZero Tryd.prog 103 (.int .u8 0) := ⟨by kernel_rfl⟩
instance : TInt Tryd.prog 103 .u8 := ⟨Tryd.underlying103⟩
instance : T1 Tryd.prog 104 := ⟨⟨_, Tryd.underlying104, (fun _ h => nomatch h), (fun _ _ h => nomatch h)⟩, by kernel_rfl⟩
instance : TZero Tryd.prog 104 (.int .u8 0) := ⟨by kernel_rfl⟩
instance : TInt Tryd.prog 104 .u8 := ⟨Tryd.underlying104⟩
instance : T1 Tryd.prog 105 := ⟨⟨_, Tryd.underlying105, (fun _ h => nomatch h), (fun _ _ h => nomatch h)⟩, by kernel_rfl⟩
instance : TZero Tryd.prog 105 (.nilFunc) := ⟨by kernel_rfl⟩
instance : T1 Tryd.prog 106 := ⟨⟨_, Tryd.underlying106, (fun _ h => nomatch h), (fun _ _ h => nomatch h)⟩, by kernel_rfl⟩
instance : TZero Tryd.prog 106 (.pointer none) := ⟨by kernel_rfl⟩
instance : TPtr Tryd.prog 106 := ⟨⟨_, Tryd.underlying106⟩⟩
instance : T1 Tryd.prog 107 := ⟨⟨_, Tryd.underlying107, (fun _ h => nomatch h), (fun _ _ h => nomatch h)⟩, by kernel_rfl⟩
instance : TZero Tryd.prog 107 (.int .i32 0) := ⟨by kernel_rfl⟩
instance : TInt Tryd.prog 107 .i32 := ⟨Tryd.underlying107⟩
instance : T1 Tryd.prog 108 := ⟨⟨_, Tryd.underlying108, (fun _ h => nomatch h), (fun _ _ h => nomatch h)⟩, by kernel_rfl⟩
instance : TZero Tryd.prog 108 (.int .i32 0) := ⟨by kernel_rfl⟩
instance : TInt Tryd.prog 108 .i32 := ⟨Tryd.underlying108⟩
instance : TN Tryd.prog 109 11 := ⟨.inl ⟨_, Tryd.underlying109⟩, by kernel_rfl⟩
instance : TZero Tryd.prog 109 (.agg #[.int .u64 0, .int .u64 0, .int .u32 0, .int .u8 0, .int .u8 0, .int .u8 0, .int .u8 0, .nilFunc, .pointer none, .int .i32 0, .int .i32 0]) := ⟨by kernel_rfl⟩
instance : TBuild Tryd.prog 109 [(0, 1), (1, 1), (2, 1), (3, 1), (4, 1), (5, 1), (6, 1), (7, 1), (8, 1), (9, 1), (10, 1)] := ⟨_, Tryd.underlying109, by kernel_rfl⟩
instance : TField Tryd.prog 109 0 0 := ⟨_, _, Tryd.underlying109, rfl, rfl, 1, by kernel_rfl, by decide⟩
instance : TPart Tryd.prog 109 0 0 none := ⟨_, _, Tryd.underlying109, rfl, rfl, (inferInstance : T1 Tryd.prog 12)⟩
instance : TField Tryd.prog 109 1 1 := ⟨_, _, Tryd.underlying109, rfl, rfl, 1, by kernel_rfl, by decide⟩
instance : TPart Tryd.prog 109 1 1 none := ⟨_, _, Tryd.underlying109, rfl, rfl, (inferInstance : T1 Tryd.prog 12)⟩
instance : TField Tryd.prog 109 2 2 := ⟨_, _, Tryd.underlying109, rfl, rfl, 1, by kernel_rfl, by decide⟩
instance : TPart Tryd.prog 109 2 2 none := ⟨_, _, Tryd.underlying109, rfl, rfl, (inferInstance : T1 Tryd.prog 71)⟩
instance : TField Tryd.prog 109 3 3 := ⟨_, _, Tryd.underlying109, rfl, rfl, 1, by kernel_rfl, by decide⟩
instance : TPart Tryd.prog 109 3 3 none := ⟨_, _, Tryd.underlying109, rfl, rfl, (inferInstance : T1 Tryd.prog 103)⟩
instance : TField Tryd.prog 109 4 4 := ⟨_, _, Tryd.underlying109, rfl, rfl, 1, by kernel_rfl, by decide⟩
instance : TPart Tryd.prog 109 4 4 none := ⟨_, _, Tryd.underlying109, rfl, rfl, (inferInstance : T1 Tryd.prog 5)⟩
instance : TField Tryd.prog 109 5 5 := ⟨_, _, Tryd.underlying109, rfl, rfl, 1, by kernel_rfl, by decide⟩
instance : TPart Tryd.prog 109 5 5 none := ⟨_, _, Tryd.underlying109, rfl, rfl, (inferInstance : T1 Tryd.prog 5)⟩
instance : TField Tryd.prog 109 6 6 := ⟨_, _, Tryd.underlying109, rfl, rfl, 1, by kernel_rfl, by decide⟩
instance : TPart Tryd.prog 109 6 6 none := ⟨_, _, Tryd.underlying109, rfl, rfl, (inferInstance : T1 Tryd.prog 104)⟩
instance : TField Tryd.prog 109 7 7 := ⟨_, _, Tryd.underlying109, rfl, rfl, 1, by kernel_rfl, by decide⟩
instance : TPart Tryd.prog 109 7 7 none := ⟨_, _, Tryd.underlying109, rfl, rfl, (inferInstance : T1 Tryd.prog 105)⟩
instance : TField Tryd.prog 109 8 8 := ⟨_, _, Tryd.underlying109, rfl, rfl, 1, by kernel_rfl, by decide⟩
instance : TPart Tryd.prog 109 8 8 none := ⟨_, _, Tryd.underlying109, rfl, rfl, (inferInstance : T1 Tryd.prog 106)⟩
instance : TField Tryd.prog 109 9 9 := ⟨_, _, Tryd.underlying109, rfl, rfl, 1, by kernel_rfl, by decide⟩
instance : TPart Tryd.prog 109 9 9 none := ⟨_, _, Tryd.underlying109, rfl, rfl, (inferInstance : T1 Tryd.prog 107)⟩
instance : TField Tryd.prog 109 10 10 := ⟨_, _, Tryd.underlying109, rfl, rfl, 1, by kernel_rfl, by decide⟩
instance : TPart Tryd.prog 109 10 10 none := ⟨_, _, Tryd.underlying109, rfl, rfl, (inferInstance : T1 Tryd.prog 108)⟩
instance : TN Tryd.prog 110 11 := ⟨.inl ⟨_, Tryd.underlying110⟩, by kernel_rfl⟩
instance : TZero Tryd.prog 110 (.agg #[.int .u64 0, .int .u64 0, .int .u32 0, .int .u8 0, .int .u8 0, .int .u8 0, .int .u8 0, .nilFunc, .pointer none, .int .i32 0, .int .i32 0]) := ⟨by kernel_rfl⟩
instance : TBuild Tryd.prog 110 [(0, 1), (1, 1), (2, 1), (3, 1), (4, 1), (5, 1), (6, 1), (7, 1), (8, 1), (9, 1), (10, 1)] := ⟨_, Tryd.underlying110, by kernel_rfl⟩
instance : TField Tryd.prog 110 0 0 := ⟨_, _, Tryd.underlying110, rfl, rfl, 1, by kernel_rfl, by decide⟩
instance : TPart Tryd.prog 110 0 0 none := ⟨_, _, Tryd.underlying110, rfl, rfl, (inferInstance : T1 Tryd.prog 12)⟩
instance : TField Tryd.prog 110 1 1 := ⟨_, _, Tryd.underlying110, rfl, rfl, 1, by kernel_rfl, by decide⟩
instance : TPart Tryd.prog 110 1 1 none := ⟨_, _, Tryd.underlying110, rfl, rfl, (inferInstance : T1 Tryd.prog 12)⟩
instance : TField Tryd.prog 110 2 2 := ⟨_, _, Tryd.underlying110, rfl, rfl, 1, by kernel_rfl, by decide⟩
instance : TPart Tryd.prog 110 2 2 none := ⟨_, _, Tryd.underlying110, rfl, rfl, (inferInstance : T1 Tryd.prog 71)⟩
instance : TField Tryd.prog 110 3 3 := ⟨_, _, Tryd.underlying110, rfl, rfl, 1, by kernel_rfl, by decide⟩
instance : TPart Tryd.prog 110 3 3 none := ⟨_, _, Tryd.underlying110, rfl, rfl, (inferInstance : T1 Tryd.prog 103)⟩
instance : TField Tryd.prog 110 4 4 := ⟨_, _, Tryd.underlying110, rfl, rfl, 1, by kernel_rfl, by decide⟩
instance : TPart Tryd.prog 110 4 4 none := ⟨_, _, Tryd.underlying110, rfl, rfl, (inferInstance : T1 Tryd.prog 5)⟩
instance : TField Tryd.prog 110 5 5 := ⟨_, _, Tryd.underlying110, rfl, rfl, 1, by kernel_rfl, by decide⟩
instance : TPart Tryd.prog 110 5 5 none := ⟨_, _, Tryd.underlying110, rfl, rfl, (inferInstance : T1 Tryd.prog 5)⟩
instance : TField Tryd.prog 110 6 6 := ⟨_, _, Tryd.underlying110, rfl, rfl, 1, by kernel_rfl, by decide⟩
instance : TPart Tryd.prog 110 6 6 none := ⟨_, _, Tryd.underlying110, rfl, rfl, (inferInstance : T1 Tryd.prog 104)⟩
instance : TField Tryd.prog 110 7 7 := ⟨_, _, Tryd.underlying110, rfl, rfl, 1, by kernel_rfl, by decide⟩
instance : TPart Tryd.prog 110 7 7 none := ⟨_, _, Tryd.underlying110, rfl, rfl, (inferInstance : T1 Tryd.prog 105)⟩
instance : TField Tryd.prog 110 8 8 := ⟨_, _, Tryd.underlying110, rfl, rfl, 1, by kernel_rfl, by decide⟩
instance : TPart Tryd.prog 110 8 8 none := ⟨_, _, Tryd.underlying110, rfl, rfl, (inferInstance : T1 Tryd.prog 106)⟩
instance : TField Tryd.prog 110 9 9 := ⟨_, _, Tryd.underlying110, rfl, rfl, 1, by kernel_rfl, by decide⟩
instance : TPart Tryd.prog 110 9 9 none := ⟨_, _, Tryd.underlying110, rfl, rfl, (inferInstance : T1 Tryd.prog 107)⟩
instance : TField Tryd.prog 110 10 10 := ⟨_, _, Tryd.underlying110, rfl, rfl, 1, by kernel_rfl, by decide⟩
instance : TPart Tryd.prog 110 10 10 none := ⟨_, _, Tryd.underlying110, rfl, rfl, (inferInstance : T1 Tryd.prog 108)⟩
instance : T1 Tryd.prog 111 := ⟨⟨_, Tryd.underlying111, (fun _ h => nomatch h), (fun _ _ h => nomatch h)⟩, by kernel_rfl⟩
instance : TZero Tryd.prog 111 (.pointer none) := ⟨by kernel_rfl⟩
instance : TBody Tryd.prog 3 := ⟨_, Tryd.func3, by kernel_rfl, by kernel_rfl⟩
instance : TBody Tryd.prog 4 := ⟨_, Tryd.func4, by kernel_rfl, by kernel_rfl⟩
instance : TBody Tryd.prog 5 := ⟨_, Tryd.func5, by kernel_rfl, by kernel_rfl⟩
instance : TBody Tryd.prog 6 := ⟨_, Tryd.func6, by kernel_rfl, by kernel_rfl⟩
instance : TBody Tryd.prog 7 := ⟨_, Tryd.func7, by kernel_rfl, by kernel_rfl⟩
instance : TBody Tryd.prog 8 := ⟨_, Tryd.func8, by kernel_rfl, by kernel_rfl⟩
instance : TBody Tryd.prog 9 := ⟨_, Tryd.func9, by kernel_rfl, by kernel_rfl⟩
instance : TBody Tryd.prog 10 := ⟨_, Tryd.func10, by kernel_rfl, by kernel_rfl⟩
instance : TBody Tryd.prog 11 := ⟨_, Tryd.func11, by kernel_rfl, by kernel_rfl⟩
instance : TBody Tryd.prog 12 := ⟨_, Tryd.func12, by kernel_rfl, by kernel_rfl⟩
instance : TBody Tryd.prog 13 := ⟨_, Tryd.func13, by kernel_rfl, by kernel_rfl⟩
instance : TBody Tryd.prog 14 := ⟨_, Tryd.func14, by kernel_rfl, by kernel_rfl⟩
instance : TBody Tryd.prog 15 := ⟨_, Tryd.func15, by kernel_rfl, by kernel_rfl⟩
instance : TBody Tryd.prog 16 := ⟨_, Tryd.func16, by kernel_rfl, by kernel_rfl⟩
instance : TBody Tryd.prog 17 := ⟨_, Tryd.func17, by kernel_rfl, by kernel_rfl⟩
instance : TBody Tryd.prog 18 := ⟨_, Tryd.func18, by kernel_rfl, by kernel_rfl⟩
instance : TBody Tryd.prog 19 := ⟨_, Tryd.func19, by kernel_rfl, by kernel_rfl⟩
instance : TBody Tryd.prog 20 := ⟨_, Tryd.func20, by kernel_rfl, by kernel_rfl⟩
instance : TBody Tryd.prog 21 := ⟨_, Tryd.func21, by kernel_rfl, by kernel_rfl⟩
instance : TBody Tryd.prog 22 := ⟨_, Tryd.func22, by kernel_rfl, by kernel_rfl⟩
instance : TBody Tryd.prog 23 := ⟨_, Tryd.func23, by kernel_rfl, by kernel_rfl⟩
instance : TBody Tryd.prog 24 := ⟨_, Tryd.func24, by kernel_rfl, by kernel_rfl⟩
instance : TBody Tryd.prog 25 := ⟨_, Tryd.func25, by kernel_rfl, by kernel_rfl⟩
instance : TBody Tryd.prog 26 := ⟨_, Tryd.func26, by kernel_rfl, by kernel_rfl⟩
instance : TBody Tryd.prog 27 := ⟨_, Tryd.func27, by kernel_rfl, by kernel_rfl⟩
instance : TBody Tryd.prog 28 := ⟨_, Tryd.func28, by kernel_rfl, by kernel_rfl⟩
instance : TBody Tryd.prog 29 := ⟨_, Tryd.func29, by kernel_rfl, by kernel_rfl⟩
instance : TBody Tryd.prog 30 := ⟨_, Tryd.func30, by kernel_rfl, by kernel_rfl⟩
instance : TBody Tryd.prog 31 := ⟨_, Tryd.func31, by kernel_rfl, by kernel_rfl⟩
instance : TBody Tryd.prog 32 := ⟨_, Tryd.func32, by kernel_rfl, by kernel_rfl⟩
instance : TBody Tryd.prog 33 := ⟨_, Tryd.func33, by kernel_rfl, by kernel_rfl⟩
instance : TBody Tryd.prog 34 := ⟨_, Tryd.func34, by kernel_rfl, by kernel_rfl⟩
instance : TBody Tryd.prog 35 := ⟨_, Tryd.func35, by kernel_rfl, by kernel_rfl⟩
instance : TBody Tryd.prog 36 := ⟨_, Tryd.func36, by kernel_rfl, by kernel_rfl⟩
instance : TBody Tryd.prog 37 := ⟨_, Tryd.func37, by kernel_rfl, by kernel_rfl⟩
instance : TBody Tryd.prog 38 := ⟨_, Tryd.func38, by kernel_rfl, by kernel_rfl⟩
instance : TBody Tryd.prog 39 := ⟨_, Tryd.func39, by kernel_rfl, by kernel_rfl⟩
instance : TBody Tryd.prog 40 := ⟨_, Tryd.func40, by kernel_rfl, by kernel_rfl⟩
instance : TBody Tryd.prog 41 := ⟨_, Tryd.func41, by kernel_rfl, by kernel_rfl⟩
instance : TBody Tryd.prog 42 := ⟨_, Tryd.func42, by kernel_rfl, by kernel_rfl⟩
instance : TBody Tryd.prog 43 := ⟨_, Tryd.func43, by kernel_rfl, by kernel_rfl⟩
instance : TBody Tryd.prog 44 := ⟨_, Tryd.func44, by kernel_rfl, by kernel_rfl⟩
instance : TBody Tryd.prog 45 := ⟨_, Tryd.func45, by kernel_rfl, by kernel_rfl⟩
instance : TBody Tryd.prog 46 := ⟨_, Tryd.func46, by kernel_rfl, by kernel_rfl⟩
instance : TBody Tryd.prog 47 := ⟨_, Tryd.func47, by kernel_rfl, by kernel_rfl⟩
instance : TBody Tryd.prog 48 := ⟨_, Tryd.func48, by kernel_rfl, by kernel_rfl⟩
instance : TBody Tryd.prog 49 := ⟨_, Tryd.func49, by kernel_rfl, by kernel_rfl⟩
instance : TBody Tryd.prog 50 := ⟨_, Tryd.func50, by kernel_rfl, by kernel_rfl⟩
instance : TBody Tryd.prog 51 := ⟨_, Tryd.func51, by kernel_rfl, by kernel_rfl⟩
instance : TBody Tryd.prog 53 := ⟨_, Tryd.func53, by kernel_rfl, by kernel_rfl⟩
instance : TBody Tryd.prog 54 := ⟨_, Tryd.func54, by kernel_rfl, by kernel_rfl⟩
instance : TBody Tryd.prog 55 := ⟨_, Tryd.func55, by kernel_rfl, by kernel_rfl⟩
instance : TBody Tryd.prog 56 := ⟨_, Tryd.func56, by kernel_rfl, by kernel_rfl⟩
instance : TBody Tryd.prog 57 := ⟨_, Tryd.func57, by kernel_rfl, by kernel_rfl⟩
instance : TBody Tryd.prog 58 := ⟨_, Tryd.func58, by kernel_rfl, by kernel_rfl⟩
instance : TBody Tryd.prog 59 := ⟨_, Tryd.func59, by kernel_rfl, by kernel_rfl⟩
instance : TBody Tryd.prog 60 := ⟨_, Tryd.func60, by kernel_rfl, by kernel_rfl⟩
instance : TBody Tryd.prog 61 := ⟨_, Tryd.func61, by kernel_rfl, by kernel_rfl⟩
instance : TBody Tryd.prog 62 := ⟨_, Tryd.func62, by kernel_rfl, by kernel_rfl⟩
instance : TBody Tryd.prog 63 := ⟨_, Tryd.func63, by kernel_rfl, by kernel_rfl⟩
instance : TExt Tryd.prog 64 Extern.BytealgIndexByte.indexByte := ⟨⟨_, Tryd.func64, by kernel_rfl, by kernel_rfl, by kernel_rfl, by kernel_rfl⟩⟩
instance : TBody Tryd.prog 65 := ⟨_, Tryd.func65, by kernel_rfl, by kernel_rfl⟩
instance : TBody Tryd.prog 66 := ⟨_, Tryd.func66, by kernel_rfl, by kernel_rfl⟩
instance : TBody Tryd.prog 67 := ⟨_, Tryd.func67, by kernel_rfl, by kernel_rfl⟩
instance : TBody Tryd.prog 68 := ⟨_, Tryd.func68, by kernel_rfl, by kernel_rfl⟩
theorem mixed : Tryd.prog.follows .mixedOrders = true := by kernel_rfl
end Go.Proofs.YtdpephigccnkdaaDoor
