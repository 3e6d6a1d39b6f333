/- What the walk asks of the program's types and functions: closed facts, by program. No condition. -/
import Derived.Test.YtdpephigccnkdaaSlH
import Derived.Test.YtdpephigccnkdaaProg
import Derived.KernelRfl
set_option linter.unusedVariables false
namespace Go.Proofs.Ytdpephigccnkdaa
open Go.SL
instance : T1 Try.prog 1 := ⟨⟨_, Try.underlying1, (fun _ h => nomatch h), (fun _ _ h => nomatch h)⟩, by kernel_rfl⟩
instance : TZero Try.prog 1 (.nilFunc) := ⟨by kernel_rfl⟩
instance : T1 Try.prog 2 := ⟨⟨_, Try.underlying2, (fun _ h => nomatch h), (fun _ _ h => nomatch h)⟩, by kernel_rfl⟩
instance : TZero Try.prog 2 (.int .i64 0) := ⟨by kernel_rfl⟩
instance : TInt Try.prog 2 .i64 := ⟨Try.underlying2⟩
instance : T1 Try.prog 3 := ⟨⟨_, Try.underlying3, (fun _ h => nomatch h), (fun _ _ h => nomatch h)⟩, by kernel_rfl⟩
instance : TZero Try.prog 3 (.int .i64 0) := ⟨by kernel_rfl⟩
instance : TInt Try.prog 3 .i64 := ⟨Try.underlying3⟩
instance : T1 Try.prog 4 := ⟨⟨_, Try.underlying4, (fun _ h => nomatch h), (fun _ _ h => nomatch h)⟩, by kernel_rfl⟩
instance : TZero Try.prog 4 (.bool false) := ⟨by kernel_rfl⟩
instance : TBool Try.prog 4 := ⟨Try.underlying4⟩
instance : T1 Try.prog 5 := ⟨⟨_, Try.underlying5, (fun _ h => nomatch h), (fun _ _ h => nomatch h)⟩, by kernel_rfl⟩
instance : TZero Try.prog 5 (.int .u8 0) := ⟨by kernel_rfl⟩
instance : TInt Try.prog 5 .u8 := ⟨Try.underlying5⟩
instance : T1 Try.prog 6 := ⟨⟨_, Try.underlying6, (fun _ h => nomatch h), (fun _ _ h => nomatch h)⟩, by kernel_rfl⟩
instance : TZero Try.prog 6 (.int .u8 0) := ⟨by kernel_rfl⟩
instance : TInt Try.prog 6 .u8 := ⟨Try.underlying6⟩
instance : TN Try.prog 7 4 := ⟨.inl ⟨_, Try.underlying7⟩, by kernel_rfl⟩
instance : TZero Try.prog 7 (.agg #[.int .i64 0, .int .i64 0, .bool false, .int .u8 0]) := ⟨by kernel_rfl⟩
instance : TBuild Try.prog 7 [(0, 1), (1, 1), (2, 1), (3, 1)] := ⟨_, Try.underlying7, by kernel_rfl⟩
instance : TField Try.prog 7 0 0 := ⟨_, _, Try.underlying7, rfl, rfl, 1, by kernel_rfl, by decide⟩
instance : TPart Try.prog 7 0 0 none := ⟨_, _, Try.underlying7, rfl, rfl, (inferInstance : T1 Try.prog 2)⟩
instance : TField Try.prog 7 1 1 := ⟨_, _, Try.underlying7, rfl, rfl, 1, by kernel_rfl, by decide⟩
instance : TPart Try.prog 7 1 1 none := ⟨_, _, Try.underlying7, rfl, rfl, (inferInstance : T1 Try.prog 3)⟩
instance : TField Try.prog 7 2 2 := ⟨_, _, Try.underlying7, rfl, rfl, 1, by kernel_rfl, by decide⟩
instance : TPart Try.prog 7 2 2 none := ⟨_, _, Try.underlying7, rfl, rfl, (inferInstance : T1 Try.prog 4)⟩
instance : TField Try.prog 7 3 3 := ⟨_, _, Try.underlying7, rfl, rfl, 1, by kernel_rfl, by decide⟩
instance : TPart Try.prog 7 3 3 none := ⟨_, _, Try.underlying7, rfl, rfl, (inferInstance : T1 Try.prog 6)⟩
instance : TN Try.prog 8 4 := ⟨.inl ⟨_, Try.underlying8⟩, by kernel_rfl⟩
instance : TZero Try.prog 8 (.agg #[.int .i64 0, .int .i64 0, .bool false, .int .u8 0]) := ⟨by kernel_rfl⟩
instance : TBuild Try.prog 8 [(0, 1), (1, 1), (2, 1), (3, 1)] := ⟨_, Try.underlying8, by kernel_rfl⟩
instance : TField Try.prog 8 0 0 := ⟨_, _, Try.underlying8, rfl, rfl, 1, by kernel_rfl, by decide⟩
instance : TPart Try.prog 8 0 0 none := ⟨_, _, Try.underlying8, rfl, rfl, (inferInstance : T1 Try.prog 2)⟩
instance : TField Try.prog 8 1 1 := ⟨_, _, Try.underlying8, rfl, rfl, 1, by kernel_rfl, by decide⟩
instance : TPart Try.prog 8 1 1 none := ⟨_, _, Try.underlying8, rfl, rfl, (inferInstance : T1 Try.prog 3)⟩
instance : TField Try.prog 8 2 2 := ⟨_, _, Try.underlying8, rfl, rfl, 1, by kernel_rfl, by decide⟩
instance : TPart Try.prog 8 2 2 none := ⟨_, _, Try.underlying8, rfl, rfl, (inferInstance : T1 Try.prog 4)⟩
instance : TField Try.prog 8 3 3 := ⟨_, _, Try.underlying8, rfl, rfl, 1, by kernel_rfl, by decide⟩
instance : TPart Try.prog 8 3 3 none := ⟨_, _, Try.underlying8, rfl, rfl, (inferInstance : T1 Try.prog 6)⟩
instance : T1 Try.prog 9 := ⟨⟨_, Try.underlying9, (fun _ h => nomatch h), (fun _ _ h => nomatch h)⟩, by kernel_rfl⟩
instance : TZero Try.prog 9 (.string ⟨#[]⟩) := ⟨by kernel_rfl⟩
instance : TString Try.prog 9 := ⟨Try.underlying9⟩
instance : T1 Try.prog 10 := ⟨⟨_, Try.underlying10, (fun _ h => nomatch h), (fun _ _ h => nomatch h)⟩, by kernel_rfl⟩
instance : TZero Try.prog 10 (.string ⟨#[]⟩) := ⟨by kernel_rfl⟩
instance : TString Try.prog 10 := ⟨Try.underlying10⟩
instance : T1 Try.prog 11 := ⟨⟨_, Try.underlying11, (fun _ h => nomatch h), (fun _ _ h => nomatch h)⟩, by kernel_rfl⟩
instance : TZero Try.prog 11 (.string ⟨#[]⟩) := ⟨by kernel_rfl⟩
instance : TString Try.prog 11 := ⟨Try.underlying11⟩
instance : T1 Try.prog 12 := ⟨⟨_, Try.underlying12, (fun _ h => nomatch h), (fun _ _ h => nomatch h)⟩, by kernel_rfl⟩
instance : TZero Try.prog 12 (.int .u64 0) := ⟨by kernel_rfl⟩
instance : TInt Try.prog 12 .u64 := ⟨Try.underlying12⟩
instance : TN Try.prog 13 2 := ⟨.inl ⟨_, Try.underlying13⟩, by kernel_rfl⟩
instance : TZero Try.prog 13 (.agg #[.string ⟨#[]⟩, .int .u64 0]) := ⟨by kernel_rfl⟩
instance : TBuild Try.prog 13 [(0, 1), (1, 1)] := ⟨_, Try.underlying13, by kernel_rfl⟩
instance : TField Try.prog 13 0 0 := ⟨_, _, Try.underlying13, rfl, rfl, 1, by kernel_rfl, by decide⟩
instance : TPart Try.prog 13 0 0 none := ⟨_, _, Try.underlying13, rfl, rfl, (inferInstance : T1 Try.prog 9)⟩
instance : TField Try.prog 13 1 1 := ⟨_, _, Try.underlying13, rfl, rfl, 1, by kernel_rfl, by decide⟩
instance : TPart Try.prog 13 1 1 none := ⟨_, _, Try.underlying13, rfl, rfl, (inferInstance : T1 Try.prog 12)⟩
instance : TN Try.prog 14 2 := ⟨.inl ⟨_, Try.underlying14⟩, by kernel_rfl⟩
instance : TZero Try.prog 14 (.agg #[.string ⟨#[]⟩, .int .u64 0]) := ⟨by kernel_rfl⟩
instance : TBuild Try.prog 14 [(0, 1), (1, 1)] := ⟨_, Try.underlying14, by kernel_rfl⟩
instance : TField Try.prog 14 0 0 := ⟨_, _, Try.underlying14, rfl, rfl, 1, by kernel_rfl, by decide⟩
instance : TPart Try.prog 14 0 0 none := ⟨_, _, Try.underlying14, rfl, rfl, (inferInstance : T1 Try.prog 9)⟩
instance : TField Try.prog 14 1 1 := ⟨_, _, Try.underlying14, rfl, rfl, 1, by kernel_rfl, by decide⟩
instance : TPart Try.prog 14 1 1 none := ⟨_, _, Try.underlying14, rfl, rfl, (inferInstance : T1 Try.prog 12)⟩
instance : T1 Try.prog 15 := ⟨⟨_, Try.underlying15, (fun _ h => nomatch h), (fun _ _ h => nomatch h)⟩, by kernel_rfl⟩
instance : TZero Try.prog 15 (.pointer none) := ⟨by kernel_rfl⟩
instance : TPtr Try.prog 15 := ⟨⟨_, Try.underlying15⟩⟩
instance : T1 Try.prog 16 := ⟨⟨_, Try.underlying16, (fun _ h => nomatch h), (fun _ _ h => nomatch h)⟩, by kernel_rfl⟩
instance : TZero Try.prog 16 (.pointer none) := ⟨by kernel_rfl⟩
instance : TPtr Try.prog 16 := ⟨⟨_, Try.underlying16⟩⟩
instance : T1 Try.prog 17 := ⟨⟨_, Try.underlying17, (fun _ h => nomatch h), (fun _ _ h => nomatch h)⟩, by kernel_rfl⟩
instance : TZero Try.prog 17 (.pointer none) := ⟨by kernel_rfl⟩
instance : TPtr Try.prog 17 := ⟨⟨_, Try.underlying17⟩⟩
instance : TN Try.prog 18 1 := ⟨.inl ⟨_, Try.underlying18⟩, by kernel_rfl⟩
instance : TZero Try.prog 18 (.agg #[.pointer none]) := ⟨by kernel_rfl⟩
instance : TBuild Try.prog 18 [(0, 1)] := ⟨_, Try.underlying18, by kernel_rfl⟩
instance : TField Try.prog 18 0 0 := ⟨_, _, Try.underlying18, rfl, rfl, 1, by kernel_rfl, by decide⟩
instance : TPart Try.prog 18 0 0 none := ⟨_, _, Try.underlying18, rfl, rfl, (inferInstance : T1 Try.prog 17)⟩
instance : TN Try.prog 19 1 := ⟨.inl ⟨_, Try.underlying19⟩, by kernel_rfl⟩
instance : TZero Try.prog 19 (.agg #[.pointer none]) := ⟨by kernel_rfl⟩
instance : TBuild Try.prog 19 [(0, 1)] := ⟨_, Try.underlying19, by kernel_rfl⟩
instance : TField Try.prog 19 0 0 := ⟨_, _, Try.underlying19, rfl, rfl, 1, by kernel_rfl, by decide⟩
instance : TPart Try.prog 19 0 0 none := ⟨_, _, Try.underlying19, rfl, rfl, (inferInstance : T1 Try.prog 17)⟩
instance : T1 Try.prog 20 := ⟨⟨_, Try.underlying20, (fun _ h => nomatch h), (fun _ _ h => nomatch h)⟩, by kernel_rfl⟩
instance : TZero Try.prog 20 (.nilIface) := ⟨by kernel_rfl⟩
instance : T1 Try.prog 21 := ⟨⟨_, Try.underlying21, (fun _ h => nomatch h), (fun _ _ h => nomatch h)⟩, by kernel_rfl⟩
instance : TZero Try.prog 21 (.int .i32 0) := ⟨by kernel_rfl⟩
instance : TInt Try.prog 21 .i32 := ⟨Try.underlying21⟩
instance : T1 Try.prog 22 := ⟨⟨_, Try.underlying22, (fun _ h => nomatch h), (fun _ _ h => nomatch h)⟩, by kernel_rfl⟩
instance : TZero Try.prog 22 (.slice none 0 0) := ⟨by kernel_rfl⟩
instance : TSlice Try.prog 22 42 4 32 := ⟨Try.underlying22, by kernel_rfl⟩
instance : TN Try.prog 23 2 := ⟨.inl ⟨_, Try.underlying23⟩, by kernel_rfl⟩
instance : TZero Try.prog 23 (.agg #[.int .i64 0, .int .i64 0]) := ⟨by kernel_rfl⟩
instance : TBuild Try.prog 23 [(0, 1), (1, 1)] := ⟨_, Try.underlying23, by kernel_rfl⟩
instance : TField Try.prog 23 0 0 := ⟨_, _, Try.underlying23, rfl, rfl, 1, by kernel_rfl, by decide⟩
instance : TPart Try.prog 23 0 0 none := ⟨_, _, Try.underlying23, rfl, rfl, (inferInstance : T1 Try.prog 3)⟩
instance : TField Try.prog 23 1 1 := ⟨_, _, Try.underlying23, rfl, rfl, 1, by kernel_rfl, by decide⟩
instance : TPart Try.prog 23 1 1 none := ⟨_, _, Try.underlying23, rfl, rfl, (inferInstance : T1 Try.prog 3)⟩
instance : TPair Try.prog 23 := ⟨⟨_, _, _, _, Try.underlying23, by decide, by decide, rfl, rfl, Try.underlying3, Try.underlying3⟩, fun f g h => by rw [Try.underlying23] at h; cases h; exact ⟨(inferInstance : T1 Try.prog 3), (inferInstance : T1 Try.prog 3)⟩, by kernel_rfl, by kernel_rfl⟩
instance : TN Try.prog 24 2 := ⟨.inl ⟨_, Try.underlying24⟩, by kernel_rfl⟩
instance : TZero Try.prog 24 (.agg #[.int .i64 0, .int .i64 0]) := ⟨by kernel_rfl⟩
instance : TBuild Try.prog 24 [(0, 1), (1, 1)] := ⟨_, Try.underlying24, by kernel_rfl⟩
instance : TField Try.prog 24 0 0 := ⟨_, _, Try.underlying24, rfl, rfl, 1, by kernel_rfl, by decide⟩
instance : TPart Try.prog 24 0 0 none := ⟨_, _, Try.underlying24, rfl, rfl, (inferInstance : T1 Try.prog 3)⟩
instance : TField Try.prog 24 1 1 := ⟨_, _, Try.underlying24, rfl, rfl, 1, by kernel_rfl, by decide⟩
instance : TPart Try.prog 24 1 1 none := ⟨_, _, Try.underlying24, rfl, rfl, (inferInstance : T1 Try.prog 3)⟩
instance : TPair Try.prog 24 := ⟨⟨_, _, _, _, Try.underlying24, by decide, by decide, rfl, rfl, Try.underlying3, Try.underlying3⟩, fun f g h => by rw [Try.underlying24] at h; cases h; exact ⟨(inferInstance : T1 Try.prog 3), (inferInstance : T1 Try.prog 3)⟩, by kernel_rfl, by kernel_rfl⟩
instance : T1 Try.prog 25 := ⟨⟨_, Try.underlying25, (fun _ h => nomatch h), (fun _ _ h => nomatch h)⟩, by kernel_rfl⟩
instance : TZero Try.prog 25 (.pointer none) := ⟨by kernel_rfl⟩
instance : TPtr Try.prog 25 := ⟨⟨_, Try.underlying25⟩⟩
instance : T1 Try.prog 27 := ⟨⟨_, Try.underlying27, (fun _ h => nomatch h), (fun _ _ h => nomatch h)⟩, by kernel_rfl⟩
instance : TZero Try.prog 27 (.nilFunc) := ⟨by kernel_rfl⟩
instance : T1 Try.prog 28 := ⟨⟨_, Try.underlying28, (fun _ h => nomatch h), (fun _ _ h => nomatch h)⟩, by kernel_rfl⟩
instance : TZero Try.prog 28 (.nilFunc) := ⟨by kernel_rfl⟩
instance : T1 Try.prog 29 := ⟨⟨_, Try.underlying29, (fun _ h => nomatch h), (fun _ _ h => nomatch h)⟩, by kernel_rfl⟩
instance : TZero Try.prog 29 (.nilFunc) := ⟨by kernel_rfl⟩
instance : T1 Try.prog 30 := ⟨⟨_, Try.underlying30, (fun _ h => nomatch h), (fun _ _ h => nomatch h)⟩, by kernel_rfl⟩
instance : TZero Try.prog 30 (.nilFunc) := ⟨by kernel_rfl⟩
instance : T1 Try.prog 31 := ⟨⟨_, Try.underlying31, (fun _ h => nomatch h), (fun _ _ h => nomatch h)⟩, by kernel_rfl⟩
instance : TZero Try.prog 31 (.nilFunc) := ⟨by kernel_rfl⟩
instance : T1 Try.prog 32 := ⟨⟨_, Try.underlying32, (fun _ h => nomatch h), (fun _ _ h => nomatch h)⟩, by kernel_rfl⟩
instance : TZero Try.prog 32 (.slice none 0 0) := ⟨by kernel_rfl⟩
instance : TSlice Try.prog 32 24 2 16 := ⟨Try.underlying32, by kernel_rfl⟩
instance : T1 Try.prog 33 := ⟨⟨_, Try.underlying33, (fun _ h => nomatch h), (fun _ _ h => nomatch h)⟩, by kernel_rfl⟩
instance : TZero Try.prog 33 (.nilFunc) := ⟨by kernel_rfl⟩
instance : T1 Try.prog 34 := ⟨⟨_, Try.underlying34, (fun _ h => nomatch h), (fun _ _ h => nomatch h)⟩, by kernel_rfl⟩
instance : TZero Try.prog 34 (.nilFunc) := ⟨by kernel_rfl⟩
instance : T1 Try.prog 35 := ⟨⟨_, Try.underlying35, (fun _ h => nomatch h), (fun _ _ h => nomatch h)⟩, by kernel_rfl⟩
instance : TZero Try.prog 35 (.nilFunc) := ⟨by kernel_rfl⟩
instance : T1 Try.prog 36 := ⟨⟨_, Try.underlying36, (fun _ h => nomatch h), (fun _ _ h => nomatch h)⟩, by kernel_rfl⟩
instance : TZero Try.prog 36 (.pointer none) := ⟨by kernel_rfl⟩
instance : TPtr Try.prog 36 := ⟨⟨_, Try.underlying36⟩⟩
instance : T1 Try.prog 37 := ⟨⟨_, Try.underlying37, (fun _ h => nomatch h), (fun _ _ h => nomatch h)⟩, by kernel_rfl⟩
instance : TZero Try.prog 37 (.slice none 0 0) := ⟨by kernel_rfl⟩
instance : TSlice Try.prog 37 57 3 24 := ⟨Try.underlying37, by kernel_rfl⟩
instance : TN Try.prog 38 1 := ⟨.inl ⟨_, Try.underlying38⟩, by kernel_rfl⟩
instance : TZero Try.prog 38 (.agg #[.slice none 0 0]) := ⟨by kernel_rfl⟩
instance : TBuild Try.prog 38 [(0, 1)] := ⟨_, Try.underlying38, by kernel_rfl⟩
instance : TField Try.prog 38 0 0 := ⟨_, _, Try.underlying38, rfl, rfl, 1, by kernel_rfl, by decide⟩
instance : TPart Try.prog 38 0 0 none := ⟨_, _, Try.underlying38, rfl, rfl, (inferInstance : T1 Try.prog 37)⟩
instance : TN Try.prog 39 1 := ⟨.inl ⟨_, Try.underlying39⟩, by kernel_rfl⟩
instance : TZero Try.prog 39 (.agg #[.slice none 0 0]) := ⟨by kernel_rfl⟩
instance : TBuild Try.prog 39 [(0, 1)] := ⟨_, Try.underlying39, by kernel_rfl⟩
instance : TField Try.prog 39 0 0 := ⟨_, _, Try.underlying39, rfl, rfl, 1, by kernel_rfl, by decide⟩
instance : TPart Try.prog 39 0 0 none := ⟨_, _, Try.underlying39, rfl, rfl, (inferInstance : T1 Try.prog 37)⟩
instance : T1 Try.prog 40 := ⟨⟨_, Try.underlying40, (fun _ h => nomatch h), (fun _ _ h => nomatch h)⟩, by kernel_rfl⟩
instance : TZero Try.prog 40 (.slice none 0 0) := ⟨by kernel_rfl⟩
instance : TSlice Try.prog 40 3 1 8 := ⟨Try.underlying40, by kernel_rfl⟩
instance : TN Try.prog 41 4 := ⟨.inl ⟨_, Try.underlying41⟩, by kernel_rfl⟩
instance : TZero Try.prog 41 (.agg #[.int .i64 0, .int .i64 0, .int .i64 0, .int .i64 0]) := ⟨by kernel_rfl⟩
instance : TBuild Try.prog 41 [(0, 1), (1, 2), (3, 1)] := ⟨_, Try.underlying41, by kernel_rfl⟩
instance : TField Try.prog 41 0 0 := ⟨_, _, Try.underlying41, rfl, rfl, 1, by kernel_rfl, by decide⟩
instance : TPart Try.prog 41 0 0 none := ⟨_, _, Try.underlying41, rfl, rfl, (inferInstance : T1 Try.prog 3)⟩
instance : TField Try.prog 41 1 1 := ⟨_, _, Try.underlying41, rfl, rfl, 2, by kernel_rfl, by decide⟩
instance : TPart Try.prog 41 1 1 (some 2) := ⟨_, _, Try.underlying41, rfl, rfl, (inferInstance : TN Try.prog 24 2)⟩
instance : TField Try.prog 41 2 3 := ⟨_, _, Try.underlying41, rfl, rfl, 1, by kernel_rfl, by decide⟩
instance : TPart Try.prog 41 2 3 none := ⟨_, _, Try.underlying41, rfl, rfl, (inferInstance : T1 Try.prog 3)⟩
instance : TN Try.prog 42 4 := ⟨.inl ⟨_, Try.underlying42⟩, by kernel_rfl⟩
instance : TZero Try.prog 42 (.agg #[.int .i64 0, .int .i64 0, .int .i64 0, .int .i64 0]) := ⟨by kernel_rfl⟩
instance : TBuild Try.prog 42 [(0, 1), (1, 2), (3, 1)] := ⟨_, Try.underlying42, by kernel_rfl⟩
instance : TField Try.prog 42 0 0 := ⟨_, _, Try.underlying42, rfl, rfl, 1, by kernel_rfl, by decide⟩
instance : TPart Try.prog 42 0 0 none := ⟨_, _, Try.underlying42, rfl, rfl, (inferInstance : T1 Try.prog 3)⟩
instance : TField Try.prog 42 1 1 := ⟨_, _, Try.underlying42, rfl, rfl, 2, by kernel_rfl, by decide⟩
instance : TPart Try.prog 42 1 1 (some 2) := ⟨_, _, Try.underlying42, rfl, rfl, (inferInstance : TN Try.prog 24 2)⟩
instance : TField Try.prog 42 2 3 := ⟨_, _, Try.underlying42, rfl, rfl, 1, by kernel_rfl, by decide⟩
instance : TPart Try.prog 42 2 3 none := ⟨_, _, Try.underlying42, rfl, rfl, (inferInstance : T1 Try.prog 3)⟩
instance : T1 Try.prog 43 := ⟨⟨_, Try.underlying43, (fun _ h => nomatch h), (fun _ _ h => nomatch h)⟩, by kernel_rfl⟩
instance : TZero Try.prog 43 (.nilFunc) := ⟨by kernel_rfl⟩
instance : T1 Try.prog 44 := ⟨⟨_, Try.underlying44, (fun _ h => nomatch h), (fun _ _ h => nomatch h)⟩, by kernel_rfl⟩
instance : TZero Try.prog 44 (.nilFunc) := ⟨by kernel_rfl⟩
instance : T1 Try.prog 45 := ⟨⟨_, Try.underlying45, (fun _ h => nomatch h), (fun _ _ h => nomatch h)⟩, by kernel_rfl⟩
instance : TZero Try.prog 45 (.nilFunc) := ⟨by kernel_rfl⟩
instance : T1 Try.prog 46 := ⟨⟨_, Try.underlying46, (fun _ h => nomatch h), (fun _ _ h => nomatch h)⟩, by kernel_rfl⟩
instance : TZero Try.prog 46 (.nilFunc) := ⟨by kernel_rfl⟩
instance : T1 Try.prog 47 := ⟨⟨_, Try.underlying47, (fun _ h => nomatch h), (fun _ _ h => nomatch h)⟩, by kernel_rfl⟩
instance : TZero Try.prog 47 (.nilFunc) := ⟨by kernel_rfl⟩
instance : T1 Try.prog 48 := ⟨⟨_, Try.underlying48, (fun _ h => nomatch h), (fun _ _ h => nomatch h)⟩, by kernel_rfl⟩
instance : TZero Try.prog 48 (.nilFunc) := ⟨by kernel_rfl⟩
instance : T1 Try.prog 49 := ⟨⟨_, Try.underlying49, (fun _ h => nomatch h), (fun _ _ h => nomatch h)⟩, by kernel_rfl⟩
instance : TZero Try.prog 49 (.map none) := ⟨by kernel_rfl⟩
instance : TMap Try.prog 49 24 3 := ⟨Try.underlying49⟩
instance : T1 Try.prog 50 := ⟨⟨_, Try.underlying50, (fun _ h => nomatch h), (fun _ _ h => nomatch h)⟩, by kernel_rfl⟩
instance : TZero Try.prog 50 (.map none) := ⟨by kernel_rfl⟩
instance : TMap Try.prog 50 3 49 := ⟨Try.underlying50⟩
instance : TN Try.prog 51 3 := ⟨.inl ⟨_, Try.underlying51⟩, by kernel_rfl⟩
instance : TZero Try.prog 51 (.agg #[.map none, .map none, .map none]) := ⟨by kernel_rfl⟩
instance : TBuild Try.prog 51 [(0, 1), (1, 1), (2, 1)] := ⟨_, Try.underlying51, by kernel_rfl⟩
instance : TField Try.prog 51 0 0 := ⟨_, _, Try.underlying51, rfl, rfl, 1, by kernel_rfl, by decide⟩
instance : TPart Try.prog 51 0 0 none := ⟨_, _, Try.underlying51, rfl, rfl, (inferInstance : T1 Try.prog 49)⟩
instance : TField Try.prog 51 1 1 := ⟨_, _, Try.underlying51, rfl, rfl, 1, by kernel_rfl, by decide⟩
instance : TPart Try.prog 51 1 1 none := ⟨_, _, Try.underlying51, rfl, rfl, (inferInstance : T1 Try.prog 50)⟩
instance : TField Try.prog 51 2 2 := ⟨_, _, Try.underlying51, rfl, rfl, 1, by kernel_rfl, by decide⟩
instance : TPart Try.prog 51 2 2 none := ⟨_, _, Try.underlying51, rfl, rfl, (inferInstance : T1 Try.prog 50)⟩
instance : TN Try.prog 52 3 := ⟨.inl ⟨_, Try.underlying52⟩, by kernel_rfl⟩
instance : TZero Try.prog 52 (.agg #[.map none, .map none, .map none]) := ⟨by kernel_rfl⟩
instance : TBuild Try.prog 52 [(0, 1), (1, 1), (2, 1)] := ⟨_, Try.underlying52, by kernel_rfl⟩
instance : TField Try.prog 52 0 0 := ⟨_, _, Try.underlying52, rfl, rfl, 1, by kernel_rfl, by decide⟩
instance : TPart Try.prog 52 0 0 none := ⟨_, _, Try.underlying52, rfl, rfl, (inferInstance : T1 Try.prog 49)⟩
instance : TField Try.prog 52 1 1 := ⟨_, _, Try.underlying52, rfl, rfl, 1, by kernel_rfl, by decide⟩
instance : TPart Try.prog 52 1 1 none := ⟨_, _, Try.underlying52, rfl, rfl, (inferInstance : T1 Try.prog 50)⟩
instance : TField Try.prog 52 2 2 := ⟨_, _, Try.underlying52, rfl, rfl, 1, by kernel_rfl, by decide⟩
instance : TPart Try.prog 52 2 2 none := ⟨_, _, Try.underlying52, rfl, rfl, (inferInstance : T1 Try.prog 50)⟩
instance : T1 Try.prog 53 := ⟨⟨_, Try.underlying53, (fun _ h => nomatch h), (fun _ _ h => nomatch h)⟩, by kernel_rfl⟩
instance : TZero Try.prog 53 (.nilFunc) := ⟨by kernel_rfl⟩
instance : T1 Try.prog 54 := ⟨⟨_, Try.underlying54, (fun _ h => nomatch h), (fun _ _ h => nomatch h)⟩, by kernel_rfl⟩
instance : TZero Try.prog 54 (.nilFunc) := ⟨by kernel_rfl⟩
instance : T1 Try.prog 55 := ⟨⟨_, Try.underlying55, (fun _ h => nomatch h), (fun _ _ h => nomatch h)⟩, by kernel_rfl⟩
instance : TZero Try.prog 55 (.nilFunc) := ⟨by kernel_rfl⟩
instance : TN Try.prog 56 3 := ⟨.inl ⟨_, Try.underlying56⟩, by kernel_rfl⟩
instance : TZero Try.prog 56 (.agg #[.int .i64 0, .int .i64 0, .int .i64 0]) := ⟨by kernel_rfl⟩
instance : TBuild Try.prog 56 [(0, 2), (2, 1)] := ⟨_, Try.underlying56, by kernel_rfl⟩
instance : TField Try.prog 56 0 0 := ⟨_, _, Try.underlying56, rfl, rfl, 2, by kernel_rfl, by decide⟩
instance : TPart Try.prog 56 0 0 (some 2) := ⟨_, _, Try.underlying56, rfl, rfl, (inferInstance : TN Try.prog 24 2)⟩
instance : TField Try.prog 56 1 2 := ⟨_, _, Try.underlying56, rfl, rfl, 1, by kernel_rfl, by decide⟩
instance : TPart Try.prog 56 1 2 none := ⟨_, _, Try.underlying56, rfl, rfl, (inferInstance : T1 Try.prog 3)⟩
instance : TN Try.prog 57 3 := ⟨.inl ⟨_, Try.underlying57⟩, by kernel_rfl⟩
instance : TZero Try.prog 57 (.agg #[.int .i64 0, .int .i64 0, .int .i64 0]) := ⟨by kernel_rfl⟩
instance : TBuild Try.prog 57 [(0, 2), (2, 1)] := ⟨_, Try.underlying57, by kernel_rfl⟩
instance : TField Try.prog 57 0 0 := ⟨_, _, Try.underlying57, rfl, rfl, 2, by kernel_rfl, by decide⟩
instance : TPart Try.prog 57 0 0 (some 2) := ⟨_, _, Try.underlying57, rfl, rfl, (inferInstance : TN Try.prog 24 2)⟩
instance : TField Try.prog 57 1 2 := ⟨_, _, Try.underlying57, rfl, rfl, 1, by kernel_rfl, by decide⟩
instance : TPart Try.prog 57 1 2 none := ⟨_, _, Try.underlying57, rfl, rfl, (inferInstance : T1 Try.prog 3)⟩
instance : T1 Try.prog 58 := ⟨⟨_, Try.underlying58, (fun _ h => nomatch h), (fun _ _ h => nomatch h)⟩, by kernel_rfl⟩
instance : TZero Try.prog 58 (.nilFunc) := ⟨by kernel_rfl⟩
instance : T1 Try.prog 59 := ⟨⟨_, Try.underlying59, (fun _ h => nomatch h), (fun _ _ h => nomatch h)⟩, by kernel_rfl⟩
instance : TZero Try.prog 59 (.nilFunc) := ⟨by kernel_rfl⟩
instance : T1 Try.prog 60 := ⟨⟨_, Try.underlying60, (fun _ h => nomatch h), (fun _ _ h => nomatch h)⟩, by kernel_rfl⟩
instance : TZero Try.prog 60 (.nilFunc) := ⟨by kernel_rfl⟩
instance : T1 Try.prog 61 := ⟨⟨_, Try.underlying61, (fun _ h => nomatch h), (fun _ _ h => nomatch h)⟩, by kernel_rfl⟩
instance : TZero Try.prog 61 (.nilFunc) := ⟨by kernel_rfl⟩
instance : T1 Try.prog 62 := ⟨⟨_, Try.underlying62, (fun _ h => nomatch h), (fun _ _ h => nomatch h)⟩, by kernel_rfl⟩
instance : TZero Try.prog 62 (.nilFunc) := ⟨by kernel_rfl⟩
instance : T1 Try.prog 63 := ⟨⟨_, Try.underlying63, (fun _ h => nomatch h), (fun _ _ h => nomatch h)⟩, by kernel_rfl⟩
instance : TZero Try.prog 63 (.nilFunc) := ⟨by kernel_rfl⟩
instance : T1 Try.prog 64 := ⟨⟨_, Try.underlying64, (fun _ h => nomatch h), (fun _ _ h => nomatch h)⟩, by kernel_rfl⟩
instance : TZero Try.prog 64 (.nilFunc) := ⟨by kernel_rfl⟩
instance : T1 Try.prog 65 := ⟨⟨_, Try.underlying65, (fun _ h => nomatch h), (fun _ _ h => nomatch h)⟩, by kernel_rfl⟩
instance : TZero Try.prog 65 (.nilFunc) := ⟨by kernel_rfl⟩
instance : T1 Try.prog 66 := ⟨⟨_, Try.underlying66, (fun _ h => nomatch h), (fun _ _ h => nomatch h)⟩, by kernel_rfl⟩
instance : TZero Try.prog 66 (.nilFunc) := ⟨by kernel_rfl⟩
instance : T1 Try.prog 67 := ⟨⟨_, Try.underlying67, (fun _ h => nomatch h), (fun _ _ h => nomatch h)⟩, by kernel_rfl⟩
instance : TZero Try.prog 67 (.nilFunc) := ⟨by kernel_rfl⟩
instance : T1 Try.prog 68 := ⟨⟨_, Try.underlying68, (fun _ h => nomatch h), (fun _ _ h => nomatch h)⟩, by kernel_rfl⟩
instance : TZero Try.prog 68 (.nilFunc) := ⟨by kernel_rfl⟩
instance : T1 Try.prog 69 := ⟨⟨_, Try.underlying69, (fun _ h => nomatch h), (fun _ _ h => nomatch h)⟩, by kernel_rfl⟩
instance : TZero Try.prog 69 (.nilFunc) := ⟨by kernel_rfl⟩
instance : T1 Try.prog 70 := ⟨⟨_, Try.underlying70, (fun _ h => nomatch h), (fun _ _ h => nomatch h)⟩, by kernel_rfl⟩
instance : TZero Try.prog 70 (.nilFunc) := ⟨by kernel_rfl⟩
instance : T1 Try.prog 71 := ⟨⟨_, Try.underlying71, (fun _ h => nomatch h), (fun _ _ h => nomatch h)⟩, by kernel_rfl⟩
instance : TZero Try.prog 71 (.int .u64 0) := ⟨by kernel_rfl⟩
instance : TInt Try.prog 71 .u64 := ⟨Try.underlying71⟩
instance : T1 Try.prog 72 := ⟨⟨_, Try.underlying72, (fun _ h => nomatch h), (fun _ _ h => nomatch h)⟩, by kernel_rfl⟩
instance : TZero Try.prog 72 (.nilFunc) := ⟨by kernel_rfl⟩
instance : T1 Try.prog 73 := ⟨⟨_, Try.underlying73, (fun _ h => nomatch h), (fun _ _ h => nomatch h)⟩, by kernel_rfl⟩
instance : TZero Try.prog 73 (.int .i64 0) := ⟨by kernel_rfl⟩
instance : TInt Try.prog 73 .i64 := ⟨Try.underlying73⟩
instance : T1 Try.prog 75 := ⟨⟨_, Try.underlying75, (fun _ h => nomatch h), (fun _ _ h => nomatch h)⟩, by kernel_rfl⟩
instance : TZero Try.prog 75 (.nilFunc) := ⟨by kernel_rfl⟩
instance : T1 Try.prog 76 := ⟨⟨_, Try.underlying76, (fun _ h => nomatch h), (fun _ _ h => nomatch h)⟩, by kernel_rfl⟩
instance : TZero Try.prog 76 (.nilFunc) := ⟨by kernel_rfl⟩
instance : T1 Try.prog 77 := ⟨⟨_, Try.underlying77, (fun _ h => nomatch h), (fun _ _ h => nomatch h)⟩, by kernel_rfl⟩
instance : TZero Try.prog 77 (.nilFunc) := ⟨by kernel_rfl⟩
instance : T1 Try.prog 78 := ⟨⟨_, Try.underlying78, (fun _ h => nomatch h), (fun _ _ h => nomatch h)⟩, by kernel_rfl⟩
instance : TZero Try.prog 78 (.nilFunc) := ⟨by kernel_rfl⟩
instance : T1 Try.prog 79 := ⟨⟨_, Try.underlying79, (fun _ h => nomatch h), (fun _ _ h => nomatch h)⟩, by kernel_rfl⟩
instance : TZero Try.prog 79 (.nilFunc) := ⟨by kernel_rfl⟩
instance : T1 Try.prog 80 := ⟨⟨_, Try.underlying80, (fun _ h => nomatch h), (fun _ _ h => nomatch h)⟩, by kernel_rfl⟩
instance : TZero Try.prog 80 (.int .u32 0) := ⟨by kernel_rfl⟩
instance : TInt Try.prog 80 .u32 := ⟨Try.underlying80⟩
instance : T1 Try.prog 81 := ⟨⟨_, Try.underlying81, (fun _ h => nomatch h), (fun _ _ h => nomatch h)⟩, by kernel_rfl⟩
instance : TZero Try.prog 81 (.nilFunc) := ⟨by kernel_rfl⟩
instance : T1 Try.prog 82 := ⟨⟨_, Try.underlying82, (fun _ h => nomatch h), (fun _ _ h => nomatch h)⟩, by kernel_rfl⟩
instance : TZero Try.prog 82 (.int .u64 0) := ⟨by kernel_rfl⟩
instance : TInt Try.prog 82 .u64 := ⟨Try.underlying82⟩
instance : T1 Try.prog 83 := ⟨⟨_, Try.underlying83, (fun _ h => nomatch h), (fun _ _ h => nomatch h)⟩, by kernel_rfl⟩
instance : TZero Try.prog 83 (.int .u64 0) := ⟨by kernel_rfl⟩
instance : TInt Try.prog 83 .u64 := ⟨Try.underlying83⟩
instance : T1 Try.prog 84 := ⟨⟨_, Try.underlying84, (fun _ h => nomatch h), (fun _ _ h => nomatch h)⟩, by kernel_rfl⟩
instance : TZero Try.prog 84 (.nilFunc) := ⟨by kernel_rfl⟩
instance : T1 Try.prog 85 := ⟨⟨_, Try.underlying85, (fun _ h => nomatch h), (fun _ _ h => nomatch h)⟩, by kernel_rfl⟩
instance : TZero Try.prog 85 (.nilFunc) := ⟨by kernel_rfl⟩
instance : T1 Try.prog 86 := ⟨⟨_, Try.underlying86, (fun _ h => nomatch h), (fun _ _ h => nomatch h)⟩, by kernel_rfl⟩
instance : TZero Try.prog 86 (.nilFunc) := ⟨by kernel_rfl⟩
instance : T1 Try.prog 87 := ⟨⟨_, Try.underlying87, (fun _ h => nomatch h), (fun _ _ h => nomatch h)⟩, by kernel_rfl⟩
instance : TZero Try.prog 87 (.pointer none) := ⟨by kernel_rfl⟩
instance : TPtr Try.prog 87 := ⟨⟨_, Try.underlying87⟩⟩
instance : T1 Try.prog 88 := ⟨⟨_, Try.underlying88, (fun _ h => nomatch h), (fun _ _ h => nomatch h)⟩, by kernel_rfl⟩
instance : TZero Try.prog 88 (.nilFunc) := ⟨by kernel_rfl⟩
instance : T1 Try.prog 89 := ⟨⟨_, Try.underlying89, (fun _ h => nomatch h), (fun _ _ h => nomatch h)⟩, by kernel_rfl⟩
instance : TZero Try.prog 89 (.pointer none) := ⟨by kernel_rfl⟩
instance : TPtr Try.prog 89 := ⟨⟨_, Try.underlying89⟩⟩
instance : T1 Try.prog 91 := ⟨⟨_, Try.underlying91, (fun _ h => nomatch h), (fun _ _ h => nomatch h)⟩, by kernel_rfl⟩
instance : TZero Try.prog 91 (.nilFunc) := ⟨by kernel_rfl⟩
instance : T1 Try.prog 92 := ⟨⟨_, Try.underlying92, (fun _ h => nomatch h), (fun _ _ h => nomatch h)⟩, by kernel_rfl⟩
instance : TZero Try.prog 92 (.nilFunc) := ⟨by kernel_rfl⟩
instance : TN Try.prog 93 4 := ⟨.inl ⟨_, Try.underlying93⟩, by kernel_rfl⟩
instance : TZero Try.prog 93 (.agg #[.pointer none, .pointer none, .pointer none, .string ⟨#[]⟩]) := ⟨by kernel_rfl⟩
instance : TBuild Try.prog 93 [(0, 1), (1, 1), (2, 1), (3, 1)] := ⟨_, Try.underlying93, by kernel_rfl⟩
instance : TField Try.prog 93 0 0 := ⟨_, _, Try.underlying93, rfl, rfl, 1, by kernel_rfl, by decide⟩
instance : TPart Try.prog 93 0 0 none := ⟨_, _, Try.underlying93, rfl, rfl, (inferInstance : T1 Try.prog 17)⟩
instance : TField Try.prog 93 1 1 := ⟨_, _, Try.underlying93, rfl, rfl, 1, by kernel_rfl, by decide⟩
instance : TPart Try.prog 93 1 1 none := ⟨_, _, Try.underlying93, rfl, rfl, (inferInstance : T1 Try.prog 17)⟩
instance : TField Try.prog 93 2 2 := ⟨_, _, Try.underlying93, rfl, rfl, 1, by kernel_rfl, by decide⟩
instance : TPart Try.prog 93 2 2 none := ⟨_, _, Try.underlying93, rfl, rfl, (inferInstance : T1 Try.prog 17)⟩
instance : TField Try.prog 93 3 3 := ⟨_, _, Try.underlying93, rfl, rfl, 1, by kernel_rfl, by decide⟩
instance : TPart Try.prog 93 3 3 none := ⟨_, _, Try.underlying93, rfl, rfl, (inferInstance : T1 Try.prog 9)⟩
instance : TN Try.prog 94 4 := ⟨.inl ⟨_, Try.underlying94⟩, by kernel_rfl⟩
instance : TZero Try.prog 94 (.agg #[.pointer none, .pointer none, .pointer none, .string ⟨#[]⟩]) := ⟨by kernel_rfl⟩
instance : TBuild Try.prog 94 [(0, 1), (1, 1), (2, 1), (3, 1)] := ⟨_, Try.underlying94, by kernel_rfl⟩
instance : TField Try.prog 94 0 0 := ⟨_, _, Try.underlying94, rfl, rfl, 1, by kernel_rfl, by decide⟩
instance : TPart Try.prog 94 0 0 none := ⟨_, _, Try.underlying94, rfl, rfl, (inferInstance : T1 Try.prog 17)⟩
instance : TField Try.prog 94 1 1 := ⟨_, _, Try.underlying94, rfl, rfl, 1, by kernel_rfl, by decide⟩
instance : TPart Try.prog 94 1 1 none := ⟨_, _, Try.underlying94, rfl, rfl, (inferInstance : T1 Try.prog 17)⟩
instance : TField Try.prog 94 2 2 := ⟨_, _, Try.underlying94, rfl, rfl, 1, by kernel_rfl, by decide⟩
instance : TPart Try.prog 94 2 2 none := ⟨_, _, Try.underlying94, rfl, rfl, (inferInstance : T1 Try.prog 17)⟩
instance : TField Try.prog 94 3 3 := ⟨_, _, Try.underlying94, rfl, rfl, 1, by kernel_rfl, by decide⟩
instance : TPart Try.prog 94 3 3 none := ⟨_, _, Try.underlying94, rfl, rfl, (inferInstance : T1 Try.prog 9)⟩
instance : T1 Try.prog 98 := ⟨⟨_, Try.underlying98, (fun _ h => nomatch h), (fun _ _ h => nomatch h)⟩, by kernel_rfl⟩
instance : TZero Try.prog 98 (.int .u8 0) := ⟨by kernel_rfl⟩
instance : TInt Try.prog 98 .u8 := ⟨Try.underlying98⟩
instance : T1 Try.prog 99 := ⟨⟨_, Try.underlying99, (fun _ h => nomatch h), (fun _ _ h => nomatch h)⟩, by kernel_rfl⟩
instance : TZero Try.prog 99 (.int .u8 0) := ⟨by kernel_rfl⟩
instance : TInt Try.prog 99 .u8 := ⟨Try.underlying99⟩
instance : T1 Try.prog 100 := ⟨⟨_, Try.underlying100, (fun _ h => nomatch h), (fun _ _ h => nomatch h)⟩, by kernel_rfl⟩
instance : TZero Try.prog 100 (.nilFunc) := ⟨by kernel_rfl⟩
instance : T1 Try.prog 101 := ⟨⟨_, Try.underlying101, (fun _ h => nomatch h), (fun _ _ h => nomatch h)⟩, by kernel_rfl⟩
instance : TZero Try.prog 101 (.pointer none) := ⟨by kernel_rfl⟩
instance : TPtr Try.prog 101 := ⟨⟨_, Try.underlying101⟩⟩
instance : T1 Try.prog 102 := ⟨⟨_, Try.underlying102, (fun _ h => nomatch h), (fun _ _ h => nomatch h)⟩, by kernel_rfl⟩
instance : TZero Try.prog 102 (.int .i32 0) := ⟨by kernel_rfl⟩
instance : TInt Try.prog 102 .i32 := ⟨Try.underlying102⟩
instance : T1 Try.prog 103 := ⟨⟨_, Try.underlying103, (fun _ h => nomatch h), (fun _ _ h => nomatch h)⟩, by kernel_rfl⟩
instance : TZero Try.prog 103 (.int .i32 0) := ⟨by kernel_rfl⟩
instance : TInt Try.prog 103 .i32 := ⟨Try.underlying103⟩
instance : TN Try.prog 104 11 := ⟨.inl ⟨_, Try.underlying104⟩, by kernel_rfl⟩
instance : TZero Try.prog 104 (.agg #[.int .u64 0, .int .u64 0, .int .u32 0, .int .u8 0, .int .u8 0, .int .u8 0, .int .u8 0, .nilFunc, .pointer none, .int .i32 0, .int .i32 0]) := ⟨by kernel_rfl⟩
instance : TBuild Try.prog 104 [(0, 1), (1, 1), (2, 1), (3, 1), (4, 1), (5, 1), (6, 1), (7, 1), (8, 1), (9, 1), (10, 1)] := ⟨_, Try.underlying104, by kernel_rfl⟩
instance : TField Try.prog 104 0 0 := ⟨_, _, Try.underlying104, rfl, rfl, 1, by kernel_rfl, by decide⟩
instance : TPart Try.prog 104 0 0 none := ⟨_, _, Try.underlying104, rfl, rfl, (inferInstance : T1 Try.prog 12)⟩
instance : TField Try.prog 104 1 1 := ⟨_, _, Try.underlying104, rfl, rfl, 1, by kernel_rfl, by decide⟩
instance : TPart Try.prog 104 1 1 none := ⟨_, _, Try.underlying104, rfl, rfl, (inferInstance : T1 Try.prog 12)⟩
instance : TField Try.prog 104 2 2 := ⟨_, _, Try.underlying104, rfl, rfl, 1, by kernel_rfl, by decide⟩
instance : TPart Try.prog 104 2 2 none := ⟨_, _, Try.underlying104, rfl, rfl, (inferInstance : T1 Try.prog 80)⟩
instance : TField Try.prog 104 3 3 := ⟨_, _, Try.underlying104, rfl, rfl, 1, by kernel_rfl, by decide⟩
instance : TPart Try.prog 104 3 3 none := ⟨_, _, Try.underlying104, rfl, rfl, (inferInstance : T1 Try.prog 98)⟩
instance : TField Try.prog 104 4 4 := ⟨_, _, Try.underlying104, rfl, rfl, 1, by kernel_rfl, by decide⟩
instance : TPart Try.prog 104 4 4 none := ⟨_, _, Try.underlying104, rfl, rfl, (inferInstance : T1 Try.prog 5)⟩
instance : TField Try.prog 104 5 5 := ⟨_, _, Try.underlying104, rfl, rfl, 1, by kernel_rfl, by decide⟩
instance : TPart Try.prog 104 5 5 none := ⟨_, _, Try.underlying104, rfl, rfl, (inferInstance : T1 Try.prog 5)⟩
instance : TField Try.prog 104 6 6 := ⟨_, _, Try.underlying104, rfl, rfl, 1, by kernel_rfl, by decide⟩
instance : TPart Try.prog 104 6 6 none := ⟨_, _, Try.underlying104, rfl, rfl, (inferInstance : T1 Try.prog 99)⟩
instance : TField Try.prog 104 7 7 := ⟨_, _, Try.underlying104, rfl, rfl, 1, by kernel_rfl, by decide⟩
instance : TPart Try.prog 104 7 7 none := ⟨_, _, Try.underlying104, rfl, rfl, (inferInstance : T1 Try.prog 100)⟩
instance : TField Try.prog 104 8 8 := ⟨_, _, Try.underlying104, rfl, rfl, 1, by kernel_rfl, by decide⟩
instance : TPart Try.prog 104 8 8 none := ⟨_, _, Try.underlying104, rfl, rfl, (inferInstance : T1 Try.prog 101)⟩
instance : TField Try.prog 104 9 9 := ⟨_, _, Try.underlying104, rfl, rfl, 1, by kernel_rfl, by decide⟩
instance : TPart Try.prog 104 9 9 none := ⟨_, _, Try.underlying104, rfl, rfl, (inferInstance : T1 Try.prog 102)⟩
instance : TField Try.prog 104 10 10 := ⟨_, _, Try.underlying104, rfl, rfl, 1, by kernel_rfl, by decide⟩
instance : TPart Try.prog 104 10 10 none := ⟨_, _, Try.underlying104, rfl, rfl, (inferInstance : T1 Try.prog 103)⟩
instance : TN Try.prog 105 11 := ⟨.inl ⟨_, Try.underlying105⟩, by kernel_rfl⟩
instance : TZero Try.prog 105 (.agg #[.int .u64 0, .int .u64 0, .int .u32 0, .int .u8 0, .int .u8 0, .int .u8 0, .int .u8 0, .nilFunc, .pointer none, .int .i32 0, .int .i32 0]) := ⟨by kernel_rfl⟩
instance : TBuild Try.prog 105 [(0, 1), (1, 1), (2, 1), (3, 1), (4, 1), (5, 1), (6, 1), (7, 1), (8, 1), (9, 1), (10, 1)] := ⟨_, Try.underlying105, by kernel_rfl⟩
instance : TField Try.prog 105 0 0 := ⟨_, _, Try.underlying105, rfl, rfl, 1, by kernel_rfl, by decide⟩
instance : TPart Try.prog 105 0 0 none := ⟨_, _, Try.underlying105, rfl, rfl, (inferInstance : T1 Try.prog 12)⟩
instance : TField Try.prog 105 1 1 := ⟨_, _, Try.underlying105, rfl, rfl, 1, by kernel_rfl, by decide⟩
instance : TPart Try.prog 105 1 1 none := ⟨_, _, Try.underlying105, rfl, rfl, (inferInstance : T1 Try.prog 12)⟩
instance : TField Try.prog 105 2 2 := ⟨_, _, Try.underlying105, rfl, rfl, 1, by kernel_rfl, by decide⟩
instance : TPart Try.prog 105 2 2 none := ⟨_, _, Try.underlying105, rfl, rfl, (inferInstance : T1 Try.prog 80)⟩
instance : TField Try.prog 105 3 3 := ⟨_, _, Try.underlying105, rfl, rfl, 1, by kernel_rfl, by decide⟩
instance : TPart Try.prog 105 3 3 none := ⟨_, _, Try.underlying105, rfl, rfl, (inferInstance : T1 Try.prog 98)⟩
instance : TField Try.prog 105 4 4 := ⟨_, _, Try.underlying105, rfl, rfl, 1, by kernel_rfl, by decide⟩
instance : TPart Try.prog 105 4 4 none := ⟨_, _, Try.underlying105, rfl, rfl, (inferInstance : T1 Try.prog 5)⟩
instance : TField Try.prog 105 5 5 := ⟨_, _, Try.underlying105, rfl, rfl, 1, by kernel_rfl, by decide⟩
instance : TPart Try.prog 105 5 5 none := ⟨_, _, Try.underlying105, rfl, rfl, (inferInstance : T1 Try.prog 5)⟩
instance : TField Try.prog 105 6 6 := ⟨_, _, Try.underlying105, rfl, rfl, 1, by kernel_rfl, by decide⟩
instance : TPart Try.prog 105 6 6 none := ⟨_, _, Try.underlying105, rfl, rfl, (inferInstance : T1 Try.prog 99)⟩
instance : TField Try.prog 105 7 7 := ⟨_, _, Try.underlying105, rfl, rfl, 1, by kernel_rfl, by decide⟩
instance : TPart Try.prog 105 7 7 none := ⟨_, _, Try.underlying105, rfl, rfl, (inferInstance : T1 Try.prog 100)⟩
instance : TField Try.prog 105 8 8 := ⟨_, _, Try.underlying105, rfl, rfl, 1, by kernel_rfl, by decide⟩
instance : TPart Try.prog 105 8 8 none := ⟨_, _, Try.underlying105, rfl, rfl, (inferInstance : T1 Try.prog 101)⟩
instance : TField Try.prog 105 9 9 := ⟨_, _, Try.underlying105, rfl, rfl, 1, by kernel_rfl, by decide⟩
instance : TPart Try.prog 105 9 9 none := ⟨_, _, Try.underlying105, rfl, rfl, (inferInstance : T1 Try.prog 102)⟩
instance : TField Try.prog 105 10 10 := ⟨_, _, Try.underlying105, rfl, rfl, 1, by kernel_rfl, by decide⟩
instance : TPart Try.prog 105 10 10 none := ⟨_, _, Try.underlying105, rfl, rfl, (inferInstance : T1 Try.prog 103)⟩
instance : T1 Try.prog 106 := ⟨⟨_, Try.underlying106, (fun _ h => nomatch h), (fun _ _ h => nomatch h)⟩, by kernel_rfl⟩
instance : TZero Try.prog 106 (.pointer none) := ⟨by kernel_rfl⟩
instance : TBody Try.prog 3 := ⟨_, Try.func3, by kernel_rfl, by kernel_rfl⟩
instance : TBody Try.prog 4 := ⟨_, Try.func4, by kernel_rfl, by kernel_rfl⟩
instance : TBody Try.prog 5 := ⟨_, Try.func5, by kernel_rfl, by kernel_rfl⟩
instance : TBody Try.prog 6 := ⟨_, Try.func6, by kernel_rfl, by kernel_rfl⟩
instance : TBody Try.prog 7 := ⟨_, Try.func7, by kernel_rfl, by kernel_rfl⟩
instance : TBody Try.prog 8 := ⟨_, Try.func8, by kernel_rfl, by kernel_rfl⟩
instance : TBody Try.prog 9 := ⟨_, Try.func9, by kernel_rfl, by kernel_rfl⟩
instance : TBody Try.prog 10 := ⟨_, Try.func10, by kernel_rfl, by kernel_rfl⟩
instance : TBody Try.prog 11 := ⟨_, Try.func11, by kernel_rfl, by kernel_rfl⟩
instance : TBody Try.prog 12 := ⟨_, Try.func12, by kernel_rfl, by kernel_rfl⟩
instance : TBody Try.prog 13 := ⟨_, Try.func13, by kernel_rfl, by kernel_rfl⟩
instance : TBody Try.prog 14 := ⟨_, Try.func14, by kernel_rfl, by kernel_rfl⟩
instance : TBody Try.prog 15 := ⟨_, Try.func15, by kernel_rfl, by kernel_rfl⟩
instance : TBody Try.prog 16 := ⟨_, Try.func16, by kernel_rfl, by kernel_rfl⟩
instance : TBody Try.prog 17 := ⟨_, Try.func17, by kernel_rfl, by kernel_rfl⟩
instance : TBody Try.prog 18 := ⟨_, Try.func18, by kernel_rfl, by kernel_rfl⟩
instance : TBody Try.prog 19 := ⟨_, Try.func19, by kernel_rfl, by kernel_rfl⟩
instance : TBody Try.prog 20 := ⟨_, Try.func20, by kernel_rfl, by kernel_rfl⟩
instance : TBody Try.prog 21 := ⟨_, Try.func21, by kernel_rfl, by kernel_rfl⟩
instance : TBody Try.prog 22 := ⟨_, Try.func22, by kernel_rfl, by kernel_rfl⟩
instance : TBody Try.prog 23 := ⟨_, Try.func23, by kernel_rfl, by kernel_rfl⟩
instance : TBody Try.prog 24 := ⟨_, Try.func24, by kernel_rfl, by kernel_rfl⟩
instance : TBody Try.prog 25 := ⟨_, Try.func25, by kernel_rfl, by kernel_rfl⟩
instance : TBody Try.prog 26 := ⟨_, Try.func26, by kernel_rfl, by kernel_rfl⟩
instance : TBody Try.prog 27 := ⟨_, Try.func27, by kernel_rfl, by kernel_rfl⟩
instance : TBody Try.prog 28 := ⟨_, Try.func28, by kernel_rfl, by kernel_rfl⟩
instance : TBody Try.prog 29 := ⟨_, Try.func29, by kernel_rfl, by kernel_rfl⟩
instance : TBody Try.prog 30 := ⟨_, Try.func30, by kernel_rfl, by kernel_rfl⟩
instance : TBody Try.prog 31 := ⟨_, Try.func31, by kernel_rfl, by kernel_rfl⟩
instance : TBody Try.prog 32 := ⟨_, Try.func32, by kernel_rfl, by kernel_rfl⟩
instance : TBody Try.prog 33 := ⟨_, Try.func33, by kernel_rfl, by kernel_rfl⟩
instance : TBody Try.prog 34 := ⟨_, Try.func34, by kernel_rfl, by kernel_rfl⟩
instance : TBody Try.prog 35 := ⟨_, Try.func35, by kernel_rfl, by kernel_rfl⟩
instance : TBody Try.prog 36 := ⟨_, Try.func36, by kernel_rfl, by kernel_rfl⟩
instance : TBody Try.prog 37 := ⟨_, Try.func37, by kernel_rfl, by kernel_rfl⟩
instance : TBody Try.prog 38 := ⟨_, Try.func38, by kernel_rfl, by kernel_rfl⟩
instance : TBody Try.prog 39 := ⟨_, Try.func39, by kernel_rfl, by kernel_rfl⟩
instance : TBody Try.prog 40 := ⟨_, Try.func40, by kernel_rfl, by kernel_rfl⟩
instance : TBody Try.prog 41 := ⟨_, Try.func41, by kernel_rfl, by kernel_rfl⟩
instance : TBody Try.prog 42 := ⟨_, Try.func42, by kernel_rfl, by kernel_rfl⟩
instance : TBody Try.prog 43 := ⟨_, Try.func43, by kernel_rfl, by kernel_rfl⟩
instance : TBody Try.prog 44 := ⟨_, Try.func44, by kernel_rfl, by kernel_rfl⟩
instance : TBody Try.prog 45 := ⟨_, Try.func45, by kernel_rfl, by kernel_rfl⟩
instance : TBody Try.prog 46 := ⟨_, Try.func46, by kernel_rfl, by kernel_rfl⟩
instance : TBody Try.prog 47 := ⟨_, Try.func47, by kernel_rfl, by kernel_rfl⟩
instance : TBody Try.prog 48 := ⟨_, Try.func48, by kernel_rfl, by kernel_rfl⟩
instance : TBody Try.prog 49 := ⟨_, Try.func49, by kernel_rfl, by kernel_rfl⟩
instance : TBody Try.prog 50 := ⟨_, Try.func50, by kernel_rfl, by kernel_rfl⟩
instance : TBody Try.prog 51 := ⟨_, Try.func51, by kernel_rfl, by kernel_rfl⟩
instance : TBody Try.prog 52 := ⟨_, Try.func52, by kernel_rfl, by kernel_rfl⟩
instance : TBody Try.prog 53 := ⟨_, Try.func53, by kernel_rfl, by kernel_rfl⟩
instance : TBody Try.prog 54 := ⟨_, Try.func54, by kernel_rfl, by kernel_rfl⟩
instance : TBody Try.prog 55 := ⟨_, Try.func55, by kernel_rfl, by kernel_rfl⟩
instance : TBody Try.prog 56 := ⟨_, Try.func56, by kernel_rfl, by kernel_rfl⟩
theorem mixed : Try.prog.follows .mixedOrders = true := by kernel_rfl
end Go.Proofs.Ytdpephigccnkdaa
