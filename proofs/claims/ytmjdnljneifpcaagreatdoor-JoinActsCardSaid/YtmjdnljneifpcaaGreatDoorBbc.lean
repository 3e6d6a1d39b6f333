/- Cells: what is proved on the way: every input of the statement; no condition. Texts joined: Ins SlU SlM SlN Srl SlV InE SlW SlX SlY SlT Sri Srs. -/
import Derived.Test.YtmjdnljneifpcaaGreatDoorBbb
import Derived.Test.YtmjdnljneifpcaaGreatDoorProg
import Derived.KernelRfl
import Derived.Test.YtmjdnljneifpcaaGreatDoorBba
import Derived.Shelf.SlGeneric
import Derived.Shelf.Strconv.Itoa0
import Derived.Shelf.Spec.TrailingZeros
import Derived.Ground.Names7Prog
import Derived.Ground.NamesProg
import Derived.Laws.MakeOwn
import Derived.Shelf.Spec.SlicesInsert
import Derived.Shelf.Spec.SlicesInsertGrow
import Derived.Shelf.Slices.SearchI
import Derived.Shelf.Slices.Empties
import Derived.Ground.Names2Prog
import Derived.Shelf.Sort.Plain
import Derived.Shelf.Slices.In.SortNone
set_option linter.unusedVariables false
namespace Go.Proofs.YtmjdnljneifpcaaGreatDoor
open Go.SL
instance:T1 Tryz.prog 3:=⟨⟨_,Tryz.underlying3,(fun _ h=>nomatch h),(fun _ _ h=>nomatch h)⟩,by kernel_rfl⟩
instance:Q3o Tryz.prog 3 (.int .i64 0):=⟨by kernel_rfl⟩
instance:G4m Tryz.prog 3 .i64:=⟨Tryz.underlying3⟩
instance:T1 Tryz.prog 4:=⟨⟨_,Tryz.underlying4,(fun _ h=>nomatch h),(fun _ _ h=>nomatch h)⟩,by kernel_rfl⟩
instance:G9h Tryz.prog 4:=⟨Tryz.underlying4⟩
instance:TN Tryz.prog 23 3:=⟨.inl ⟨_,Tryz.underlying23⟩,by kernel_rfl⟩
instance:Q1a Tryz.prog 23 0 0:=⟨_,_,Tryz.underlying23,rfl,rfl,1,by kernel_rfl,by decide⟩
instance:Q1a Tryz.prog 23 1 1:=⟨_,_,Tryz.underlying23,rfl,rfl,1,by kernel_rfl,by decide⟩
instance:Q1a Tryz.prog 23 2 2:=⟨_,_,Tryz.underlying23,rfl,rfl,1,by kernel_rfl,by decide⟩
instance:Q2m Tryz.prog 24 95 12 128:=⟨Tryz.underlying24,by kernel_rfl⟩
instance:Z3v Tryz.prog 27:=⟨⟨_,Tryz.underlying27⟩⟩
instance:T1 Tryz.prog 31:=⟨⟨_,Tryz.underlying31,(fun _ h=>nomatch h),(fun _ _ h=>nomatch h)⟩,by kernel_rfl⟩
instance:Q2m Tryz.prog 31 3 1 8:=⟨Tryz.underlying31,by kernel_rfl⟩
instance:T1 Tryz.prog 34:=⟨⟨_,Tryz.underlying34,(fun _ h=>nomatch h),(fun _ _ h=>nomatch h)⟩,by kernel_rfl⟩
instance:Z3v Tryz.prog 34:=⟨⟨_,Tryz.underlying34⟩⟩
instance:T1 Tryz.prog 35:=⟨⟨_,Tryz.underlying35,(fun _ h=>nomatch h),(fun _ _ h=>nomatch h)⟩,by kernel_rfl⟩
instance:Z3v Tryz.prog 35:=⟨⟨_,Tryz.underlying35⟩⟩
instance:T1 Tryz.prog 36:=⟨⟨_,Tryz.underlying36,(fun _ h=>nomatch h),(fun _ _ h=>nomatch h)⟩,by kernel_rfl⟩
instance:Z3v Tryz.prog 36:=⟨⟨_,Tryz.underlying36⟩⟩
instance:T1 Tryz.prog 37:=⟨⟨_,Tryz.underlying37,(fun _ h=>nomatch h),(fun _ _ h=>nomatch h)⟩,by kernel_rfl⟩
instance:Z3v Tryz.prog 37:=⟨⟨_,Tryz.underlying37⟩⟩
instance:T1 Tryz.prog 38:=⟨⟨_,Tryz.underlying38,(fun _ h=>nomatch h),(fun _ _ h=>nomatch h)⟩,by kernel_rfl⟩
instance:Z3v Tryz.prog 38:=⟨⟨_,Tryz.underlying38⟩⟩
instance:T1 Tryz.prog 39:=⟨⟨_,Tryz.underlying39,(fun _ h=>nomatch h),(fun _ _ h=>nomatch h)⟩,by kernel_rfl⟩
instance:Z3v Tryz.prog 39:=⟨⟨_,Tryz.underlying39⟩⟩
instance:T1 Tryz.prog 40:=⟨⟨_,Tryz.underlying40,(fun _ h=>nomatch h),(fun _ _ h=>nomatch h)⟩,by kernel_rfl⟩
instance:V7s Tryz.prog 40 3 119:=⟨Tryz.underlying40⟩
instance:T1 Tryz.prog 41:=⟨⟨_,Tryz.underlying41,(fun _ h=>nomatch h),(fun _ _ h=>nomatch h)⟩,by kernel_rfl⟩
instance:V7s Tryz.prog 41 3 61:=⟨Tryz.underlying41⟩
instance:Q3o Tryz.prog 43 (.agg #[.pointer none,.pointer none,.pointer none,.pointer none,.pointer none,.pointer none,.map none,.map none]):=⟨by kernel_rfl⟩
instance:Q4s Tryz.prog 43 [(0,1),(1,1),(2,1),(3,1),(4,1),(5,1),(6,1),(7,1)]:=⟨_,Tryz.underlying43,by kernel_rfl⟩
instance:Q1a Tryz.prog 43 0 0:=⟨_,_,Tryz.underlying43,rfl,rfl,1,by kernel_rfl,by decide⟩
instance:Q1a Tryz.prog 43 1 1:=⟨_,_,Tryz.underlying43,rfl,rfl,1,by kernel_rfl,by decide⟩
instance:Q1a Tryz.prog 43 2 2:=⟨_,_,Tryz.underlying43,rfl,rfl,1,by kernel_rfl,by decide⟩
instance:Q1a Tryz.prog 43 3 3:=⟨_,_,Tryz.underlying43,rfl,rfl,1,by kernel_rfl,by decide⟩
instance:Q1a Tryz.prog 43 4 4:=⟨_,_,Tryz.underlying43,rfl,rfl,1,by kernel_rfl,by decide⟩
instance:Q1a Tryz.prog 43 5 5:=⟨_,_,Tryz.underlying43,rfl,rfl,1,by kernel_rfl,by decide⟩
instance:Q1a Tryz.prog 43 6 6:=⟨_,_,Tryz.underlying43,rfl,rfl,1,by kernel_rfl,by decide⟩
instance:Q1a Tryz.prog 43 7 7:=⟨_,_,Tryz.underlying43,rfl,rfl,1,by kernel_rfl,by decide⟩
instance:T1 Tryz.prog 44:=⟨⟨_,Tryz.underlying44,(fun _ h=>nomatch h),(fun _ _ h=>nomatch h)⟩,by kernel_rfl⟩
instance:Z3v Tryz.prog 44:=⟨⟨_,Tryz.underlying44⟩⟩
instance:T1 Tryz.prog 45:=⟨⟨_,Tryz.underlying45,(fun _ h=>nomatch h),(fun _ _ h=>nomatch h)⟩,by kernel_rfl⟩
instance:T1 Tryz.prog 46:=⟨⟨_,Tryz.underlying46,(fun _ h=>nomatch h),(fun _ _ h=>nomatch h)⟩,by kernel_rfl⟩
instance:Q2m Tryz.prog 46 69 2 16:=⟨Tryz.underlying46,by kernel_rfl⟩
instance:Q3o Tryz.prog 48 (.agg #[.pointer none,.pointer none,.slice none 0 0]):=⟨by kernel_rfl⟩
instance:Q4s Tryz.prog 48 [(0,1),(1,1),(2,1)]:=⟨_,Tryz.underlying48,by kernel_rfl⟩
instance:Q1a Tryz.prog 48 0 0:=⟨_,_,Tryz.underlying48,rfl,rfl,1,by kernel_rfl,by decide⟩
instance:Q1a Tryz.prog 48 1 1:=⟨_,_,Tryz.underlying48,rfl,rfl,1,by kernel_rfl,by decide⟩
instance:Q1a Tryz.prog 48 2 2:=⟨_,_,Tryz.underlying48,rfl,rfl,1,by kernel_rfl,by decide⟩
instance:T1 Tryz.prog 54:=⟨⟨_,Tryz.underlying54,(fun _ h=>nomatch h),(fun _ _ h=>nomatch h)⟩,by kernel_rfl⟩
instance:T1 Tryz.prog 55:=⟨⟨_,Tryz.underlying55,(fun _ h=>nomatch h),(fun _ _ h=>nomatch h)⟩,by kernel_rfl⟩
instance:Q2m Tryz.prog 55 102 4 64:=⟨Tryz.underlying55,by kernel_rfl⟩
instance:T1 Tryz.prog 56:=⟨⟨_,Tryz.underlying56,(fun _ h=>nomatch h),(fun _ _ h=>nomatch h)⟩,by kernel_rfl⟩
instance:Q2m Tryz.prog 56 77 1 8:=⟨Tryz.underlying56,by kernel_rfl⟩
instance:Q3o Tryz.prog 58 (.agg #[.pointer none,.slice none 0 0,.slice none 0 0]):=⟨by kernel_rfl⟩
instance:Q4s Tryz.prog 58 [(0,1),(1,1),(2,1)]:=⟨_,Tryz.underlying58,by kernel_rfl⟩
instance:Q1a Tryz.prog 58 0 0:=⟨_,_,Tryz.underlying58,rfl,rfl,1,by kernel_rfl,by decide⟩
instance:Q1a Tryz.prog 58 1 1:=⟨_,_,Tryz.underlying58,rfl,rfl,1,by kernel_rfl,by decide⟩
instance:Q1a Tryz.prog 58 2 2:=⟨_,_,Tryz.underlying58,rfl,rfl,1,by kernel_rfl,by decide⟩
instance:T1 Tryz.prog 61:=⟨⟨_,Tryz.underlying61,(fun _ h=>nomatch h),(fun _ _ h=>nomatch h)⟩,by kernel_rfl⟩
instance:Q3o Tryz.prog 61 (.pointer none):=⟨by kernel_rfl⟩
instance:Z3v Tryz.prog 61:=⟨⟨_,Tryz.underlying61⟩⟩
instance:TN Tryz.prog 69 2:=⟨.inl ⟨_,Tryz.underlying69⟩,by kernel_rfl⟩
instance:Q3o Tryz.prog 69 (.agg #[.int .i64 0,.int .i64 0]):=⟨by kernel_rfl⟩
instance:Q4s Tryz.prog 69 [(0,1),(1,1)]:=⟨_,Tryz.underlying69,by kernel_rfl⟩
instance:Q1a Tryz.prog 69 0 0:=⟨_,_,Tryz.underlying69,rfl,rfl,1,by kernel_rfl,by decide⟩
instance:Q1a Tryz.prog 69 1 1:=⟨_,_,Tryz.underlying69,rfl,rfl,1,by kernel_rfl,by decide⟩
instance:Y6n Tryz.prog 69:=⟨⟨_,_,_,_,Tryz.underlying69,by decide,by decide,rfl,rfl,Tryz.underlying3,Tryz.underlying3⟩,fun f g h=>by rw[Tryz.underlying69] at h;cases h;exact⟨(inferInstance:T1 Tryz.prog 3),(inferInstance:T1 Tryz.prog 3)⟩,by kernel_rfl,by kernel_rfl⟩
instance:TN Tryz.prog 71 5:=⟨.inl ⟨_,Tryz.underlying71⟩,by kernel_rfl⟩
instance:Q3o Tryz.prog 71 (.agg #[.int .i64 0,.int .i64 0,.int .i64 0,.int .i64 0,.bool false]):=⟨by kernel_rfl⟩
instance:Q4s Tryz.prog 71 [(0,1),(1,1),(2,1),(3,1),(4,1)]:=⟨_,Tryz.underlying71,by kernel_rfl⟩
instance:T1 Tryz.prog 74:=⟨⟨_,Tryz.underlying74,(fun _ h=>nomatch h),(fun _ _ h=>nomatch h)⟩,by kernel_rfl⟩
instance:Q2m Tryz.prog 74 83 1 8:=⟨Tryz.underlying74,by kernel_rfl⟩
instance:Q3o Tryz.prog 76 (.agg #[.int .i64 0,.int .i64 0,.int .i64 0,.slice none 0 0,.slice none 0 0,.slice none 0 0,.bool false,.bool false,.bool false]):=⟨by kernel_rfl⟩
instance:Q4s Tryz.prog 76 [(0,1),(1,1),(2,1),(3,1),(4,1),(5,1),(6,1),(7,1),(8,1)]:=⟨_,Tryz.underlying76,by kernel_rfl⟩
instance:Q1a Tryz.prog 76 0 0:=⟨_,_,Tryz.underlying76,rfl,rfl,1,by kernel_rfl,by decide⟩
instance:Q1a Tryz.prog 76 1 1:=⟨_,_,Tryz.underlying76,rfl,rfl,1,by kernel_rfl,by decide⟩
instance:Q1a Tryz.prog 76 2 2:=⟨_,_,Tryz.underlying76,rfl,rfl,1,by kernel_rfl,by decide⟩
instance:Q1a Tryz.prog 76 3 3:=⟨_,_,Tryz.underlying76,rfl,rfl,1,by kernel_rfl,by decide⟩
instance:Q1a Tryz.prog 76 4 4:=⟨_,_,Tryz.underlying76,rfl,rfl,1,by kernel_rfl,by decide⟩
instance:Q1a Tryz.prog 76 5 5:=⟨_,_,Tryz.underlying76,rfl,rfl,1,by kernel_rfl,by decide⟩
instance:Q1a Tryz.prog 76 6 6:=⟨_,_,Tryz.underlying76,rfl,rfl,1,by kernel_rfl,by decide⟩
instance:Q1a Tryz.prog 76 7 7:=⟨_,_,Tryz.underlying76,rfl,rfl,1,by kernel_rfl,by decide⟩
instance:Q1a Tryz.prog 76 8 8:=⟨_,_,Tryz.underlying76,rfl,rfl,1,by kernel_rfl,by decide⟩
instance:T1 Tryz.prog 77:=⟨⟨_,Tryz.underlying77,(fun _ h=>nomatch h),(fun _ _ h=>nomatch h)⟩,by kernel_rfl⟩
instance:Q3o Tryz.prog 77 (.pointer none):=⟨by kernel_rfl⟩
instance:T1 Tryz.prog 83:=⟨⟨_,Tryz.underlying83,(fun _ h=>nomatch h),(fun _ _ h=>nomatch h)⟩,by kernel_rfl⟩
instance:Q3o Tryz.prog 83 (.int .u64 0):=⟨by kernel_rfl⟩
instance:G4m Tryz.prog 83 .u64:=⟨Tryz.underlying83⟩
instance:TN Tryz.prog 88 3:=⟨.inl ⟨_,Tryz.underlying88⟩,by kernel_rfl⟩
instance:Q3o Tryz.prog 88 (.agg #[.int .i64 0,.int .i64 0,.int .i64 0]):=⟨by kernel_rfl⟩
instance:Q4s Tryz.prog 88 [(0,1),(1,2)]:=⟨_,Tryz.underlying88,by kernel_rfl⟩
instance:Q1a Tryz.prog 88 0 0:=⟨_,_,Tryz.underlying88,rfl,rfl,1,by kernel_rfl,by decide⟩
instance:Q1a Tryz.prog 88 1 1:=⟨_,_,Tryz.underlying88,rfl,rfl,2,by kernel_rfl,by decide⟩
instance:Q2m Tryz.prog 91 93 9 88:=⟨Tryz.underlying91,by kernel_rfl⟩
instance:TN Tryz.prog 93 9:=⟨.inl ⟨_,Tryz.underlying93⟩,by kernel_rfl⟩
instance:Q3o Tryz.prog 93 (.agg #[.int .i64 0,.int .i64 0,.int .i64 0,.int .i64 0,.int .u64 0,.slice none 0 0,.bool false,.int .i64 0,.int .i64 0]):=⟨by kernel_rfl⟩
instance:Q1a Tryz.prog 93 0 0:=⟨_,_,Tryz.underlying93,rfl,rfl,1,by kernel_rfl,by decide⟩
instance:Q1a Tryz.prog 93 1 1:=⟨_,_,Tryz.underlying93,rfl,rfl,1,by kernel_rfl,by decide⟩
instance:Q1a Tryz.prog 93 2 2:=⟨_,_,Tryz.underlying93,rfl,rfl,1,by kernel_rfl,by decide⟩
instance:Q1a Tryz.prog 93 3 3:=⟨_,_,Tryz.underlying93,rfl,rfl,1,by kernel_rfl,by decide⟩
instance:Q1a Tryz.prog 93 4 4:=⟨_,_,Tryz.underlying93,rfl,rfl,1,by kernel_rfl,by decide⟩
instance:Q1a Tryz.prog 93 5 5:=⟨_,_,Tryz.underlying93,rfl,rfl,1,by kernel_rfl,by decide⟩
instance:Q1a Tryz.prog 93 6 6:=⟨_,_,Tryz.underlying93,rfl,rfl,1,by kernel_rfl,by decide⟩
instance:Q1a Tryz.prog 93 7 7:=⟨_,_,Tryz.underlying93,rfl,rfl,2,by kernel_rfl,by decide⟩
instance:TN Tryz.prog 95 12:=⟨.inl ⟨_,Tryz.underlying95⟩,by kernel_rfl⟩
instance:Q3o Tryz.prog 95 (.agg #[.int .i64 0,.int .i64 0,.int .i64 0,.int .i64 0,.int .i64 0,.int .u64 0,.slice none 0 0,.bool false,.int .i64 0,.int .i64 0,.int .i64 0,.slice none 0 0]):=⟨by kernel_rfl⟩
instance:Q1a Tryz.prog 95 0 0:=⟨_,_,Tryz.underlying95,rfl,rfl,1,by kernel_rfl,by decide⟩
instance:Q1a Tryz.prog 95 1 1:=⟨_,_,Tryz.underlying95,rfl,rfl,9,by kernel_rfl,by decide⟩
instance:Q1a Tryz.prog 95 2 10:=⟨_,_,Tryz.underlying95,rfl,rfl,1,by kernel_rfl,by decide⟩
instance:Q1a Tryz.prog 95 3 11:=⟨_,_,Tryz.underlying95,rfl,rfl,1,by kernel_rfl,by decide⟩
instance:TN Tryz.prog 102 4:=⟨.inl ⟨_,Tryz.underlying102⟩,by kernel_rfl⟩
instance:Q3o Tryz.prog 102 (.agg #[.int .i64 0,.slice none 0 0,.int .i64 0,.slice none 0 0]):=⟨by kernel_rfl⟩
instance:Q4s Tryz.prog 102 [(0,1),(1,1),(2,1),(3,1)]:=⟨_,Tryz.underlying102,by kernel_rfl⟩
instance:Q1a Tryz.prog 102 0 0:=⟨_,_,Tryz.underlying102,rfl,rfl,1,by kernel_rfl,by decide⟩
instance:Q1a Tryz.prog 102 1 1:=⟨_,_,Tryz.underlying102,rfl,rfl,1,by kernel_rfl,by decide⟩
instance:Q1a Tryz.prog 102 2 2:=⟨_,_,Tryz.underlying102,rfl,rfl,1,by kernel_rfl,by decide⟩
instance:Q1a Tryz.prog 102 3 3:=⟨_,_,Tryz.underlying102,rfl,rfl,1,by kernel_rfl,by decide⟩
instance:T1 Tryz.prog 108:=⟨⟨_,Tryz.underlying108,(fun _ h=>nomatch h),(fun _ _ h=>nomatch h)⟩,by kernel_rfl⟩
instance:V7s Tryz.prog 108 3 3:=⟨Tryz.underlying108⟩
instance:TN Tryz.prog 113 4:=⟨.inl ⟨_,Tryz.underlying113⟩,by kernel_rfl⟩
instance:Q3o Tryz.prog 113 (.agg #[.int .i64 0,.int .i64 0,.bool false,.bool false]):=⟨by kernel_rfl⟩
instance:Q4s Tryz.prog 113 [(0,1),(1,1),(2,1),(3,1)]:=⟨_,Tryz.underlying113,by kernel_rfl⟩
instance:Q1a Tryz.prog 113 0 0:=⟨_,_,Tryz.underlying113,rfl,rfl,1,by kernel_rfl,by decide⟩
instance:Q1a Tryz.prog 113 1 1:=⟨_,_,Tryz.underlying113,rfl,rfl,1,by kernel_rfl,by decide⟩
instance:Q1a Tryz.prog 113 2 2:=⟨_,_,Tryz.underlying113,rfl,rfl,1,by kernel_rfl,by decide⟩
instance:Q1a Tryz.prog 113 3 3:=⟨_,_,Tryz.underlying113,rfl,rfl,1,by kernel_rfl,by decide⟩
instance:TN Tryz.prog 115 3:=⟨.inl ⟨_,Tryz.underlying115⟩,by kernel_rfl⟩
instance:Q3o Tryz.prog 115 (.agg #[.int .i64 0,.int .i64 0,.int .i64 0]):=⟨by kernel_rfl⟩
instance:Q4s Tryz.prog 115 [(0,1),(1,1),(2,1)]:=⟨_,Tryz.underlying115,by kernel_rfl⟩
instance:Q1a Tryz.prog 115 0 0:=⟨_,_,Tryz.underlying115,rfl,rfl,1,by kernel_rfl,by decide⟩
instance:Q1a Tryz.prog 115 1 1:=⟨_,_,Tryz.underlying115,rfl,rfl,1,by kernel_rfl,by decide⟩
instance:Q1a Tryz.prog 115 2 2:=⟨_,_,Tryz.underlying115,rfl,rfl,1,by kernel_rfl,by decide⟩
instance:Q3o Tryz.prog 119 (.pointer none):=⟨by kernel_rfl⟩
instance:Z3v Tryz.prog 119:=⟨⟨_,Tryz.underlying119⟩⟩
instance:Q3o Tryz.prog 122 (.agg #[.map none,.int .i64 0]):=⟨by kernel_rfl⟩
instance:Q4s Tryz.prog 122 [(0,1),(1,1)]:=⟨_,Tryz.underlying122,by kernel_rfl⟩
instance:Q1a Tryz.prog 122 0 0:=⟨_,_,Tryz.underlying122,rfl,rfl,1,by kernel_rfl,by decide⟩
instance:Q1a Tryz.prog 122 1 1:=⟨_,_,Tryz.underlying122,rfl,rfl,1,by kernel_rfl,by decide⟩
instance:T1 Tryz.prog 130:=⟨⟨_,Tryz.underlying130,(fun _ h=>nomatch h),(fun _ _ h=>nomatch h)⟩,by kernel_rfl⟩
instance:Q2m Tryz.prog 130 133 2 16:=⟨Tryz.underlying130,by kernel_rfl⟩
instance:TN Tryz.prog 133 2:=⟨.inl ⟨_,Tryz.underlying133⟩,by kernel_rfl⟩
instance:Q3o Tryz.prog 133 (.agg #[.int .i64 0,.int .i64 0]):=⟨by kernel_rfl⟩
instance:Q4s Tryz.prog 133 [(0,1),(1,1)]:=⟨_,Tryz.underlying133,by kernel_rfl⟩
instance:Q1a Tryz.prog 133 0 0:=⟨_,_,Tryz.underlying133,rfl,rfl,1,by kernel_rfl,by decide⟩
instance:Q1a Tryz.prog 133 1 1:=⟨_,_,Tryz.underlying133,rfl,rfl,1,by kernel_rfl,by decide⟩
instance:Y6n Tryz.prog 133:=⟨⟨_,_,_,_,Tryz.underlying133,by decide,by decide,rfl,rfl,Tryz.underlying3,Tryz.underlying3⟩,fun f g h=>by rw[Tryz.underlying133] at h;cases h;exact⟨(inferInstance:T1 Tryz.prog 3),(inferInstance:T1 Tryz.prog 3)⟩,by kernel_rfl,by kernel_rfl⟩
instance:T1 Tryz.prog 139:=⟨⟨_,Tryz.underlying139,(fun _ h=>nomatch h),(fun _ _ h=>nomatch h)⟩,by kernel_rfl⟩
instance:Z3v Tryz.prog 139:=⟨⟨_,Tryz.underlying139⟩⟩
instance:Q3o Tryz.prog 141 (.agg #[.slice none 0 0,.int .i64 0,.slice none 0 0,.pointer none]):=⟨by kernel_rfl⟩
instance:Q4s Tryz.prog 141 [(0,1),(1,1),(2,1),(3,1)]:=⟨_,Tryz.underlying141,by kernel_rfl⟩
instance:Q1a Tryz.prog 141 0 0:=⟨_,_,Tryz.underlying141,rfl,rfl,1,by kernel_rfl,by decide⟩
instance:Q1a Tryz.prog 141 1 1:=⟨_,_,Tryz.underlying141,rfl,rfl,1,by kernel_rfl,by decide⟩
instance:Q1a Tryz.prog 141 2 2:=⟨_,_,Tryz.underlying141,rfl,rfl,1,by kernel_rfl,by decide⟩
instance:Q1a Tryz.prog 141 3 3:=⟨_,_,Tryz.underlying141,rfl,rfl,1,by kernel_rfl,by decide⟩
instance:T1 Tryz.prog 142:=⟨⟨_,Tryz.underlying142,(fun _ h=>nomatch h),(fun _ _ h=>nomatch h)⟩,by kernel_rfl⟩
instance:Q2m Tryz.prog 142 199 6 40:=⟨Tryz.underlying142,by kernel_rfl⟩
instance:Q3o Tryz.prog 144 (.agg #[.slice none 0 0,.pointer none,.int .i64 0]):=⟨by kernel_rfl⟩
instance:Q4s Tryz.prog 144 [(0,1),(1,1),(2,1)]:=⟨_,Tryz.underlying144,by kernel_rfl⟩
instance:Q1a Tryz.prog 144 0 0:=⟨_,_,Tryz.underlying144,rfl,rfl,1,by kernel_rfl,by decide⟩
instance:Q1a Tryz.prog 144 1 1:=⟨_,_,Tryz.underlying144,rfl,rfl,1,by kernel_rfl,by decide⟩
instance:T1 Tryz.prog 145:=⟨⟨_,Tryz.underlying145,(fun _ h=>nomatch h),(fun _ _ h=>nomatch h)⟩,by kernel_rfl⟩
instance:Q3o Tryz.prog 145 (.map none):=⟨by kernel_rfl⟩
instance:V7s Tryz.prog 145 133 3:=⟨Tryz.underlying145⟩
instance:T1 Tryz.prog 146:=⟨⟨_,Tryz.underlying146,(fun _ h=>nomatch h),(fun _ _ h=>nomatch h)⟩,by kernel_rfl⟩
instance:V7s Tryz.prog 146 3 145:=⟨Tryz.underlying146⟩
instance:Q3o Tryz.prog 148 (.agg #[.map none,.map none,.map none]):=⟨by kernel_rfl⟩
instance:Q4s Tryz.prog 148 [(0,1),(1,1),(2,1)]:=⟨_,Tryz.underlying148,by kernel_rfl⟩
instance:Q1a Tryz.prog 148 0 0:=⟨_,_,Tryz.underlying148,rfl,rfl,1,by kernel_rfl,by decide⟩
instance:Q1a Tryz.prog 148 1 1:=⟨_,_,Tryz.underlying148,rfl,rfl,1,by kernel_rfl,by decide⟩
instance:Q1a Tryz.prog 148 2 2:=⟨_,_,Tryz.underlying148,rfl,rfl,1,by kernel_rfl,by decide⟩
instance:V7s Tryz.prog 152 69 3:=⟨Tryz.underlying152⟩
instance:Q3o Tryz.prog 161 (.agg #[.slice none 0 0]):=⟨by kernel_rfl⟩
instance:Q4s Tryz.prog 161 [(0,1)]:=⟨_,Tryz.underlying161,by kernel_rfl⟩
instance:Q1a Tryz.prog 161 0 0:=⟨_,_,Tryz.underlying161,rfl,rfl,1,by kernel_rfl,by decide⟩
instance:Q3o Tryz.prog 163 (.agg #[.slice none 0 0]):=⟨by kernel_rfl⟩
instance:Q4s Tryz.prog 163 [(0,1)]:=⟨_,Tryz.underlying163,by kernel_rfl⟩
instance:Q1a Tryz.prog 163 0 0:=⟨_,_,Tryz.underlying163,rfl,rfl,1,by kernel_rfl,by decide⟩
instance:G4m Tryz.prog 164 .u64:=⟨Tryz.underlying164⟩
instance:Q3o Tryz.prog 199 (.agg #[.int .i64 0,.bool false,.int .i64 0,.int .i64 0,.bool false,.bool false]):=⟨by kernel_rfl⟩
instance:Q1a Tryz.prog 199 0 0:=⟨_,_,Tryz.underlying199,rfl,rfl,1,by kernel_rfl,by decide⟩
instance:Q1a Tryz.prog 199 1 1:=⟨_,_,Tryz.underlying199,rfl,rfl,1,by kernel_rfl,by decide⟩
instance:Q1a Tryz.prog 199 2 2:=⟨_,_,Tryz.underlying199,rfl,rfl,4,by kernel_rfl,by decide⟩
instance:T1 Tryz.prog 204:=⟨⟨_,Tryz.underlying204,(fun _ h=>nomatch h),(fun _ _ h=>nomatch h)⟩,by kernel_rfl⟩
instance:Q2m Tryz.prog 204 208 2 16:=⟨Tryz.underlying204,by kernel_rfl⟩
instance:Q3o Tryz.prog 206 (.agg #[.pointer none,.int .i64 0,.slice none 0 0,.int .i64 0,.int .i64 0]):=⟨by kernel_rfl⟩
instance:Q4s Tryz.prog 206 [(0,1),(1,1),(2,1),(3,1),(4,1)]:=⟨_,Tryz.underlying206,by kernel_rfl⟩
instance:Q1a Tryz.prog 206 0 0:=⟨_,_,Tryz.underlying206,rfl,rfl,1,by kernel_rfl,by decide⟩
instance:Q1a Tryz.prog 206 1 1:=⟨_,_,Tryz.underlying206,rfl,rfl,1,by kernel_rfl,by decide⟩
instance:Q1a Tryz.prog 206 2 2:=⟨_,_,Tryz.underlying206,rfl,rfl,1,by kernel_rfl,by decide⟩
instance:Q1a Tryz.prog 206 3 3:=⟨_,_,Tryz.underlying206,rfl,rfl,1,by kernel_rfl,by decide⟩
instance:Q1a Tryz.prog 206 4 4:=⟨_,_,Tryz.underlying206,rfl,rfl,1,by kernel_rfl,by decide⟩
instance:TN Tryz.prog 208 2:=⟨.inl ⟨_,Tryz.underlying208⟩,by kernel_rfl⟩
instance:Q3o Tryz.prog 208 (.agg #[.int .i64 0,.int .i64 0]):=⟨by kernel_rfl⟩
instance:Q4s Tryz.prog 208 [(0,1),(1,1)]:=⟨_,Tryz.underlying208,by kernel_rfl⟩
instance:Q1a Tryz.prog 208 0 0:=⟨_,_,Tryz.underlying208,rfl,rfl,1,by kernel_rfl,by decide⟩
instance:Q1a Tryz.prog 208 1 1:=⟨_,_,Tryz.underlying208,rfl,rfl,1,by kernel_rfl,by decide⟩
instance:Y6n Tryz.prog 208:=⟨⟨_,_,_,_,Tryz.underlying208,by decide,by decide,rfl,rfl,Tryz.underlying3,Tryz.underlying3⟩,fun f g h=>by rw[Tryz.underlying208] at h;cases h;exact⟨(inferInstance:T1 Tryz.prog 3),(inferInstance:T1 Tryz.prog 3)⟩,by kernel_rfl,by kernel_rfl⟩
instance:Q3o Tryz.prog 222 (.agg #[.pointer none,.pointer none]):=⟨by kernel_rfl⟩
instance:Q4s Tryz.prog 222 [(0,1),(1,1)]:=⟨_,Tryz.underlying222,by kernel_rfl⟩
instance:Q1a Tryz.prog 222 0 0:=⟨_,_,Tryz.underlying222,rfl,rfl,1,by kernel_rfl,by decide⟩
instance:Q1a Tryz.prog 222 1 1:=⟨_,_,Tryz.underlying222,rfl,rfl,1,by kernel_rfl,by decide⟩
instance:Q3o Tryz.prog 228 (.agg #[.int .i64 0,.slice none 0 0,.int .i64 0]):=⟨by kernel_rfl⟩
instance:Q4s Tryz.prog 228 [(0,1),(1,1),(2,1)]:=⟨_,Tryz.underlying228,by kernel_rfl⟩
instance:Q1a Tryz.prog 228 0 0:=⟨_,_,Tryz.underlying228,rfl,rfl,1,by kernel_rfl,by decide⟩
instance:Q1a Tryz.prog 228 1 1:=⟨_,_,Tryz.underlying228,rfl,rfl,1,by kernel_rfl,by decide⟩
instance:Q1a Tryz.prog 228 2 2:=⟨_,_,Tryz.underlying228,rfl,rfl,1,by kernel_rfl,by decide⟩
instance:Q3o Tryz.prog 242 (.agg #[.slice none 0 0]):=⟨by kernel_rfl⟩
instance:Q4s Tryz.prog 242 [(0,1)]:=⟨_,Tryz.underlying242,by kernel_rfl⟩
instance:Q1a Tryz.prog 242 0 0:=⟨_,_,Tryz.underlying242,rfl,rfl,1,by kernel_rfl,by decide⟩
instance:Q2m Tryz.prog 245 307 2 16:=⟨Tryz.underlying245,by kernel_rfl⟩
instance:T1 Tryz.prog 279:=⟨⟨_,Tryz.underlying279,(fun _ h=>nomatch h),(fun _ _ h=>nomatch h)⟩,by kernel_rfl⟩
instance:TN Tryz.prog 307 2:=⟨.inl ⟨_,Tryz.underlying307⟩,by kernel_rfl⟩
instance:Q3o Tryz.prog 307 (.agg #[.int .i64 0,.int .i64 0]):=⟨by kernel_rfl⟩
instance:Q4s Tryz.prog 307 [(0,1),(1,1)]:=⟨_,Tryz.underlying307,by kernel_rfl⟩
instance:Q1a Tryz.prog 307 0 0:=⟨_,_,Tryz.underlying307,rfl,rfl,1,by kernel_rfl,by decide⟩
instance:Q1a Tryz.prog 307 1 1:=⟨_,_,Tryz.underlying307,rfl,rfl,1,by kernel_rfl,by decide⟩
instance:Q0p Tryz.prog 8:=⟨_,Tryz.func8,by kernel_rfl,by kernel_rfl⟩
instance:Q0p Tryz.prog 9:=⟨_,Tryz.func9,by kernel_rfl,by kernel_rfl⟩
instance:Q0p Tryz.prog 10:=⟨_,Tryz.func10,by kernel_rfl,by kernel_rfl⟩
instance:Q0p Tryz.prog 11:=⟨_,Tryz.func11,by kernel_rfl,by kernel_rfl⟩
instance:Q0p Tryz.prog 13:=⟨_,Tryz.func13,by kernel_rfl,by kernel_rfl⟩
instance:Q0p Tryz.prog 14:=⟨_,Tryz.func14,by kernel_rfl,by kernel_rfl⟩
instance:Q0p Tryz.prog 15:=⟨_,Tryz.func15,by kernel_rfl,by kernel_rfl⟩
instance:Q0p Tryz.prog 16:=⟨_,Tryz.func16,by kernel_rfl,by kernel_rfl⟩
instance:Q0p Tryz.prog 19:=⟨_,Tryz.func19,by kernel_rfl,by kernel_rfl⟩
instance:Q0p Tryz.prog 20:=⟨_,Tryz.func20,by kernel_rfl,by kernel_rfl⟩
instance:Q0p Tryz.prog 21:=⟨_,Tryz.func21,by kernel_rfl,by kernel_rfl⟩
instance:Q0p Tryz.prog 22:=⟨_,Tryz.func22,by kernel_rfl,by kernel_rfl⟩
instance:Q0p Tryz.prog 24:=⟨_,Tryz.func24,by kernel_rfl,by kernel_rfl⟩
instance:Q0p Tryz.prog 25:=⟨_,Tryz.func25,by kernel_rfl,by kernel_rfl⟩
instance:Q0p Tryz.prog 26:=⟨_,Tryz.func26,by kernel_rfl,by kernel_rfl⟩
instance:Q0p Tryz.prog 27:=⟨_,Tryz.func27,by kernel_rfl,by kernel_rfl⟩
instance:Q0p Tryz.prog 28:=⟨_,Tryz.func28,by kernel_rfl,by kernel_rfl⟩
instance:Q0p Tryz.prog 29:=⟨_,Tryz.func29,by kernel_rfl,by kernel_rfl⟩
instance:Q0p Tryz.prog 30:=⟨_,Tryz.func30,by kernel_rfl,by kernel_rfl⟩
instance:Q0p Tryz.prog 31:=⟨_,Tryz.func31,by kernel_rfl,by kernel_rfl⟩
instance:Q0p Tryz.prog 32:=⟨_,Tryz.func32,by kernel_rfl,by kernel_rfl⟩
instance:Q0p Tryz.prog 33:=⟨_,Tryz.func33,by kernel_rfl,by kernel_rfl⟩
instance:Q0p Tryz.prog 34:=⟨_,Tryz.func34,by kernel_rfl,by kernel_rfl⟩
instance:Q0p Tryz.prog 35:=⟨_,Tryz.func35,by kernel_rfl,by kernel_rfl⟩
instance:Q0p Tryz.prog 36:=⟨_,Tryz.func36,by kernel_rfl,by kernel_rfl⟩
instance:Q0p Tryz.prog 37:=⟨_,Tryz.func37,by kernel_rfl,by kernel_rfl⟩
instance:Q0p Tryz.prog 38:=⟨_,Tryz.func38,by kernel_rfl,by kernel_rfl⟩
instance:Q0p Tryz.prog 39:=⟨_,Tryz.func39,by kernel_rfl,by kernel_rfl⟩
instance:Q0p Tryz.prog 40:=⟨_,Tryz.func40,by kernel_rfl,by kernel_rfl⟩
instance:Q0p Tryz.prog 41:=⟨_,Tryz.func41,by kernel_rfl,by kernel_rfl⟩
instance:Q0p Tryz.prog 42:=⟨_,Tryz.func42,by kernel_rfl,by kernel_rfl⟩
instance:Q0p Tryz.prog 43:=⟨_,Tryz.func43,by kernel_rfl,by kernel_rfl⟩
instance:Q0p Tryz.prog 45:=⟨_,Tryz.func45,by kernel_rfl,by kernel_rfl⟩
instance:Q0p Tryz.prog 46:=⟨_,Tryz.func46,by kernel_rfl,by kernel_rfl⟩
instance:Q0p Tryz.prog 47:=⟨_,Tryz.func47,by kernel_rfl,by kernel_rfl⟩
instance:Q0p Tryz.prog 48:=⟨_,Tryz.func48,by kernel_rfl,by kernel_rfl⟩
instance:Q0p Tryz.prog 49:=⟨_,Tryz.func49,by kernel_rfl,by kernel_rfl⟩
instance:Q0p Tryz.prog 50:=⟨_,Tryz.func50,by kernel_rfl,by kernel_rfl⟩
instance:Q0p Tryz.prog 52:=⟨_,Tryz.func52,by kernel_rfl,by kernel_rfl⟩
instance:Q0p Tryz.prog 53:=⟨_,Tryz.func53,by kernel_rfl,by kernel_rfl⟩
instance:Q0p Tryz.prog 54:=⟨_,Tryz.func54,by kernel_rfl,by kernel_rfl⟩
instance:Q0p Tryz.prog 55:=⟨_,Tryz.func55,by kernel_rfl,by kernel_rfl⟩
instance:Q0p Tryz.prog 56:=⟨_,Tryz.func56,by kernel_rfl,by kernel_rfl⟩
instance:Q0p Tryz.prog 57:=⟨_,Tryz.func57,by kernel_rfl,by kernel_rfl⟩
instance:Q0p Tryz.prog 58:=⟨_,Tryz.func58,by kernel_rfl,by kernel_rfl⟩
instance:Q0p Tryz.prog 59:=⟨_,Tryz.func59,by kernel_rfl,by kernel_rfl⟩
instance:Q0p Tryz.prog 60:=⟨_,Tryz.func60,by kernel_rfl,by kernel_rfl⟩
instance:Q0p Tryz.prog 61:=⟨_,Tryz.func61,by kernel_rfl,by kernel_rfl⟩
instance:Q0p Tryz.prog 62:=⟨_,Tryz.func62,by kernel_rfl,by kernel_rfl⟩
instance:Q0p Tryz.prog 63:=⟨_,Tryz.func63,by kernel_rfl,by kernel_rfl⟩
instance:Q0p Tryz.prog 64:=⟨_,Tryz.func64,by kernel_rfl,by kernel_rfl⟩
instance:Q0p Tryz.prog 65:=⟨_,Tryz.func65,by kernel_rfl,by kernel_rfl⟩
instance:Q0p Tryz.prog 66:=⟨_,Tryz.func66,by kernel_rfl,by kernel_rfl⟩
instance:Q0p Tryz.prog 67:=⟨_,Tryz.func67,by kernel_rfl,by kernel_rfl⟩
instance:Q0p Tryz.prog 68:=⟨_,Tryz.func68,by kernel_rfl,by kernel_rfl⟩
instance:Q0p Tryz.prog 69:=⟨_,Tryz.func69,by kernel_rfl,by kernel_rfl⟩
instance:Q0p Tryz.prog 70:=⟨_,Tryz.func70,by kernel_rfl,by kernel_rfl⟩
instance:Q0p Tryz.prog 71:=⟨_,Tryz.func71,by kernel_rfl,by kernel_rfl⟩
instance:Q0p Tryz.prog 72:=⟨_,Tryz.func72,by kernel_rfl,by kernel_rfl⟩
instance:Q0p Tryz.prog 73:=⟨_,Tryz.func73,by kernel_rfl,by kernel_rfl⟩
instance:Q0p Tryz.prog 74:=⟨_,Tryz.func74,by kernel_rfl,by kernel_rfl⟩
instance:Q0p Tryz.prog 75:=⟨_,Tryz.func75,by kernel_rfl,by kernel_rfl⟩
instance:Q0p Tryz.prog 76:=⟨_,Tryz.func76,by kernel_rfl,by kernel_rfl⟩
instance:Q0p Tryz.prog 77:=⟨_,Tryz.func77,by kernel_rfl,by kernel_rfl⟩
instance:Q0p Tryz.prog 78:=⟨_,Tryz.func78,by kernel_rfl,by kernel_rfl⟩
instance:Q0p Tryz.prog 79:=⟨_,Tryz.func79,by kernel_rfl,by kernel_rfl⟩
instance:Q0p Tryz.prog 80:=⟨_,Tryz.func80,by kernel_rfl,by kernel_rfl⟩
instance:Q0p Tryz.prog 81:=⟨_,Tryz.func81,by kernel_rfl,by kernel_rfl⟩
instance:Q0p Tryz.prog 82:=⟨_,Tryz.func82,by kernel_rfl,by kernel_rfl⟩
instance:Q0p Tryz.prog 83:=⟨_,Tryz.func83,by kernel_rfl,by kernel_rfl⟩
instance:Q0p Tryz.prog 84:=⟨_,Tryz.func84,by kernel_rfl,by kernel_rfl⟩
instance:Q0p Tryz.prog 85:=⟨_,Tryz.func85,by kernel_rfl,by kernel_rfl⟩
instance:Q0p Tryz.prog 86:=⟨_,Tryz.func86,by kernel_rfl,by kernel_rfl⟩
instance:Q0p Tryz.prog 87:=⟨_,Tryz.func87,by kernel_rfl,by kernel_rfl⟩
instance:Q0p Tryz.prog 88:=⟨_,Tryz.func88,by kernel_rfl,by kernel_rfl⟩
instance:Q0p Tryz.prog 89:=⟨_,Tryz.func89,by kernel_rfl,by kernel_rfl⟩
instance:Q0p Tryz.prog 90:=⟨_,Tryz.func90,by kernel_rfl,by kernel_rfl⟩
instance:Q0p Tryz.prog 91:=⟨_,Tryz.func91,by kernel_rfl,by kernel_rfl⟩
instance:Q0p Tryz.prog 92:=⟨_,Tryz.func92,by kernel_rfl,by kernel_rfl⟩
instance:Q0p Tryz.prog 93:=⟨_,Tryz.func93,by kernel_rfl,by kernel_rfl⟩
instance:Q0p Tryz.prog 94:=⟨_,Tryz.func94,by kernel_rfl,by kernel_rfl⟩
instance:Q0p Tryz.prog 95:=⟨_,Tryz.func95,by kernel_rfl,by kernel_rfl⟩
instance:Q0p Tryz.prog 96:=⟨_,Tryz.func96,by kernel_rfl,by kernel_rfl⟩
instance:Q0p Tryz.prog 97:=⟨_,Tryz.func97,by kernel_rfl,by kernel_rfl⟩
instance:Q0p Tryz.prog 98:=⟨_,Tryz.func98,by kernel_rfl,by kernel_rfl⟩
instance:Q0p Tryz.prog 99:=⟨_,Tryz.func99,by kernel_rfl,by kernel_rfl⟩
instance:Q0p Tryz.prog 100:=⟨_,Tryz.func100,by kernel_rfl,by kernel_rfl⟩
instance:Q0p Tryz.prog 101:=⟨_,Tryz.func101,by kernel_rfl,by kernel_rfl⟩
instance:Q0p Tryz.prog 102:=⟨_,Tryz.func102,by kernel_rfl,by kernel_rfl⟩
instance:Q0p Tryz.prog 103:=⟨_,Tryz.func103,by kernel_rfl,by kernel_rfl⟩
instance:Q0p Tryz.prog 104:=⟨_,Tryz.func104,by kernel_rfl,by kernel_rfl⟩
instance:Q0p Tryz.prog 105:=⟨_,Tryz.func105,by kernel_rfl,by kernel_rfl⟩
instance:Q0p Tryz.prog 106:=⟨_,Tryz.func106,by kernel_rfl,by kernel_rfl⟩
instance:Q0p Tryz.prog 107:=⟨_,Tryz.func107,by kernel_rfl,by kernel_rfl⟩
instance:Q0p Tryz.prog 110:=⟨_,Tryz.func110,by kernel_rfl,by kernel_rfl⟩
instance:Q0p Tryz.prog 111:=⟨_,Tryz.func111,by kernel_rfl,by kernel_rfl⟩
instance:Q0p Tryz.prog 112:=⟨_,Tryz.func112,by kernel_rfl,by kernel_rfl⟩
instance:Q0p Tryz.prog 113:=⟨_,Tryz.func113,by kernel_rfl,by kernel_rfl⟩
instance:Q0p Tryz.prog 114:=⟨_,Tryz.func114,by kernel_rfl,by kernel_rfl⟩
instance:Q0p Tryz.prog 117:=⟨_,Tryz.func117,by kernel_rfl,by kernel_rfl⟩
instance:Q0p Tryz.prog 118:=⟨_,Tryz.func118,by kernel_rfl,by kernel_rfl⟩
instance:Q0p Tryz.prog 119:=⟨_,Tryz.func119,by kernel_rfl,by kernel_rfl⟩
instance:Q0p Tryz.prog 121:=⟨_,Tryz.func121,by kernel_rfl,by kernel_rfl⟩
instance:Q0p Tryz.prog 122:=⟨_,Tryz.func122,by kernel_rfl,by kernel_rfl⟩
instance:Q0p Tryz.prog 123:=⟨_,Tryz.func123,by kernel_rfl,by kernel_rfl⟩
instance:Q0p Tryz.prog 124:=⟨_,Tryz.func124,by kernel_rfl,by kernel_rfl⟩
instance:Q0p Tryz.prog 125:=⟨_,Tryz.func125,by kernel_rfl,by kernel_rfl⟩
instance:Q0p Tryz.prog 126:=⟨_,Tryz.func126,by kernel_rfl,by kernel_rfl⟩
instance:Q0p Tryz.prog 127:=⟨_,Tryz.func127,by kernel_rfl,by kernel_rfl⟩
instance:Q0p Tryz.prog 128:=⟨_,Tryz.func128,by kernel_rfl,by kernel_rfl⟩
instance:Q0p Tryz.prog 129:=⟨_,Tryz.func129,by kernel_rfl,by kernel_rfl⟩
instance:Q0p Tryz.prog 130:=⟨_,Tryz.func130,by kernel_rfl,by kernel_rfl⟩
instance:Q0p Tryz.prog 131:=⟨_,Tryz.func131,by kernel_rfl,by kernel_rfl⟩
instance:Q0p Tryz.prog 132:=⟨_,Tryz.func132,by kernel_rfl,by kernel_rfl⟩
instance:Q0p Tryz.prog 133:=⟨_,Tryz.func133,by kernel_rfl,by kernel_rfl⟩
instance:Q0p Tryz.prog 134:=⟨_,Tryz.func134,by kernel_rfl,by kernel_rfl⟩
instance:Q0p Tryz.prog 135:=⟨_,Tryz.func135,by kernel_rfl,by kernel_rfl⟩
instance:Q0p Tryz.prog 136:=⟨_,Tryz.func136,by kernel_rfl,by kernel_rfl⟩
instance:Q0p Tryz.prog 137:=⟨_,Tryz.func137,by kernel_rfl,by kernel_rfl⟩
instance:Q0p Tryz.prog 138:=⟨_,Tryz.func138,by kernel_rfl,by kernel_rfl⟩
instance:Q0p Tryz.prog 139:=⟨_,Tryz.func139,by kernel_rfl,by kernel_rfl⟩
instance:Q0p Tryz.prog 140:=⟨_,Tryz.func140,by kernel_rfl,by kernel_rfl⟩
instance:Q0p Tryz.prog 141:=⟨_,Tryz.func141,by kernel_rfl,by kernel_rfl⟩
instance:Q0p Tryz.prog 142:=⟨_,Tryz.func142,by kernel_rfl,by kernel_rfl⟩
instance:Q0p Tryz.prog 143:=⟨_,Tryz.func143,by kernel_rfl,by kernel_rfl⟩
instance:Q0p Tryz.prog 144:=⟨_,Tryz.func144,by kernel_rfl,by kernel_rfl⟩
instance:Q0p Tryz.prog 145:=⟨_,Tryz.func145,by kernel_rfl,by kernel_rfl⟩
instance:Q0p Tryz.prog 146:=⟨_,Tryz.func146,by kernel_rfl,by kernel_rfl⟩
instance:Q0p Tryz.prog 147:=⟨_,Tryz.func147,by kernel_rfl,by kernel_rfl⟩
instance:Q0p Tryz.prog 148:=⟨_,Tryz.func148,by kernel_rfl,by kernel_rfl⟩
instance:Q0p Tryz.prog 149:=⟨_,Tryz.func149,by kernel_rfl,by kernel_rfl⟩
instance:Q0p Tryz.prog 150:=⟨_,Tryz.func150,by kernel_rfl,by kernel_rfl⟩
instance:Q0p Tryz.prog 151:=⟨_,Tryz.func151,by kernel_rfl,by kernel_rfl⟩
instance:Q0p Tryz.prog 152:=⟨_,Tryz.func152,by kernel_rfl,by kernel_rfl⟩
instance:Q0p Tryz.prog 153:=⟨_,Tryz.func153,by kernel_rfl,by kernel_rfl⟩
instance:Q0p Tryz.prog 154:=⟨_,Tryz.func154,by kernel_rfl,by kernel_rfl⟩
instance:Q0p Tryz.prog 155:=⟨_,Tryz.func155,by kernel_rfl,by kernel_rfl⟩
instance:Q0p Tryz.prog 156:=⟨_,Tryz.func156,by kernel_rfl,by kernel_rfl⟩
instance:Q0p Tryz.prog 157:=⟨_,Tryz.func157,by kernel_rfl,by kernel_rfl⟩
instance:Q0p Tryz.prog 158:=⟨_,Tryz.func158,by kernel_rfl,by kernel_rfl⟩
instance:Q0p Tryz.prog 159:=⟨_,Tryz.func159,by kernel_rfl,by kernel_rfl⟩
instance:Q0p Tryz.prog 160:=⟨_,Tryz.func160,by kernel_rfl,by kernel_rfl⟩
instance:Q0p Tryz.prog 161:=⟨_,Tryz.func161,by kernel_rfl,by kernel_rfl⟩
instance:Q0p Tryz.prog 162:=⟨_,Tryz.func162,by kernel_rfl,by kernel_rfl⟩
instance:Q0p Tryz.prog 163:=⟨_,Tryz.func163,by kernel_rfl,by kernel_rfl⟩
instance:Q0p Tryz.prog 164:=⟨_,Tryz.func164,by kernel_rfl,by kernel_rfl⟩
instance:Q0p Tryz.prog 165:=⟨_,Tryz.func165,by kernel_rfl,by kernel_rfl⟩
instance:Q0p Tryz.prog 166:=⟨_,Tryz.func166,by kernel_rfl,by kernel_rfl⟩
instance:Q0p Tryz.prog 167:=⟨_,Tryz.func167,by kernel_rfl,by kernel_rfl⟩
instance:Q0p Tryz.prog 168:=⟨_,Tryz.func168,by kernel_rfl,by kernel_rfl⟩
instance:Q0p Tryz.prog 169:=⟨_,Tryz.func169,by kernel_rfl,by kernel_rfl⟩
instance:Q0p Tryz.prog 170:=⟨_,Tryz.func170,by kernel_rfl,by kernel_rfl⟩
instance:Q0p Tryz.prog 171:=⟨_,Tryz.func171,by kernel_rfl,by kernel_rfl⟩
instance:Q0p Tryz.prog 172:=⟨_,Tryz.func172,by kernel_rfl,by kernel_rfl⟩
instance:Q0p Tryz.prog 173:=⟨_,Tryz.func173,by kernel_rfl,by kernel_rfl⟩
instance:Q0p Tryz.prog 174:=⟨_,Tryz.func174,by kernel_rfl,by kernel_rfl⟩
instance:Q0p Tryz.prog 175:=⟨_,Tryz.func175,by kernel_rfl,by kernel_rfl⟩
instance:Q0p Tryz.prog 176:=⟨_,Tryz.func176,by kernel_rfl,by kernel_rfl⟩
instance:Q0p Tryz.prog 177:=⟨_,Tryz.func177,by kernel_rfl,by kernel_rfl⟩
instance:Q0p Tryz.prog 178:=⟨_,Tryz.func178,by kernel_rfl,by kernel_rfl⟩
instance:Q0p Tryz.prog 179:=⟨_,Tryz.func179,by kernel_rfl,by kernel_rfl⟩
instance:Q0p Tryz.prog 180:=⟨_,Tryz.func180,by kernel_rfl,by kernel_rfl⟩
instance:Q0p Tryz.prog 182:=⟨_,Tryz.func182,by kernel_rfl,by kernel_rfl⟩
instance:Q0p Tryz.prog 183:=⟨_,Tryz.func183,by kernel_rfl,by kernel_rfl⟩
instance:Q0p Tryz.prog 186:=⟨_,Tryz.func186,by kernel_rfl,by kernel_rfl⟩
instance:Q0p Tryz.prog 187:=⟨_,Tryz.func187,by kernel_rfl,by kernel_rfl⟩
instance:Q0p Tryz.prog 197:=⟨_,Tryz.func197,by kernel_rfl,by kernel_rfl⟩
instance:Q0p Tryz.prog 198:=⟨_,Tryz.func198,by kernel_rfl,by kernel_rfl⟩
instance:Q0p Tryz.prog 199:=⟨_,Tryz.func199,by kernel_rfl,by kernel_rfl⟩
instance:Q0p Tryz.prog 200:=⟨_,Tryz.func200,by kernel_rfl,by kernel_rfl⟩
instance:Q0p Tryz.prog 201:=⟨_,Tryz.func201,by kernel_rfl,by kernel_rfl⟩
instance:Q0p Tryz.prog 202:=⟨_,Tryz.func202,by kernel_rfl,by kernel_rfl⟩
instance:Q0p Tryz.prog 203:=⟨_,Tryz.func203,by kernel_rfl,by kernel_rfl⟩
instance:Q0p Tryz.prog 204:=⟨_,Tryz.func204,by kernel_rfl,by kernel_rfl⟩
instance:Q0p Tryz.prog 205:=⟨_,Tryz.func205,by kernel_rfl,by kernel_rfl⟩
instance:Q0p Tryz.prog 206:=⟨_,Tryz.func206,by kernel_rfl,by kernel_rfl⟩
instance:Q0p Tryz.prog 207:=⟨_,Tryz.func207,by kernel_rfl,by kernel_rfl⟩
instance:Q0p Tryz.prog 208:=⟨_,Tryz.func208,by kernel_rfl,by kernel_rfl⟩
instance:Q0p Tryz.prog 209:=⟨_,Tryz.func209,by kernel_rfl,by kernel_rfl⟩
instance:Q0p Tryz.prog 210:=⟨_,Tryz.func210,by kernel_rfl,by kernel_rfl⟩
instance:Q0p Tryz.prog 211:=⟨_,Tryz.func211,by kernel_rfl,by kernel_rfl⟩
instance:Q0p Tryz.prog 212:=⟨_,Tryz.func212,by kernel_rfl,by kernel_rfl⟩
instance:Q0p Tryz.prog 213:=⟨_,Tryz.func213,by kernel_rfl,by kernel_rfl⟩
instance:Q0p Tryz.prog 214:=⟨_,Tryz.func214,by kernel_rfl,by kernel_rfl⟩
instance:Q0p Tryz.prog 215:=⟨_,Tryz.func215,by kernel_rfl,by kernel_rfl⟩
instance:Q0p Tryz.prog 216:=⟨_,Tryz.func216,by kernel_rfl,by kernel_rfl⟩
instance:Q0p Tryz.prog 217:=⟨_,Tryz.func217,by kernel_rfl,by kernel_rfl⟩
instance:Q0p Tryz.prog 218:=⟨_,Tryz.func218,by kernel_rfl,by kernel_rfl⟩
instance:Q0p Tryz.prog 219:=⟨_,Tryz.func219,by kernel_rfl,by kernel_rfl⟩
instance:Q0p Tryz.prog 220:=⟨_,Tryz.func220,by kernel_rfl,by kernel_rfl⟩
instance:Q0p Tryz.prog 221:=⟨_,Tryz.func221,by kernel_rfl,by kernel_rfl⟩
instance:Q0p Tryz.prog 222:=⟨_,Tryz.func222,by kernel_rfl,by kernel_rfl⟩
instance:Q0p Tryz.prog 223:=⟨_,Tryz.func223,by kernel_rfl,by kernel_rfl⟩
instance:Q0p Tryz.prog 226:=⟨_,Tryz.func226,by kernel_rfl,by kernel_rfl⟩
instance:Q0p Tryz.prog 227:=⟨_,Tryz.func227,by kernel_rfl,by kernel_rfl⟩
instance:Q0p Tryz.prog 228:=⟨_,Tryz.func228,by kernel_rfl,by kernel_rfl⟩
instance:Q0p Tryz.prog 229:=⟨_,Tryz.func229,by kernel_rfl,by kernel_rfl⟩
instance:Q0p Tryz.prog 230:=⟨_,Tryz.func230,by kernel_rfl,by kernel_rfl⟩
instance:Q0p Tryz.prog 231:=⟨_,Tryz.func231,by kernel_rfl,by kernel_rfl⟩
instance:Q0p Tryz.prog 232:=⟨_,Tryz.func232,by kernel_rfl,by kernel_rfl⟩
instance:Q0p Tryz.prog 233:=⟨_,Tryz.func233,by kernel_rfl,by kernel_rfl⟩
instance:Q0p Tryz.prog 234:=⟨_,Tryz.func234,by kernel_rfl,by kernel_rfl⟩
instance:Q0p Tryz.prog 235:=⟨_,Tryz.func235,by kernel_rfl,by kernel_rfl⟩
instance:Q0p Tryz.prog 236:=⟨_,Tryz.func236,by kernel_rfl,by kernel_rfl⟩
instance:Q0p Tryz.prog 237:=⟨_,Tryz.func237,by kernel_rfl,by kernel_rfl⟩
instance:Q0p Tryz.prog 238:=⟨_,Tryz.func238,by kernel_rfl,by kernel_rfl⟩
instance:Q0p Tryz.prog 244:=⟨_,Tryz.func244,by kernel_rfl,by kernel_rfl⟩
instance:Q0p Tryz.prog 245:=⟨_,Tryz.func245,by kernel_rfl,by kernel_rfl⟩
instance:Q0p Tryz.prog 246:=⟨_,Tryz.func246,by kernel_rfl,by kernel_rfl⟩
instance:Q0p Tryz.prog 247:=⟨_,Tryz.func247,by kernel_rfl,by kernel_rfl⟩
instance:Q0p Tryz.prog 248:=⟨_,Tryz.func248,by kernel_rfl,by kernel_rfl⟩
instance:Q0p Tryz.prog 249:=⟨_,Tryz.func249,by kernel_rfl,by kernel_rfl⟩
instance:Q0p Tryz.prog 250:=⟨_,Tryz.func250,by kernel_rfl,by kernel_rfl⟩
instance:Q0p Tryz.prog 252:=⟨_,Tryz.func252,by kernel_rfl,by kernel_rfl⟩
instance:Q0p Tryz.prog 253:=⟨_,Tryz.func253,by kernel_rfl,by kernel_rfl⟩
instance:Q0p Tryz.prog 254:=⟨_,Tryz.func254,by kernel_rfl,by kernel_rfl⟩
instance:Q0p Tryz.prog 255:=⟨_,Tryz.func255,by kernel_rfl,by kernel_rfl⟩
instance:Q0p Tryz.prog 256:=⟨_,Tryz.func256,by kernel_rfl,by kernel_rfl⟩
instance:Q0p Tryz.prog 258:=⟨_,Tryz.func258,by kernel_rfl,by kernel_rfl⟩
instance:Q0p Tryz.prog 260:=⟨_,Tryz.func260,by kernel_rfl,by kernel_rfl⟩
instance:Q0p Tryz.prog 262:=⟨_,Tryz.func262,by kernel_rfl,by kernel_rfl⟩
theorem mixed:Tryz.prog.follows .mixedOrders=true:=by kernel_rfl
end Go.Proofs.YtmjdnljneifpcaaGreatDoor
set_option linter.unusedSimpArgs false
set_option linter.unusedSectionVars false
namespace Go.SL
theorem Q4o {a:Nat} (h:a < 18446744073709551616):IntKind.u64.wrap (a:Int)=a:=by
 simp[IntKind.wrap,IntKind.bits,IntKind.signed];omega
theorem Q6o {a:Nat} (h:a < 9223372036854775808):IntKind.i64.wrap (a:Int)=a:=by
 simp[IntKind.wrap,IntKind.bits,IntKind.signed];omega
theorem Q7p {a:Nat}:BitVec.ofInt 64 (a:Int)=BitVec.ofNat 64 a:=by
 apply BitVec.eq_of_toNat_eq;simp[BitVec.toNat_ofInt]
theorem Y4o {a b:Nat} (ha:a < 18446744073709551616) (hb:b < 18446744073709551616):V5c .and .u64 a b=((a &&& b:Nat):Int):=by
 show IntKind.u64.wrap (((BitVec.ofInt 64 (a:Int)) &&& (BitVec.ofInt 64 (b:Int))).toNat:Int)=_;have hl:a &&& b < 18446744073709551616:=Nat.lt_of_le_of_lt Nat.and_le_left ha;rw[Q7p,Q7p,BitVec.toNat_and,BitVec.toNat_ofNat,BitVec.toNat_ofNat,Nat.mod_eq_of_lt ha,Nat.mod_eq_of_lt hb,Q4o hl]
theorem G8a {a b:Nat} (ha:a < 18446744073709551616) (hb:b < 18446744073709551616):V5c .or .u64 a b=((a ||| b:Nat):Int):=by
 show IntKind.u64.wrap (((BitVec.ofInt 64 (a:Int)) ||| (BitVec.ofInt 64 (b:Int))).toNat:Int)=_;have hl:a ||| b < 18446744073709551616:=Nat.or_lt_two_pow (n:=64) ha hb;rw[Q7p,Q7p,BitVec.toNat_or,BitVec.toNat_ofNat,BitVec.toNat_ofNat,Nat.mod_eq_of_lt ha,Nat.mod_eq_of_lt hb,Q4o hl]
theorem G0d {a b:Nat} (ha:a < 18446744073709551616) (hb:b < 18446744073709551616):V5c .xor .u64 a b=((a ^^^ b:Nat):Int):=by
 show IntKind.u64.wrap (((BitVec.ofInt 64 (a:Int)) ^^^ (BitVec.ofInt 64 (b:Int))).toNat:Int)=_;have hl:a ^^^ b < 18446744073709551616:=Nat.xor_lt_two_pow (n:=64) ha hb;rw[Q7p,Q7p,BitVec.toNat_xor,BitVec.toNat_ofNat,BitVec.toNat_ofNat,Nat.mod_eq_of_lt ha,Nat.mod_eq_of_lt hb,Q4o hl]
theorem Z6c {a b:Nat} (ha:a < 18446744073709551616) (hb:b < 18446744073709551616):V5c .andNot .u64 a b=((a &&& (18446744073709551615 - b):Nat):Int):=by
 show IntKind.u64.wrap (((BitVec.ofInt 64 (a:Int)) &&& ~~~(BitVec.ofInt 64 (b:Int))).toNat:Int)=_;have hl:a &&& (18446744073709551615 - b) < 18446744073709551616:=Nat.lt_of_le_of_lt Nat.and_le_left ha;rw[Q7p,Q7p,BitVec.toNat_and,BitVec.toNat_not,BitVec.toNat_ofNat,BitVec.toNat_ofNat,Nat.mod_eq_of_lt ha,Nat.mod_eq_of_lt hb];exact Q4o hl
theorem Z1c {a b:Nat} (hb:b < 64):G4l .u64 a b=((a*2 ^ b % 18446744073709551616:Nat):Int):=by
 unfold G4l;have hm:min (b:Int).toNat IntKind.u64.bits=b:=by simp[IntKind.bits];omega
 rw[hm];have:((a:Int)*2 ^ b)=((a*2 ^ b:Nat):Int):=by simp
 rw[this];generalize a*2 ^ b=x;simp[IntKind.wrap,IntKind.bits,IntKind.signed]
theorem V8s {k:IntKind} {a b:Nat} (hb:b < 64) (hk:IntKind.bits k=64):Z9w k a b=((a / 2 ^ b:Nat):Int):=by
 unfold Z9w;have hm:min (b:Int).toNat (IntKind.bits k)=b:=by rw[hk];simp;omega
 rw[hm,Int.fdiv_eq_ediv_of_nonneg _ (by exact_mod_cast Nat.zero_le _)];simp
def Q7q (a wd:Nat):Nat:=(2 ^ wd - 1)*2 ^ a
theorem V3t {a wd:Nat} (h:a+wd≤64):Q7q a wd < 18446744073709551616:=by
 unfold Q7q;have h1:(2 ^ wd - 1)*2 ^ a < 2 ^ wd*2 ^ a:=(Nat.mul_lt_mul_right (Nat.two_pow_pos a)).2 (Nat.sub_lt (Nat.two_pow_pos wd) (by decide));rw[← Nat.pow_add] at h1;have h2:2 ^ (wd+a)≤2 ^ 64:=Nat.pow_le_pow_right (by decide) (by omega);exact Nat.lt_of_lt_of_le h1 h2
theorem Z4f {a wd i:Nat}:(Q7q a wd).testBit i=(decide (a≤i) && decide (i < a+wd)):=by
 unfold Q7q;rw[← Nat.shiftLeft_eq,Nat.testBit_shiftLeft,Nat.testBit_two_pow_sub_one];by_cases h:a≤i
 ·simp[h];omega
 ·simp[h]
theorem Z4g {w a wd:Nat}:w &&& Q7q a wd=(w / 2 ^ a % 2 ^ wd)*2 ^ a:=by
 apply Nat.eq_of_testBit_eq;intro i;rw[Nat.testBit_and,Z4f,← Nat.shiftLeft_eq,Nat.testBit_shiftLeft,Nat.testBit_mod_two_pow,Nat.testBit_div_two_pow];by_cases h:a≤i
 ·simp only[h,decide_true,Bool.true_and,ge_iff_le];rw[show i - a+a=i by omega,Bool.and_comm];congr 1;exact decide_eq_decide.2 (by omega)
 ·simp[h]
theorem G5b {w a wd:Nat}:(w &&& Q7q a wd) / 2 ^ a=w / 2 ^ a % 2 ^ wd:=by
 rw[Z4g,Nat.mul_div_cancel _ (Nat.two_pow_pos a)]
theorem Z6d {w a wd:Nat} (hw:w < 2 ^ a) (h:a+wd≤64):w &&& (18446744073709551615 - Q7q a wd)=w:=by
 apply Nat.eq_of_testBit_eq;intro i;have hm:=V3t h;have e:18446744073709551615 - Q7q a wd=2 ^ 64 - (Q7q a wd+1):=by omega
 rw[Nat.testBit_and,e,Nat.testBit_two_pow_sub_succ hm,Z4f];by_cases hi:a≤i
 ·have:w.testBit i=false:=Nat.testBit_lt_two_pow (Nat.lt_of_lt_of_le hw (Nat.pow_le_pow_right (by decide) hi));simp[this]
 ·by_cases h64:i < 64
  ·simp[hi,h64]
  ·omega
theorem Z4h {w a x:Nat} (hw:w < 2 ^ a):w ||| x*2 ^ a=w+x*2 ^ a:=by
 have:=Nat.shiftLeft_add_eq_or_of_lt hw x;rw[Nat.shiftLeft_eq] at this;rw[Nat.or_comm,← this,Nat.add_comm]
end Go.SL
namespace Go.SL
theorem Q0o.of_get {c:List Value}:∀ {vs:List Value} {o:Nat},(∀ j v,vs[j]? = some v→c[o+j]? = some v)→Q0o c o vs.length vs
 | [],o,_ => .nil o
 | v::vs,o,h => .cons (by simpa using h 0 v rfl) (Q0o.of_get fun j u hj=>by
  have:=h (j+1) u (by simpa using hj);rw[show o+1+j=o+(j+1) by omega];exact this)
theorem Q0o.part {c cs es:List Value} {o n i:Nat} (h:Q0o c o n cs) (he:∀ j v,es[j]? = some v→cs[i+j]? = some v):Q0o c (o+i) es.length es:=
 Q0o.of_get fun j v hj=>by
  have:=h.get (i+j) v (he j v hj);rw[Nat.add_assoc];exact this
theorem G5c:∀ (vs:List Value) (c:List Value) (o:Nat),o+vs.length≤c.length→wr c o vs=c.take o++vs++c.drop (o+vs.length)
 | [],c,o,h=>by simp[wr]
 | v::vs,c,o,h=>by
  rw[List.length_cons] at h;have ih:=G5c vs (c.set o v) (o+1) (by simp;omega);show wr (c.set o v) (o+1) vs=_;rw[ih]
  have h1:(c.set o v).take (o+1)=c.take o++[v]:=by
   rw[List.take_add_one,List.take_set_of_le (Nat.le_refl _)];simp[List.getElem?_set,show o < c.length by omega]
  have h2:(c.set o v).drop (o+1+vs.length)=c.drop (o+(v::vs).length):=by
   rw[List.drop_set_of_lt (by omega)];simp[Nat.add_assoc,Nat.add_comm,Nat.add_left_comm]
  rw[h1,h2];simp
def RdS (l:List Q0e) (v:Value) (m k:Nat) (cs:List Value):Prop:=
 cs.length=m*k∧∃ ad cap,v = .slice ad m cap∧(m=0∨∃ b o E fz c,ad=some ⟨b,o,none⟩∧At b (.cells (List.toArray c) E fz) l∧Q0o c o (m*k) cs)
theorem RdS.there {A:Q0e} {l:List Q0e} {v:Value} {m k:Nat} {cs:List Value} (h:RdS l v m k cs):RdS (A::l) v m k cs:=by
 obtain⟨h0,ad,cap,rfl,h⟩:=h;refine⟨h0,ad,cap,rfl,?_⟩
 rcases h with h|⟨b,o,E,fz,c,h1,h2,h3⟩
 ·exact .inl h
 ·exact .inr ⟨b,o,E,fz,c,h1,At.there (i:=h2),h3⟩
section
variable {P:Program} {n:Nat} {r:Option Nat} {ops:Array Oper} {Q:V3f} {ms:List Nat} {σ:Env} {w:World} {rest:List Oper} {o:Oper} {K:Env→World→Prop} {l l':List Q0e}
variable {u t s:TypeId} {p:String} {af:Array Edge} {g:Option (Nat×Bool)} {d:Option Tmp} {x y z:Operand}
theorem sls_rd [Q0i] {E k m:Nat} {v:Value} {cs:List Value} (H:Q0a w (sls E k v cs::l)) (hm:cs.length=m*k) (k0:0 < k) :
  ∃ D,Q0a w (D::l)∧(∀ l',RdS (D::l') v m k cs)∧∀ w' l',Q0a w' (D::l')→Q0a w' (sls E k v cs::l'):=by
 rcases Q4n H with ⟨rfl,rfl,H'⟩|⟨b,len,cap,spare,rfl,e3,e4,e5,H'⟩
 ·have m0:m=0:=by
   rcases Nat.mul_eq_zero.1 (show m*k=0 from hm.symm) with h|h
   ·exact h
   ·omega
  subst m0;exact⟨_,H,fun l'=>⟨hm,none,0,rfl,.inl rfl⟩,fun _ _ h=>h⟩
 ·have e:len=m:=Nat.eq_of_mul_eq_mul_right k0 (e3.symm.trans hm);subst e;refine⟨_,H',fun l'=>⟨hm,_,cap,rfl,.inr ⟨b,0,E,(0,0),cs++spare,rfl,At.here,?_⟩⟩,fun w' l' h=>Q5x e3 e4 e5 h⟩;rw[← hm];refine Q0o.of_get fun j v hj=>?_;rw[Nat.zero_add,List.getElem?_append_left (List.getElem?_eq_some_iff.1 hj).1];exact hj
theorem V2j {e size bytes len cap c2:Nat} {a a2:Option Addr} (hT:Q2m P t e size bytes) (ty:TypeId) (h:len≤cap):(Builtin.append_ #[t,t] ty #[.slice a len cap,.slice a2 0 c2]).run P w = .ok (.slice a len cap) w:=by
 obtain⟨i,hi,e2⟩:=Option.map_eq_some_iff.1 hT.info;simp only[Prod.mk.injEq] at e2;have hs:(sizeOf e).run P w = .ok size w:=Q2j (by rw[hi];simp[e2.1])
 have hf:(Builtin.firstCells size 0 (.slice a2 0 c2)).run P w = .ok #[] w:=by
  cases a2 with
  | none=>rfl
  | some a2=>
   have:=run_loadCells_list (P:=P) (w:=w) a2 [] (by simp);simpa [Builtin.firstCells] using this
 have hst:∀ a',(storeCells a' []).run P w = .ok () w:=fun a'=>by rw[storeCells.eq_def];rfl
 cases a with
 | none=>simp[Builtin.append_,Q2g hT.und,hs,Builtin.lenOf,h,hf]
 | some a=>simp[Builtin.append_,Q2g hT.und,hs,Builtin.lenOf,h,hf,hst]
theorem V5h [Q0i] {e size bytes:Nat} {zv v2:Value} [hT:Q2m P t e size bytes] [hz:Q3o P e zv] {s:Value} {cs new:List Value} {m:Nat} (H:Q0a w (sls e size s cs::l))
  (hx:ev σ x=s) (hy:ev σ y=v2) (hr:RdS l v2 m size new) (h1:new.all (·.oneCell')=true)
  (hb:(cs.length+new.length)*bytes≤140737488355328) (hd:okd n d=true) (hq:(decide ((Q1v zv).length=size) && decide (0 < size) && decide (0 < bytes))=true)
  (k:∀ v' w',Q0a w' (sls e size v' (cs++new)::l)→K (put σ d v') w'):St P n r ⟨d,.call { callee := .builtin .append,args:=#[x,y],argTypes:=#[t,t] },u,p,af,g⟩ σ w K:=by
 obtain⟨h0,ad,cap,rfl,h⟩:=hr
 rcases Nat.eq_zero_or_pos m with rfl|hm
 ·have hn:new=[]:=List.eq_nil_of_length_eq_zero (by omega);subst hn;have H2:=H;rw[← List.append_nil cs] at H
  rcases Q4n H2 with ⟨rfl,_,_⟩|⟨b,len,cap',spare,rfl,_,e4,_,_⟩
  ·refine Q1c (v := .slice none 0 0) (w':=w) hd (fun c e=>by cases e) ?_ (k _ _ H);simp[execOp,resolve,invoke,builtin,hx,hy,V2j (w:=w) hT u (Nat.le_refl 0)]
  ·refine Q1c (v := .slice (some ⟨b,0,none⟩) len cap') (w':=w) hd (fun c e=>by cases e) ?_ (k _ _ H);simp[execOp,resolve,invoke,builtin,hx,hy,V2j (w:=w) hT u e4.1]
 ·rcases h with rfl|⟨b,o2,E,fz,c,rfl,hA,hrd⟩
  ·omega
  ·haveI:=hA;exact Q1t H hx hy hrd h1 hm hb hd hq k
theorem Y1l [Q0i] {e size bytes:Nat} (H:Q0a w l) [hT:Q2m P t e size bytes] (hd:okd n d=true)
  (k:∀ b w',Q0a w' (sls e size (.slice (some ⟨b,0,none⟩) 0 0) []::l)→K (put σ d (.slice (some ⟨b,0,none⟩) 0 0)) w'):St P n r ⟨d,.buildSlice t 0 #[],u,p,af,g⟩ σ w K:=by
 obtain⟨i,hi,e2⟩:=Option.map_eq_some_iff.1 hT.info;simp only[Prod.mk.injEq] at e2;have hs:(sizeOf e).run P w = .ok size w:=Q2j (by rw[hi];simp[e2.1]);have hn:=H.new (row e []);refine Q1c (v := .slice (some ⟨w.heap.size,0,none⟩) 0 0) (w':=w.alloc (.cells #[] e)) hd (fun c e=>by cases e) ?_ (k _ _ (Q7u (by simp) hn));have e0:(Array.range 0).map (fun _:Nat=>(default:Value))=#[]:=by apply Array.ext <;> simp
 simp[execOp,Instr.buildSlice,Q2g hT.und,hs,Instr.fill,newRow,e0]
theorem Y6v (z:Value) (k:Nat):(Builtin.zeroCells z.cells k).toList=Q5q (Q1v z) k:=by
 have:=Q9z (Q1v z) k;unfold Builtin.zeroCells;rw[Q7z];have e:(Q1v z).toArray.size=(Q1v z).length:=by simp
 rw[e];rw[show (Q1v z).length=(Q1v z).toArray.size by simp] at this;rw[e] at this;rw[this]
theorem G5d [Q0i] {e size bytes b o2 m cap E:Nat} {zv:Value} {c:List Value} [hT:Q2m P t e size bytes] [hz:Q3o P e zv] (H:Q0a w (pts b (row E c)::l)) (hx:ev σ x = .slice (some ⟨b,o2,none⟩) m cap) (hm:0 < m)
  (hl:o2+(Q5q (Q1v zv) m).length≤c.length) (h1:(Q1v zv).all (·.oneCell')=true) (hd:okd n d=true)
  (k:∀ w',Q0a w' (pts b (row E (wr c o2 (Q5q (Q1v zv) m)))::l)→K (put σ d (.tuple #[])) w'):St P n r ⟨d,.call { callee := .builtin .clear,args:=#[x],argTypes:=#[t] },u,p,af,g⟩ σ w K:=by
 obtain⟨i',hi',hz'⟩:=Option.map_eq_some_iff.1 hz.zero;have hzv:(zeroValue e).run P w = .ok zv w:=by simp[zeroValue,typeInfo,hi',hz']
 have hone:∀ v∈Q5q (Q1v zv) m,v.oneCell'=true:=by
  have:∀ m,∀ v∈Q5q (Q1v zv) m,v.oneCell'=true:=by
   intro m
   induction m with
   | zero=>intro v hv;simp[Q5q] at hv
   | succ m ih=>
    intro v hv;simp only[Q5q,List.mem_append] at hv
    rcases hv with hv|hv
    ·exact List.all_eq_true.1 h1 v hv
    ·exact ih v hv
  exact this m
 obtain⟨w',hr,h2,h3,h4⟩:=Q4f (P:=P) (Q5q (Q1v zv) m) w b o2 E c 0 H.pts (by omega) hone;have H':=H.set (o':=row E (wr c (o2+0) (Q5q (Q1v zv) m))) h2 h3 h4;refine Q1c (v := .tuple #[]) (w':=w') hd (fun c e=>by cases e) ?_ (k w' H');obtain⟨m',rfl⟩:∃ m',m=m'+1:=⟨m - 1,by omega⟩;simp[execOp,resolve,invoke,builtin,hx,Builtin.clear_,Q2g hT.und,hzv,Y6v,hr]
end
end Go.SL
namespace Go.SL
section
variable {P:Program} {n:Nat} {r:Option Nat} {σ:Env} {w:World} {K:Env→World→Prop} {l:List Q0e}
variable {u t:TypeId} {p:String} {af:Array Edge} {g:Option (Nat×Bool)} {d:Option Tmp} {x y:Operand}
theorem Q1d [Q0i] {E k:Nat} {v:Value} {c:List Value} (H:Q0a w (sls E k v c::l)):∃ a m cap,v = .slice a m cap:=by
 rcases Q4n H with ⟨rfl,_,_⟩|⟨b,len,cap,spare,rfl,_⟩
 ·exact⟨none,0,0,rfl⟩
 ·exact⟨_,_,_,rfl⟩
theorem U9x (a:Addr):a.add 0=a:=by simp[Addr.add]
theorem Z1d {e size bytes len cap:Nat} {ad:Option Addr} {q:IntKind} {i:Int} [hT:Q2m P t e size bytes] (hx:ev σ x = .slice ad len cap) (hy:ev σ y = .int q i) (h0:0≤i) (h1:i≤cap) (hd:okd n d=true)
  (k:K (put σ d (.slice ad i.toNat cap)) w):St P n r ⟨d,.slice t x none (some y) none,u,p,af,g⟩ σ w K:=by
 have hs:(sizeOf e).run P w = .ok size w:=by
  obtain⟨k,hk,e2⟩:=Option.map_eq_some_iff.1 hT.info;simp only[Prod.mk.injEq] at e2;exact Q2j (by rw[hk];simp[e2.1])
 refine Q1c (v := .slice ad i.toNat cap) (w':=w) hd (fun c e=>by cases e) ?_ k;cases ad with
 | none=>simp[execOp,hx,hy,Instr.sliceAt,Instr.slice,Q2g hT.und,Instr.sliceBounds,Instr.sliceBound,asIntOf,h0,h1,hs]
 | some a=>simp[execOp,hx,hy,Instr.sliceAt,Instr.slice,Q2g hT.und,Instr.sliceBounds,Instr.sliceBound,asIntOf,h0,h1,hs,U9x]
end
end Go.SL
namespace Go.Proofs
open Go.Shelf
def Tryz.laysLen_ren : Go.Shelf.Ren := ⟨fun | 129 => 197 | n => n, fun | 53 => 83 | 3 => 3 | 4 => 4 | 46 => 164 | 5 => 5 | 9 => 9 | n => n, fun | n => n⟩
theorem Tryz.laysLen : Go.Proofs.Lays.n129 Tryz.prog Tryz.laysLen_ren := {
  mixed := by kernel_rfl
  f129 := Tryz.func197.trans (congrArg some (by kernel_rfl))
  t3 := Tryz.underlying3
  a3 := Tryz.isAgg3
  z3 := Tryz.sizeOf3
  v3 := Tryz.zeroValue3
  t4 := Tryz.underlying4
  a4 := Tryz.isAgg4
  z4 := Tryz.sizeOf4
  v4 := Tryz.zeroValue4
  t5 := Tryz.underlying5
  a5 := Tryz.isAgg5
  z5 := Tryz.sizeOf5
  v5 := Tryz.zeroValue5
  t9 := Tryz.underlying9
  a9 := Tryz.isAgg9
  z9 := Tryz.sizeOf9
  v9 := Tryz.zeroValue9
  t46 := Tryz.underlying164
  a46 := Tryz.isAgg164
  z46 := Tryz.sizeOf164
  v46 := Tryz.zeroValue164
  t53 := Tryz.underlying83
  a53 := Tryz.isAgg83
  z53 := Tryz.sizeOf83
  v53 := Tryz.zeroValue83 }
def Tryz.laysTz_ren : Go.Shelf.Ren := ⟨fun | 29 => 219 | n => n, fun | 22 => 83 | 3 => 3 | 4 => 4 | 25 => 164 | 54 => 329 | 0 => 0 | 5 => 5 | n => n, fun | 1 => 0 | n => n⟩
theorem Tryz.laysTz : Go.Proofs.Lays7.n29 Tryz.prog Tryz.laysTz_ren := {
  mixed := by kernel_rfl
  f29 := Tryz.func219.trans (congrArg some (by kernel_rfl))
  t0 := Tryz.underlying0
  a0 := Tryz.isAgg0
  z0 := Tryz.sizeOf0
  v0 := Tryz.zeroValue0
  i0 := by kernel_rfl
  t3 := Tryz.underlying3
  a3 := Tryz.isAgg3
  z3 := Tryz.sizeOf3
  v3 := Tryz.zeroValue3
  i3 := by kernel_rfl
  t4 := Tryz.underlying4
  a4 := Tryz.isAgg4
  z4 := Tryz.sizeOf4
  v4 := Tryz.zeroValue4
  i4 := by kernel_rfl
  t5 := Tryz.underlying5
  a5 := Tryz.isAgg5
  z5 := Tryz.sizeOf5
  v5 := Tryz.zeroValue5
  i5 := by kernel_rfl
  t22 := Tryz.underlying83
  a22 := Tryz.isAgg83
  z22 := Tryz.sizeOf83
  v22 := Tryz.zeroValue83
  i22 := by kernel_rfl
  t25 := Tryz.underlying164
  a25 := Tryz.isAgg164
  z25 := Tryz.sizeOf164
  v25 := Tryz.zeroValue164
  i25 := by kernel_rfl
  t54 := Tryz.underlying329
  a54 := Tryz.isAgg329
  z54 := Tryz.sizeOf329
  g1 := by kernel_rfl }
end Go.Proofs
namespace Go.SL
inductive SK where
 | i
 | b
def U3j:SK→Value→Bool
 | .i,.int .i64 _=>true
 | .b,.bool _=>true
 | _,_=>false
def Y2c:List SK→List Value→Bool
 | [],[]=>true
 | k::ks,v::vs=>U3j k v && Y2c ks vs
 | _,_=>false
@[reducible] def U8t:Value→Value→Bool
 | .int _ a,.int _ b=>a == b
 | .bool a,.bool b=>a == b
 | _,_=>false
@[reducible] def veq:List Value→List Value→Bool
 | [],[]=>true
 | x::xs,y::ys=>U8t x y && veq xs ys
 | _,_=>false
theorem Q6g:∀ {ks:List SK} {vs:List Value},Y2c ks vs=true→vs.length=ks.length
 | [],[],_=>rfl
 | [],_::_,h=>by cases h
 | _::_,[],h=>by cases h
 | _::ks,_::vs,h=>by
  simp only[Y2c,Bool.and_eq_true] at h;simp[Q6g h.2]
theorem V5i:∀ {ks:List SK} {ks':List SK} {vs:List Value},Y2c (ks++ks') vs=true→Y2c ks (vs.take ks.length)=true∧Y2c ks' (vs.drop ks.length)=true
 | [],ks',vs,h=>by simpa [Y2c] using h
 | k::ks,ks',[],h=>by cases h
 | k::ks,ks',v::vs,h=>by
  simp only[List.cons_append,Y2c,Bool.and_eq_true] at h;have:=V5i h.2;simp[Y2c,h.1,this]
theorem Y6w:∀ (n:Nat) (xs ys:List Value),n≤xs.length→n≤ys.length→veq xs ys=(veq (xs.take n) (ys.take n) && veq (xs.drop n) (ys.drop n))
 | 0,xs,ys,_,_=>by simp[veq]
 | n+1,[],ys,h,_=>by simp at h
 | n+1,_::_,[],_,h=>by simp at h
 | n+1,x::xs,y::ys,h,h'=>by
  have:=Y6w n xs ys (by simpa using h) (by simpa using h');simp[veq,this,Bool.and_assoc]
def Z6e (P:Program) (t:TypeId) (ks:List SK) (d:Nat):Prop:=
 ∀ k,d≤k→∀ (w:World) (xs ys:List Value),Y2c ks xs=true→Y2c ks ys=true→(Op.equalIn k t (.agg xs.toArray) (.agg ys.toArray)).run P w = .ok (veq xs ys) w
def U9y (P:Program) (t:TypeId):SK→Prop
 | .i=>∃ q,P.underlying t=some (.int q)
 | .b=>P.underlying t=some .bool
inductive Y4p (P:Program):List Field→Nat→List SK→Nat→Prop where
 | nil {off d:Nat}:Y4p P [] off [] d
 | one {f:Field} {fs:List Field} {off d:Nat} {k:SK} {ks:List SK} (h1:f.name ≠ "_") (h2:f.offset=off) (h3:T1 P f.type) (h4:U9y P f.type k) (h5:1≤d) (h:Y4p P fs (off+1) ks d):Y4p P (f::fs) off (k::ks) d
 | agg {f:Field} {fs:List Field} {off d d' n:Nat} {ks ks' kk:List SK} (h1:f.name ≠ "_") (h2:f.offset=off) (h3:TN P f.type n) (h4:Z6e P f.type ks d') (h5:d'≤d) (h6:ks.length=n) (h7:kk=ks++ks') (h:Y4p P fs (off+n) ks' d):Y4p P (f::fs) off kk d
theorem Q0o.take' {c:List Value} {o n m:Nat} {l:List Value} (h:Q0o c o n l) (hm:m≤n):Q0o c o m (l.take m):=by
 have hl:=h.len;have e:(l.take m).length=m:=by simp;omega
 have:=Q0o.of_get (c:=c) (vs:=l.take m) (o:=o) fun j v hj=>by
  have:l[j]? = some v:=by
   rw[List.getElem?_take] at hj;split at hj
   ·exact hj
   ·cases hj
  exact h.get j v this
 rw[e] at this;exact this
theorem Q0o.drop' {c:List Value} {o n m:Nat} {l:List Value} (h:Q0o c o n l) (hm:m≤n):Q0o c (o+m) (n - m) (l.drop m):=by
 have hl:=h.len;have e:(l.drop m).length=n - m:=by simp;omega
 have:=Q0o.of_get (c:=c) (vs:=l.drop m) (o:=o+m) fun j v hj=>by
  rw[List.getElem?_drop] at hj;have:=h.get (m+j) v hj;rw[Nat.add_assoc];exact this
 rw[e] at this;exact this
theorem G5e {P:Program} {fs:List Field} {off d:Nat} {ks:List SK} (h:Y4p P fs off ks d):∀ (k:Nat),d≤k→∀ (w:World) (cx cy xs ys:List Value),Q0o cx off ks.length xs→Q0o cy off ks.length ys→Y2c ks xs=true→Y2c ks ys=true →
  (Op.eqFields k cx.toArray cy.toArray fs).run P w = .ok (veq xs ys) w:=by
 induction h with
 | nil=>
  intro k hk w cx cy xs ys hx hy fx fy;have e1:=Q6g fx;have e2:=Q6g fy;have:xs=[]:=List.eq_nil_of_length_eq_zero e1;have:ys=[]:=List.eq_nil_of_length_eq_zero e2;subst xs ys;rfl
 | @one f fs off d q ks h1 h2 h3 h4 h5 h ih=>
  intro k hk w cx cy xs ys hx hy fx fy;cases xs with
  | nil=>cases fx
  | cons x xs=>
  cases ys with
  | nil=>cases fy
  | cons y ys=>
  have gx:=hx.get 0 x rfl;have gy:=hy.get 0 y rfl;rw[Nat.add_zero] at gx gy;have rx:=hx.drop' (m:=1) (by simp);have ry:=hy.drop' (m:=1) (by simp);simp only[List.length_cons,Nat.add_sub_cancel,List.drop_succ_cons,List.drop_zero] at rx ry;simp only[Y2c,Bool.and_eq_true] at fx fy
  have e1:(Op.equalIn k f.type x y).run P w = .ok (U8t x y) w:=by
   obtain⟨k,rfl⟩:∃ j,k=j+1:=⟨k - 1,by omega⟩;cases q with
   | i=>
    obtain⟨q,hq⟩:=h4
    obtain⟨a,rfl⟩:∃ a,x = .int .i64 a:=by
     have:=fx.1;unfold U3j at this;split at this <;> simp_all
    obtain⟨b,rfl⟩:∃ a,y = .int .i64 a:=by
     have:=fy.1;unfold U3j at this;split at this <;> simp_all
    exact run_equalIn_int w k _ _ _ _ _ hq
   | b=>
    obtain⟨a,rfl⟩:∃ a,x = .bool a:=by
     have:=fx.1;unfold U3j at this;split at this <;> simp_all
    obtain⟨b,rfl⟩:∃ a,y = .bool a:=by
     have:=fy.1;unfold U3j at this;split at this <;> simp_all
    exact run_equalIn_bool w k _ _ _ h4
  have e2:=ih k hk w cx cy xs ys rx ry fx.2 fy.2;simp only[Op.eqFields,h1,ne_eq,not_false_eq_true,if_true,Sem.run_bind,h2,Z5u h3 gx,Z5u h3 gy,Result.andThen_ok,e1,veq];cases hs:U8t x y
  ·simp
  ·simp[e2]
 | @agg f fs off d d' n ks ks' kk h1 h2 h3 h4 h5 h6 h7 h ih=>
  subst h7;intro k hk w cx cy xs ys hx hy fx fy;have lx:=Q6g fx;have ly:=Q6g fy;rw[List.length_append] at lx ly hx hy;have sx:=V5i fx;have sy:=V5i fy;rw[h6] at sx sy lx ly hx hy;have px:=U3f (w:=w) h3 (hx.take' (m:=n) (by omega));have py:=U3f (w:=w) h3 (hy.take' (m:=n) (by omega));have e1:=h4 k (by omega) w _ _ sx.1 sy.1;have rx:=hx.drop' (m:=n) (by omega);have ry:=hy.drop' (m:=n) (by omega);rw[show n+ks'.length - n=ks'.length by omega] at rx ry;have e2:=ih k hk w cx cy _ _ rx ry sx.2 sy.2;rw[Y6w n xs ys (by omega) (by omega)];simp only[Op.eqFields,h1,ne_eq,not_false_eq_true,if_true,Sem.run_bind,h2,px,py,Result.andThen_ok,e1];cases hs:veq (xs.take n) (ys.take n)
  ·simp
  ·simp[e2]
theorem Y4q {P:Program} {t:TypeId} {fs:Array Field} {ks:List SK} {d:Nat} (h1:P.underlying t=some (.struct fs)) (h2:P.stoodInHeld t=false) (h:Y4p P fs.toList 0 ks d):Z6e P t ks (d+1):=by
 intro k hk w xs ys fx fy;obtain⟨k,rfl⟩:∃ j,k=j+1:=⟨k - 1,by omega⟩;have hf:P.fieldsOf t=fs:=by simp[Program.fieldsOf,h1]
 rw[run_equalIn_struct w k t _ _ (by rw[hf];exact h1) h2,hf]
 have whole:∀ (c:List Value),c.length=ks.length→Q0o c 0 ks.length c:=fun c hc=>by
  rw[← hc];exact Q0o.of_get fun j v hj=>by rw[Nat.zero_add];exact hj
 exact G5e h k (by omega) w xs ys xs ys (whole _ (Q6g fx)) (whole _ (Q6g fy)) fx fy
class U3k (P:Program) (t:TypeId) (ks:outParam (List SK)):Prop where
 sem:∃ d,d≤10000∧Z6e P t ks d
 guard:P.eqGuardType P.depth t=false
section
variable {P:Program} {n:Nat} {r:Option Nat} {ops:Array Oper} {Q:V3f} {ms:List Nat} {σ:Env} {w:World} {rest:List Oper} {o:Oper} {K:Env→World→Prop} {l l':List Q0e}
variable {ivs:List (List Nat×(World→Prop))} {T:Env→World→Prop} {f:Nat} {L:Array Bool}
variable {u t s:TypeId} {p:String} {af:Array Edge} {g:Option (Nat×Bool)} {d:Option Tmp} {x y z:Operand} {ks:List SK}
theorem Y6x (h:U3k P t ks) (op:BinOp) (xs ys:List Value) (X Y:Operand) (ho:op = .eql∨op = .neq) (fx:Y2c ks xs=true) (fy:Y2c ks ys=true) :
  (do eqGuard op t X Y (.agg xs.toArray) (.agg ys.toArray);binOp op t (.agg xs.toArray) (.agg ys.toArray):Sem Value).run P w = .ok (.bool (if Q6w op then veq xs ys else !veq xs ys)) w:=by
 have h0:=run_eqGuard_agg (P:=P) w op t X Y xs.toArray ys.toArray h.guard;obtain⟨d,hd,hs⟩:=h.sem;have h1:=hs 10000 hd w xs ys fx fy;simp only[Sem.run_bind,h0,Result.andThen_ok]
 rcases ho with rfl|rfl
 ·rw[run_eql_struct,h1];rfl
 ·rw[run_neq_struct,h1];rfl
theorem V3u {op:BinOp} {yt:TypeId} {xs ys:List Value} [h:U3k P t ks] (hx:ev σ x = .agg xs.toArray) (hy:ev σ y = .agg ys.toArray) (fx:Y2c ks xs=true) (fy:Y2c ks ys=true) (ho:op = .eql∨op = .neq) (hd:okd n d=true)
  (k:K (put σ d (.bool (if Q6w op then veq xs ys else !veq xs ys))) w):St P n r ⟨d,.binOp op t x y yt,u,p,af,g⟩ σ w K:=
 Q1c hd (fun c e=>by cases e) (by simp only[execOp,hx,hy,Sem.run_bind];rw[← Sem.run_bind,Y6x h op xs ys x y ho fx fy];rfl) k
theorem G0e {op:BinOp} {yt:TypeId} {xs ys:List Value} (j:Nat) (hj:ops[j]? = some ⟨d,.binOp op t x y yt,u,p,af,g⟩) (hg:Q0n ops σ ⟨d,.binOp op t x y yt,u,p,af,g⟩ true) [h:U3k P t ks] (hx:ev σ x = .agg xs.toArray) (hy:ev σ y = .agg ys.toArray) (fx:Y2c ks xs=true) (fy:Y2c ks ys=true) (ho:op = .eql∨op = .neq)
  (hb:stB n ops (ivs.map (·.1)) L j []=true) (k:Any P n r ops ivs T f (L.setIfInBounds j true) (put σ d (.bool (if Q6w op then veq xs ys else !veq xs ys))) w):Any P n r ops ivs T (f+1) L σ w:=
 V3k j hj hg (fun c e=>by cases e) (fun w=>by simp only[execOp,hx,hy,Sem.run_bind];rw[← Sem.run_bind,Y6x h op xs ys x y ho fx fy];rfl) hb k
theorem U8u {o o':Oper} (i j:Nat) (hi:ops[i]? = some o) (hj:ops[j]? = some o') (hr:Region.ready .any ops L=[i,j]) (hI:Q9y ivs L w) (hg:Q0n ops σ o true) (hg':Q0n ops σ o' true)
  (h:St P n r o σ w (Any P n r ops ivs T f (L.setIfInBounds i true))) (h':St P n r o' σ w (Any P n r ops ivs T f (L.setIfInBounds j true))):Any P n r ops ivs T (f+1) L σ w:=
 ⟨hI, fun h0 => (by rw [hr] at h0; cases h0), fun k hk => by
  rw[hr] at hk;have:k=i∨k=j:=by simpa using hk
  rcases this with rfl|rfl
  ·exact⟨o,hi,.inl ⟨hg,h⟩⟩
  ·exact⟨o',hj,.inl ⟨hg',h'⟩⟩⟩
theorem G9k {o o' o2:Oper} (i j m:Nat) (hi:ops[i]? = some o) (hj:ops[j]? = some o') (hm:ops[m]? = some o2) (hr:Region.ready .any ops L=[i,j,m]) (hI:Q9y ivs L w) (hg:Q0n ops σ o true) (hg':Q0n ops σ o' true) (hg2:Q0n ops σ o2 true)
  (h:St P n r o σ w (Any P n r ops ivs T f (L.setIfInBounds i true))) (h':St P n r o' σ w (Any P n r ops ivs T f (L.setIfInBounds j true))) (h2:St P n r o2 σ w (Any P n r ops ivs T f (L.setIfInBounds m true))):Any P n r ops ivs T (f+1) L σ w:=
 ⟨hI, fun h0 => (by rw [hr] at h0; cases h0), fun k hk => by
  rw[hr] at hk;have:k=i∨k=j∨k=m:=by simpa using hk
  rcases this with rfl|rfl|rfl
  ·exact⟨o,hi,.inl ⟨hg,h⟩⟩
  ·exact⟨o',hj,.inl ⟨hg',h'⟩⟩
  ·exact⟨o2,hm,.inl ⟨hg2,h2⟩⟩⟩
end
end Go.SL
namespace Go.Proofs.YtmjdnljneifpcaaGreatDoor
open Go.SL
theorem G9l:Z6e Tryz.prog 69 [.i,.i] 2:=Y4q Tryz.underlying69 (by kernel_rfl) (Y4p.one (by decide) rfl (inferInstance:T1 Tryz.prog 3) ⟨_,Tryz.underlying3⟩ (by decide) (Y4p.one (by decide) rfl (inferInstance:T1 Tryz.prog 3) ⟨_,Tryz.underlying3⟩ (by decide) Y4p.nil))
theorem G9m:Z6e Tryz.prog 71 [.i,.i,.i,.i,.b] 2:=Y4q Tryz.underlying71 (by kernel_rfl) (Y4p.one (by decide) rfl (inferInstance:T1 Tryz.prog 3) ⟨_,Tryz.underlying3⟩ (by decide) (Y4p.one (by decide) rfl (inferInstance:T1 Tryz.prog 3) ⟨_,Tryz.underlying3⟩ (by decide) (Y4p.one (by decide) rfl (inferInstance:T1 Tryz.prog 3) ⟨_,Tryz.underlying3⟩ (by decide) (Y4p.one (by decide) rfl (inferInstance:T1 Tryz.prog 3) ⟨_,Tryz.underlying3⟩ (by decide) (Y4p.one (by decide) rfl (inferInstance:T1 Tryz.prog 4) Tryz.underlying4 (by decide) Y4p.nil)))))
instance:U3k Tryz.prog 71 [.i,.i,.i,.i,.b]:=⟨⟨2,by decide,G9m⟩,by kernel_rfl⟩
theorem G9n:Z6e Tryz.prog 88 [.i,.i,.i] 3:=Y4q Tryz.underlying88 (by kernel_rfl) (Y4p.one (by decide) rfl (inferInstance:T1 Tryz.prog 3) ⟨_,Tryz.underlying3⟩ (by decide) (Y4p.agg (by decide) rfl (inferInstance:TN Tryz.prog 69 2) G9l (by decide) rfl rfl Y4p.nil))
instance:U3k Tryz.prog 88 [.i,.i,.i]:=⟨⟨3,by decide,G9n⟩,by kernel_rfl⟩
end Go.Proofs.YtmjdnljneifpcaaGreatDoor
namespace Go.SL
section
variable {P:Program} {n:Nat} {r:Option Nat} {σ:Env} {w:World} {K:Env→World→Prop} {l:List Q0e}
variable {u t:TypeId} {p:String} {af:Array Edge} {g:Option (Nat×Bool)} {d:Option Tmp} {x y:Operand}
theorem G0f {k q:IntKind} {a b:Int} {ts:Array TypeId} (hx:ev σ x = .int k a) (hy:ev σ y = .int q b) (hd:okd n d=true) (h:K (put σ d (.int k (if b > a then b else a))) w) :
  St P n r ⟨d,.call { callee := .builtin .max,args:=#[x,y],argTypes:=ts },u,p,af,g⟩ σ w K:=by
 refine Q1c (v := .int k (if b > a then b else a)) (w':=w) hd (fun c e=>by cases e) ?_ h;simp[execOp,resolve,invoke,builtin,hx,hy,Builtin.max_,Builtin.max2]
theorem V8t (z:Value):∀ n,Q5q [z] n=List.replicate n z
 | 0=>rfl
 | n+1=>by simp[Q5q,V8t z n,List.replicate_succ]
theorem Q1r [Q0i] {e size bytes m:Nat} {zv:Value} {kl kc:IntKind} (H:Q0a w l) [hT:Q2m P t e size bytes] [hz:Q3o P e zv] (hx:ev σ x = .int kl (m:Int)) (hy:ev σ y = .int kc (m:Int)) (hq:(decide ((Q1v zv).length=size) && decide (bytes≤1000000))=true) (hm:m≤100000000) (hd:okd n d=true)
  (k:∀ b w',Q0a w' (sls e size (.slice (some ⟨b,0,none⟩) m m) (Q5q (Q1v zv) m)::l)→K (put σ d (.slice (some ⟨b,0,none⟩) m m)) w'):St P n r ⟨d,.makeSlice t x y,u,p,af,g⟩ σ w K:=by
 obtain⟨i,hi,e2⟩:=Option.map_eq_some_iff.1 hT.info;obtain⟨i',hi',hz'⟩:=Option.map_eq_some_iff.1 hz.zero;rw[hi] at hi';cases hi';simp only[Prod.mk.injEq] at e2;simp only[Bool.and_eq_true,decide_eq_true_eq] at hq
 have hb:(i.bytes:Int)*(m:Int)≤281474976710656:=by
  have:i.bytes*m≤1000000*100000000:=Nat.mul_le_mul (by omega) hm;have h:((i.bytes*m:Nat):Int)≤281474976710656:=by omega
  rwa [Int.natCast_mul] at h
 have hr:=run_make (P:=P) w t e i zv hT.und hi hz' kl kc m m (by omega) (Int.le_refl _) hb (by omega)
 have hc:madeCells zv.cells (m*i.size)=(Q5q (Q1v zv) m).toArray:=by
  unfold madeCells;rw[← Q9z,Q7z,hq.1,e2.1]
 rw[Int.toNat_natCast,hc] at hr;have hn:=H.new (row e (Q5q (Q1v zv) m));refine Q1c (v := .slice (some ⟨w.heap.size,0,none⟩) m m) (w':=w.alloc (.cells (Q5q (Q1v zv) m).toArray e)) hd (fun c e=>by cases e) ?_ (k _ _ (Q7u (by rw[V0v,hq.1]) hn));simp only[execOp,hx,hy,hr,Sem.run_bind,Result.andThen_ok,Sem.run_pure]
theorem G5f {a:Nat} (ha:a < 18446744073709551616) (hx:ev σ x = .int .u64 a) (hd:okd n d=true) (h:K (put σ d (.int .u64 ((18446744073709551615 - a:Nat):Int))) w):St P n r ⟨d,.unOp .xor t x,u,p,af,g⟩ σ w K:=by
 refine Q1c (v := .int .u64 ((18446744073709551615 - a:Nat):Int)) (w':=w) hd (fun c e=>by cases e) ?_ h;have e1:(if IntKind.u64.signed=true then (-1:Int) else IntKind.u64.max)=((18446744073709551615:Nat):Int):=by decide
 have e2:V5c .xor .u64 ((18446744073709551615:Nat):Int) (a:Int)=((18446744073709551615 - a:Nat):Int):=by
  rw[G0d (by decide) ha];congr 1;apply Nat.eq_of_testBit_eq;intro i;have e:18446744073709551615 - a=2 ^ 64 - (a+1):=by omega
  rw[Nat.testBit_xor,e,Nat.testBit_two_pow_sub_succ ha,show (18446744073709551615:Nat)=2 ^ 64 - 1 from rfl,Nat.testBit_two_pow_sub_one];by_cases hi:i < 64
  ·simp[hi]
  ·have:a.testBit i=false:=Nat.testBit_lt_two_pow (Nat.lt_of_lt_of_le ha (Nat.pow_le_pow_right (n:=2) (by decide) (show 64≤i by omega)));simp[hi,this]
 have e3:(Op.unary .xor (.int .u64 (a:Int))).run P w = .ok (.int .u64 ((18446744073709551615 - a:Nat):Int)) w:=by
  have:(Op.intBits .xor .u64 ((18446744073709551615:Nat):Int) (a:Int)).run P w = .ok (.int .u64 (V5c .xor .u64 ((18446744073709551615:Nat):Int) (a:Int))) w:=by
   simp[Op.intBits,V5c]
  rw[← e2,← this,← e1];rfl
 simp only[execOp,hx,Sem.run_bind,e3,Result.andThen_ok,Sem.run_pure]
end
def G5g (g:Nat) (tab:List Nat) (w:World):Prop:=∀ j,j < tab.length→w.cell? ⟨g,j,none⟩=some (.int .u8 (tab.getD j 0))
class Q4t (g:outParam Nat) (tab:outParam (List Nat)) (l:List Q0e):Prop where
 tab:∀ w:World,sat l (hp w)→G5g g tab w
instance {g:Nat} {tab:List Nat} {A:Q0e} {l:List Q0e} [h:Q4t g tab l]:Q4t g tab (A::l):=⟨fun w s=>h.tab w (Q9v s)⟩
theorem Z6f {g:Nat} {tab:List Nat} {W:World} {l:List Q0e} (h:G5g g tab W) (hg:g < W.heap.size):Q4t g tab (old W::l):=⟨fun w s j hj=>by
 obtain⟨f,_,a,_,_,x,_⟩:=s;have e:=x g hg
 have e2:w.heap[g]? = W.heap[g]?:=by
  cases ho:W.heap[g]? with
  | none=>have:=Array.getElem?_eq_none_iff.1 ho;omega
  | some o=>rw[ho] at e;exact a g o e
 have:=h j hj;unfold World.cell? at this ⊢;simp only[e2];exact this⟩
end Go.SL
namespace Go.SL
section
variable {P:Program} {n:Nat} {r:Option Nat} {ops:Array Oper} {Q:V3f} {ms:List Nat} {σ:Env} {w:World} {rest:List Oper} {o:Oper} {K:Env→World→Prop} {l l':List Q0e}
variable {ivs:List (List Nat×(World→Prop))} {T:Env→World→Prop} {f:Nat} {L:Array Bool}
variable {u t s:TypeId} {p:String} {af:Array Edge} {g:Option (Nat×Bool)} {d:Option Tmp} {x y z:Operand}
theorem Z1e {e size bytes b o2 len cap i j:Nat} {q q':IntKind} (hT:Q2m P t e size bytes) (h1:i≤j) (h2:j≤cap) (h3:i < cap) :
  (Instr.sliceAt t (.slice (some ⟨b,o2,none⟩) len cap) (some (.int q (i:Int))) (some (.int q' (j:Int))) none).run P w = .ok (.slice (some ⟨b,o2+i*size,none⟩) (j - i) (cap - i)) w:=by
 have hs:(sizeOf e).run P w = .ok size w:=by
  obtain⟨k,hk,e2⟩:=Option.map_eq_some_iff.1 hT.info;simp only[Prod.mk.injEq] at e2;exact Q2j (by rw[hk];simp[e2.1])
 have hne:cap≠i:=by omega
 have b1:(0:Int)≤i∧(i:Int)≤j:=by omega
 have b2:(0:Int)≤j∧(j:Int)≤cap:=by omega
 simp[Instr.sliceAt,Instr.slice,Q2g hT.und,Instr.sliceBounds,Instr.sliceBound,asIntOf,h1,h2,hs,Q3k,hne]
theorem V0w {e size bytes b o2 len cap i j:Nat} {q q':IntKind} (m:Nat) (hm:ops[m]? = some ⟨d,.slice t x (some y) (some z) none,u,p,af,g⟩) (hg:Q0n ops σ ⟨d,.slice t x (some y) (some z) none,u,p,af,g⟩ true) [hT:Q2m P t e size bytes] (hx:ev σ x = .slice (some ⟨b,o2,none⟩) len cap) (hy:ev σ y = .int q (i:Int)) (hz:ev σ z = .int q' (j:Int)) (h1:i≤j) (h2:j≤cap) (h3:i < cap)
  (hb:stB n ops (ivs.map (·.1)) L m []=true) (k:Any P n r ops ivs T f (L.setIfInBounds m true) (put σ d (.slice (some ⟨b,o2+i*size,none⟩) (j - i) (cap - i))) w):Any P n r ops ivs T (f+1) L σ w:=
 V3k m hm hg (fun c e=>by cases e) (fun w=>by simp only[execOp,hx,hy,hz,Option.map_some,Option.map_none,Sem.run_bind,Z1e hT h1 h2 h3,Result.andThen_ok,Sem.run_pure]) hb k
theorem G9o {c:List Value} {o m:Nat} {vs:List Value} (h:Q0o c o m vs):∀ (q:o+vs.length≤c.length),wr c o vs=c:=fun q=>by
 rw[G5c vs c o q];apply List.ext_getElem?;intro j;by_cases h1:j < o
 ·rw[List.append_assoc,List.getElem?_append_left (by simp;omega),List.getElem?_take_of_lt h1]
 ·by_cases h2:j < o+vs.length
  ·rw[List.append_assoc,List.getElem?_append_right (by simp;omega),List.getElem?_append_left (by simp;omega)];have e1:(c.take o).length=o:=by simp;omega
   rw[e1];have:=h.get (j - o) (vs[j - o]'(by omega)) (List.getElem?_eq_getElem (by omega));rw[show o+(j - o)=j by omega] at this;rw[this,List.getElem?_eq_getElem (by omega)]
  ·rw[List.append_assoc,List.getElem?_append_right (by simp;omega),List.getElem?_append_right (by simp;omega),List.getElem?_drop];congr 1;simp;omega
theorem Q2n [Q0i] {E k m cap:Nat} {a:Option Addr} {c:List Value} (H:Q0a w (sls E k (.slice a m cap) c::l)) (h0:0 < m) :
  ∃ b spare,a=some ⟨b,0,none⟩∧Q0a w (pts b (row E (c++spare))::l)∧m≤cap∧(cap - m)*k≤spare.length∧∀ w' l' c',c'.length=c.length→Q0a w' (pts b (row E (c'++spare))::l')→Q0a w' (sls E k (.slice a m cap) c'::l'):=by
 rcases Q4n H with ⟨h,_⟩|⟨b,len,cap',spare,h,e3,e4,e5,H2⟩
 ·injection h with h1 h2;omega
 ·injection h with h1 h2 h3
  subst h1 h2 h3;exact⟨b,spare,rfl,H2,e4.1,e5,fun w' l' c' hc H'=>Q5x (hc.trans e3) e4 e5 H'⟩
theorem Z1f [Q0i] {e size bytes b o2 m cap cap' E:Nat} {c vs:List Value} [hT:Q2m P t e size bytes] (H:Q0a w (pts b (row E c)::l)) (hx:ev σ x = .slice (some ⟨b,o2,none⟩) m cap) (hy:ev σ y = .slice (some ⟨b,o2,none⟩) m cap') (hrd:Q0o c o2 (m*size) vs) (hl:o2+m*size≤c.length) (h1:vs.all (·.oneCell')=true) (hd:okd n d=true)
  (k:∀ w',Q0a w' (pts b (row E c)::l)→K (put σ d (.int .i64 m)) w'):St P n r ⟨d,.call { callee := .builtin .copy,args:=#[x,y],argTypes:=#[t,t] },u,p,af,g⟩ σ w K:=by
 have hs:(sizeOf e).run P w = .ok size w:=by
  obtain⟨k,hk,e2⟩:=Option.map_eq_some_iff.1 hT.info;simp only[Prod.mk.injEq] at e2;exact Q2j (by rw[hk];simp[e2.1])
 have ev1:=hrd.len;have hbk:w.heap[b]? = some (.cells c.toArray E (0,0)):=H.pts
 have hfc:(Builtin.firstCells size m (.slice (some ⟨b,o2,none⟩) m cap')).run P w = .ok vs.toArray w:=by
  unfold Builtin.firstCells
  have:=run_loadCells_list (P:=P) (w:=w) ⟨b,o2,none⟩ vs (fun j v hj=>by
   rw[Q3k];exact Q4b hbk (hrd.get j v hj))
  rwa [ev1] at this
 obtain⟨w',hr,h2,h3,h4⟩:=Q4f (P:=P) vs w b o2 E c 0 H.pts (by omega) (List.all_eq_true.1 h1);rw[Nat.add_zero,G9o hrd (by omega)] at h2;have H':=H.set (o':=row E c) h2 h3 h4;refine Q1c (v := .int .i64 m) (w':=w') hd (fun c e=>by cases e) ?_ (k w' H');have hmin:Nat.min m m=m:=Nat.min_self m;simp[execOp,resolve,invoke,builtin,hx,hy,Builtin.copy_,Q2g hT.und,Builtin.lenOf,hmin,hs,hfc,hr,goInt]
end
end Go.SL
namespace Go.SL
section
variable {P:Program} {n:Nat} {r:Option Nat} {ops:Array Oper} {Q:V3f} {ms:List Nat} {σ:Env} {w:World} {rest:List Oper} {o:Oper} {K:Env→World→Prop} {l l':List Q0e}
variable {u t s:TypeId} {p:String} {af:Array Edge} {g:Option (Nat×Bool)} {d:Option Tmp} {x y z:Operand}
theorem Y4r {e size bytes len cap:Nat} {ad:Option Addr} {q:IntKind} {i:Nat} [hT:Q2m P t e size bytes] (hx:ev σ x = .slice ad len cap) (hy:ev σ y = .int q (i:Int)) (h1:i≤len) (hd:okd n d=true)
  (k:∀ v,K (put σ d v) w):St P n r ⟨d,.slice t x (some y) none none,u,p,af,g⟩ σ w K:=by
 have hs:(sizeOf e).run P w = .ok size w:=by
  obtain⟨k,hk,e2⟩:=Option.map_eq_some_iff.1 hT.info;simp only[Prod.mk.injEq] at e2;exact Q2j (by rw[hk];simp[e2.1])
 cases ad with
 | none=>
  refine Q1c (w':=w) hd (fun c e=>by cases e) ?_ (k (.slice none (len - i) (cap - i)));simp[execOp,hx,hy,Instr.sliceAt,Instr.slice,Q2g hT.und,Instr.sliceBounds,Instr.sliceBound,asIntOf,h1,hs]
 | some a=>
  by_cases hc:cap=i
  ·subst hc;refine Q1c (w':=w) hd (fun c e=>by cases e) ?_ (k (.slice (some a) (len - cap) (cap - cap)));simp[execOp,hx,hy,Instr.sliceAt,Instr.slice,Q2g hT.und,Instr.sliceBounds,Instr.sliceBound,asIntOf,h1,hs]
  ·refine Q1c (w':=w) hd (fun c e=>by cases e) ?_ (k (.slice (some (a.add (i*size))) (len - i) (cap - i)));simp[execOp,hx,hy,Instr.sliceAt,Instr.slice,Q2g hT.und,Instr.sliceBounds,Instr.sliceBound,asIntOf,h1,hs,hc]
end
end Go.SL
namespace Go.SL
theorem split_at {α:Type} {l:List α} {k:Nat} {x:α} (h:l[k]? = some x):l=l.take k++x::l.drop (k+1):=by
 obtain⟨h1,h2⟩:=List.getElem?_eq_some_iff.1 h;rw[← h2,List.getElem_cons_drop,List.take_append_drop]
theorem set_split {α:Type} {l:List α} {k:Nat} {x y:α} (h:l[k]? = some x):l.set k y=l.take k++y::l.drop (k+1):=by
 have h1:=(List.getElem?_eq_some_iff.1 h).1;rw[List.set_eq_take_append_cons_drop,if_pos h1]
theorem G8b {A B:List Value}:∀ (vs y:List Value) (j:Nat),j+vs.length≤y.length→wr (A++(y++B)) (A.length+j) vs=A++(wr y j vs++B)
 | [],y,j,_=>rfl
 | v::vs,y,j,h=>by
  simp only[List.length_cons] at h;show wr ((A++(y++B)).set (A.length+j) v) (A.length+j+1) vs=A++(wr (y.set j v) (j+1) vs++B);rw[List.set_append_right _ _ (by omega),show A.length+j - A.length=j by omega,List.set_append_left _ _ (by omega)];exact G8b vs (y.set j v) (j+1) (by simp;omega)
section
variable {α:Type} {f:α→List Value} {m:Nat}
theorem Q4v (hf:∀ a,(f a).length=m) (l:List α):(l.flatMap f).length=l.length*m:=by
 induction l with
 | nil=>simp
 | cons a l ih=>rw[List.flatMap_cons,List.length_append,ih,hf,List.length_cons,Nat.succ_mul];omega
theorem Y2d {l:List α} {i:Nat} {x:α} (h:l[i]? = some x) (s:List Value):l.flatMap f++s=(l.take i).flatMap f++(f x++((l.drop (i+1)).flatMap f++s)):=by
 conv=>lhs;rw[split_at h]
 simp
theorem V8u (hf:∀ a,(f a).length=m) {l:List α} {i:Nat} {x:α} (h:l[i]? = some x):((l.take i).flatMap f).length=i*m:=by
 have h1:=(List.getElem?_eq_some_iff.1 h).1;rw[Q4v hf,List.length_take,Nat.min_eq_left (by omega)]
theorem Q7l (hf:∀ a,(f a).length=m) {l:List α} {i:Nat} {x:α} (h:l[i]? = some x) {s:List Value} {j:Nat} {v:Value} (hv:(f x)[j]? = some v):(l.flatMap f++s)[i*m+j]? = some v:=by
 have hj:=(List.getElem?_eq_some_iff.1 hv).1;rw[Y2d h,List.getElem?_append_right (by rw[V8u hf h];omega),V8u hf h,show i*m+j - i*m=j by omega,List.getElem?_append_left hj];exact hv
theorem Q8h (hf:∀ a,(f a).length=m) {l:List α} {i:Nat} {x:α} (h:l[i]? = some x) {s:List Value} {j:Nat} {vs:List Value} (hv:Q0o (f x) j vs.length vs):Q0o (l.flatMap f++s) (i*m+j) vs.length vs:=
 Q0o.of_get fun k v hk=>by
  rw[show i*m+j+k=i*m+(j+k) by omega];exact Q7l hf h (hv.get k v hk)
theorem Y4s (hf:∀ a,(f a).length=m) {l:List α} {i:Nat} {x x':α} (h:l[i]? = some x) {s:List Value} {j:Nat} {vs:List Value} (hj:j+vs.length≤m) (hx:wr (f x) j vs=f x'):wr (l.flatMap f++s) (i*m+j) vs=(l.set i x').flatMap f++s:=by
 rw[Y2d h,← V8u hf h,G8b vs (f x) j (by rw[hf];exact hj),hx,set_split h];simp
theorem Z4i (hf:∀ a,(f a).length=m) {l:List α} {i:Nat} {x x':α} (h:l[i]? = some x) {s:List Value} {j:Nat} {v:Value} (hj:j < m) (hx:(f x).set j v=f x'):(l.flatMap f++s).set (i*m+j) v=(l.set i x').flatMap f++s:=
 Y4s (vs:=[v]) hf h (by simp;omega) hx
end
end Go.SL
namespace Go.Proofs
open Go.Shelf
def Tryz.laysBs_ren : Go.Shelf.Ren := ⟨fun | 25 => 112 | 31 => 184 | 32 => 185 | 37 => 237 | n => n, fun | 22 => 31 | 3 => 3 | 4 => 4 | 40 => 164 | 0 => 0 | n => n, fun | n => n⟩
theorem Tryz.laysBs : Go.Proofs.Lays2.n25 Tryz.prog Tryz.laysBs_ren := {
  mixed := by kernel_rfl
  f25 := Tryz.func112.trans (congrArg some (by kernel_rfl))
  f31 := Tryz.func184.trans (congrArg some (by kernel_rfl))
  f32 := Tryz.func185.trans (congrArg some (by kernel_rfl))
  f37 := Tryz.func237.trans (congrArg some (by kernel_rfl))
  t0 := Tryz.underlying0
  a0 := Tryz.isAgg0
  z0 := Tryz.sizeOf0
  v0 := Tryz.zeroValue0
  t3 := Tryz.underlying3
  a3 := Tryz.isAgg3
  z3 := Tryz.sizeOf3
  v3 := Tryz.zeroValue3
  t4 := Tryz.underlying4
  a4 := Tryz.isAgg4
  z4 := Tryz.sizeOf4
  v4 := Tryz.zeroValue4
  t22 := Tryz.underlying31
  a22 := Tryz.isAgg31
  z22 := Tryz.sizeOf31
  v22 := Tryz.zeroValue31
  t40 := Tryz.underlying164
  a40 := Tryz.isAgg164
  z40 := Tryz.sizeOf164
  v40 := Tryz.zeroValue164 }
def Tryz.laysIns_ren : Go.Shelf.Ren := ⟨fun | 21 => 154 | 27 => 224 | 28 => 225 | 35 => 251 | 39 => 261 | n => n, fun | 22 => 31 | 3 => 3 | 4 => 4 | 0 => 0 | n => n, fun | n => n⟩
theorem Tryz.laysIns : Go.Proofs.Lays2.n21 Tryz.prog Tryz.laysIns_ren := {
  mixed := by kernel_rfl
  f21 := Tryz.func154.trans (congrArg some (by kernel_rfl))
  f27 := Tryz.func224.trans (congrArg some (by kernel_rfl))
  f28 := Tryz.func225.trans (congrArg some (by kernel_rfl))
  f35 := Tryz.func251.trans (congrArg some (by kernel_rfl))
  f39 := Tryz.func261.trans (congrArg some (by kernel_rfl))
  t0 := Tryz.underlying0
  a0 := Tryz.isAgg0
  z0 := Tryz.sizeOf0
  v0 := Tryz.zeroValue0
  t3 := Tryz.underlying3
  a3 := Tryz.isAgg3
  z3 := Tryz.sizeOf3
  v3 := Tryz.zeroValue3
  t4 := Tryz.underlying4
  a4 := Tryz.isAgg4
  z4 := Tryz.sizeOf4
  v4 := Tryz.zeroValue4
  t22 := Tryz.underlying31
  a22 := Tryz.isAgg31
  z22 := Tryz.sizeOf31
  v22 := Tryz.zeroValue31
  i3 := by kernel_rfl }
end Go.Proofs
namespace Go.Proofs
open Go.Shelf
def Tryz.laysSort_ren : Go.Shelf.Ren := ⟨fun | 189 => 53 | 125 => 116 | 257 => 115 | 128 => 196 | 129 => 197 | 294 => 188 | 295 => 189 | 296 => 190 | 297 => 191 | 298 => 192 | 299 => 193 | 216 => 184 | 300 => 194 | 301 => 195 | 328 => 239 | 329 => 240 | 330 => 241 | 331 => 242 | 332 => 243 | 215 => 237 | 343 => 257 | n => n, fun | 28 => 31 | 3 => 3 | 46 => 164 | 0 => 0 | 51 => 289 | 53 => 83 | 4 => 4 | 183 => 283 | 182 => 282 | 131 => 202 | 5 => 5 | 9 => 9 | 218 => 318 | 222 => 322 | 228 => 331 | 229 => 190 | n => n, fun | n => n⟩
theorem Tryz.laysSort : Go.Proofs.Lays.n189 Tryz.prog Tryz.laysSort_ren := {
  mixed := by kernel_rfl
  f125 := Tryz.func116.trans (congrArg some (by kernel_rfl))
  f128 := Tryz.func196.trans (congrArg some (by kernel_rfl))
  f129 := Tryz.func197.trans (congrArg some (by kernel_rfl))
  f189 := Tryz.func53.trans (congrArg some (by kernel_rfl))
  f215 := Tryz.func237.trans (congrArg some (by kernel_rfl))
  f216 := Tryz.func184.trans (congrArg some (by kernel_rfl))
  f257 := Tryz.func115.trans (congrArg some (by kernel_rfl))
  f294 := Tryz.func188.trans (congrArg some (by kernel_rfl))
  f295 := Tryz.func189.trans (congrArg some (by kernel_rfl))
  f296 := Tryz.func190.trans (congrArg some (by kernel_rfl))
  f297 := Tryz.func191.trans (congrArg some (by kernel_rfl))
  f298 := Tryz.func192.trans (congrArg some (by kernel_rfl))
  f299 := Tryz.func193.trans (congrArg some (by kernel_rfl))
  f300 := Tryz.func194.trans (congrArg some (by kernel_rfl))
  f301 := Tryz.func195.trans (congrArg some (by kernel_rfl))
  f328 := Tryz.func239.trans (congrArg some (by kernel_rfl))
  f329 := Tryz.func240.trans (congrArg some (by kernel_rfl))
  f330 := Tryz.func241.trans (congrArg some (by kernel_rfl))
  f331 := Tryz.func242.trans (congrArg some (by kernel_rfl))
  f332 := Tryz.func243.trans (congrArg some (by kernel_rfl))
  f343 := Tryz.func257.trans (congrArg some (by kernel_rfl))
  t0 := Tryz.underlying0
  a0 := Tryz.isAgg0
  z0 := Tryz.sizeOf0
  v0 := Tryz.zeroValue0
  t3 := Tryz.underlying3
  a3 := Tryz.isAgg3
  z3 := Tryz.sizeOf3
  v3 := Tryz.zeroValue3
  t4 := Tryz.underlying4
  a4 := Tryz.isAgg4
  z4 := Tryz.sizeOf4
  v4 := Tryz.zeroValue4
  t5 := Tryz.underlying5
  a5 := Tryz.isAgg5
  z5 := Tryz.sizeOf5
  v5 := Tryz.zeroValue5
  t9 := Tryz.underlying9
  a9 := Tryz.isAgg9
  z9 := Tryz.sizeOf9
  v9 := Tryz.zeroValue9
  t28 := Tryz.underlying31
  a28 := Tryz.isAgg31
  z28 := Tryz.sizeOf31
  v28 := Tryz.zeroValue31
  t46 := Tryz.underlying164
  a46 := Tryz.isAgg164
  z46 := Tryz.sizeOf164
  v46 := Tryz.zeroValue164
  t51 := Tryz.underlying289
  a51 := Tryz.isAgg289
  z51 := Tryz.sizeOf289
  v51 := Tryz.zeroValue289
  t53 := Tryz.underlying83
  a53 := Tryz.isAgg83
  z53 := Tryz.sizeOf83
  v53 := Tryz.zeroValue83
  t131 := Tryz.underlying202
  a131 := Tryz.isAgg202
  z131 := Tryz.sizeOf202
  v131 := Tryz.zeroValue202
  t182 := Tryz.underlying282
  a182 := Tryz.isAgg282
  z182 := Tryz.sizeOf282
  v182 := Tryz.zeroValue282
  t183 := Tryz.underlying283
  a183 := Tryz.isAgg283
  z183 := Tryz.sizeOf283
  v183 := Tryz.zeroValue283
  t218 := Tryz.underlying318
  a218 := Tryz.isAgg318
  z218 := Tryz.sizeOf318
  v218 := Tryz.zeroValue318
  t222 := Tryz.underlying322
  a222 := Tryz.isAgg322
  z222 := Tryz.sizeOf322
  v222 := Tryz.zeroValue322
  t228 := Tryz.underlying331
  a228 := Tryz.isAgg331
  z228 := Tryz.sizeOf331
  v228 := Tryz.zeroValue331
  t229 := Tryz.underlying190
  a229 := Tryz.isAgg190
  z229 := Tryz.sizeOf190
  v229 := Tryz.zeroValue190 }
end Go.Proofs
