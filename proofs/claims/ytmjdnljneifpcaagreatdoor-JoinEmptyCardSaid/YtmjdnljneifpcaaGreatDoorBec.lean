/- Cells: what is proved on the way: every input of the statement; no condition. Texts joined: Ins SlU SlM SlN Srl SlV InE SlW SlX SlY SlT Sri Srs SlS Srt Srd. -/
import Derived.Test.YtmjdnljneifpcaaGreatDoorBeb
import Derived.Test.YtmjdnljneifpcaaGreatDoorProg
import Derived.KernelRfl
import Derived.Test.YtmjdnljneifpcaaGreatDoorBea
import Derived.Shelf.SlGeneric
import Derived.Shelf.Strconv.Itoa0
import Derived.Shelf.Spec.TrailingZeros
import Derived.Ground.Names7Prog
import Derived.Ground.NamesProg
import Derived.Laws.MakeOwn
import Derived.Shelf.Spec.SlicesInsert
import Derived.Shelf.Spec.SlicesInsertGrow
import Derived.Shelf.Slices.SearchI
import Derived.Shelf.Slices.Empties
import Derived.Ground.Names2Prog
import Derived.Shelf.Sort.Plain
import Derived.Shelf.Slices.In.SortNone
import Derived.Shelf.SlSortCmp.NoneTotal
import Derived.Ground.SlsfProg
import Derived.Shelf.Slices.Delete
set_option linter.unusedVariables false
namespace Go.Proofs.YtmjdnljneifpcaaGreatDoor
open Go.SL
theorem mB {P:Program} {f:FuncId} {fn:Func} (h:P.funcs[f]? = some fn) (a:fn.body.isNone=false:=by kernel_rfl) (b:(fn.name == "runtime.NumGoroutine")=false:=by kernel_rfl):QZ P f:=⟨fn,h,a,b⟩
theorem mF {P:Program} {s:TypeId} {f off:Nat} {fs:Array Field} {fd:Field} (h:P.underlying s=some (.struct fs)) (a:fs[f]? = some fd:=by rfl) (b:fd.offset=off:=by rfl) (c:(P.info? fd.type).map (·.size)=some 1:=by kernel_rfl):Qf P s f off:=⟨fs,fd,h,a,b,1,c,by decide⟩
theorem mT {P:Program} {t:TypeId} {d:TypeDesc} (h:P.underlying t=some d) (a:∀ fs,d ≠ .struct fs:=by intro _ h;cases h) (b:∀ k e,d ≠ .array k e:=by intro _ _ h;cases h) (c:(P.info? t).map (·.size)=some 1:=by kernel_rfl):T1 P t:=⟨⟨d,h,a,b⟩,c⟩
instance:T1 Tryz.prog 3:=mT Tryz.underlying3
instance:VF Tryz.prog 3 (.int .i64 0):=⟨by kernel_rfl⟩
instance:Wj Tryz.prog 3 .i64:=⟨Tryz.underlying3⟩
instance:T1 Tryz.prog 4:=mT Tryz.underlying4
instance:VF Tryz.prog 4 (.bool false):=⟨by kernel_rfl⟩
instance:PN Tryz.prog 4:=⟨Tryz.underlying4⟩
instance:TN Tryz.prog 23 3:=⟨.inl ⟨_,Tryz.underlying23⟩,by kernel_rfl⟩
instance:Qf Tryz.prog 23 0 0:=mF Tryz.underlying23
instance:Qf Tryz.prog 23 1 1:=mF Tryz.underlying23
instance:Qf Tryz.prog 23 2 2:=mF Tryz.underlying23
instance:Vv Tryz.prog 24 95 12 128:=⟨Tryz.underlying24,by kernel_rfl⟩
instance:KZ Tryz.prog 27:=⟨⟨_,Tryz.underlying27⟩⟩
instance:T1 Tryz.prog 31:=mT Tryz.underlying31
instance:Vv Tryz.prog 31 3 1 8:=⟨Tryz.underlying31,by kernel_rfl⟩
instance:T1 Tryz.prog 34:=mT Tryz.underlying34
instance:KZ Tryz.prog 34:=⟨⟨_,Tryz.underlying34⟩⟩
instance:T1 Tryz.prog 35:=mT Tryz.underlying35
instance:KZ Tryz.prog 35:=⟨⟨_,Tryz.underlying35⟩⟩
instance:T1 Tryz.prog 36:=mT Tryz.underlying36
instance:KZ Tryz.prog 36:=⟨⟨_,Tryz.underlying36⟩⟩
instance:T1 Tryz.prog 37:=mT Tryz.underlying37
instance:KZ Tryz.prog 37:=⟨⟨_,Tryz.underlying37⟩⟩
instance:T1 Tryz.prog 38:=mT Tryz.underlying38
instance:KZ Tryz.prog 38:=⟨⟨_,Tryz.underlying38⟩⟩
instance:T1 Tryz.prog 39:=mT Tryz.underlying39
instance:KZ Tryz.prog 39:=⟨⟨_,Tryz.underlying39⟩⟩
instance:T1 Tryz.prog 40:=mT Tryz.underlying40
instance:Zx Tryz.prog 40 3 119:=⟨Tryz.underlying40⟩
instance:T1 Tryz.prog 41:=mT Tryz.underlying41
instance:Zx Tryz.prog 41 3 61:=⟨Tryz.underlying41⟩
instance:VF Tryz.prog 43 (.agg #[.pointer none,.pointer none,.pointer none,.pointer none,.pointer none,.pointer none,.map none,.map none]):=⟨by kernel_rfl⟩
instance:Zc Tryz.prog 43 [(0,1),(1,1),(2,1),(3,1),(4,1),(5,1),(6,1),(7,1)]:=⟨_,Tryz.underlying43,by kernel_rfl⟩
instance:Qf Tryz.prog 43 0 0:=mF Tryz.underlying43
instance:Qf Tryz.prog 43 1 1:=mF Tryz.underlying43
instance:Qf Tryz.prog 43 2 2:=mF Tryz.underlying43
instance:Qf Tryz.prog 43 3 3:=mF Tryz.underlying43
instance:Qf Tryz.prog 43 4 4:=mF Tryz.underlying43
instance:Qf Tryz.prog 43 5 5:=mF Tryz.underlying43
instance:Qf Tryz.prog 43 6 6:=mF Tryz.underlying43
instance:Qf Tryz.prog 43 7 7:=mF Tryz.underlying43
instance:T1 Tryz.prog 44:=mT Tryz.underlying44
instance:VF Tryz.prog 44 (.pointer none):=⟨by kernel_rfl⟩
instance:KZ Tryz.prog 44:=⟨⟨_,Tryz.underlying44⟩⟩
instance:T1 Tryz.prog 45:=mT Tryz.underlying45
instance:T1 Tryz.prog 46:=mT Tryz.underlying46
instance:Vv Tryz.prog 46 69 2 16:=⟨Tryz.underlying46,by kernel_rfl⟩
instance:VF Tryz.prog 48 (.agg #[.pointer none,.pointer none,.slice none 0 0]):=⟨by kernel_rfl⟩
instance:Zc Tryz.prog 48 [(0,1),(1,1),(2,1)]:=⟨_,Tryz.underlying48,by kernel_rfl⟩
instance:Qf Tryz.prog 48 0 0:=mF Tryz.underlying48
instance:Qf Tryz.prog 48 1 1:=mF Tryz.underlying48
instance:Qf Tryz.prog 48 2 2:=mF Tryz.underlying48
instance:T1 Tryz.prog 54:=mT Tryz.underlying54
instance:T1 Tryz.prog 55:=mT Tryz.underlying55
instance:Vv Tryz.prog 55 102 4 64:=⟨Tryz.underlying55,by kernel_rfl⟩
instance:T1 Tryz.prog 56:=mT Tryz.underlying56
instance:Vv Tryz.prog 56 77 1 8:=⟨Tryz.underlying56,by kernel_rfl⟩
instance:VF Tryz.prog 58 (.agg #[.pointer none,.slice none 0 0,.slice none 0 0]):=⟨by kernel_rfl⟩
instance:Zc Tryz.prog 58 [(0,1),(1,1),(2,1)]:=⟨_,Tryz.underlying58,by kernel_rfl⟩
instance:Qf Tryz.prog 58 0 0:=mF Tryz.underlying58
instance:Qf Tryz.prog 58 1 1:=mF Tryz.underlying58
instance:Qf Tryz.prog 58 2 2:=mF Tryz.underlying58
instance:T1 Tryz.prog 61:=mT Tryz.underlying61
instance:VF Tryz.prog 61 (.pointer none):=⟨by kernel_rfl⟩
instance:KZ Tryz.prog 61:=⟨⟨_,Tryz.underlying61⟩⟩
instance:TN Tryz.prog 69 2:=⟨.inl ⟨_,Tryz.underlying69⟩,by kernel_rfl⟩
instance:VF Tryz.prog 69 (.agg #[.int .i64 0,.int .i64 0]):=⟨by kernel_rfl⟩
instance:Zc Tryz.prog 69 [(0,1),(1,1)]:=⟨_,Tryz.underlying69,by kernel_rfl⟩
instance:Qf Tryz.prog 69 0 0:=mF Tryz.underlying69
instance:Qf Tryz.prog 69 1 1:=mF Tryz.underlying69
instance:Bm Tryz.prog 69:=⟨⟨_,_,_,_,Tryz.underlying69,by decide,by decide,rfl,rfl,Tryz.underlying3,Tryz.underlying3⟩,fun f g h=>by rw[Tryz.underlying69] at h;cases h;exact⟨(inferInstance:T1 Tryz.prog 3),(inferInstance:T1 Tryz.prog 3)⟩,by kernel_rfl,by kernel_rfl⟩
instance:TN Tryz.prog 71 5:=⟨.inl ⟨_,Tryz.underlying71⟩,by kernel_rfl⟩
instance:VF Tryz.prog 71 (.agg #[.int .i64 0,.int .i64 0,.int .i64 0,.int .i64 0,.bool false]):=⟨by kernel_rfl⟩
instance:Zc Tryz.prog 71 [(0,1),(1,1),(2,1),(3,1),(4,1)]:=⟨_,Tryz.underlying71,by kernel_rfl⟩
instance:T1 Tryz.prog 74:=mT Tryz.underlying74
instance:Vv Tryz.prog 74 83 1 8:=⟨Tryz.underlying74,by kernel_rfl⟩
instance:VF Tryz.prog 76 (.agg #[.int .i64 0,.int .i64 0,.int .i64 0,.slice none 0 0,.slice none 0 0,.slice none 0 0,.bool false,.bool false,.bool false]):=⟨by kernel_rfl⟩
instance:Zc Tryz.prog 76 [(0,1),(1,1),(2,1),(3,1),(4,1),(5,1),(6,1),(7,1),(8,1)]:=⟨_,Tryz.underlying76,by kernel_rfl⟩
instance:Qf Tryz.prog 76 0 0:=mF Tryz.underlying76
instance:Qf Tryz.prog 76 1 1:=mF Tryz.underlying76
instance:Qf Tryz.prog 76 2 2:=mF Tryz.underlying76
instance:Qf Tryz.prog 76 3 3:=mF Tryz.underlying76
instance:Qf Tryz.prog 76 4 4:=mF Tryz.underlying76
instance:Qf Tryz.prog 76 5 5:=mF Tryz.underlying76
instance:Qf Tryz.prog 76 6 6:=mF Tryz.underlying76
instance:Qf Tryz.prog 76 7 7:=mF Tryz.underlying76
instance:Qf Tryz.prog 76 8 8:=mF Tryz.underlying76
instance:T1 Tryz.prog 77:=mT Tryz.underlying77
instance:VF Tryz.prog 77 (.pointer none):=⟨by kernel_rfl⟩
instance:T1 Tryz.prog 83:=mT Tryz.underlying83
instance:VF Tryz.prog 83 (.int .u64 0):=⟨by kernel_rfl⟩
instance:Wj Tryz.prog 83 .u64:=⟨Tryz.underlying83⟩
instance:TN Tryz.prog 88 3:=⟨.inl ⟨_,Tryz.underlying88⟩,by kernel_rfl⟩
instance:VF Tryz.prog 88 (.agg #[.int .i64 0,.int .i64 0,.int .i64 0]):=⟨by kernel_rfl⟩
instance:Zc Tryz.prog 88 [(0,1),(1,2)]:=⟨_,Tryz.underlying88,by kernel_rfl⟩
instance:Qf Tryz.prog 88 0 0:=mF Tryz.underlying88
instance:Qf Tryz.prog 88 1 1:=⟨_,_,Tryz.underlying88,rfl,rfl,2,by kernel_rfl,by decide⟩
instance:Vv Tryz.prog 91 93 9 88:=⟨Tryz.underlying91,by kernel_rfl⟩
instance:TN Tryz.prog 93 9:=⟨.inl ⟨_,Tryz.underlying93⟩,by kernel_rfl⟩
instance:VF Tryz.prog 93 (.agg #[.int .i64 0,.int .i64 0,.int .i64 0,.int .i64 0,.int .u64 0,.slice none 0 0,.bool false,.int .i64 0,.int .i64 0]):=⟨by kernel_rfl⟩
instance:Qf Tryz.prog 93 0 0:=mF Tryz.underlying93
instance:Qf Tryz.prog 93 1 1:=mF Tryz.underlying93
instance:Qf Tryz.prog 93 2 2:=mF Tryz.underlying93
instance:Qf Tryz.prog 93 3 3:=mF Tryz.underlying93
instance:Qf Tryz.prog 93 4 4:=mF Tryz.underlying93
instance:Qf Tryz.prog 93 5 5:=mF Tryz.underlying93
instance:Qf Tryz.prog 93 6 6:=mF Tryz.underlying93
instance:Qf Tryz.prog 93 7 7:=⟨_,_,Tryz.underlying93,rfl,rfl,2,by kernel_rfl,by decide⟩
instance:TN Tryz.prog 95 12:=⟨.inl ⟨_,Tryz.underlying95⟩,by kernel_rfl⟩
instance:VF Tryz.prog 95 (.agg #[.int .i64 0,.int .i64 0,.int .i64 0,.int .i64 0,.int .i64 0,.int .u64 0,.slice none 0 0,.bool false,.int .i64 0,.int .i64 0,.int .i64 0,.slice none 0 0]):=⟨by kernel_rfl⟩
instance:Qf Tryz.prog 95 0 0:=mF Tryz.underlying95
instance:Qf Tryz.prog 95 1 1:=⟨_,_,Tryz.underlying95,rfl,rfl,9,by kernel_rfl,by decide⟩
instance:Qf Tryz.prog 95 2 10:=mF Tryz.underlying95
instance:Qf Tryz.prog 95 3 11:=mF Tryz.underlying95
instance:TN Tryz.prog 102 4:=⟨.inl ⟨_,Tryz.underlying102⟩,by kernel_rfl⟩
instance:VF Tryz.prog 102 (.agg #[.int .i64 0,.slice none 0 0,.int .i64 0,.slice none 0 0]):=⟨by kernel_rfl⟩
instance:Zc Tryz.prog 102 [(0,1),(1,1),(2,1),(3,1)]:=⟨_,Tryz.underlying102,by kernel_rfl⟩
instance:Qf Tryz.prog 102 0 0:=mF Tryz.underlying102
instance:Qf Tryz.prog 102 1 1:=mF Tryz.underlying102
instance:Qf Tryz.prog 102 2 2:=mF Tryz.underlying102
instance:Qf Tryz.prog 102 3 3:=mF Tryz.underlying102
instance:T1 Tryz.prog 108:=mT Tryz.underlying108
instance:VF Tryz.prog 108 (.map none):=⟨by kernel_rfl⟩
instance:Zx Tryz.prog 108 3 3:=⟨Tryz.underlying108⟩
instance:TN Tryz.prog 113 4:=⟨.inl ⟨_,Tryz.underlying113⟩,by kernel_rfl⟩
instance:VF Tryz.prog 113 (.agg #[.int .i64 0,.int .i64 0,.bool false,.bool false]):=⟨by kernel_rfl⟩
instance:Zc Tryz.prog 113 [(0,1),(1,1),(2,1),(3,1)]:=⟨_,Tryz.underlying113,by kernel_rfl⟩
instance:Qf Tryz.prog 113 0 0:=mF Tryz.underlying113
instance:Qf Tryz.prog 113 1 1:=mF Tryz.underlying113
instance:Qf Tryz.prog 113 2 2:=mF Tryz.underlying113
instance:Qf Tryz.prog 113 3 3:=mF Tryz.underlying113
instance:TN Tryz.prog 115 3:=⟨.inl ⟨_,Tryz.underlying115⟩,by kernel_rfl⟩
instance:VF Tryz.prog 115 (.agg #[.int .i64 0,.int .i64 0,.int .i64 0]):=⟨by kernel_rfl⟩
instance:Zc Tryz.prog 115 [(0,1),(1,1),(2,1)]:=⟨_,Tryz.underlying115,by kernel_rfl⟩
instance:Qf Tryz.prog 115 0 0:=mF Tryz.underlying115
instance:Qf Tryz.prog 115 1 1:=mF Tryz.underlying115
instance:Qf Tryz.prog 115 2 2:=mF Tryz.underlying115
instance:VF Tryz.prog 119 (.pointer none):=⟨by kernel_rfl⟩
instance:KZ Tryz.prog 119:=⟨⟨_,Tryz.underlying119⟩⟩
instance:VF Tryz.prog 122 (.agg #[.map none,.int .i64 0]):=⟨by kernel_rfl⟩
instance:Zc Tryz.prog 122 [(0,1),(1,1)]:=⟨_,Tryz.underlying122,by kernel_rfl⟩
instance:Qf Tryz.prog 122 0 0:=mF Tryz.underlying122
instance:Qf Tryz.prog 122 1 1:=mF Tryz.underlying122
instance:T1 Tryz.prog 130:=mT Tryz.underlying130
instance:Vv Tryz.prog 130 133 2 16:=⟨Tryz.underlying130,by kernel_rfl⟩
instance:TN Tryz.prog 133 2:=⟨.inl ⟨_,Tryz.underlying133⟩,by kernel_rfl⟩
instance:VF Tryz.prog 133 (.agg #[.int .i64 0,.int .i64 0]):=⟨by kernel_rfl⟩
instance:Zc Tryz.prog 133 [(0,1),(1,1)]:=⟨_,Tryz.underlying133,by kernel_rfl⟩
instance:Qf Tryz.prog 133 0 0:=mF Tryz.underlying133
instance:Qf Tryz.prog 133 1 1:=mF Tryz.underlying133
instance:Bm Tryz.prog 133:=⟨⟨_,_,_,_,Tryz.underlying133,by decide,by decide,rfl,rfl,Tryz.underlying3,Tryz.underlying3⟩,fun f g h=>by rw[Tryz.underlying133] at h;cases h;exact⟨(inferInstance:T1 Tryz.prog 3),(inferInstance:T1 Tryz.prog 3)⟩,by kernel_rfl,by kernel_rfl⟩
instance:T1 Tryz.prog 139:=mT Tryz.underlying139
instance:KZ Tryz.prog 139:=⟨⟨_,Tryz.underlying139⟩⟩
instance:VF Tryz.prog 141 (.agg #[.slice none 0 0,.int .i64 0,.slice none 0 0,.pointer none]):=⟨by kernel_rfl⟩
instance:Zc Tryz.prog 141 [(0,1),(1,1),(2,1),(3,1)]:=⟨_,Tryz.underlying141,by kernel_rfl⟩
instance:Qf Tryz.prog 141 0 0:=mF Tryz.underlying141
instance:Qf Tryz.prog 141 1 1:=mF Tryz.underlying141
instance:Qf Tryz.prog 141 2 2:=mF Tryz.underlying141
instance:Qf Tryz.prog 141 3 3:=mF Tryz.underlying141
instance:T1 Tryz.prog 142:=mT Tryz.underlying142
instance:Vv Tryz.prog 142 199 6 40:=⟨Tryz.underlying142,by kernel_rfl⟩
instance:VF Tryz.prog 144 (.agg #[.slice none 0 0,.pointer none,.int .i64 0]):=⟨by kernel_rfl⟩
instance:Zc Tryz.prog 144 [(0,1),(1,1),(2,1)]:=⟨_,Tryz.underlying144,by kernel_rfl⟩
instance:Qf Tryz.prog 144 0 0:=mF Tryz.underlying144
instance:Qf Tryz.prog 144 1 1:=mF Tryz.underlying144
instance:Qf Tryz.prog 144 2 2:=mF Tryz.underlying144
instance:T1 Tryz.prog 145:=mT Tryz.underlying145
instance:VF Tryz.prog 145 (.map none):=⟨by kernel_rfl⟩
instance:Zx Tryz.prog 145 133 3:=⟨Tryz.underlying145⟩
instance:T1 Tryz.prog 146:=mT Tryz.underlying146
instance:Zx Tryz.prog 146 3 145:=⟨Tryz.underlying146⟩
instance:VF Tryz.prog 148 (.agg #[.map none,.map none,.map none]):=⟨by kernel_rfl⟩
instance:Zc Tryz.prog 148 [(0,1),(1,1),(2,1)]:=⟨_,Tryz.underlying148,by kernel_rfl⟩
instance:Qf Tryz.prog 148 0 0:=mF Tryz.underlying148
instance:Qf Tryz.prog 148 1 1:=mF Tryz.underlying148
instance:Qf Tryz.prog 148 2 2:=mF Tryz.underlying148
instance:Zx Tryz.prog 152 69 3:=⟨Tryz.underlying152⟩
instance:VF Tryz.prog 161 (.agg #[.slice none 0 0]):=⟨by kernel_rfl⟩
instance:Zc Tryz.prog 161 [(0,1)]:=⟨_,Tryz.underlying161,by kernel_rfl⟩
instance:Qf Tryz.prog 161 0 0:=mF Tryz.underlying161
instance:VF Tryz.prog 163 (.agg #[.slice none 0 0]):=⟨by kernel_rfl⟩
instance:Zc Tryz.prog 163 [(0,1)]:=⟨_,Tryz.underlying163,by kernel_rfl⟩
instance:Qf Tryz.prog 163 0 0:=mF Tryz.underlying163
instance:Wj Tryz.prog 164 .u64:=⟨Tryz.underlying164⟩
instance:T1 Tryz.prog 195:=mT Tryz.underlying195
instance:VF Tryz.prog 199 (.agg #[.int .i64 0,.bool false,.int .i64 0,.int .i64 0,.bool false,.bool false]):=⟨by kernel_rfl⟩
instance:Qf Tryz.prog 199 0 0:=mF Tryz.underlying199
instance:Qf Tryz.prog 199 1 1:=mF Tryz.underlying199
instance:Qf Tryz.prog 199 2 2:=⟨_,_,Tryz.underlying199,rfl,rfl,4,by kernel_rfl,by decide⟩
instance:T1 Tryz.prog 204:=mT Tryz.underlying204
instance:Vv Tryz.prog 204 208 2 16:=⟨Tryz.underlying204,by kernel_rfl⟩
instance:VF Tryz.prog 206 (.agg #[.pointer none,.int .i64 0,.slice none 0 0,.int .i64 0,.int .i64 0]):=⟨by kernel_rfl⟩
instance:Zc Tryz.prog 206 [(0,1),(1,1),(2,1),(3,1),(4,1)]:=⟨_,Tryz.underlying206,by kernel_rfl⟩
instance:Qf Tryz.prog 206 0 0:=mF Tryz.underlying206
instance:Qf Tryz.prog 206 1 1:=mF Tryz.underlying206
instance:Qf Tryz.prog 206 2 2:=mF Tryz.underlying206
instance:Qf Tryz.prog 206 3 3:=mF Tryz.underlying206
instance:Qf Tryz.prog 206 4 4:=mF Tryz.underlying206
instance:TN Tryz.prog 208 2:=⟨.inl ⟨_,Tryz.underlying208⟩,by kernel_rfl⟩
instance:VF Tryz.prog 208 (.agg #[.int .i64 0,.int .i64 0]):=⟨by kernel_rfl⟩
instance:Zc Tryz.prog 208 [(0,1),(1,1)]:=⟨_,Tryz.underlying208,by kernel_rfl⟩
instance:Qf Tryz.prog 208 0 0:=mF Tryz.underlying208
instance:Qf Tryz.prog 208 1 1:=mF Tryz.underlying208
instance:Bm Tryz.prog 208:=⟨⟨_,_,_,_,Tryz.underlying208,by decide,by decide,rfl,rfl,Tryz.underlying3,Tryz.underlying3⟩,fun f g h=>by rw[Tryz.underlying208] at h;cases h;exact⟨(inferInstance:T1 Tryz.prog 3),(inferInstance:T1 Tryz.prog 3)⟩,by kernel_rfl,by kernel_rfl⟩
instance:VF Tryz.prog 222 (.agg #[.pointer none,.pointer none]):=⟨by kernel_rfl⟩
instance:Zc Tryz.prog 222 [(0,1),(1,1)]:=⟨_,Tryz.underlying222,by kernel_rfl⟩
instance:Qf Tryz.prog 222 0 0:=mF Tryz.underlying222
instance:Qf Tryz.prog 222 1 1:=mF Tryz.underlying222
instance:VF Tryz.prog 228 (.agg #[.int .i64 0,.slice none 0 0,.int .i64 0]):=⟨by kernel_rfl⟩
instance:Zc Tryz.prog 228 [(0,1),(1,1),(2,1)]:=⟨_,Tryz.underlying228,by kernel_rfl⟩
instance:Qf Tryz.prog 228 0 0:=mF Tryz.underlying228
instance:Qf Tryz.prog 228 1 1:=mF Tryz.underlying228
instance:Qf Tryz.prog 228 2 2:=mF Tryz.underlying228
instance:VF Tryz.prog 242 (.agg #[.slice none 0 0]):=⟨by kernel_rfl⟩
instance:Zc Tryz.prog 242 [(0,1)]:=⟨_,Tryz.underlying242,by kernel_rfl⟩
instance:Qf Tryz.prog 242 0 0:=mF Tryz.underlying242
instance:Vv Tryz.prog 245 307 2 16:=⟨Tryz.underlying245,by kernel_rfl⟩
instance:T1 Tryz.prog 279:=mT Tryz.underlying279
instance:TN Tryz.prog 307 2:=⟨.inl ⟨_,Tryz.underlying307⟩,by kernel_rfl⟩
instance:VF Tryz.prog 307 (.agg #[.int .i64 0,.int .i64 0]):=⟨by kernel_rfl⟩
instance:Zc Tryz.prog 307 [(0,1),(1,1)]:=⟨_,Tryz.underlying307,by kernel_rfl⟩
instance:Qf Tryz.prog 307 0 0:=mF Tryz.underlying307
instance:Qf Tryz.prog 307 1 1:=mF Tryz.underlying307
instance:QZ Tryz.prog 8:=mB Tryz.func8
instance:QZ Tryz.prog 9:=mB Tryz.func9
instance:QZ Tryz.prog 10:=mB Tryz.func10
instance:QZ Tryz.prog 11:=mB Tryz.func11
instance:QZ Tryz.prog 12:=mB Tryz.func12
instance:QZ Tryz.prog 13:=mB Tryz.func13
instance:QZ Tryz.prog 14:=mB Tryz.func14
instance:QZ Tryz.prog 15:=mB Tryz.func15
instance:QZ Tryz.prog 16:=mB Tryz.func16
instance:QZ Tryz.prog 17:=mB Tryz.func17
instance:QZ Tryz.prog 18:=mB Tryz.func18
instance:QZ Tryz.prog 19:=mB Tryz.func19
instance:QZ Tryz.prog 20:=mB Tryz.func20
instance:QZ Tryz.prog 21:=mB Tryz.func21
instance:QZ Tryz.prog 22:=mB Tryz.func22
instance:QZ Tryz.prog 23:=mB Tryz.func23
instance:QZ Tryz.prog 24:=mB Tryz.func24
instance:QZ Tryz.prog 25:=mB Tryz.func25
instance:QZ Tryz.prog 26:=mB Tryz.func26
instance:QZ Tryz.prog 27:=mB Tryz.func27
instance:QZ Tryz.prog 28:=mB Tryz.func28
instance:QZ Tryz.prog 29:=mB Tryz.func29
instance:QZ Tryz.prog 30:=mB Tryz.func30
instance:QZ Tryz.prog 31:=mB Tryz.func31
instance:QZ Tryz.prog 32:=mB Tryz.func32
instance:QZ Tryz.prog 33:=mB Tryz.func33
instance:QZ Tryz.prog 34:=mB Tryz.func34
instance:QZ Tryz.prog 35:=mB Tryz.func35
instance:QZ Tryz.prog 36:=mB Tryz.func36
instance:QZ Tryz.prog 37:=mB Tryz.func37
instance:QZ Tryz.prog 38:=mB Tryz.func38
instance:QZ Tryz.prog 39:=mB Tryz.func39
instance:QZ Tryz.prog 40:=mB Tryz.func40
instance:QZ Tryz.prog 41:=mB Tryz.func41
instance:QZ Tryz.prog 42:=mB Tryz.func42
instance:QZ Tryz.prog 43:=mB Tryz.func43
instance:QZ Tryz.prog 44:=mB Tryz.func44
instance:QZ Tryz.prog 45:=mB Tryz.func45
instance:QZ Tryz.prog 46:=mB Tryz.func46
instance:QZ Tryz.prog 47:=mB Tryz.func47
instance:QZ Tryz.prog 48:=mB Tryz.func48
instance:QZ Tryz.prog 49:=mB Tryz.func49
instance:QZ Tryz.prog 50:=mB Tryz.func50
instance:QZ Tryz.prog 51:=mB Tryz.func51
instance:QZ Tryz.prog 52:=mB Tryz.func52
instance:QZ Tryz.prog 53:=mB Tryz.func53
instance:QZ Tryz.prog 54:=mB Tryz.func54
instance:QZ Tryz.prog 55:=mB Tryz.func55
instance:QZ Tryz.prog 56:=mB Tryz.func56
instance:QZ Tryz.prog 57:=mB Tryz.func57
instance:QZ Tryz.prog 58:=mB Tryz.func58
instance:QZ Tryz.prog 59:=mB Tryz.func59
instance:QZ Tryz.prog 60:=mB Tryz.func60
instance:QZ Tryz.prog 61:=mB Tryz.func61
instance:QZ Tryz.prog 62:=mB Tryz.func62
instance:QZ Tryz.prog 63:=mB Tryz.func63
instance:QZ Tryz.prog 64:=mB Tryz.func64
instance:QZ Tryz.prog 65:=mB Tryz.func65
instance:QZ Tryz.prog 66:=mB Tryz.func66
instance:QZ Tryz.prog 67:=mB Tryz.func67
instance:QZ Tryz.prog 68:=mB Tryz.func68
instance:QZ Tryz.prog 69:=mB Tryz.func69
instance:QZ Tryz.prog 70:=mB Tryz.func70
instance:QZ Tryz.prog 71:=mB Tryz.func71
instance:QZ Tryz.prog 72:=mB Tryz.func72
instance:QZ Tryz.prog 73:=mB Tryz.func73
instance:QZ Tryz.prog 74:=mB Tryz.func74
instance:QZ Tryz.prog 75:=mB Tryz.func75
instance:QZ Tryz.prog 76:=mB Tryz.func76
instance:QZ Tryz.prog 77:=mB Tryz.func77
instance:QZ Tryz.prog 78:=mB Tryz.func78
instance:QZ Tryz.prog 79:=mB Tryz.func79
instance:QZ Tryz.prog 80:=mB Tryz.func80
instance:QZ Tryz.prog 81:=mB Tryz.func81
instance:QZ Tryz.prog 82:=mB Tryz.func82
instance:QZ Tryz.prog 83:=mB Tryz.func83
instance:QZ Tryz.prog 84:=mB Tryz.func84
instance:QZ Tryz.prog 85:=mB Tryz.func85
instance:QZ Tryz.prog 86:=mB Tryz.func86
instance:QZ Tryz.prog 87:=mB Tryz.func87
instance:QZ Tryz.prog 88:=mB Tryz.func88
instance:QZ Tryz.prog 89:=mB Tryz.func89
instance:QZ Tryz.prog 90:=mB Tryz.func90
instance:QZ Tryz.prog 91:=mB Tryz.func91
instance:QZ Tryz.prog 92:=mB Tryz.func92
instance:QZ Tryz.prog 93:=mB Tryz.func93
instance:QZ Tryz.prog 94:=mB Tryz.func94
instance:QZ Tryz.prog 95:=mB Tryz.func95
instance:QZ Tryz.prog 96:=mB Tryz.func96
instance:QZ Tryz.prog 97:=mB Tryz.func97
instance:QZ Tryz.prog 98:=mB Tryz.func98
instance:QZ Tryz.prog 99:=mB Tryz.func99
instance:QZ Tryz.prog 100:=mB Tryz.func100
instance:QZ Tryz.prog 101:=mB Tryz.func101
instance:QZ Tryz.prog 102:=mB Tryz.func102
instance:QZ Tryz.prog 103:=mB Tryz.func103
instance:QZ Tryz.prog 104:=mB Tryz.func104
instance:QZ Tryz.prog 105:=mB Tryz.func105
instance:QZ Tryz.prog 106:=mB Tryz.func106
instance:QZ Tryz.prog 107:=mB Tryz.func107
instance:QZ Tryz.prog 108:=mB Tryz.func108
instance:QZ Tryz.prog 109:=mB Tryz.func109
instance:QZ Tryz.prog 110:=mB Tryz.func110
instance:QZ Tryz.prog 111:=mB Tryz.func111
instance:QZ Tryz.prog 112:=mB Tryz.func112
instance:QZ Tryz.prog 113:=mB Tryz.func113
instance:QZ Tryz.prog 114:=mB Tryz.func114
instance:QZ Tryz.prog 117:=mB Tryz.func117
instance:QZ Tryz.prog 118:=mB Tryz.func118
instance:QZ Tryz.prog 119:=mB Tryz.func119
instance:QZ Tryz.prog 121:=mB Tryz.func121
instance:QZ Tryz.prog 122:=mB Tryz.func122
instance:QZ Tryz.prog 123:=mB Tryz.func123
instance:QZ Tryz.prog 124:=mB Tryz.func124
instance:QZ Tryz.prog 125:=mB Tryz.func125
instance:QZ Tryz.prog 126:=mB Tryz.func126
instance:QZ Tryz.prog 127:=mB Tryz.func127
instance:QZ Tryz.prog 128:=mB Tryz.func128
instance:QZ Tryz.prog 129:=mB Tryz.func129
instance:QZ Tryz.prog 130:=mB Tryz.func130
instance:QZ Tryz.prog 131:=mB Tryz.func131
instance:QZ Tryz.prog 132:=mB Tryz.func132
instance:QZ Tryz.prog 133:=mB Tryz.func133
instance:QZ Tryz.prog 134:=mB Tryz.func134
instance:QZ Tryz.prog 135:=mB Tryz.func135
instance:QZ Tryz.prog 136:=mB Tryz.func136
instance:QZ Tryz.prog 137:=mB Tryz.func137
instance:QZ Tryz.prog 138:=mB Tryz.func138
instance:QZ Tryz.prog 139:=mB Tryz.func139
instance:QZ Tryz.prog 140:=mB Tryz.func140
instance:QZ Tryz.prog 141:=mB Tryz.func141
instance:QZ Tryz.prog 142:=mB Tryz.func142
instance:QZ Tryz.prog 143:=mB Tryz.func143
instance:QZ Tryz.prog 144:=mB Tryz.func144
instance:QZ Tryz.prog 145:=mB Tryz.func145
instance:QZ Tryz.prog 146:=mB Tryz.func146
instance:QZ Tryz.prog 147:=mB Tryz.func147
instance:QZ Tryz.prog 148:=mB Tryz.func148
instance:QZ Tryz.prog 149:=mB Tryz.func149
instance:QZ Tryz.prog 150:=mB Tryz.func150
instance:QZ Tryz.prog 151:=mB Tryz.func151
instance:QZ Tryz.prog 152:=mB Tryz.func152
instance:QZ Tryz.prog 153:=mB Tryz.func153
instance:QZ Tryz.prog 154:=mB Tryz.func154
instance:QZ Tryz.prog 155:=mB Tryz.func155
instance:QZ Tryz.prog 156:=mB Tryz.func156
instance:QZ Tryz.prog 157:=mB Tryz.func157
instance:QZ Tryz.prog 158:=mB Tryz.func158
instance:QZ Tryz.prog 159:=mB Tryz.func159
instance:QZ Tryz.prog 160:=mB Tryz.func160
instance:QZ Tryz.prog 161:=mB Tryz.func161
instance:QZ Tryz.prog 162:=mB Tryz.func162
instance:QZ Tryz.prog 163:=mB Tryz.func163
instance:QZ Tryz.prog 164:=mB Tryz.func164
instance:QZ Tryz.prog 165:=mB Tryz.func165
instance:QZ Tryz.prog 166:=mB Tryz.func166
instance:QZ Tryz.prog 167:=mB Tryz.func167
instance:QZ Tryz.prog 168:=mB Tryz.func168
instance:QZ Tryz.prog 169:=mB Tryz.func169
instance:QZ Tryz.prog 170:=mB Tryz.func170
instance:QZ Tryz.prog 171:=mB Tryz.func171
instance:QZ Tryz.prog 172:=mB Tryz.func172
instance:QZ Tryz.prog 173:=mB Tryz.func173
instance:QZ Tryz.prog 174:=mB Tryz.func174
instance:QZ Tryz.prog 175:=mB Tryz.func175
instance:QZ Tryz.prog 176:=mB Tryz.func176
instance:QZ Tryz.prog 177:=mB Tryz.func177
instance:QZ Tryz.prog 178:=mB Tryz.func178
instance:QZ Tryz.prog 179:=mB Tryz.func179
instance:QZ Tryz.prog 180:=mB Tryz.func180
instance:QZ Tryz.prog 181:=mB Tryz.func181
instance:QZ Tryz.prog 182:=mB Tryz.func182
instance:QZ Tryz.prog 183:=mB Tryz.func183
instance:QZ Tryz.prog 186:=mB Tryz.func186
instance:QZ Tryz.prog 187:=mB Tryz.func187
instance:QZ Tryz.prog 197:=mB Tryz.func197
instance:QZ Tryz.prog 198:=mB Tryz.func198
instance:QZ Tryz.prog 199:=mB Tryz.func199
instance:QZ Tryz.prog 200:=mB Tryz.func200
instance:QZ Tryz.prog 201:=mB Tryz.func201
instance:QZ Tryz.prog 202:=mB Tryz.func202
instance:QZ Tryz.prog 203:=mB Tryz.func203
instance:QZ Tryz.prog 204:=mB Tryz.func204
instance:QZ Tryz.prog 205:=mB Tryz.func205
instance:QZ Tryz.prog 206:=mB Tryz.func206
instance:QZ Tryz.prog 207:=mB Tryz.func207
instance:QZ Tryz.prog 208:=mB Tryz.func208
instance:QZ Tryz.prog 209:=mB Tryz.func209
instance:QZ Tryz.prog 210:=mB Tryz.func210
instance:QZ Tryz.prog 211:=mB Tryz.func211
instance:QZ Tryz.prog 212:=mB Tryz.func212
instance:QZ Tryz.prog 213:=mB Tryz.func213
instance:QZ Tryz.prog 214:=mB Tryz.func214
instance:QZ Tryz.prog 215:=mB Tryz.func215
instance:QZ Tryz.prog 216:=mB Tryz.func216
instance:QZ Tryz.prog 217:=mB Tryz.func217
instance:QZ Tryz.prog 218:=mB Tryz.func218
instance:QZ Tryz.prog 219:=mB Tryz.func219
instance:QZ Tryz.prog 220:=mB Tryz.func220
instance:QZ Tryz.prog 221:=mB Tryz.func221
instance:QZ Tryz.prog 222:=mB Tryz.func222
instance:QZ Tryz.prog 223:=mB Tryz.func223
instance:QZ Tryz.prog 226:=mB Tryz.func226
instance:QZ Tryz.prog 227:=mB Tryz.func227
instance:QZ Tryz.prog 228:=mB Tryz.func228
instance:QZ Tryz.prog 229:=mB Tryz.func229
instance:QZ Tryz.prog 230:=mB Tryz.func230
instance:QZ Tryz.prog 231:=mB Tryz.func231
instance:QZ Tryz.prog 232:=mB Tryz.func232
instance:QZ Tryz.prog 233:=mB Tryz.func233
instance:QZ Tryz.prog 234:=mB Tryz.func234
instance:QZ Tryz.prog 235:=mB Tryz.func235
instance:QZ Tryz.prog 236:=mB Tryz.func236
instance:QZ Tryz.prog 237:=mB Tryz.func237
instance:QZ Tryz.prog 238:=mB Tryz.func238
instance:QZ Tryz.prog 244:=mB Tryz.func244
instance:QZ Tryz.prog 245:=mB Tryz.func245
instance:QZ Tryz.prog 246:=mB Tryz.func246
instance:QZ Tryz.prog 247:=mB Tryz.func247
instance:QZ Tryz.prog 248:=mB Tryz.func248
instance:QZ Tryz.prog 249:=mB Tryz.func249
instance:QZ Tryz.prog 250:=mB Tryz.func250
instance:QZ Tryz.prog 252:=mB Tryz.func252
instance:QZ Tryz.prog 253:=mB Tryz.func253
instance:QZ Tryz.prog 254:=mB Tryz.func254
instance:QZ Tryz.prog 255:=mB Tryz.func255
instance:QZ Tryz.prog 256:=mB Tryz.func256
instance:QZ Tryz.prog 258:=mB Tryz.func258
instance:QZ Tryz.prog 260:=mB Tryz.func260
instance:QZ Tryz.prog 262:=mB Tryz.func262
theorem mixed:Tryz.prog.follows .mixedOrders=true:=by kernel_rfl
end Go.Proofs.YtmjdnljneifpcaaGreatDoor
set_option linter.unusedSimpArgs false
set_option linter.unusedSectionVars false
namespace Go.SL
theorem Kk {a:Nat} (h:a < 18446744073709551616):IntKind.u64.wrap (a:Int)=a:=by
 simp[IntKind.wrap,IntKind.bits,IntKind.signed];omega
theorem Ag {a:Nat} (h:a < 9223372036854775808):IntKind.i64.wrap (a:Int)=a:=by
 simp[IntKind.wrap,IntKind.bits,IntKind.signed];omega
theorem Br {a:Nat}:BitVec.ofInt 64 (a:Int)=BitVec.ofNat 64 a:=by
 apply BitVec.eq_of_toNat_eq;simp[BitVec.toNat_ofInt]
theorem MX {a b:Nat} (ha:a < 18446744073709551616) (hb:b < 18446744073709551616):ZO .and .u64 a b=((a &&& b:Nat):Int):=by
 show IntKind.u64.wrap (((BitVec.ofInt 64 (a:Int)) &&& (BitVec.ofInt 64 (b:Int))).toNat:Int)=_;have hl:a &&& b < 18446744073709551616:=Nat.lt_of_le_of_lt Nat.and_le_left ha;rw[Br,Br,BitVec.toNat_and,BitVec.toNat_ofNat,BitVec.toNat_ofNat,Nat.mod_eq_of_lt ha,Nat.mod_eq_of_lt hb,Kk hl]
theorem eB {a b:Nat} (ha:a < 18446744073709551616) (hb:b < 18446744073709551616):ZO .or .u64 a b=((a ||| b:Nat):Int):=by
 show IntKind.u64.wrap (((BitVec.ofInt 64 (a:Int)) ||| (BitVec.ofInt 64 (b:Int))).toNat:Int)=_;have hl:a ||| b < 18446744073709551616:=Nat.or_lt_two_pow (n:=64) ha hb;rw[Br,Br,BitVec.toNat_or,BitVec.toNat_ofNat,BitVec.toNat_ofNat,Nat.mod_eq_of_lt ha,Nat.mod_eq_of_lt hb,Kk hl]
theorem eC {a b:Nat} (ha:a < 18446744073709551616) (hb:b < 18446744073709551616):ZO .xor .u64 a b=((a ^^^ b:Nat):Int):=by
 show IntKind.u64.wrap (((BitVec.ofInt 64 (a:Int)) ^^^ (BitVec.ofInt 64 (b:Int))).toNat:Int)=_;have hl:a ^^^ b < 18446744073709551616:=Nat.xor_lt_two_pow (n:=64) ha hb;rw[Br,Br,BitVec.toNat_xor,BitVec.toNat_ofNat,BitVec.toNat_ofNat,Nat.mod_eq_of_lt ha,Nat.mod_eq_of_lt hb,Kk hl]
theorem nc {a b:Nat} (ha:a < 18446744073709551616) (hb:b < 18446744073709551616):ZO .andNot .u64 a b=((a &&& (18446744073709551615 - b):Nat):Int):=by
 show IntKind.u64.wrap (((BitVec.ofInt 64 (a:Int)) &&& ~~~(BitVec.ofInt 64 (b:Int))).toNat:Int)=_;have hl:a &&& (18446744073709551615 - b) < 18446744073709551616:=Nat.lt_of_le_of_lt Nat.and_le_left ha;rw[Br,Br,BitVec.toNat_and,BitVec.toNat_not,BitVec.toNat_ofNat,BitVec.toNat_ofNat,Nat.mod_eq_of_lt ha,Nat.mod_eq_of_lt hb];exact Kk hl
theorem Pj {a b:Nat} (hb:b < 64):Wg .u64 a b=((a*2 ^ b % 18446744073709551616:Nat):Int):=by
 unfold Wg;have hm:min (b:Int).toNat IntKind.u64.bits=b:=by simp[IntKind.bits];omega
 rw[hm];have:((a:Int)*2 ^ b)=((a*2 ^ b:Nat):Int):=by simp
 rw[this];generalize a*2 ^ b=x;simp[IntKind.wrap,IntKind.bits,IntKind.signed]
theorem Hm {k:IntKind} {a b:Nat} (hb:b < 64) (hk:IntKind.bits k=64):Rv k a b=((a / 2 ^ b:Nat):Int):=by
 unfold Rv;have hm:min (b:Int).toNat (IntKind.bits k)=b:=by rw[hk];simp;omega
 rw[hm,Int.fdiv_eq_ediv_of_nonneg _ (by exact_mod_cast Nat.zero_le _)];simp
def Zh (a wd:Nat):Nat:=(2 ^ wd - 1)*2 ^ a
theorem Hn {a wd:Nat} (h:a+wd≤64):Zh a wd < 18446744073709551616:=by
 unfold Zh;have h1:(2 ^ wd - 1)*2 ^ a < 2 ^ wd*2 ^ a:=(Nat.mul_lt_mul_right (Nat.two_pow_pos a)).2 (Nat.sub_lt (Nat.two_pow_pos wd) (by decide));rw[← Nat.pow_add] at h1;have h2:2 ^ (wd+a)≤2 ^ 64:=Nat.pow_le_pow_right (by decide) (by omega);exact Nat.lt_of_lt_of_le h1 h2
theorem eD {a wd i:Nat}:(Zh a wd).testBit i=(decide (a≤i) && decide (i < a+wd)):=by
 unfold Zh;rw[← Nat.shiftLeft_eq,Nat.testBit_shiftLeft,Nat.testBit_two_pow_sub_one];by_cases h:a≤i
 ·simp[h];omega
 ·simp[h]
theorem eE {w a wd:Nat}:w &&& Zh a wd=(w / 2 ^ a % 2 ^ wd)*2 ^ a:=by
 apply Nat.eq_of_testBit_eq;intro i;rw[Nat.testBit_and,eD,← Nat.shiftLeft_eq,Nat.testBit_shiftLeft,Nat.testBit_mod_two_pow,Nat.testBit_div_two_pow];by_cases h:a≤i
 ·simp only[h,decide_true,Bool.true_and,ge_iff_le];rw[show i - a+a=i by omega,Bool.and_comm];congr 1;exact decide_eq_decide.2 (by omega)
 ·simp[h]
theorem nf {w a wd:Nat}:(w &&& Zh a wd) / 2 ^ a=w / 2 ^ a % 2 ^ wd:=by
 rw[eE,Nat.mul_div_cancel _ (Nat.two_pow_pos a)]
theorem ng {w a wd:Nat} (hw:w < 2 ^ a) (h:a+wd≤64):w &&& (18446744073709551615 - Zh a wd)=w:=by
 apply Nat.eq_of_testBit_eq;intro i;have hm:=Hn h;have e:18446744073709551615 - Zh a wd=2 ^ 64 - (Zh a wd+1):=by omega
 rw[Nat.testBit_and,e,Nat.testBit_two_pow_sub_succ hm,eD];by_cases hi:a≤i
 ·have:w.testBit i=false:=Nat.testBit_lt_two_pow (Nat.lt_of_lt_of_le hw (Nat.pow_le_pow_right (by decide) hi));simp[this]
 ·by_cases Y0:i < 64
  ·simp[hi,Y0]
  ·omega
theorem eF {w a x:Nat} (hw:w < 2 ^ a):w ||| x*2 ^ a=w+x*2 ^ a:=by
 have:=Nat.shiftLeft_add_eq_or_of_lt hw x;rw[Nat.shiftLeft_eq] at this;rw[Nat.or_comm,← this,Nat.add_comm]
open List
theorem QY.of_get {c:List Value}:∀ {vs:List Value} {o:Nat},(∀ j v,vs[j]? = some v→c[o+j]? = some v)→QY c o vs.length vs
 | [],o,_ => .nil o
 | v::vs,o,h => .cons (by simpa using h 0 v rfl) (QY.of_get fun j u hj=>by
  have:=h (j+1) u (by simpa using hj);rw[show o+1+j=o+(j+1) by omega];exact this)
theorem QY.part {c cs es:List Value} {o n i:Nat} (h:QY c o n cs) (he:∀ j v,es[j]? = some v→cs[i+j]? = some v):QY c (o+i) es.length es:=
 QY.of_get fun j v hj=>by
  have:=h.get (i+j) v (he j v hj);rw[Nat.add_assoc];exact this
theorem MK:∀ (vs:List Value) (c:List Value) (o:Nat),o+vs.length≤c.length→wr c o vs=c.take o++vs++c.drop (o+vs.length)
 | [],c,o,h=>by simp[wr]
 | v::vs,c,o,h=>by
  rw[length_cons] at h;have ih:=MK vs (c.set o v) (o+1) (by simp;omega);show wr (c.set o v) (o+1) vs=_;rw[ih]
  have h1:(c.set o v).take (o+1)=c.take o++[v]:=by
   rw[take_add_one,take_set_of_le (Nat.le_refl _)];simp[getElem?_set,show o < c.length by omega]
  have h2:(c.set o v).drop (o+1+vs.length)=c.drop (o+(v::vs).length):=by
   rw[drop_set_of_lt (by omega)];simp[Nat.add_assoc,Nat.add_comm,Nat.add_left_comm]
  rw[h1,h2];simp
def Ya (l:List Q2) (v:Value) (m k:Nat) (cs:List Value):Prop:=
 cs.length=m*k∧∃ ad cap,v = .slice ad m cap∧(m=0∨∃ b o E fz c,ad=some ⟨b,o,none⟩∧At b (.cells (List.toArray c) E fz) l∧QY c o (m*k) cs)
theorem Ya.there {A:Q2} {l:List Q2} {v:Value} {m k:Nat} {cs:List Value} (h:Ya l v m k cs):Ya (A::l) v m k cs:=by
 obtain⟨h0,ad,cap,rfl,h⟩:=h;refine⟨h0,ad,cap,rfl,?_⟩
 rcases h with h|⟨b,o,E,fz,c,h1,h2,h3⟩
 ·exact .inl h
 ·exact .inr ⟨b,o,E,fz,c,h1,At.there (i:=h2),h3⟩
section
variable {P:Program} {n:Nat} {r:Option Nat} {ops:Array Oper} {Q:Z5} {ms:List Nat} {σ:QC} {w:World} {rest:List Oper} {o:Oper} {K:QC→World→Prop} {l l':List Q2}
variable {u t s:TypeId} {p:String} {af:Array Edge} {g:Option (Nat×Bool)} {d:Option Tmp} {x y z:Operand}
theorem sls_rd [Q4] {E k m:Nat} {v:Value} {cs:List Value} (H:Q0 w (QE E k v cs::l)) (hm:cs.length=m*k) (k0:0 < k) :
  ∃ D,Q0 w (D::l)∧(∀ l',Ya (D::l') v m k cs)∧∀ w' l',Q0 w' (D::l')→Q0 w' (QE E k v cs::l'):=by
 rcases XB H with ⟨rfl,rfl,H'⟩|⟨b,len,cap,spare,rfl,e3,e4,e5,H'⟩
 ·have m0:m=0:=by
   rcases Nat.mul_eq_zero.1 (show m*k=0 from hm.symm) with h|h
   ·exact h
   ·omega
  subst m0;exact⟨_,H,fun l'=>⟨hm,none,0,rfl,.inl rfl⟩,fun _ _ h=>h⟩
 ·have e:len=m:=Nat.eq_of_mul_eq_mul_right k0 (e3.symm.trans hm);subst e;refine⟨_,H',fun l'=>⟨hm,_,cap,rfl,.inr ⟨b,0,E,(0,0),cs++spare,rfl,At.here,?_⟩⟩,fun w' l' h=>GI e3 e4 e5 h⟩;rw[← hm];refine QY.of_get fun j v hj=>?_;rw[Nat.zero_add,getElem?_append_left (List.getElem?_eq_some_iff.1 hj).1];exact hj
theorem Pk {e size bytes len cap c2:Nat} {a a2:Option Addr} (hT:Vv P t e size bytes) (ty:TypeId) (h:len≤cap):(Builtin.append_ #[t,t] ty #[.slice a len cap,.slice a2 0 c2]).run P w = .ok (.slice a len cap) w:=by
 obtain⟨i,hi,e2⟩:=Option.map_eq_some_iff.1 hT.info;simp only[Prod.mk.injEq] at e2;have hs:(sizeOf e).run P w = .ok size w:=Ur (by rw[hi];simp[e2.1])
 have hf:(Builtin.firstCells size 0 (.slice a2 0 c2)).run P w = .ok #[] w:=by
  cases a2 with
  | none=>rfl
  | some a2=>
   have:=run_loadCells_list (P:=P) (w:=w) a2 [] (by simp);simpa [Builtin.firstCells] using this
 have nh:∀ a',(storeCells a' []).run P w = .ok () w:=fun a'=>by rw[storeCells.eq_def];rfl
 cases a with
 | none=>simp[Builtin.append_,YP hT.und,hs,Builtin.lenOf,h,hf]
 | some a=>simp[Builtin.append_,YP hT.und,hs,Builtin.lenOf,h,hf,nh]
theorem Pm [Q4] {e size bytes:Nat} {zv v2:Value} [hT:Vv P t e size bytes] [hz:VF P e zv] {s:Value} {cs new:List Value} {m:Nat} (H:Q0 w (QE e size s cs::l))
  (hx:ev σ x=s) (hy:ev σ y=v2) (hr:Ya l v2 m size new) (h1:new.all (·.oneCell')=true)
  (hb:(cs.length+new.length)*bytes≤140737488355328) (hd:Qs n d=true) (hq:(decide ((VK zv).length=size) && decide (0 < size) && decide (0 < bytes))=true)
  (k:∀ v' w',Q0 w' (QE e size v' (cs++new)::l)→K (put σ d v') w'):St P n r ⟨d,.call { callee := .builtin .append,args:=#[x,y],argTypes:=#[t,t] },u,p,af,g⟩ σ w K:=by
 obtain⟨h0,ad,cap,rfl,h⟩:=hr
 rcases Nat.eq_zero_or_pos m with rfl|hm
 ·have hn:new=[]:=eq_nil_of_length_eq_zero (by omega);subst hn;have H2:=H;rw[← append_nil cs] at H
  rcases XB H2 with ⟨rfl,_,_⟩|⟨b,len,cap',spare,rfl,_,e4,_,_⟩
  ·refine VP (v := .slice none 0 0) (w':=w) hd (fun c e=>by cases e) ?_ (k _ _ H);simp[execOp,resolve,invoke,builtin,hx,hy,Pk (w:=w) hT u (Nat.le_refl 0)]
  ·refine VP (v := .slice (some ⟨b,0,none⟩) len cap') (w':=w) hd (fun c e=>by cases e) ?_ (k _ _ H);simp[execOp,resolve,invoke,builtin,hx,hy,Pk (w:=w) hT u e4.1]
 ·rcases h with rfl|⟨b,o2,E,fz,c,rfl,hA,Qu⟩
  ·omega
  ·haveI:=hA;exact ZU H hx hy Qu h1 hm hb hd hq k
theorem ni [Q4] {e size bytes:Nat} (H:Q0 w l) [hT:Vv P t e size bytes] (hd:Qs n d=true)
  (k:∀ b w',Q0 w' (QE e size (.slice (some ⟨b,0,none⟩) 0 0) []::l)→K (put σ d (.slice (some ⟨b,0,none⟩) 0 0)) w'):St P n r ⟨d,.buildSlice t 0 #[],u,p,af,g⟩ σ w K:=by
 obtain⟨i,hi,e2⟩:=Option.map_eq_some_iff.1 hT.info;simp only[Prod.mk.injEq] at e2;have hs:(sizeOf e).run P w = .ok size w:=Ur (by rw[hi];simp[e2.1]);have hn:=H.new (row e []);refine VP (v := .slice (some ⟨w.heap.size,0,none⟩) 0 0) (w':=w.alloc (.cells #[] e)) hd (fun c e=>by cases e) ?_ (k _ _ (RN (by simp) hn));have e0:(Array.range 0).map (fun _:Nat=>(default:Value))=#[]:=by apply Array.ext <;> simp
 simp[execOp,Instr.buildSlice,YP hT.und,hs,Instr.fill,newRow,e0]
theorem nj (z:Value) (k:Nat):(Builtin.zeroCells z.cells k).toList=Yl (VK z) k:=by
 have:=MY (VK z) k;unfold Builtin.zeroCells;rw[AO];have e:(VK z).toArray.size=(VK z).length:=by simp
 rw[e];rw[show (VK z).length=(VK z).toArray.size by simp] at this;rw[e] at this;rw[this]
theorem nk [Q4] {e size bytes b o2 m cap E:Nat} {zv:Value} {c:List Value} [hT:Vv P t e size bytes] [hz:VF P e zv] (H:Q0 w (pts b (row E c)::l)) (hx:ev σ x = .slice (some ⟨b,o2,none⟩) m cap) (hm:0 < m)
  (hl:o2+(Yl (VK zv) m).length≤c.length) (h1:(VK zv).all (·.oneCell')=true) (hd:Qs n d=true)
  (k:∀ w',Q0 w' (pts b (row E (wr c o2 (Yl (VK zv) m)))::l)→K (put σ d (.tuple #[])) w'):St P n r ⟨d,.call { callee := .builtin .clear,args:=#[x],argTypes:=#[t] },u,p,af,g⟩ σ w K:=by
 obtain⟨i',Ub,UX⟩:=Option.map_eq_some_iff.1 hz.zero;have nl:(zeroValue e).run P w = .ok zv w:=by simp[zeroValue,typeInfo,Ub,UX]
 have Ea:∀ v∈Yl (VK zv) m,v.oneCell'=true:=by
  have:∀ m,∀ v∈Yl (VK zv) m,v.oneCell'=true:=by
   intro m
   induction m with
   | zero=>intro v hv;simp[Yl] at hv
   | succ m ih=>
    intro v hv;simp only[Yl,mem_append] at hv
    rcases hv with hv|hv
    ·exact all_eq_true.1 h1 v hv
    ·exact ih v hv
  exact this m
 obtain⟨w',hr,h2,h3,h4⟩:=HL (P:=P) (Yl (VK zv) m) w b o2 E c 0 H.pts (by omega) Ea;have H':=H.set (o':=row E (wr c (o2+0) (Yl (VK zv) m))) h2 h3 h4;refine VP (v := .tuple #[]) (w':=w') hd (fun c e=>by cases e) ?_ (k w' H');obtain⟨m',rfl⟩:∃ m',m=m'+1:=⟨m - 1,by omega⟩;simp[execOp,resolve,invoke,builtin,hx,Builtin.clear_,YP hT.und,nl,nj,hr]
end
end Go.SL
namespace Go.SL
section
variable {P:Program} {n:Nat} {r:Option Nat} {σ:QC} {w:World} {K:QC→World→Prop} {l:List Q2}
variable {u t:TypeId} {p:String} {af:Array Edge} {g:Option (Nat×Bool)} {d:Option Tmp} {x y:Operand}
theorem V8 [Q4] {E k:Nat} {v:Value} {c:List Value} (H:Q0 w (QE E k v c::l)):∃ a m cap,v = .slice a m cap:=by
 rcases XB H with ⟨rfl,_,_⟩|⟨b,len,cap,spare,rfl,_⟩
 ·exact⟨none,0,0,rfl⟩
 ·exact⟨_,_,_,rfl⟩
theorem nm (a:Addr):a.add 0=a:=by simp[Addr.add]
theorem np {e size bytes len cap:Nat} {ad:Option Addr} {q:IntKind} {i:Int} [hT:Vv P t e size bytes] (hx:ev σ x = .slice ad len cap) (hy:ev σ y = .int q i) (h0:0≤i) (h1:i≤cap) (hd:Qs n d=true)
  (k:K (put σ d (.slice ad i.toNat cap)) w):St P n r ⟨d,.slice t x none (some y) none,u,p,af,g⟩ σ w K:=by
 have hs:(sizeOf e).run P w = .ok size w:=by
  obtain⟨k,hk,e2⟩:=Option.map_eq_some_iff.1 hT.info;simp only[Prod.mk.injEq] at e2;exact Ur (by rw[hk];simp[e2.1])
 refine VP (v := .slice ad i.toNat cap) (w':=w) hd (fun c e=>by cases e) ?_ k;cases ad with
 | none=>simp[execOp,hx,hy,Instr.sliceAt,Instr.slice,YP hT.und,Instr.sliceBounds,Instr.sliceBound,asIntOf,h0,h1,hs]
 | some a=>simp[execOp,hx,hy,Instr.sliceAt,Instr.slice,YP hT.und,Instr.sliceBounds,Instr.sliceBound,asIntOf,h0,h1,hs,nm]
end
end Go.SL
namespace Go.Proofs
open Go.Shelf
def Tryz.laysLen_ren : Go.Shelf.Ren := ⟨fun | 129 => 197 | n => n, fun | 53 => 83 | 3 => 3 | 4 => 4 | 46 => 164 | 5 => 5 | 9 => 9 | n => n, fun | n => n⟩
theorem Tryz.laysLen : Go.Proofs.Lays.n129 Tryz.prog Tryz.laysLen_ren := {
  mixed := by kernel_rfl
  f129 := Tryz.func197.trans (congrArg some (by kernel_rfl))
  t3 := Tryz.underlying3
  a3 := Tryz.isAgg3
  z3 := Tryz.sizeOf3
  v3 := Tryz.zeroValue3
  t4 := Tryz.underlying4
  a4 := Tryz.isAgg4
  z4 := Tryz.sizeOf4
  v4 := Tryz.zeroValue4
  t5 := Tryz.underlying5
  a5 := Tryz.isAgg5
  z5 := Tryz.sizeOf5
  v5 := Tryz.zeroValue5
  t9 := Tryz.underlying9
  a9 := Tryz.isAgg9
  z9 := Tryz.sizeOf9
  v9 := Tryz.zeroValue9
  t46 := Tryz.underlying164
  a46 := Tryz.isAgg164
  z46 := Tryz.sizeOf164
  v46 := Tryz.zeroValue164
  t53 := Tryz.underlying83
  a53 := Tryz.isAgg83
  z53 := Tryz.sizeOf83
  v53 := Tryz.zeroValue83 }
def Tryz.laysTz_ren : Go.Shelf.Ren := ⟨fun | 29 => 219 | n => n, fun | 22 => 83 | 3 => 3 | 4 => 4 | 25 => 164 | 54 => 329 | 0 => 0 | 5 => 5 | n => n, fun | 1 => 0 | n => n⟩
theorem Tryz.laysTz : Go.Proofs.Lays7.n29 Tryz.prog Tryz.laysTz_ren := {
  mixed := by kernel_rfl
  f29 := Tryz.func219.trans (congrArg some (by kernel_rfl))
  t0 := Tryz.underlying0
  a0 := Tryz.isAgg0
  z0 := Tryz.sizeOf0
  v0 := Tryz.zeroValue0
  i0 := by kernel_rfl
  t3 := Tryz.underlying3
  a3 := Tryz.isAgg3
  z3 := Tryz.sizeOf3
  v3 := Tryz.zeroValue3
  i3 := by kernel_rfl
  t4 := Tryz.underlying4
  a4 := Tryz.isAgg4
  z4 := Tryz.sizeOf4
  v4 := Tryz.zeroValue4
  i4 := by kernel_rfl
  t5 := Tryz.underlying5
  a5 := Tryz.isAgg5
  z5 := Tryz.sizeOf5
  v5 := Tryz.zeroValue5
  i5 := by kernel_rfl
  t22 := Tryz.underlying83
  a22 := Tryz.isAgg83
  z22 := Tryz.sizeOf83
  v22 := Tryz.zeroValue83
  i22 := by kernel_rfl
  t25 := Tryz.underlying164
  a25 := Tryz.isAgg164
  z25 := Tryz.sizeOf164
  v25 := Tryz.zeroValue164
  i25 := by kernel_rfl
  t54 := Tryz.underlying329
  a54 := Tryz.isAgg329
  z54 := Tryz.sizeOf329
  g1 := by kernel_rfl }
end Go.Proofs
namespace Go.SL
open List
inductive SK where
 | i
 | b
def Ho:SK→Value→Bool
 | .i,.int .i64 _=>true
 | .b,.bool _=>true
 | _,_=>false
def U1:List SK→List Value→Bool
 | [],[]=>true
 | k::ks,v::vs=>Ho k v && U1 ks vs
 | _,_=>false
@[reducible] def Pn:Value→Value→Bool
 | .int _ a,.int _ b=>a == b
 | .bool a,.bool b=>a == b
 | _,_=>false
@[reducible] def veq:List Value→List Value→Bool
 | [],[]=>true
 | x::xs,y::ys=>Pn x y && veq xs ys
 | _,_=>false
theorem DQ:∀ {ks:List SK} {vs:List Value},U1 ks vs=true→vs.length=ks.length
 | [],[],_=>rfl
 | [],_::_,h=>by cases h
 | _::_,[],h=>by cases h
 | _::ks,_::vs,h=>by
  simp only[U1,Bool.and_eq_true] at h;simp[DQ h.2]
theorem Po:∀ {ks:List SK} {ks':List SK} {vs:List Value},U1 (ks++ks') vs=true→U1 ks (vs.take ks.length)=true∧U1 ks' (vs.drop ks.length)=true
 | [],ks',vs,h=>by simpa [U1] using h
 | k::ks,ks',[],h=>by cases h
 | k::ks,ks',v::vs,h=>by
  simp only[cons_append,U1,Bool.and_eq_true] at h;have:=Po h.2;simp[U1,h.1,this]
theorem eH:∀ (n:Nat) (xs ys:List Value),n≤xs.length→n≤ys.length→veq xs ys=(veq (xs.take n) (ys.take n) && veq (xs.drop n) (ys.drop n))
 | 0,xs,ys,_,_=>by simp[veq]
 | n+1,[],ys,h,_=>by simp at h
 | n+1,_::_,[],_,h=>by simp at h
 | n+1,x::xs,y::ys,h,h'=>by
  have:=eH n xs ys (by simpa using h) (by simpa using h');simp[veq,this,Bool.and_assoc]
def Eb (P:Program) (t:TypeId) (ks:List SK) (d:Nat):Prop:=
 ∀ k,d≤k→∀ (w:World) (xs ys:List Value),U1 ks xs=true→U1 ks ys=true→(Op.equalIn k t (.agg xs.toArray) (.agg ys.toArray)).run P w = .ok (veq xs ys) w
def nq (P:Program) (t:TypeId):SK→Prop
 | .i=>∃ q,P.underlying t=some (.int q)
 | .b=>P.underlying t=some .bool
inductive UR (P:Program):List Field→Nat→List SK→Nat→Prop where
 | nil {off d:Nat}:UR P [] off [] d
 | one {f:Field} {fs:List Field} {off d:Nat} {k:SK} {ks:List SK} (h1:f.name ≠ "_") (h2:f.offset=off) (h3:T1 P f.type) (h4:nq P f.type k) (h5:1≤d) (h:UR P fs (off+1) ks d):UR P (f::fs) off (k::ks) d
 | agg {f:Field} {fs:List Field} {off d d' n:Nat} {ks ks' kk:List SK} (h1:f.name ≠ "_") (h2:f.offset=off) (h3:TN P f.type n) (h4:Eb P f.type ks d') (h5:d'≤d) (h6:ks.length=n) (h7:kk=ks++ks') (h:UR P fs (off+n) ks' d):UR P (f::fs) off kk d
theorem QY.take' {c:List Value} {o n m:Nat} {l:List Value} (h:QY c o n l) (hm:m≤n):QY c o m (l.take m):=by
 have hl:=h.len;have e:(l.take m).length=m:=by simp;omega
 have:=QY.of_get (c:=c) (vs:=l.take m) (o:=o) fun j v hj=>by
  have:l[j]? = some v:=by
   rw[getElem?_take] at hj;split at hj
   ·exact hj
   ·cases hj
  exact h.get j v this
 rw[e] at this;exact this
theorem QY.drop' {c:List Value} {o n m:Nat} {l:List Value} (h:QY c o n l) (hm:m≤n):QY c (o+m) (n - m) (l.drop m):=by
 have hl:=h.len;have e:(l.drop m).length=n - m:=by simp;omega
 have:=QY.of_get (c:=c) (vs:=l.drop m) (o:=o+m) fun j v hj=>by
  rw[getElem?_drop] at hj;have:=h.get (m+j) v hj;rw[Nat.add_assoc];exact this
 rw[e] at this;exact this
theorem nr {P:Program} {fs:List Field} {off d:Nat} {ks:List SK} (h:UR P fs off ks d):∀ (k:Nat),d≤k→∀ (w:World) (cx cy xs ys:List Value),QY cx off ks.length xs→QY cy off ks.length ys→U1 ks xs=true→U1 ks ys=true →
  (Op.eqFields k cx.toArray cy.toArray fs).run P w = .ok (veq xs ys) w:=by
 induction h with
 | nil=>
  intro k hk w cx cy xs ys hx hy fx fy;have e1:=DQ fx;have e2:=DQ fy;have:xs=[]:=eq_nil_of_length_eq_zero e1;have:ys=[]:=eq_nil_of_length_eq_zero e2;subst xs ys;rfl
 | @one f fs off d q ks h1 h2 h3 h4 h5 h ih=>
  intro k hk w cx cy xs ys hx hy fx fy;cases xs with
  | nil=>cases fx
  | cons x xs=>
  cases ys with
  | nil=>cases fy
  | cons y ys=>
  have gx:=hx.get 0 x rfl;have gy:=hy.get 0 y rfl;rw[Nat.add_zero] at gx gy;have rx:=hx.drop' (m:=1) (by simp);have ry:=hy.drop' (m:=1) (by simp);simp only[length_cons,Nat.add_sub_cancel,drop_succ_cons,drop_zero] at rx ry;simp only[U1,Bool.and_eq_true] at fx fy
  have e1:(Op.equalIn k f.type x y).run P w = .ok (Pn x y) w:=by
   obtain⟨k,rfl⟩:∃ j,k=j+1:=⟨k - 1,by omega⟩;cases q with
   | i=>
    obtain⟨q,hq⟩:=h4
    obtain⟨a,rfl⟩:∃ a,x = .int .i64 a:=by
     have:=fx.1;unfold Ho at this;split at this <;> simp_all
    obtain⟨b,rfl⟩:∃ a,y = .int .i64 a:=by
     have:=fy.1;unfold Ho at this;split at this <;> simp_all
    exact run_equalIn_int w k _ _ _ _ _ hq
   | b=>
    obtain⟨a,rfl⟩:∃ a,x = .bool a:=by
     have:=fx.1;unfold Ho at this;split at this <;> simp_all
    obtain⟨b,rfl⟩:∃ a,y = .bool a:=by
     have:=fy.1;unfold Ho at this;split at this <;> simp_all
    exact run_equalIn_bool w k _ _ _ h4
  have e2:=ih k hk w cx cy xs ys rx ry fx.2 fy.2;simp only[Op.eqFields,h1,ne_eq,not_false_eq_true,if_true,Sem.run_bind,h2,EI h3 gx,EI h3 gy,Result.andThen_ok,e1,veq];cases hs:Pn x y
  ·simp
  ·simp[e2]
 | @agg f fs off d d' n ks ks' kk h1 h2 h3 h4 h5 h6 h7 h ih=>
  subst h7;intro k hk w cx cy xs ys hx hy fx fy;have lx:=DQ fx;have ly:=DQ fy;rw[length_append] at lx ly hx hy;have sx:=Po fx;have sy:=Po fy;rw[h6] at sx sy lx ly hx hy;have px:=dE (w:=w) h3 (hx.take' (m:=n) (by omega));have py:=dE (w:=w) h3 (hy.take' (m:=n) (by omega));have e1:=h4 k (by omega) w _ _ sx.1 sy.1;have rx:=hx.drop' (m:=n) (by omega);have ry:=hy.drop' (m:=n) (by omega);rw[show n+ks'.length - n=ks'.length by omega] at rx ry;have e2:=ih k hk w cx cy _ _ rx ry sx.2 sy.2;rw[eH n xs ys (by omega) (by omega)];simp only[Op.eqFields,h1,ne_eq,not_false_eq_true,if_true,Sem.run_bind,h2,px,py,Result.andThen_ok,e1];cases hs:veq (xs.take n) (ys.take n)
  ·simp
  ·simp[e2]
theorem Pp {P:Program} {t:TypeId} {fs:Array Field} {ks:List SK} {d:Nat} (h1:P.underlying t=some (.struct fs)) (h2:P.stoodInHeld t=false) (h:UR P fs.toList 0 ks d):Eb P t ks (d+1):=by
 intro k hk w xs ys fx fy;obtain⟨k,rfl⟩:∃ j,k=j+1:=⟨k - 1,by omega⟩;have hf:P.fieldsOf t=fs:=by simp[Program.fieldsOf,h1]
 rw[run_equalIn_struct w k t _ _ (by rw[hf];exact h1) h2,hf]
 have whole:∀ (c:List Value),c.length=ks.length→QY c 0 ks.length c:=fun c hc=>by
  rw[← hc];exact QY.of_get fun j v hj=>by rw[Nat.zero_add];exact hj
 exact nr h k (by omega) w xs ys xs ys (whole _ (DQ fx)) (whole _ (DQ fy)) fx fy
class Hq (P:Program) (t:TypeId) (ks:outParam (List SK)):Prop where
 sem:∃ d,d≤10000∧Eb P t ks d
 guard:P.eqGuardType P.depth t=false
section
variable {P:Program} {n:Nat} {r:Option Nat} {ops:Array Oper} {Q:Z5} {ms:List Nat} {σ:QC} {w:World} {rest:List Oper} {o:Oper} {K:QC→World→Prop} {l l':List Q2}
variable {ivs:List (List Nat×(World→Prop))} {T:QC→World→Prop} {f:Nat} {L:Array Bool}
variable {u t s:TypeId} {p:String} {af:Array Edge} {g:Option (Nat×Bool)} {d:Option Tmp} {x y z:Operand} {ks:List SK}
theorem eI (h:Hq P t ks) (op:BinOp) (xs ys:List Value) (X Y:Operand) (ho:op = .eql∨op = .neq) (fx:U1 ks xs=true) (fy:U1 ks ys=true) :
  (do eqGuard op t X Y (.agg xs.toArray) (.agg ys.toArray);binOp op t (.agg xs.toArray) (.agg ys.toArray):Sem Value).run P w = .ok (.bool (if ZC op then veq xs ys else !veq xs ys)) w:=by
 have h0:=run_eqGuard_agg (P:=P) w op t X Y xs.toArray ys.toArray h.guard;obtain⟨d,hd,hs⟩:=h.sem;have h1:=hs 10000 hd w xs ys fx fy;simp only[Sem.run_bind,h0,Result.andThen_ok]
 rcases ho with rfl|rfl
 ·rw[run_eql_struct,h1];rfl
 ·rw[run_neq_struct,h1];rfl
theorem Hr {op:BinOp} {yt:TypeId} {xs ys:List Value} [h:Hq P t ks] (hx:ev σ x = .agg xs.toArray) (hy:ev σ y = .agg ys.toArray) (fx:U1 ks xs=true) (fy:U1 ks ys=true) (ho:op = .eql∨op = .neq) (hd:Qs n d=true)
  (k:K (put σ d (.bool (if ZC op then veq xs ys else !veq xs ys))) w):St P n r ⟨d,.binOp op t x y yt,u,p,af,g⟩ σ w K:=
 VP hd (fun c e=>by cases e) (by simp only[execOp,hx,hy,Sem.run_bind];rw[← Sem.run_bind,eI h op xs ys x y ho fx fy];rfl) k
theorem eJ {op:BinOp} {yt:TypeId} {xs ys:List Value} (j:Nat) (hj:ops[j]? = some ⟨d,.binOp op t x y yt,u,p,af,g⟩) (hg:Q9 ops σ ⟨d,.binOp op t x y yt,u,p,af,g⟩ true) [h:Hq P t ks] (hx:ev σ x = .agg xs.toArray) (hy:ev σ y = .agg ys.toArray) (fx:U1 ks xs=true) (fy:U1 ks ys=true) (ho:op = .eql∨op = .neq)
  (hb:ZB n ops (ivs.map (·.1)) L j []=true) (k:Any P n r ops ivs T f (L.setIfInBounds j true) (put σ d (.bool (if ZC op then veq xs ys else !veq xs ys))) w):Any P n r ops ivs T (f+1) L σ w:=
 KU j hj hg (fun c e=>by cases e) (fun w=>by simp only[execOp,hx,hy,Sem.run_bind];rw[← Sem.run_bind,eI h op xs ys x y ho fx fy];rfl) hb k
theorem ns {o o':Oper} (i j:Nat) (hi:ops[i]? = some o) (hj:ops[j]? = some o') (hr:Region.ready .any ops L=[i,j]) (hI:YR ivs L w) (hg:Q9 ops σ o true) (Wn:Q9 ops σ o' true)
  (h:St P n r o σ w (Any P n r ops ivs T f (L.setIfInBounds i true))) (h':St P n r o' σ w (Any P n r ops ivs T f (L.setIfInBounds j true))):Any P n r ops ivs T (f+1) L σ w:=
 ⟨hI, fun h0 => (by rw [hr] at h0; cases h0), fun k hk => by
  rw[hr] at hk;have:k=i∨k=j:=by simpa using hk
  rcases this with rfl|rfl
  ·exact⟨o,hi,.inl ⟨hg,h⟩⟩
  ·exact⟨o',hj,.inl ⟨Wn,h'⟩⟩⟩
theorem nt {o o' o2:Oper} (i j m:Nat) (hi:ops[i]? = some o) (hj:ops[j]? = some o') (hm:ops[m]? = some o2) (hr:Region.ready .any ops L=[i,j,m]) (hI:YR ivs L w) (hg:Q9 ops σ o true) (Wn:Q9 ops σ o' true) (Hs:Q9 ops σ o2 true)
  (h:St P n r o σ w (Any P n r ops ivs T f (L.setIfInBounds i true))) (h':St P n r o' σ w (Any P n r ops ivs T f (L.setIfInBounds j true))) (h2:St P n r o2 σ w (Any P n r ops ivs T f (L.setIfInBounds m true))):Any P n r ops ivs T (f+1) L σ w:=
 ⟨hI, fun h0 => (by rw [hr] at h0; cases h0), fun k hk => by
  rw[hr] at hk;have:k=i∨k=j∨k=m:=by simpa using hk
  rcases this with rfl|rfl|rfl
  ·exact⟨o,hi,.inl ⟨hg,h⟩⟩
  ·exact⟨o',hj,.inl ⟨Wn,h'⟩⟩
  ·exact⟨o2,hm,.inl ⟨Hs,h2⟩⟩⟩
end
end Go.SL
namespace Go.Proofs.YtmjdnljneifpcaaGreatDoor
open Go.SL
theorem nu:Eb Tryz.prog 69 [.i,.i] 2:=Pp Tryz.underlying69 (by kernel_rfl) (UR.one (by decide) rfl (inferInstance:T1 Tryz.prog 3) ⟨_,Tryz.underlying3⟩ (by decide) (UR.one (by decide) rfl (inferInstance:T1 Tryz.prog 3) ⟨_,Tryz.underlying3⟩ (by decide) UR.nil))
theorem nv:Eb Tryz.prog 71 [.i,.i,.i,.i,.b] 2:=Pp Tryz.underlying71 (by kernel_rfl) (UR.one (by decide) rfl (inferInstance:T1 Tryz.prog 3) ⟨_,Tryz.underlying3⟩ (by decide) (UR.one (by decide) rfl (inferInstance:T1 Tryz.prog 3) ⟨_,Tryz.underlying3⟩ (by decide) (UR.one (by decide) rfl (inferInstance:T1 Tryz.prog 3) ⟨_,Tryz.underlying3⟩ (by decide) (UR.one (by decide) rfl (inferInstance:T1 Tryz.prog 3) ⟨_,Tryz.underlying3⟩ (by decide) (UR.one (by decide) rfl (inferInstance:T1 Tryz.prog 4) Tryz.underlying4 (by decide) UR.nil)))))
instance:Hq Tryz.prog 71 [.i,.i,.i,.i,.b]:=⟨⟨2,by decide,nv⟩,by kernel_rfl⟩
theorem nw:Eb Tryz.prog 88 [.i,.i,.i] 3:=Pp Tryz.underlying88 (by kernel_rfl) (UR.one (by decide) rfl (inferInstance:T1 Tryz.prog 3) ⟨_,Tryz.underlying3⟩ (by decide) (UR.agg (by decide) rfl (inferInstance:TN Tryz.prog 69 2) nu (by decide) rfl rfl UR.nil))
instance:Hq Tryz.prog 88 [.i,.i,.i]:=⟨⟨3,by decide,nw⟩,by kernel_rfl⟩
end Go.Proofs.YtmjdnljneifpcaaGreatDoor
namespace Go.SL
open List
section
variable {P:Program} {n:Nat} {r:Option Nat} {σ:QC} {w:World} {K:QC→World→Prop} {l:List Q2}
variable {u t:TypeId} {p:String} {af:Array Edge} {g:Option (Nat×Bool)} {d:Option Tmp} {x y:Operand}
theorem MR {k q:IntKind} {a b:Int} {ts:Array TypeId} (hx:ev σ x = .int k a) (hy:ev σ y = .int q b) (hd:Qs n d=true) (h:K (put σ d (.int k (if b > a then b else a))) w) :
  St P n r ⟨d,.call { callee := .builtin .max,args:=#[x,y],argTypes:=ts },u,p,af,g⟩ σ w K:=by
 refine VP (v := .int k (if b > a then b else a)) (w':=w) hd (fun c e=>by cases e) ?_ h;simp[execOp,resolve,invoke,builtin,hx,hy,Builtin.max_,Builtin.max2]
theorem DV (z:Value):∀ n,Yl [z] n=List.replicate n z
 | 0=>rfl
 | n+1=>by simp[Yl,DV z n,replicate_succ]
theorem Gl [Q4] {e size bytes m:Nat} {zv:Value} {kl kc:IntKind} (H:Q0 w l) [hT:Vv P t e size bytes] [hz:VF P e zv] (hx:ev σ x = .int kl (m:Int)) (hy:ev σ y = .int kc (m:Int)) (hq:(decide ((VK zv).length=size) && decide (bytes≤1000000))=true) (hm:m≤100000000) (hd:Qs n d=true)
  (k:∀ b w',Q0 w' (QE e size (.slice (some ⟨b,0,none⟩) m m) (Yl (VK zv) m)::l)→K (put σ d (.slice (some ⟨b,0,none⟩) m m)) w'):St P n r ⟨d,.makeSlice t x y,u,p,af,g⟩ σ w K:=by
 obtain⟨i,hi,e2⟩:=Option.map_eq_some_iff.1 hT.info;obtain⟨i',Ub,UX⟩:=Option.map_eq_some_iff.1 hz.zero;rw[hi] at Ub;cases Ub;simp only[Prod.mk.injEq] at e2;simp only[Bool.and_eq_true,decide_eq_true_eq] at hq
 have hb:(i.bytes:Int)*(m:Int)≤281474976710656:=by
  have:i.bytes*m≤1000000*100000000:=Nat.mul_le_mul (by omega) hm;have h:((i.bytes*m:Nat):Int)≤281474976710656:=by omega
  rwa [Int.natCast_mul] at h
 have hr:=run_make (P:=P) w t e i zv hT.und hi UX kl kc m m (by omega) (Int.le_refl _) hb (by omega)
 have hc:madeCells zv.cells (m*i.size)=(Yl (VK zv) m).toArray:=by
  unfold madeCells;rw[← MY,AO,hq.1,e2.1]
 rw[Int.toNat_natCast,hc] at hr;have hn:=H.new (row e (Yl (VK zv) m));refine VP (v := .slice (some ⟨w.heap.size,0,none⟩) m m) (w':=w.alloc (.cells (Yl (VK zv) m).toArray e)) hd (fun c e=>by cases e) ?_ (k _ _ (RN (by rw[PT,hq.1]) hn));simp only[execOp,hx,hy,hr,Sem.run_bind,Result.andThen_ok,Sem.run_pure]
theorem ny {a:Nat} (ha:a < 18446744073709551616) (hx:ev σ x = .int .u64 a) (hd:Qs n d=true) (h:K (put σ d (.int .u64 ((18446744073709551615 - a:Nat):Int))) w):St P n r ⟨d,.unOp .xor t x,u,p,af,g⟩ σ w K:=by
 refine VP (v := .int .u64 ((18446744073709551615 - a:Nat):Int)) (w':=w) hd (fun c e=>by cases e) ?_ h;have e1:(if IntKind.u64.signed=true then (-1:Int) else IntKind.u64.max)=((18446744073709551615:Nat):Int):=by decide
 have e2:ZO .xor .u64 ((18446744073709551615:Nat):Int) (a:Int)=((18446744073709551615 - a:Nat):Int):=by
  rw[eC (by decide) ha];congr 1;apply Nat.eq_of_testBit_eq;intro i;have e:18446744073709551615 - a=2 ^ 64 - (a+1):=by omega
  rw[Nat.testBit_xor,e,Nat.testBit_two_pow_sub_succ ha,show (18446744073709551615:Nat)=2 ^ 64 - 1 from rfl,Nat.testBit_two_pow_sub_one];by_cases hi:i < 64
  ·simp[hi]
  ·have:a.testBit i=false:=Nat.testBit_lt_two_pow (Nat.lt_of_lt_of_le ha (Nat.pow_le_pow_right (n:=2) (by decide) (show 64≤i by omega)));simp[hi,this]
 have e3:(Op.unary .xor (.int .u64 (a:Int))).run P w = .ok (.int .u64 ((18446744073709551615 - a:Nat):Int)) w:=by
  have:(Op.intBits .xor .u64 ((18446744073709551615:Nat):Int) (a:Int)).run P w = .ok (.int .u64 (ZO .xor .u64 ((18446744073709551615:Nat):Int) (a:Int))) w:=by
   simp[Op.intBits,ZO]
  rw[← e2,← this,← e1];rfl
 simp only[execOp,hx,Sem.run_bind,e3,Result.andThen_ok,Sem.run_pure]
end
def MW (g:Nat) (tab:List Nat) (w:World):Prop:=∀ j,j < tab.length→w.cell? ⟨g,j,none⟩=some (.int .u8 (tab.getD j 0))
class Z6 (g:outParam Nat) (tab:outParam (List Nat)) (l:List Q2):Prop where
 tab:∀ w:World,Vq l (hp w)→MW g tab w
instance {g:Nat} {tab:List Nat} {A:Q2} {l:List Q2} [h:Z6 g tab l]:Z6 g tab (A::l):=⟨fun w s=>h.tab w (Cv s)⟩
theorem nz {g:Nat} {tab:List Nat} {W:World} {l:List Q2} (h:MW g tab W) (hg:g < W.heap.size):Z6 g tab (old W::l):=⟨fun w s j hj=>by
 obtain⟨f,_,a,_,_,x,_⟩:=s;have e:=x g hg
 have e2:w.heap[g]? = W.heap[g]?:=by
  cases ho:W.heap[g]? with
  | none=>have:=Array.getElem?_eq_none_iff.1 ho;omega
  | some o=>rw[ho] at e;exact a g o e
 have:=h j hj;unfold World.cell? at this ⊢;simp only[e2];exact this⟩
end Go.SL
namespace Go.SL
open List
section
variable {P:Program} {n:Nat} {r:Option Nat} {ops:Array Oper} {Q:Z5} {ms:List Nat} {σ:QC} {w:World} {rest:List Oper} {o:Oper} {K:QC→World→Prop} {l l':List Q2}
variable {ivs:List (List Nat×(World→Prop))} {T:QC→World→Prop} {f:Nat} {L:Array Bool}
variable {u t s:TypeId} {p:String} {af:Array Edge} {g:Option (Nat×Bool)} {d:Option Tmp} {x y z:Operand}
theorem o0 {e size bytes b o2 len cap i j:Nat} {q q':IntKind} (hT:Vv P t e size bytes) (h1:i≤j) (h2:j≤cap) (h3:i < cap) :
  (Instr.sliceAt t (.slice (some ⟨b,o2,none⟩) len cap) (some (.int q (i:Int))) (some (.int q' (j:Int))) none).run P w = .ok (.slice (some ⟨b,o2+i*size,none⟩) (j - i) (cap - i)) w:=by
 have hs:(sizeOf e).run P w = .ok size w:=by
  obtain⟨k,hk,e2⟩:=Option.map_eq_some_iff.1 hT.info;simp only[Prod.mk.injEq] at e2;exact Ur (by rw[hk];simp[e2.1])
 have QB:cap≠i:=by omega
 have b1:(0:Int)≤i∧(i:Int)≤j:=by omega
 have b2:(0:Int)≤j∧(j:Int)≤cap:=by omega
 simp[Instr.sliceAt,Instr.slice,YP hT.und,Instr.sliceBounds,Instr.sliceBound,asIntOf,h1,h2,hs,Gj,QB]
theorem Ht {e size bytes b o2 len cap i j:Nat} {q q':IntKind} (m:Nat) (hm:ops[m]? = some ⟨d,.slice t x (some y) (some z) none,u,p,af,g⟩) (hg:Q9 ops σ ⟨d,.slice t x (some y) (some z) none,u,p,af,g⟩ true) [hT:Vv P t e size bytes] (hx:ev σ x = .slice (some ⟨b,o2,none⟩) len cap) (hy:ev σ y = .int q (i:Int)) (hz:ev σ z = .int q' (j:Int)) (h1:i≤j) (h2:j≤cap) (h3:i < cap)
  (hb:ZB n ops (ivs.map (·.1)) L m []=true) (k:Any P n r ops ivs T f (L.setIfInBounds m true) (put σ d (.slice (some ⟨b,o2+i*size,none⟩) (j - i) (cap - i))) w):Any P n r ops ivs T (f+1) L σ w:=
 KU m hm hg (fun c e=>by cases e) (fun w=>by simp only[execOp,hx,hy,hz,Option.map_some,Option.map_none,Sem.run_bind,o0 hT h1 h2 h3,Result.andThen_ok,Sem.run_pure]) hb k
theorem o4 {c:List Value} {o m:Nat} {vs:List Value} (h:QY c o m vs):∀ (q:o+vs.length≤c.length),wr c o vs=c:=fun q=>by
 rw[MK vs c o q];apply ext_getElem?;intro j;by_cases h1:j < o
 ·rw[append_assoc,getElem?_append_left (by simp;omega),getElem?_take_of_lt h1]
 ·by_cases h2:j < o+vs.length
  ·rw[append_assoc,getElem?_append_right (by simp;omega),getElem?_append_left (by simp;omega)];have e1:(c.take o).length=o:=by simp;omega
   rw[e1];have:=h.get (j - o) (vs[j - o]'(by omega)) (getElem?_eq_getElem (by omega));rw[show o+(j - o)=j by omega] at this;rw[this,getElem?_eq_getElem (by omega)]
  ·rw[append_assoc,getElem?_append_right (by simp;omega),getElem?_append_right (by simp;omega),getElem?_drop];congr 1;simp;omega
theorem GJ [Q4] {E k m cap:Nat} {a:Option Addr} {c:List Value} (H:Q0 w (QE E k (.slice a m cap) c::l)) (h0:0 < m) :
  ∃ b spare,a=some ⟨b,0,none⟩∧Q0 w (pts b (row E (c++spare))::l)∧m≤cap∧(cap - m)*k≤spare.length∧∀ w' l' c',c'.length=c.length→Q0 w' (pts b (row E (c'++spare))::l')→Q0 w' (QE E k (.slice a m cap) c'::l'):=by
 rcases XB H with ⟨h,_⟩|⟨b,len,cap',spare,h,e3,e4,e5,H2⟩
 ·injection h with h1 h2;omega
 ·injection h with h1 h2 h3
  subst h1 h2 h3;exact⟨b,spare,rfl,H2,e4.1,e5,fun w' l' c' hc H'=>GI (hc.trans e3) e4 e5 H'⟩
theorem o5 [Q4] {e size bytes b o2 m cap cap' E:Nat} {c vs:List Value} [hT:Vv P t e size bytes] (H:Q0 w (pts b (row E c)::l)) (hx:ev σ x = .slice (some ⟨b,o2,none⟩) m cap) (hy:ev σ y = .slice (some ⟨b,o2,none⟩) m cap') (Qu:QY c o2 (m*size) vs) (hl:o2+m*size≤c.length) (h1:vs.all (·.oneCell')=true) (hd:Qs n d=true)
  (k:∀ w',Q0 w' (pts b (row E c)::l)→K (put σ d (.int .i64 m)) w'):St P n r ⟨d,.call { callee := .builtin .copy,args:=#[x,y],argTypes:=#[t,t] },u,p,af,g⟩ σ w K:=by
 have hs:(sizeOf e).run P w = .ok size w:=by
  obtain⟨k,hk,e2⟩:=Option.map_eq_some_iff.1 hT.info;simp only[Prod.mk.injEq] at e2;exact Ur (by rw[hk];simp[e2.1])
 have ev1:=Qu.len;have GQ:w.heap[b]? = some (.cells c.toArray E (0,0)):=H.pts
 have Ec:(Builtin.firstCells size m (.slice (some ⟨b,o2,none⟩) m cap')).run P w = .ok vs.toArray w:=by
  unfold Builtin.firstCells
  have:=run_loadCells_list (P:=P) (w:=w) ⟨b,o2,none⟩ vs (fun j v hj=>by
   rw[Gj];exact Ua GQ (Qu.get j v hj))
  rwa [ev1] at this
 obtain⟨w',hr,h2,h3,h4⟩:=HL (P:=P) vs w b o2 E c 0 H.pts (by omega) (all_eq_true.1 h1);rw[Nat.add_zero,o4 Qu (by omega)] at h2;have H':=H.set (o':=row E c) h2 h3 h4;refine VP (v := .int .i64 m) (w':=w') hd (fun c e=>by cases e) ?_ (k w' H');have HI:Nat.min m m=m:=Nat.min_self m;simp[execOp,resolve,invoke,builtin,hx,hy,Builtin.copy_,YP hT.und,Builtin.lenOf,HI,hs,Ec,hr,goInt]
end
end Go.SL
namespace Go.SL
section
variable {P:Program} {n:Nat} {r:Option Nat} {ops:Array Oper} {Q:Z5} {ms:List Nat} {σ:QC} {w:World} {rest:List Oper} {o:Oper} {K:QC→World→Prop} {l l':List Q2}
variable {u t s:TypeId} {p:String} {af:Array Edge} {g:Option (Nat×Bool)} {d:Option Tmp} {x y z:Operand}
theorem o6 {e size bytes len cap:Nat} {ad:Option Addr} {q:IntKind} {i:Nat} [hT:Vv P t e size bytes] (hx:ev σ x = .slice ad len cap) (hy:ev σ y = .int q (i:Int)) (h1:i≤len) (hd:Qs n d=true)
  (k:∀ v,K (put σ d v) w):St P n r ⟨d,.slice t x (some y) none none,u,p,af,g⟩ σ w K:=by
 have hs:(sizeOf e).run P w = .ok size w:=by
  obtain⟨k,hk,e2⟩:=Option.map_eq_some_iff.1 hT.info;simp only[Prod.mk.injEq] at e2;exact Ur (by rw[hk];simp[e2.1])
 cases ad with
 | none=>
  refine VP (w':=w) hd (fun c e=>by cases e) ?_ (k (.slice none (len - i) (cap - i)));simp[execOp,hx,hy,Instr.sliceAt,Instr.slice,YP hT.und,Instr.sliceBounds,Instr.sliceBound,asIntOf,h1,hs]
 | some a=>
  by_cases hc:cap=i
  ·subst hc;refine VP (w':=w) hd (fun c e=>by cases e) ?_ (k (.slice (some a) (len - cap) (cap - cap)));simp[execOp,hx,hy,Instr.sliceAt,Instr.slice,YP hT.und,Instr.sliceBounds,Instr.sliceBound,asIntOf,h1,hs]
  ·refine VP (w':=w) hd (fun c e=>by cases e) ?_ (k (.slice (some (a.add (i*size))) (len - i) (cap - i)));simp[execOp,hx,hy,Instr.sliceAt,Instr.slice,YP hT.und,Instr.sliceBounds,Instr.sliceBound,asIntOf,h1,hs,hc]
end
end Go.SL
namespace Go.SL
open List
theorem split_at {α:Type} {l:List α} {k:Nat} {x:α} (h:l[k]? = some x):l=l.take k++x::l.drop (k+1):=by
 obtain⟨h1,h2⟩:=List.getElem?_eq_some_iff.1 h;rw[← h2,getElem_cons_drop,take_append_drop]
theorem set_split {α:Type} {l:List α} {k:Nat} {x y:α} (h:l[k]? = some x):l.set k y=l.take k++y::l.drop (k+1):=by
 have h1:=(List.getElem?_eq_some_iff.1 h).1;rw[set_eq_take_append_cons_drop,if_pos h1]
theorem eL {A B:List Value}:∀ (vs y:List Value) (j:Nat),j+vs.length≤y.length→wr (A++(y++B)) (A.length+j) vs=A++(wr y j vs++B)
 | [],y,j,_=>rfl
 | v::vs,y,j,h=>by
  simp only[length_cons] at h;show wr ((A++(y++B)).set (A.length+j) v) (A.length+j+1) vs=A++(wr (y.set j v) (j+1) vs++B);rw[set_append_right _ _ (by omega),show A.length+j - A.length=j by omega,set_append_left _ _ (by omega)];exact eL vs (y.set j v) (j+1) (by simp;omega)
section
variable {α:Type} {f:α→List Value} {m:Nat}
theorem Xs (hf:∀ a,(f a).length=m) (l:List α):(l.flatMap f).length=l.length*m:=by
 induction l with
 | nil=>simp
 | cons a l ih=>rw[flatMap_cons,length_append,ih,hf,length_cons,Nat.succ_mul];omega
theorem eM {l:List α} {i:Nat} {x:α} (h:l[i]? = some x) (s:List Value):l.flatMap f++s=(l.take i).flatMap f++(f x++((l.drop (i+1)).flatMap f++s)):=by
 conv=>lhs;rw[split_at h]
 simp
theorem Pq (hf:∀ a,(f a).length=m) {l:List α} {i:Nat} {x:α} (h:l[i]? = some x):((l.take i).flatMap f).length=i*m:=by
 have h1:=(List.getElem?_eq_some_iff.1 h).1;rw[Xs hf,length_take,Nat.min_eq_left (by omega)]
theorem Kl (hf:∀ a,(f a).length=m) {l:List α} {i:Nat} {x:α} (h:l[i]? = some x) {s:List Value} {j:Nat} {v:Value} (hv:(f x)[j]? = some v):(l.flatMap f++s)[i*m+j]? = some v:=by
 have hj:=(List.getElem?_eq_some_iff.1 hv).1;rw[eM h,getElem?_append_right (by rw[Pq hf h];omega),Pq hf h,show i*m+j - i*m=j by omega,getElem?_append_left hj];exact hv
theorem Bs (hf:∀ a,(f a).length=m) {l:List α} {i:Nat} {x:α} (h:l[i]? = some x) {s:List Value} {j:Nat} {vs:List Value} (hv:QY (f x) j vs.length vs):QY (l.flatMap f++s) (i*m+j) vs.length vs:=
 QY.of_get fun k v hk=>by
  rw[show i*m+j+k=i*m+(j+k) by omega];exact Kl hf h (hv.get k v hk)
theorem MA (hf:∀ a,(f a).length=m) {l:List α} {i:Nat} {x x':α} (h:l[i]? = some x) {s:List Value} {j:Nat} {vs:List Value} (hj:j+vs.length≤m) (hx:wr (f x) j vs=f x'):wr (l.flatMap f++s) (i*m+j) vs=(l.set i x').flatMap f++s:=by
 rw[eM h,← Pq hf h,eL vs (f x) j (by rw[hf];exact hj),hx,set_split h];simp
theorem eN (hf:∀ a,(f a).length=m) {l:List α} {i:Nat} {x x':α} (h:l[i]? = some x) {s:List Value} {j:Nat} {v:Value} (hj:j < m) (hx:(f x).set j v=f x'):(l.flatMap f++s).set (i*m+j) v=(l.set i x').flatMap f++s:=
 MA (vs:=[v]) hf h (by simp;omega) hx
end
end Go.SL
namespace Go.Proofs
open Go.Shelf
def Tryz.laysBs_ren : Go.Shelf.Ren := ⟨fun | 25 => 112 | 31 => 184 | 32 => 185 | 37 => 237 | n => n, fun | 22 => 31 | 3 => 3 | 4 => 4 | 40 => 164 | 0 => 0 | n => n, fun | n => n⟩
theorem Tryz.laysBs : Go.Proofs.Lays2.n25 Tryz.prog Tryz.laysBs_ren := {
  mixed := by kernel_rfl
  f25 := Tryz.func112.trans (congrArg some (by kernel_rfl))
  f31 := Tryz.func184.trans (congrArg some (by kernel_rfl))
  f32 := Tryz.func185.trans (congrArg some (by kernel_rfl))
  f37 := Tryz.func237.trans (congrArg some (by kernel_rfl))
  t0 := Tryz.underlying0
  a0 := Tryz.isAgg0
  z0 := Tryz.sizeOf0
  v0 := Tryz.zeroValue0
  t3 := Tryz.underlying3
  a3 := Tryz.isAgg3
  z3 := Tryz.sizeOf3
  v3 := Tryz.zeroValue3
  t4 := Tryz.underlying4
  a4 := Tryz.isAgg4
  z4 := Tryz.sizeOf4
  v4 := Tryz.zeroValue4
  t22 := Tryz.underlying31
  a22 := Tryz.isAgg31
  z22 := Tryz.sizeOf31
  v22 := Tryz.zeroValue31
  t40 := Tryz.underlying164
  a40 := Tryz.isAgg164
  z40 := Tryz.sizeOf164
  v40 := Tryz.zeroValue164 }
def Tryz.laysIns_ren : Go.Shelf.Ren := ⟨fun | 21 => 154 | 27 => 224 | 28 => 225 | 35 => 251 | 39 => 261 | n => n, fun | 22 => 31 | 3 => 3 | 4 => 4 | 0 => 0 | n => n, fun | n => n⟩
theorem Tryz.laysIns : Go.Proofs.Lays2.n21 Tryz.prog Tryz.laysIns_ren := {
  mixed := by kernel_rfl
  f21 := Tryz.func154.trans (congrArg some (by kernel_rfl))
  f27 := Tryz.func224.trans (congrArg some (by kernel_rfl))
  f28 := Tryz.func225.trans (congrArg some (by kernel_rfl))
  f35 := Tryz.func251.trans (congrArg some (by kernel_rfl))
  f39 := Tryz.func261.trans (congrArg some (by kernel_rfl))
  t0 := Tryz.underlying0
  a0 := Tryz.isAgg0
  z0 := Tryz.sizeOf0
  v0 := Tryz.zeroValue0
  t3 := Tryz.underlying3
  a3 := Tryz.isAgg3
  z3 := Tryz.sizeOf3
  v3 := Tryz.zeroValue3
  t4 := Tryz.underlying4
  a4 := Tryz.isAgg4
  z4 := Tryz.sizeOf4
  v4 := Tryz.zeroValue4
  t22 := Tryz.underlying31
  a22 := Tryz.isAgg31
  z22 := Tryz.sizeOf31
  v22 := Tryz.zeroValue31
  i3 := by kernel_rfl }
def Tryz.laysSort_ren : Go.Shelf.Ren := ⟨fun | 189 => 53 | 125 => 116 | 257 => 115 | 128 => 196 | 129 => 197 | 294 => 188 | 295 => 189 | 296 => 190 | 297 => 191 | 298 => 192 | 299 => 193 | 216 => 184 | 300 => 194 | 301 => 195 | 328 => 239 | 329 => 240 | 330 => 241 | 331 => 242 | 332 => 243 | 215 => 237 | 343 => 257 | n => n, fun | 28 => 31 | 3 => 3 | 46 => 164 | 0 => 0 | 51 => 289 | 53 => 83 | 4 => 4 | 183 => 283 | 182 => 282 | 131 => 202 | 5 => 5 | 9 => 9 | 218 => 318 | 222 => 322 | 228 => 331 | 229 => 190 | n => n, fun | n => n⟩
theorem Tryz.laysSort : Go.Proofs.Lays.n189 Tryz.prog Tryz.laysSort_ren := {
  mixed := by kernel_rfl
  f125 := Tryz.func116.trans (congrArg some (by kernel_rfl))
  f128 := Tryz.func196.trans (congrArg some (by kernel_rfl))
  f129 := Tryz.func197.trans (congrArg some (by kernel_rfl))
  f189 := Tryz.func53.trans (congrArg some (by kernel_rfl))
  f215 := Tryz.func237.trans (congrArg some (by kernel_rfl))
  f216 := Tryz.func184.trans (congrArg some (by kernel_rfl))
  f257 := Tryz.func115.trans (congrArg some (by kernel_rfl))
  f294 := Tryz.func188.trans (congrArg some (by kernel_rfl))
  f295 := Tryz.func189.trans (congrArg some (by kernel_rfl))
  f296 := Tryz.func190.trans (congrArg some (by kernel_rfl))
  f297 := Tryz.func191.trans (congrArg some (by kernel_rfl))
  f298 := Tryz.func192.trans (congrArg some (by kernel_rfl))
  f299 := Tryz.func193.trans (congrArg some (by kernel_rfl))
  f300 := Tryz.func194.trans (congrArg some (by kernel_rfl))
  f301 := Tryz.func195.trans (congrArg some (by kernel_rfl))
  f328 := Tryz.func239.trans (congrArg some (by kernel_rfl))
  f329 := Tryz.func240.trans (congrArg some (by kernel_rfl))
  f330 := Tryz.func241.trans (congrArg some (by kernel_rfl))
  f331 := Tryz.func242.trans (congrArg some (by kernel_rfl))
  f332 := Tryz.func243.trans (congrArg some (by kernel_rfl))
  f343 := Tryz.func257.trans (congrArg some (by kernel_rfl))
  t0 := Tryz.underlying0
  a0 := Tryz.isAgg0
  z0 := Tryz.sizeOf0
  v0 := Tryz.zeroValue0
  t3 := Tryz.underlying3
  a3 := Tryz.isAgg3
  z3 := Tryz.sizeOf3
  v3 := Tryz.zeroValue3
  t4 := Tryz.underlying4
  a4 := Tryz.isAgg4
  z4 := Tryz.sizeOf4
  v4 := Tryz.zeroValue4
  t5 := Tryz.underlying5
  a5 := Tryz.isAgg5
  z5 := Tryz.sizeOf5
  v5 := Tryz.zeroValue5
  t9 := Tryz.underlying9
  a9 := Tryz.isAgg9
  z9 := Tryz.sizeOf9
  v9 := Tryz.zeroValue9
  t28 := Tryz.underlying31
  a28 := Tryz.isAgg31
  z28 := Tryz.sizeOf31
  v28 := Tryz.zeroValue31
  t46 := Tryz.underlying164
  a46 := Tryz.isAgg164
  z46 := Tryz.sizeOf164
  v46 := Tryz.zeroValue164
  t51 := Tryz.underlying289
  a51 := Tryz.isAgg289
  z51 := Tryz.sizeOf289
  v51 := Tryz.zeroValue289
  t53 := Tryz.underlying83
  a53 := Tryz.isAgg83
  z53 := Tryz.sizeOf83
  v53 := Tryz.zeroValue83
  t131 := Tryz.underlying202
  a131 := Tryz.isAgg202
  z131 := Tryz.sizeOf202
  v131 := Tryz.zeroValue202
  t182 := Tryz.underlying282
  a182 := Tryz.isAgg282
  z182 := Tryz.sizeOf282
  v182 := Tryz.zeroValue282
  t183 := Tryz.underlying283
  a183 := Tryz.isAgg283
  z183 := Tryz.sizeOf283
  v183 := Tryz.zeroValue283
  t218 := Tryz.underlying318
  a218 := Tryz.isAgg318
  z218 := Tryz.sizeOf318
  v218 := Tryz.zeroValue318
  t222 := Tryz.underlying322
  a222 := Tryz.isAgg322
  z222 := Tryz.sizeOf322
  v222 := Tryz.zeroValue322
  t228 := Tryz.underlying331
  a228 := Tryz.isAgg331
  z228 := Tryz.sizeOf331
  v228 := Tryz.zeroValue331
  t229 := Tryz.underlying190
  a229 := Tryz.isAgg190
  z229 := Tryz.sizeOf190
  v229 := Tryz.zeroValue190 }
end Go.Proofs
namespace Go.SL
open List
open Go.Sort Go.Proofs
section
variable {α:Type} [Inhabited α] {enc:α→List Value} {k:Nat}
theorem Hu (hk:∀ x,(enc x).length=k):∀ l:List α,(l.flatMap enc).length=l.length*k
 | []=>by simp
 | x::l=>by simp only[flatMap_cons,length_append,hk,Hu hk l,length_cons,Nat.succ_mul];omega
theorem Pr (hk:∀ x,(enc x).length=k) (k0:0 < k):∀ (l:List α) (t:Nat),(l.flatMap enc)[t]? = (l[t / k]?).bind fun x=>(enc x)[t % k]?
 | [],t=>by simp
 | x::l,t=>by
  rw[flatMap_cons];by_cases h:t < k
  ·rw[getElem?_append_left (by rw[hk];exact h),Nat.div_eq_of_lt h,Nat.mod_eq_of_lt h];simp
  ·rw[getElem?_append_right (by rw[hk];omega),hk,Pr hk k0 l (t - k)];have e1:t / k=(t - k) / k+1:=Nat.div_eq_sub_div k0 (by omega);have e2:t % k=(t - k) % k:=Nat.mod_eq_sub_mod (by omega);rw[e1,e2];simp
theorem eO (hk:∀ x,(enc x).length=k) (k0:0 < k) (d:Array α):flatK enc k d=(d.toList.flatMap enc).toArray:=by
 apply Array.ext';apply ext_getElem?;intro t;show (flatK enc k d).toList[t]? = (d.toList.flatMap enc)[t]?;rw[Pr hk k0];by_cases h:t < d.size*k
 ·have hd:t / k < d.size:=(Nat.div_lt_iff_lt_mul k0).2 h;have hm:=Nat.mod_lt t k0;have h2:=get_flatK enc k d t h;rw[getElem!_pos _ t (by simpa using h)] at h2;rw[Array.getElem?_toList,Array.getElem?_eq_getElem (by simpa using h),h2,getElem!_pos d _ hd,getElem!_pos _ _ (by rw[hk];exact hm)];simp[hd,hk,hm]
 ·have hd:d.size≤t / k:=(Nat.le_div_iff_mul_le k0).2 (by omega);rw[getElem?_eq_none (by simp;omega),getElem?_eq_none (by simpa using hd)];rfl
theorem o7 (F cs spare:List Value) (h:F.length=cs.length):putCells id 0 F.toArray (cs++spare).toArray=(F++spare).toArray:=by
 apply Array.ext';apply ext_getElem?;intro t;simp only[putCells,Array.getElem?_toList,Array.getElem?_mapIdx,getElem?_toArray,Nat.zero_le,true_and,Nat.zero_add,Nat.sub_zero,size_toArray,id];by_cases ht:t < F.length
 ·rw[getElem?_append_left (by omega),getElem?_append_left ht];have h2:t < cs.length:=by omega
  simp[h2,ht]
 ·rw[getElem?_append_right (by omega),getElem?_append_right (by omega),h];have h2:¬ t < cs.length:=by omega
  simp[ht,h2]
theorem o8 [Q4] (hk:∀ x,(enc x).length=k) (k0:0 < k) {w:World} {b m E:Nat} {d':Array α} {os:Array Obj} {cs spare:List Value} {l:List Q2} (H:Q0 w (pts b (row E (cs++spare))::l)) (hl:cs.length=d'.size*k) :
  Q0 (sortWorldK enc k w b 0 m d' os) (pts b (row E (d'.toList.flatMap enc++spare))::l):=by
 have hb:=H.pts;have Q6:=H.fresh;have e1:(putRowK enc k (Sort.ahead w m) b 0 d').heap=w.heap.modify b (onCells (putCells id 0 (flatK enc k d'))):=rfl
 have H1:Q0 (putRowK enc k (Sort.ahead w m) b 0 d') (pts b (row E (d'.toList.flatMap enc++spare))::l):=by
  refine H.set ?_ ?_
  ·rw[e1,Array.getElem?_modify,if_pos rfl,hb];simp only[Option.map_some,row,onCells];rw[eO hk k0,o7 _ _ _ (by rw[Hu hk,hl];simp)]
  ·intro c hc;rw[e1,Array.getElem?_modify,if_neg (Ne.symm hc)]
 refine H1.up (fun c o hc=>?_) ⟨rfl,rfl⟩;show ((putRowK enc k (Sort.ahead w m) b 0 d').heap++os)[c]? = some o;have:=(Array.getElem?_eq_some_iff.1 hc).1;rw[Array.getElem?_append_left this];exact hc
open Go.Proofs Go.Shelf in
theorem o9 [Q4] {P:Program} {ρ:Ren} (L:SlLaysF0.n6 P ρ) {t:TypeId} (ht:ρ.t 24=t) (hN:TN P t k) (k0:0 < k) (hk:∀ x,(enc x).length=k) (h1:∀ x,∀ v∈enc x,v.oneCell'=true)
  (cf:α→α→Int) (hO:SWO (ltOf cf)) {g:Nat} (hg:QZ P g)
  (hc:∀ (x y:α) (W:World),Calls P g #[.agg (enc x).toArray,.agg (enc y).toArray] W fun e w'=>e = .returned (.int .i64 (cf x y))∧∃ q os',w'=grow (W.drewN q) os')
  {E:TypeId} {v:Value} {d:List α} {w:World} {l:List Q2} (H:Q0 w (QE E k v (d.flatMap enc)::l)) (Ve:d.length < 4611686018427387904) :
  Calls P (ρ.f 6) #[v,.func (.func g) #[] #[]] w (ret fun _ w'=>∃ d':List α,d'.Perm d∧d'.Pairwise (fun a b=>ltOf cf b a=false)∧Q0 w' (QE E k v (d'.flatMap enc)::l)):=by
 subst ht
 rcases XB H with ⟨rfl,h0,H'⟩|⟨b,len,cap,spare,rfl,e3,e4,e5,H'⟩
 ·have hd:d=[]:=by
   have:=Hu hk d;rw[h0] at this;have h2:d.length*k=0:=this.symm
   rcases Nat.mul_eq_zero.1 h2 with h|h
   ·exact eq_nil_of_length_eq_zero h
   ·omega
  subst hd;refine(AnyF.slices_SortFunc_none L none 0 _ w).mono ?_;rintro e w' ⟨rfl,rfl⟩;exact⟨[],List.Perm.refl _,List.Pairwise.nil,Zy H'⟩
 ·have hb:=H'.pts
  have Qw:len=d.length:=by
   have:=Hu hk d;rw[e3] at this;exact Nat.eq_of_mul_eq_mul_right k0 this
  subst Qw
  have hH:HoldsK enc k w b 0 d.toArray:=by
   intro j hj;rw[size_flatK] at hj;rw[eO hk k0,Nat.zero_add];have Zz:j < (d.flatMap enc).length:=by rw[e3];simpa using hj
   refine⟨?_,Cx hb⟩;refine Ua hb ?_;rw[getElem?_append_left Zz,getElem?_eq_getElem Zz];show some _=some ((d.flatMap enc).toArray[j]!);rw[getElem!_pos _ j (by simpa using Zz)];simp
  have:=AnyQ.slices_SortFunc L k (fun w=>PC hN) (fun w=>Ur hN.size) enc hk h1 cf hO g #[] b 0 cap d.toArray w (fun args w=>Lz hg args) (fun m os dk hs x y=>by simpa using hc x y _) hH H'.fresh (by simpa using Ve);rw[show d.toArray.size=d.length by simp] at this;refine this.mono ?_;rintro e w' ⟨rfl,d',n,os,hp,hs,rfl⟩;have Ps:d'.size=d.length:=by rw[hp.1];simp
  have hx:∀ a:Array α,a.size=d.length→a.extract 0 d.length=a:=fun a ha=>by rw[← ha];simp
  refine⟨d'.toList,?_,?_,?_⟩
  ·have h2:=hp.2.2;rw[hx d' Ps,hx d.toArray (by simp)] at h2;simpa using h2
  ·rw[pairwise_iff_getElem];intro i j hi hj ZA;have:=hs i j (Nat.zero_le _) ZA (by simp at hj ⊢;omega);rw[getElem!_pos d' i (by simpa using hi),getElem!_pos d' j (by simpa using hj)] at this;simpa using this
  ·have hl:(d'.toList.flatMap enc).length=d.length*k:=by rw[Hu hk];simp[Ps]
   exact GI hl e4 e5 (o8 hk k0 H' (by rw[e3,Ps]))
end
end Go.SL
namespace Go.Proofs
open Go.Shelf
def Tryz.sortRef_ren : Go.Shelf.Ren := ⟨fun | 6 => 245 | 15 => 116 | 14 => 259 | 28 => 196 | 29 => 197 | 20 => 263 | 21 => 264 | 22 => 265 | 23 => 266 | 24 => 267 | 25 => 268 | 26 => 269 | 27 => 270 | 46 => 271 | 47 => 240 | 48 => 241 | 49 => 272 | 50 => 273 | 57 => 274 | n => n, fun | 22 => 130 | 24 => 133 | 25 => 296 | 3 => 3 | 39 => 164 | 0 => 0 | 53 => 289 | 55 => 83 | 4 => 4 | 46 => 283 | 45 => 282 | 50 => 202 | 5 => 5 | 9 => 9 | 66 => 318 | 70 => 322 | 76 => 331 | 77 => 190 | n => n, fun | n => n⟩
theorem Tryz.sortRef : Go.Proofs.SlLaysF0.n6 Tryz.prog Tryz.sortRef_ren := {
  mixed := by kernel_rfl
  f6 := ⟨Tryz.f245.name, by decide, Tryz.func245.trans (congrArg some (by kernel_rfl))⟩
  f14 := ⟨Tryz.f259.name, by decide, Tryz.func259.trans (congrArg some (by kernel_rfl))⟩
  f15 := Tryz.func116.trans (congrArg some (by kernel_rfl))
  f20 := ⟨Tryz.f263.name, by decide, Tryz.func263.trans (congrArg some (by kernel_rfl))⟩
  f21 := ⟨Tryz.f264.name, by decide, Tryz.func264.trans (congrArg some (by kernel_rfl))⟩
  f22 := ⟨Tryz.f265.name, by decide, Tryz.func265.trans (congrArg some (by kernel_rfl))⟩
  f23 := ⟨Tryz.f266.name, by decide, Tryz.func266.trans (congrArg some (by kernel_rfl))⟩
  f24 := ⟨Tryz.f267.name, by decide, Tryz.func267.trans (congrArg some (by kernel_rfl))⟩
  f25 := ⟨Tryz.f268.name, by decide, Tryz.func268.trans (congrArg some (by kernel_rfl))⟩
  f26 := ⟨Tryz.f269.name, by decide, Tryz.func269.trans (congrArg some (by kernel_rfl))⟩
  f27 := ⟨Tryz.f270.name, by decide, Tryz.func270.trans (congrArg some (by kernel_rfl))⟩
  f28 := Tryz.func196.trans (congrArg some (by kernel_rfl))
  f29 := Tryz.func197.trans (congrArg some (by kernel_rfl))
  f46 := ⟨Tryz.f271.name, by decide, Tryz.func271.trans (congrArg some (by kernel_rfl))⟩
  f47 := Tryz.func240.trans (congrArg some (by kernel_rfl))
  f48 := Tryz.func241.trans (congrArg some (by kernel_rfl))
  f49 := ⟨Tryz.f272.name, by decide, Tryz.func272.trans (congrArg some (by kernel_rfl))⟩
  f50 := ⟨Tryz.f273.name, by decide, Tryz.func273.trans (congrArg some (by kernel_rfl))⟩
  f57 := ⟨Tryz.f274.name, by decide, Tryz.func274.trans (congrArg some (by kernel_rfl))⟩
  t0 := Tryz.underlying0
  a0 := Tryz.isAgg0
  z0 := Tryz.sizeOf0
  v0 := Tryz.zeroValue0
  t3 := Tryz.underlying3
  a3 := Tryz.isAgg3
  z3 := Tryz.sizeOf3
  v3 := Tryz.zeroValue3
  t4 := Tryz.underlying4
  a4 := Tryz.isAgg4
  z4 := Tryz.sizeOf4
  v4 := Tryz.zeroValue4
  t5 := Tryz.underlying5
  a5 := Tryz.isAgg5
  z5 := Tryz.sizeOf5
  v5 := Tryz.zeroValue5
  t9 := Tryz.underlying9
  a9 := Tryz.isAgg9
  z9 := Tryz.sizeOf9
  v9 := Tryz.zeroValue9
  t22 := Tryz.underlying130
  a22 := Tryz.isAgg130
  z22 := Tryz.sizeOf130
  v22 := Tryz.zeroValue130
  t25 := Tryz.underlying296
  a25 := Tryz.isAgg296
  z25 := Tryz.sizeOf296
  v25 := Tryz.zeroValue296
  t39 := Tryz.underlying164
  a39 := Tryz.isAgg164
  z39 := Tryz.sizeOf164
  v39 := Tryz.zeroValue164
  t45 := Tryz.underlying282
  a45 := Tryz.isAgg282
  z45 := Tryz.sizeOf282
  v45 := Tryz.zeroValue282
  t46 := Tryz.underlying283
  a46 := Tryz.isAgg283
  z46 := Tryz.sizeOf283
  v46 := Tryz.zeroValue283
  t50 := Tryz.underlying202
  a50 := Tryz.isAgg202
  z50 := Tryz.sizeOf202
  v50 := Tryz.zeroValue202
  t53 := Tryz.underlying289
  a53 := Tryz.isAgg289
  z53 := Tryz.sizeOf289
  v53 := Tryz.zeroValue289
  t55 := Tryz.underlying83
  a55 := Tryz.isAgg83
  z55 := Tryz.sizeOf83
  v55 := Tryz.zeroValue83
  t66 := Tryz.underlying318
  a66 := Tryz.isAgg318
  z66 := Tryz.sizeOf318
  v66 := Tryz.zeroValue318
  t70 := Tryz.underlying322
  a70 := Tryz.isAgg322
  z70 := Tryz.sizeOf322
  v70 := Tryz.zeroValue322
  t76 := Tryz.underlying331
  a76 := Tryz.isAgg331
  z76 := Tryz.sizeOf331
  v76 := Tryz.zeroValue331
  t77 := Tryz.underlying190
  a77 := Tryz.isAgg190
  z77 := Tryz.sizeOf190
  v77 := Tryz.zeroValue190 }
def Tryz.laysDel_ren : Go.Shelf.Ren := ⟨fun | 23 => 210 | n => n, fun | 22 => 31 | 3 => 3 | 4 => 4 | 0 => 0 | n => n, fun | n => n⟩
theorem Tryz.laysDel : Go.Proofs.Lays2.n23 Tryz.prog Tryz.laysDel_ren := {
  mixed := by kernel_rfl
  f23 := Tryz.func210.trans (congrArg some (by kernel_rfl))
  t0 := Tryz.underlying0
  a0 := Tryz.isAgg0
  z0 := Tryz.sizeOf0
  v0 := Tryz.zeroValue0
  t3 := Tryz.underlying3
  a3 := Tryz.isAgg3
  z3 := Tryz.sizeOf3
  v3 := Tryz.zeroValue3
  t4 := Tryz.underlying4
  a4 := Tryz.isAgg4
  z4 := Tryz.sizeOf4
  v4 := Tryz.zeroValue4
  t22 := Tryz.underlying31
  a22 := Tryz.isAgg31
  z22 := Tryz.sizeOf31
  v22 := Tryz.zeroValue31
  i3 := by kernel_rfl }
end Go.Proofs
