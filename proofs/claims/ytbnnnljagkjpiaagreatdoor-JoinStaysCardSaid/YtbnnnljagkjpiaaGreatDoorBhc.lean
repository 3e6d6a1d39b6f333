/- Cells: what is proved on the way: every input of the statement; no condition. Texts joined: Ins SlU SlM SlN Srl SlV InE SlW SlX SlY SlT Sri Srs SlS Srt Srd. -/
import Derived.Test.YtbnnnljagkjpiaaGreatDoorBhb
import Derived.Test.YtbnnnljagkjpiaaGreatDoorProg
import Derived.KernelRfl
import Derived.Test.YtbnnnljagkjpiaaGreatDoorBha
import Derived.Shelf.SlGeneric
import Derived.Shelf.Strconv.Itoa0
import Derived.Shelf.Spec.TrailingZeros
import Derived.Ground.Names7Prog
import Derived.Ground.NamesProg
import Derived.Laws.MakeOwn
import Derived.Shelf.Spec.SlicesInsert
import Derived.Shelf.Spec.SlicesInsertGrow
import Derived.Shelf.Slices.SearchI
import Derived.Shelf.Slices.Empties
import Derived.Ground.Names2Prog
import Derived.Shelf.Sort.Plain
import Derived.Shelf.Slices.In.SortNone
import Derived.Shelf.SlSortCmp.NoneTotal
import Derived.Ground.SlsfProg
import Derived.Shelf.Slices.Delete
set_option linter.unusedVariables false
namespace Go.Proofs.YtbnnnljagkjpiaaGreatDoor
open Go.SL
theorem mB {P:Program} {f:FuncId} {fn:Func} (h:P.funcs[f]? = some fn) (a:fn.body.isNone=false:=by kernel_rfl) (b:(fn.name == "runtime.NumGoroutine")=false:=by kernel_rfl):QY P f:=⟨fn,h,a,b⟩
theorem mF {P:Program} {s:TypeId} {f off:Nat} {fs:Array Field} {fd:Field} (h:P.underlying s=some (.struct fs)) (a:fs[f]? = some fd:=by rfl) (b:fd.offset=off:=by rfl) (c:(P.info? fd.type).map (·.size)=some 1:=by kernel_rfl):QL P s f off:=⟨fs,fd,h,a,b,1,c,by decide⟩
theorem mT {P:Program} {t:TypeId} {d:TypeDesc} (h:P.underlying t=some d) (a:∀ fs,d ≠ .struct fs:=by intro _ h;cases h) (b:∀ k e,d ≠ .array k e:=by intro _ _ h;cases h) (c:(P.info? t).map (·.size)=some 1:=by kernel_rfl):T1 P t:=⟨⟨d,h,a,b⟩,c⟩
instance:T1 Tryz.prog 3:=mT Tryz.underlying3
instance:Qy Tryz.prog 3 (.int .i64 0):=⟨by kernel_rfl⟩
instance:XI Tryz.prog 3 .i64:=⟨Tryz.underlying3⟩
instance:T1 Tryz.prog 4:=mT Tryz.underlying4
instance:Fo Tryz.prog 4:=⟨Tryz.underlying4⟩
instance:TN Tryz.prog 23 3:=⟨.inl ⟨_,Tryz.underlying23⟩,by kernel_rfl⟩
instance:QL Tryz.prog 23 0 0:=mF Tryz.underlying23
instance:QL Tryz.prog 23 1 1:=mF Tryz.underlying23
instance:QL Tryz.prog 23 2 2:=mF Tryz.underlying23
instance:VB Tryz.prog 24 105 12 128:=⟨Tryz.underlying24,by kernel_rfl⟩
instance:T1 Tryz.prog 25:=mT Tryz.underlying25
instance:VB Tryz.prog 25 3 1 8:=⟨Tryz.underlying25,by kernel_rfl⟩
instance:QL Tryz.prog 27 0 0:=mF Tryz.underlying27
instance:QL Tryz.prog 27 1 1:=mF Tryz.underlying27
instance:QL Tryz.prog 27 2 2:=mF Tryz.underlying27
instance:T1 Tryz.prog 30:=mT Tryz.underlying30
instance:Qy Tryz.prog 30 (.pointer none):=⟨by kernel_rfl⟩
instance:Gn Tryz.prog 30:=⟨⟨_,Tryz.underlying30⟩⟩
instance:T1 Tryz.prog 35:=mT Tryz.underlying35
instance:Gn Tryz.prog 35:=⟨⟨_,Tryz.underlying35⟩⟩
instance:T1 Tryz.prog 36:=mT Tryz.underlying36
instance:Gn Tryz.prog 36:=⟨⟨_,Tryz.underlying36⟩⟩
instance:T1 Tryz.prog 37:=mT Tryz.underlying37
instance:Gn Tryz.prog 37:=⟨⟨_,Tryz.underlying37⟩⟩
instance:T1 Tryz.prog 38:=mT Tryz.underlying38
instance:Gn Tryz.prog 38:=⟨⟨_,Tryz.underlying38⟩⟩
instance:T1 Tryz.prog 39:=mT Tryz.underlying39
instance:Gn Tryz.prog 39:=⟨⟨_,Tryz.underlying39⟩⟩
instance:T1 Tryz.prog 40:=mT Tryz.underlying40
instance:Gn Tryz.prog 40:=⟨⟨_,Tryz.underlying40⟩⟩
instance:T1 Tryz.prog 41:=mT Tryz.underlying41
instance:Yc Tryz.prog 41 3 139:=⟨Tryz.underlying41⟩
instance:T1 Tryz.prog 42:=mT Tryz.underlying42
instance:Yc Tryz.prog 42 3 123:=⟨Tryz.underlying42⟩
instance:Qy Tryz.prog 44 (.agg #[.pointer none,.pointer none,.pointer none,.pointer none,.pointer none,.pointer none,.map none,.map none]):=⟨by kernel_rfl⟩
instance:YH Tryz.prog 44 [(0,1),(1,1),(2,1),(3,1),(4,1),(5,1),(6,1),(7,1)]:=⟨_,Tryz.underlying44,by kernel_rfl⟩
instance:QL Tryz.prog 44 0 0:=mF Tryz.underlying44
instance:QL Tryz.prog 44 1 1:=mF Tryz.underlying44
instance:QL Tryz.prog 44 2 2:=mF Tryz.underlying44
instance:QL Tryz.prog 44 3 3:=mF Tryz.underlying44
instance:QL Tryz.prog 44 4 4:=mF Tryz.underlying44
instance:QL Tryz.prog 44 5 5:=mF Tryz.underlying44
instance:QL Tryz.prog 44 6 6:=mF Tryz.underlying44
instance:QL Tryz.prog 44 7 7:=mF Tryz.underlying44
instance:T1 Tryz.prog 45:=mT Tryz.underlying45
instance:Gn Tryz.prog 45:=⟨⟨_,Tryz.underlying45⟩⟩
instance:T1 Tryz.prog 46:=mT Tryz.underlying46
instance:T1 Tryz.prog 47:=mT Tryz.underlying47
instance:VB Tryz.prog 47 62 2 16:=⟨Tryz.underlying47,by kernel_rfl⟩
instance:Qy Tryz.prog 49 (.agg #[.pointer none,.pointer none,.slice none 0 0]):=⟨by kernel_rfl⟩
instance:YH Tryz.prog 49 [(0,1),(1,1),(2,1)]:=⟨_,Tryz.underlying49,by kernel_rfl⟩
instance:QL Tryz.prog 49 0 0:=mF Tryz.underlying49
instance:QL Tryz.prog 49 1 1:=mF Tryz.underlying49
instance:QL Tryz.prog 49 2 2:=mF Tryz.underlying49
instance:T1 Tryz.prog 51:=mT Tryz.underlying51
instance:Yc Tryz.prog 51 3 3:=⟨Tryz.underlying51⟩
instance:T1 Tryz.prog 52:=mT Tryz.underlying52
instance:T1 Tryz.prog 53:=mT Tryz.underlying53
instance:VB Tryz.prog 53 164 4 64:=⟨Tryz.underlying53,by kernel_rfl⟩
instance:T1 Tryz.prog 54:=mT Tryz.underlying54
instance:VB Tryz.prog 54 267 1 8:=⟨Tryz.underlying54,by kernel_rfl⟩
instance:Qy Tryz.prog 56 (.agg #[.pointer none,.slice none 0 0,.slice none 0 0]):=⟨by kernel_rfl⟩
instance:YH Tryz.prog 56 [(0,1),(1,1),(2,1)]:=⟨_,Tryz.underlying56,by kernel_rfl⟩
instance:QL Tryz.prog 56 0 0:=mF Tryz.underlying56
instance:QL Tryz.prog 56 1 1:=mF Tryz.underlying56
instance:QL Tryz.prog 56 2 2:=mF Tryz.underlying56
instance:Yc Tryz.prog 60 62 64:=⟨Tryz.underlying60⟩
instance:TN Tryz.prog 62 2:=⟨.inl ⟨_,Tryz.underlying62⟩,by kernel_rfl⟩
instance:Qy Tryz.prog 62 (.agg #[.int .i64 0,.int .i64 0]):=⟨by kernel_rfl⟩
instance:YH Tryz.prog 62 [(0,1),(1,1)]:=⟨_,Tryz.underlying62,by kernel_rfl⟩
instance:QL Tryz.prog 62 0 0:=mF Tryz.underlying62
instance:QL Tryz.prog 62 1 1:=mF Tryz.underlying62
instance:Kn Tryz.prog 62:=⟨⟨_,_,_,_,Tryz.underlying62,by decide,by decide,rfl,rfl,Tryz.underlying3,Tryz.underlying3⟩,fun f g h=>by rw[Tryz.underlying62] at h;cases h;exact⟨(inferInstance:T1 Tryz.prog 3),(inferInstance:T1 Tryz.prog 3)⟩,by kernel_rfl,by kernel_rfl⟩
instance:TN Tryz.prog 64 5:=⟨.inl ⟨_,Tryz.underlying64⟩,by kernel_rfl⟩
instance:Qy Tryz.prog 64 (.agg #[.int .i64 0,.int .i64 0,.int .i64 0,.int .i64 0,.bool false]):=⟨by kernel_rfl⟩
instance:YH Tryz.prog 64 [(0,1),(1,1),(2,1),(3,1),(4,1)]:=⟨_,Tryz.underlying64,by kernel_rfl⟩
instance:QL Tryz.prog 64 0 0:=mF Tryz.underlying64
instance:QL Tryz.prog 64 1 1:=mF Tryz.underlying64
instance:QL Tryz.prog 64 3 3:=mF Tryz.underlying64
instance:QL Tryz.prog 64 4 4:=mF Tryz.underlying64
instance:T1 Tryz.prog 73:=mT Tryz.underlying73
instance:Qy Tryz.prog 73 (.slice none 0 0):=⟨by kernel_rfl⟩
instance:VB Tryz.prog 73 87 6 48:=⟨Tryz.underlying73,by kernel_rfl⟩
instance:TN Tryz.prog 78 4:=⟨.inl ⟨_,Tryz.underlying78⟩,by kernel_rfl⟩
instance:Qy Tryz.prog 78 (.agg #[.int .i64 0,.int .i64 0,.bool false,.bool false]):=⟨by kernel_rfl⟩
instance:YH Tryz.prog 78 [(0,1),(1,1),(2,1),(3,1)]:=⟨_,Tryz.underlying78,by kernel_rfl⟩
instance:QL Tryz.prog 78 0 0:=mF Tryz.underlying78
instance:QL Tryz.prog 78 1 1:=mF Tryz.underlying78
instance:QL Tryz.prog 78 2 2:=mF Tryz.underlying78
instance:QL Tryz.prog 78 3 3:=mF Tryz.underlying78
instance:TN Tryz.prog 85 3:=⟨.inl ⟨_,Tryz.underlying85⟩,by kernel_rfl⟩
instance:Qy Tryz.prog 85 (.agg #[.int .i64 0,.int .i64 0,.int .i64 0]):=⟨by kernel_rfl⟩
instance:YH Tryz.prog 85 [(0,1),(1,2)]:=⟨_,Tryz.underlying85,by kernel_rfl⟩
instance:QL Tryz.prog 85 0 0:=mF Tryz.underlying85
instance:QL Tryz.prog 85 1 1:=⟨_,_,Tryz.underlying85,rfl,rfl,2,by kernel_rfl,by decide⟩
instance:TN Tryz.prog 87 6:=⟨.inl ⟨_,Tryz.underlying87⟩,by kernel_rfl⟩
instance:Qy Tryz.prog 87 (.agg #[.int .i64 0,.int .i64 0,.int .i64 0,.int .i64 0,.int .i64 0,.int .i64 0]):=⟨by kernel_rfl⟩
instance:YH Tryz.prog 87 [(0,2),(2,1),(3,3)]:=⟨_,Tryz.underlying87,by kernel_rfl⟩
instance:QL Tryz.prog 87 0 0:=⟨_,_,Tryz.underlying87,rfl,rfl,2,by kernel_rfl,by decide⟩
instance:QL Tryz.prog 87 1 2:=mF Tryz.underlying87
instance:QL Tryz.prog 87 2 3:=⟨_,_,Tryz.underlying87,rfl,rfl,3,by kernel_rfl,by decide⟩
instance:T1 Tryz.prog 94:=mT Tryz.underlying94
instance:Qy Tryz.prog 94 (.int .u64 0):=⟨by kernel_rfl⟩
instance:XI Tryz.prog 94 .u64:=⟨Tryz.underlying94⟩
instance:T1 Tryz.prog 95:=mT Tryz.underlying95
instance:VB Tryz.prog 95 94 1 8:=⟨Tryz.underlying95,by kernel_rfl⟩
instance:VB Tryz.prog 101 103 9 88:=⟨Tryz.underlying101,by kernel_rfl⟩
instance:TN Tryz.prog 103 9:=⟨.inl ⟨_,Tryz.underlying103⟩,by kernel_rfl⟩
instance:Qy Tryz.prog 103 (.agg #[.int .i64 0,.int .i64 0,.int .i64 0,.int .i64 0,.int .u64 0,.slice none 0 0,.bool false,.int .i64 0,.int .i64 0]):=⟨by kernel_rfl⟩
instance:QL Tryz.prog 103 0 0:=mF Tryz.underlying103
instance:QL Tryz.prog 103 1 1:=mF Tryz.underlying103
instance:QL Tryz.prog 103 2 2:=mF Tryz.underlying103
instance:QL Tryz.prog 103 3 3:=mF Tryz.underlying103
instance:QL Tryz.prog 103 4 4:=mF Tryz.underlying103
instance:QL Tryz.prog 103 5 5:=mF Tryz.underlying103
instance:QL Tryz.prog 103 6 6:=mF Tryz.underlying103
instance:QL Tryz.prog 103 7 7:=⟨_,_,Tryz.underlying103,rfl,rfl,2,by kernel_rfl,by decide⟩
instance:TN Tryz.prog 105 12:=⟨.inl ⟨_,Tryz.underlying105⟩,by kernel_rfl⟩
instance:Qy Tryz.prog 105 (.agg #[.int .i64 0,.int .i64 0,.int .i64 0,.int .i64 0,.int .i64 0,.int .u64 0,.slice none 0 0,.bool false,.int .i64 0,.int .i64 0,.int .i64 0,.slice none 0 0]):=⟨by kernel_rfl⟩
instance:QL Tryz.prog 105 0 0:=mF Tryz.underlying105
instance:QL Tryz.prog 105 1 1:=⟨_,_,Tryz.underlying105,rfl,rfl,9,by kernel_rfl,by decide⟩
instance:QL Tryz.prog 105 2 10:=mF Tryz.underlying105
instance:QL Tryz.prog 105 3 11:=mF Tryz.underlying105
instance:Qy Tryz.prog 112 (.agg #[.slice none 0 0]):=⟨by kernel_rfl⟩
instance:YH Tryz.prog 112 [(0,1)]:=⟨_,Tryz.underlying112,by kernel_rfl⟩
instance:QL Tryz.prog 112 0 0:=mF Tryz.underlying112
instance:Qy Tryz.prog 114 (.agg #[.map none,.int .i64 0]):=⟨by kernel_rfl⟩
instance:YH Tryz.prog 114 [(0,1),(1,1)]:=⟨_,Tryz.underlying114,by kernel_rfl⟩
instance:QL Tryz.prog 114 0 0:=mF Tryz.underlying114
instance:QL Tryz.prog 114 1 1:=mF Tryz.underlying114
instance:TN Tryz.prog 117 3:=⟨.inl ⟨_,Tryz.underlying117⟩,by kernel_rfl⟩
instance:Qy Tryz.prog 117 (.agg #[.int .i64 0,.int .i64 0,.int .i64 0]):=⟨by kernel_rfl⟩
instance:YH Tryz.prog 117 [(0,1),(1,1),(2,1)]:=⟨_,Tryz.underlying117,by kernel_rfl⟩
instance:QL Tryz.prog 117 0 0:=mF Tryz.underlying117
instance:QL Tryz.prog 117 1 1:=mF Tryz.underlying117
instance:QL Tryz.prog 117 2 2:=mF Tryz.underlying117
instance:XI Tryz.prog 121 .u64:=⟨Tryz.underlying121⟩
instance:T1 Tryz.prog 123:=mT Tryz.underlying123
instance:Qy Tryz.prog 123 (.pointer none):=⟨by kernel_rfl⟩
instance:Gn Tryz.prog 123:=⟨⟨_,Tryz.underlying123⟩⟩
instance:T1 Tryz.prog 129:=mT Tryz.underlying129
instance:VB Tryz.prog 129 132 2 16:=⟨Tryz.underlying129,by kernel_rfl⟩
instance:TN Tryz.prog 132 2:=⟨.inl ⟨_,Tryz.underlying132⟩,by kernel_rfl⟩
instance:Qy Tryz.prog 132 (.agg #[.int .i64 0,.int .i64 0]):=⟨by kernel_rfl⟩
instance:YH Tryz.prog 132 [(0,1),(1,1)]:=⟨_,Tryz.underlying132,by kernel_rfl⟩
instance:QL Tryz.prog 132 0 0:=mF Tryz.underlying132
instance:QL Tryz.prog 132 1 1:=mF Tryz.underlying132
instance:Kn Tryz.prog 132:=⟨⟨_,_,_,_,Tryz.underlying132,by decide,by decide,rfl,rfl,Tryz.underlying3,Tryz.underlying3⟩,fun f g h=>by rw[Tryz.underlying132] at h;cases h;exact⟨(inferInstance:T1 Tryz.prog 3),(inferInstance:T1 Tryz.prog 3)⟩,by kernel_rfl,by kernel_rfl⟩
instance:Qy Tryz.prog 139 (.pointer none):=⟨by kernel_rfl⟩
instance:Gn Tryz.prog 139:=⟨⟨_,Tryz.underlying139⟩⟩
instance:Yc Tryz.prog 147 62 3:=⟨Tryz.underlying147⟩
instance:T1 Tryz.prog 150:=mT Tryz.underlying150
instance:T1 Tryz.prog 151:=mT Tryz.underlying151
instance:VB Tryz.prog 151 158 6 40:=⟨Tryz.underlying151,by kernel_rfl⟩
instance:T1 Tryz.prog 152:=mT Tryz.underlying152
instance:Gn Tryz.prog 152:=⟨⟨_,Tryz.underlying152⟩⟩
instance:Qy Tryz.prog 154 (.agg #[.slice none 0 0,.pointer none,.int .i64 0]):=⟨by kernel_rfl⟩
instance:YH Tryz.prog 154 [(0,1),(1,1),(2,1)]:=⟨_,Tryz.underlying154,by kernel_rfl⟩
instance:QL Tryz.prog 154 0 0:=mF Tryz.underlying154
instance:QL Tryz.prog 154 1 1:=mF Tryz.underlying154
instance:Qy Tryz.prog 158 (.agg #[.int .i64 0,.bool false,.int .i64 0,.int .i64 0,.bool false,.bool false]):=⟨by kernel_rfl⟩
instance:QL Tryz.prog 158 0 0:=mF Tryz.underlying158
instance:QL Tryz.prog 158 1 1:=mF Tryz.underlying158
instance:QL Tryz.prog 158 2 2:=⟨_,_,Tryz.underlying158,rfl,rfl,4,by kernel_rfl,by decide⟩
instance:T1 Tryz.prog 162:=mT Tryz.underlying162
instance:TN Tryz.prog 164 4:=⟨.inl ⟨_,Tryz.underlying164⟩,by kernel_rfl⟩
instance:Qy Tryz.prog 164 (.agg #[.int .i64 0,.slice none 0 0,.int .i64 0,.slice none 0 0]):=⟨by kernel_rfl⟩
instance:YH Tryz.prog 164 [(0,1),(1,1),(2,1),(3,1)]:=⟨_,Tryz.underlying164,by kernel_rfl⟩
instance:QL Tryz.prog 164 0 0:=mF Tryz.underlying164
instance:QL Tryz.prog 164 1 1:=mF Tryz.underlying164
instance:QL Tryz.prog 164 2 2:=mF Tryz.underlying164
instance:QL Tryz.prog 164 3 3:=mF Tryz.underlying164
instance:Qy Tryz.prog 199 (.agg #[.slice none 0 0]):=⟨by kernel_rfl⟩
instance:YH Tryz.prog 199 [(0,1)]:=⟨_,Tryz.underlying199,by kernel_rfl⟩
instance:QL Tryz.prog 199 0 0:=mF Tryz.underlying199
instance:T1 Tryz.prog 202:=mT Tryz.underlying202
instance:Qy Tryz.prog 202 (.map none):=⟨by kernel_rfl⟩
instance:Yc Tryz.prog 202 132 3:=⟨Tryz.underlying202⟩
instance:T1 Tryz.prog 203:=mT Tryz.underlying203
instance:Yc Tryz.prog 203 3 202:=⟨Tryz.underlying203⟩
instance:Qy Tryz.prog 205 (.agg #[.map none,.map none,.map none]):=⟨by kernel_rfl⟩
instance:YH Tryz.prog 205 [(0,1),(1,1),(2,1)]:=⟨_,Tryz.underlying205,by kernel_rfl⟩
instance:QL Tryz.prog 205 0 0:=mF Tryz.underlying205
instance:QL Tryz.prog 205 1 1:=mF Tryz.underlying205
instance:QL Tryz.prog 205 2 2:=mF Tryz.underlying205
instance:Qy Tryz.prog 213 (.agg #[.pointer none,.pointer none]):=⟨by kernel_rfl⟩
instance:YH Tryz.prog 213 [(0,1),(1,1)]:=⟨_,Tryz.underlying213,by kernel_rfl⟩
instance:QL Tryz.prog 213 0 0:=mF Tryz.underlying213
instance:QL Tryz.prog 213 1 1:=mF Tryz.underlying213
instance:T1 Tryz.prog 222:=mT Tryz.underlying222
instance:VB Tryz.prog 222 226 2 16:=⟨Tryz.underlying222,by kernel_rfl⟩
instance:Qy Tryz.prog 224 (.agg #[.pointer none,.int .i64 0,.slice none 0 0,.int .i64 0,.int .i64 0]):=⟨by kernel_rfl⟩
instance:YH Tryz.prog 224 [(0,1),(1,1),(2,1),(3,1),(4,1)]:=⟨_,Tryz.underlying224,by kernel_rfl⟩
instance:QL Tryz.prog 224 0 0:=mF Tryz.underlying224
instance:QL Tryz.prog 224 1 1:=mF Tryz.underlying224
instance:QL Tryz.prog 224 2 2:=mF Tryz.underlying224
instance:QL Tryz.prog 224 3 3:=mF Tryz.underlying224
instance:QL Tryz.prog 224 4 4:=mF Tryz.underlying224
instance:TN Tryz.prog 226 2:=⟨.inl ⟨_,Tryz.underlying226⟩,by kernel_rfl⟩
instance:Qy Tryz.prog 226 (.agg #[.int .i64 0,.int .i64 0]):=⟨by kernel_rfl⟩
instance:YH Tryz.prog 226 [(0,1),(1,1)]:=⟨_,Tryz.underlying226,by kernel_rfl⟩
instance:QL Tryz.prog 226 0 0:=mF Tryz.underlying226
instance:QL Tryz.prog 226 1 1:=mF Tryz.underlying226
instance:Kn Tryz.prog 226:=⟨⟨_,_,_,_,Tryz.underlying226,by decide,by decide,rfl,rfl,Tryz.underlying3,Tryz.underlying3⟩,fun f g h=>by rw[Tryz.underlying226] at h;cases h;exact⟨(inferInstance:T1 Tryz.prog 3),(inferInstance:T1 Tryz.prog 3)⟩,by kernel_rfl,by kernel_rfl⟩
instance:Qy Tryz.prog 230 (.agg #[.slice none 0 0,.int .i64 0,.slice none 0 0,.pointer none]):=⟨by kernel_rfl⟩
instance:YH Tryz.prog 230 [(0,1),(1,1),(2,1),(3,1)]:=⟨_,Tryz.underlying230,by kernel_rfl⟩
instance:QL Tryz.prog 230 0 0:=mF Tryz.underlying230
instance:QL Tryz.prog 230 1 1:=mF Tryz.underlying230
instance:QL Tryz.prog 230 2 2:=mF Tryz.underlying230
instance:QL Tryz.prog 230 3 3:=mF Tryz.underlying230
instance:Qy Tryz.prog 235 (.agg #[.int .i64 0,.slice none 0 0,.int .i64 0]):=⟨by kernel_rfl⟩
instance:YH Tryz.prog 235 [(0,1),(1,1),(2,1)]:=⟨_,Tryz.underlying235,by kernel_rfl⟩
instance:QL Tryz.prog 235 0 0:=mF Tryz.underlying235
instance:QL Tryz.prog 235 1 1:=mF Tryz.underlying235
instance:QL Tryz.prog 235 2 2:=mF Tryz.underlying235
instance:Qy Tryz.prog 245 (.agg #[.slice none 0 0]):=⟨by kernel_rfl⟩
instance:YH Tryz.prog 245 [(0,1)]:=⟨_,Tryz.underlying245,by kernel_rfl⟩
instance:QL Tryz.prog 245 0 0:=mF Tryz.underlying245
instance:VB Tryz.prog 248 308 2 16:=⟨Tryz.underlying248,by kernel_rfl⟩
instance:Qy Tryz.prog 266 (.agg #[.int .i64 0,.int .i64 0,.int .i64 0,.slice none 0 0,.slice none 0 0,.slice none 0 0,.bool false,.bool false,.bool false]):=⟨by kernel_rfl⟩
instance:YH Tryz.prog 266 [(0,1),(1,1),(2,1),(3,1),(4,1),(5,1),(6,1),(7,1),(8,1)]:=⟨_,Tryz.underlying266,by kernel_rfl⟩
instance:QL Tryz.prog 266 0 0:=mF Tryz.underlying266
instance:QL Tryz.prog 266 1 1:=mF Tryz.underlying266
instance:QL Tryz.prog 266 2 2:=mF Tryz.underlying266
instance:QL Tryz.prog 266 3 3:=mF Tryz.underlying266
instance:QL Tryz.prog 266 4 4:=mF Tryz.underlying266
instance:QL Tryz.prog 266 5 5:=mF Tryz.underlying266
instance:QL Tryz.prog 266 6 6:=mF Tryz.underlying266
instance:QL Tryz.prog 266 7 7:=mF Tryz.underlying266
instance:QL Tryz.prog 266 8 8:=mF Tryz.underlying266
instance:T1 Tryz.prog 267:=mT Tryz.underlying267
instance:Qy Tryz.prog 267 (.pointer none):=⟨by kernel_rfl⟩
instance:TN Tryz.prog 308 2:=⟨.inl ⟨_,Tryz.underlying308⟩,by kernel_rfl⟩
instance:Qy Tryz.prog 308 (.agg #[.int .i64 0,.int .i64 0]):=⟨by kernel_rfl⟩
instance:YH Tryz.prog 308 [(0,1),(1,1)]:=⟨_,Tryz.underlying308,by kernel_rfl⟩
instance:QL Tryz.prog 308 0 0:=mF Tryz.underlying308
instance:QL Tryz.prog 308 1 1:=mF Tryz.underlying308
instance:QY Tryz.prog 5:=mB Tryz.func5
instance:QY Tryz.prog 6:=mB Tryz.func6
instance:QY Tryz.prog 7:=mB Tryz.func7
instance:QY Tryz.prog 8:=mB Tryz.func8
instance:QY Tryz.prog 9:=mB Tryz.func9
instance:QY Tryz.prog 10:=mB Tryz.func10
instance:QY Tryz.prog 11:=mB Tryz.func11
instance:QY Tryz.prog 12:=mB Tryz.func12
instance:QY Tryz.prog 13:=mB Tryz.func13
instance:QY Tryz.prog 14:=mB Tryz.func14
instance:QY Tryz.prog 15:=mB Tryz.func15
instance:QY Tryz.prog 17:=mB Tryz.func17
instance:QY Tryz.prog 18:=mB Tryz.func18
instance:QY Tryz.prog 19:=mB Tryz.func19
instance:QY Tryz.prog 20:=mB Tryz.func20
instance:QY Tryz.prog 21:=mB Tryz.func21
instance:QY Tryz.prog 22:=mB Tryz.func22
instance:QY Tryz.prog 23:=mB Tryz.func23
instance:QY Tryz.prog 24:=mB Tryz.func24
instance:QY Tryz.prog 25:=mB Tryz.func25
instance:QY Tryz.prog 26:=mB Tryz.func26
instance:QY Tryz.prog 27:=mB Tryz.func27
instance:QY Tryz.prog 28:=mB Tryz.func28
instance:QY Tryz.prog 29:=mB Tryz.func29
instance:QY Tryz.prog 30:=mB Tryz.func30
instance:QY Tryz.prog 31:=mB Tryz.func31
instance:QY Tryz.prog 32:=mB Tryz.func32
instance:QY Tryz.prog 33:=mB Tryz.func33
instance:QY Tryz.prog 34:=mB Tryz.func34
instance:QY Tryz.prog 35:=mB Tryz.func35
instance:QY Tryz.prog 36:=mB Tryz.func36
instance:QY Tryz.prog 37:=mB Tryz.func37
instance:QY Tryz.prog 38:=mB Tryz.func38
instance:QY Tryz.prog 39:=mB Tryz.func39
instance:QY Tryz.prog 40:=mB Tryz.func40
instance:QY Tryz.prog 41:=mB Tryz.func41
instance:QY Tryz.prog 42:=mB Tryz.func42
instance:QY Tryz.prog 43:=mB Tryz.func43
instance:QY Tryz.prog 44:=mB Tryz.func44
instance:QY Tryz.prog 45:=mB Tryz.func45
instance:QY Tryz.prog 46:=mB Tryz.func46
instance:QY Tryz.prog 47:=mB Tryz.func47
instance:QY Tryz.prog 48:=mB Tryz.func48
instance:QY Tryz.prog 49:=mB Tryz.func49
instance:QY Tryz.prog 50:=mB Tryz.func50
instance:QY Tryz.prog 51:=mB Tryz.func51
instance:QY Tryz.prog 52:=mB Tryz.func52
instance:QY Tryz.prog 53:=mB Tryz.func53
instance:QY Tryz.prog 54:=mB Tryz.func54
instance:QY Tryz.prog 55:=mB Tryz.func55
instance:QY Tryz.prog 56:=mB Tryz.func56
instance:QY Tryz.prog 57:=mB Tryz.func57
instance:QY Tryz.prog 58:=mB Tryz.func58
instance:QY Tryz.prog 59:=mB Tryz.func59
instance:QY Tryz.prog 62:=mB Tryz.func62
instance:QY Tryz.prog 63:=mB Tryz.func63
instance:QY Tryz.prog 64:=mB Tryz.func64
instance:QY Tryz.prog 65:=mB Tryz.func65
instance:QY Tryz.prog 66:=mB Tryz.func66
instance:QY Tryz.prog 67:=mB Tryz.func67
instance:QY Tryz.prog 68:=mB Tryz.func68
instance:QY Tryz.prog 69:=mB Tryz.func69
instance:QY Tryz.prog 70:=mB Tryz.func70
instance:QY Tryz.prog 71:=mB Tryz.func71
instance:QY Tryz.prog 72:=mB Tryz.func72
instance:QY Tryz.prog 73:=mB Tryz.func73
instance:QY Tryz.prog 74:=mB Tryz.func74
instance:QY Tryz.prog 75:=mB Tryz.func75
instance:QY Tryz.prog 76:=mB Tryz.func76
instance:QY Tryz.prog 77:=mB Tryz.func77
instance:QY Tryz.prog 78:=mB Tryz.func78
instance:QY Tryz.prog 79:=mB Tryz.func79
instance:QY Tryz.prog 80:=mB Tryz.func80
instance:QY Tryz.prog 81:=mB Tryz.func81
instance:QY Tryz.prog 82:=mB Tryz.func82
instance:QY Tryz.prog 83:=mB Tryz.func83
instance:QY Tryz.prog 84:=mB Tryz.func84
instance:QY Tryz.prog 85:=mB Tryz.func85
instance:QY Tryz.prog 86:=mB Tryz.func86
instance:QY Tryz.prog 87:=mB Tryz.func87
instance:QY Tryz.prog 88:=mB Tryz.func88
instance:QY Tryz.prog 89:=mB Tryz.func89
instance:QY Tryz.prog 90:=mB Tryz.func90
instance:QY Tryz.prog 91:=mB Tryz.func91
instance:QY Tryz.prog 92:=mB Tryz.func92
instance:QY Tryz.prog 93:=mB Tryz.func93
instance:QY Tryz.prog 94:=mB Tryz.func94
instance:QY Tryz.prog 97:=mB Tryz.func97
instance:QY Tryz.prog 98:=mB Tryz.func98
instance:QY Tryz.prog 100:=mB Tryz.func100
instance:QY Tryz.prog 101:=mB Tryz.func101
instance:QY Tryz.prog 102:=mB Tryz.func102
instance:QY Tryz.prog 103:=mB Tryz.func103
instance:QY Tryz.prog 104:=mB Tryz.func104
instance:QY Tryz.prog 105:=mB Tryz.func105
instance:QY Tryz.prog 106:=mB Tryz.func106
instance:QY Tryz.prog 107:=mB Tryz.func107
instance:QY Tryz.prog 108:=mB Tryz.func108
instance:QY Tryz.prog 109:=mB Tryz.func109
instance:QY Tryz.prog 110:=mB Tryz.func110
instance:QY Tryz.prog 111:=mB Tryz.func111
instance:QY Tryz.prog 112:=mB Tryz.func112
instance:QY Tryz.prog 113:=mB Tryz.func113
instance:QY Tryz.prog 114:=mB Tryz.func114
instance:QY Tryz.prog 115:=mB Tryz.func115
instance:QY Tryz.prog 116:=mB Tryz.func116
instance:QY Tryz.prog 117:=mB Tryz.func117
instance:QY Tryz.prog 118:=mB Tryz.func118
instance:QY Tryz.prog 119:=mB Tryz.func119
instance:QY Tryz.prog 120:=mB Tryz.func120
instance:QY Tryz.prog 121:=mB Tryz.func121
instance:QY Tryz.prog 122:=mB Tryz.func122
instance:QY Tryz.prog 123:=mB Tryz.func123
instance:QY Tryz.prog 124:=mB Tryz.func124
instance:QY Tryz.prog 125:=mB Tryz.func125
instance:QY Tryz.prog 127:=mB Tryz.func127
instance:QY Tryz.prog 128:=mB Tryz.func128
instance:QY Tryz.prog 129:=mB Tryz.func129
instance:QY Tryz.prog 130:=mB Tryz.func130
instance:QY Tryz.prog 131:=mB Tryz.func131
instance:QY Tryz.prog 132:=mB Tryz.func132
instance:QY Tryz.prog 133:=mB Tryz.func133
instance:QY Tryz.prog 134:=mB Tryz.func134
instance:QY Tryz.prog 135:=mB Tryz.func135
instance:QY Tryz.prog 136:=mB Tryz.func136
instance:QY Tryz.prog 137:=mB Tryz.func137
instance:QY Tryz.prog 138:=mB Tryz.func138
instance:QY Tryz.prog 139:=mB Tryz.func139
instance:QY Tryz.prog 140:=mB Tryz.func140
instance:QY Tryz.prog 141:=mB Tryz.func141
instance:QY Tryz.prog 142:=mB Tryz.func142
instance:QY Tryz.prog 143:=mB Tryz.func143
instance:QY Tryz.prog 144:=mB Tryz.func144
instance:QY Tryz.prog 145:=mB Tryz.func145
instance:QY Tryz.prog 146:=mB Tryz.func146
instance:QY Tryz.prog 147:=mB Tryz.func147
instance:QY Tryz.prog 148:=mB Tryz.func148
instance:QY Tryz.prog 149:=mB Tryz.func149
instance:QY Tryz.prog 150:=mB Tryz.func150
instance:QY Tryz.prog 151:=mB Tryz.func151
instance:QY Tryz.prog 152:=mB Tryz.func152
instance:QY Tryz.prog 153:=mB Tryz.func153
instance:QY Tryz.prog 154:=mB Tryz.func154
instance:QY Tryz.prog 155:=mB Tryz.func155
instance:QY Tryz.prog 156:=mB Tryz.func156
instance:QY Tryz.prog 157:=mB Tryz.func157
instance:QY Tryz.prog 158:=mB Tryz.func158
instance:QY Tryz.prog 159:=mB Tryz.func159
instance:QY Tryz.prog 160:=mB Tryz.func160
instance:QY Tryz.prog 161:=mB Tryz.func161
instance:QY Tryz.prog 162:=mB Tryz.func162
instance:QY Tryz.prog 163:=mB Tryz.func163
instance:QY Tryz.prog 164:=mB Tryz.func164
instance:QY Tryz.prog 165:=mB Tryz.func165
instance:QY Tryz.prog 166:=mB Tryz.func166
instance:QY Tryz.prog 167:=mB Tryz.func167
instance:QY Tryz.prog 168:=mB Tryz.func168
instance:QY Tryz.prog 169:=mB Tryz.func169
instance:QY Tryz.prog 170:=mB Tryz.func170
instance:QY Tryz.prog 181:=mB Tryz.func181
instance:QY Tryz.prog 182:=mB Tryz.func182
instance:QY Tryz.prog 183:=mB Tryz.func183
instance:QY Tryz.prog 184:=mB Tryz.func184
instance:QY Tryz.prog 185:=mB Tryz.func185
instance:QY Tryz.prog 186:=mB Tryz.func186
instance:QY Tryz.prog 187:=mB Tryz.func187
instance:QY Tryz.prog 189:=mB Tryz.func189
instance:QY Tryz.prog 190:=mB Tryz.func190
instance:QY Tryz.prog 191:=mB Tryz.func191
instance:QY Tryz.prog 192:=mB Tryz.func192
instance:QY Tryz.prog 193:=mB Tryz.func193
instance:QY Tryz.prog 194:=mB Tryz.func194
instance:QY Tryz.prog 195:=mB Tryz.func195
instance:QY Tryz.prog 196:=mB Tryz.func196
instance:QY Tryz.prog 197:=mB Tryz.func197
instance:QY Tryz.prog 198:=mB Tryz.func198
instance:QY Tryz.prog 199:=mB Tryz.func199
instance:QY Tryz.prog 200:=mB Tryz.func200
instance:QY Tryz.prog 201:=mB Tryz.func201
instance:QY Tryz.prog 202:=mB Tryz.func202
instance:QY Tryz.prog 203:=mB Tryz.func203
instance:QY Tryz.prog 204:=mB Tryz.func204
instance:QY Tryz.prog 205:=mB Tryz.func205
instance:QY Tryz.prog 206:=mB Tryz.func206
instance:QY Tryz.prog 207:=mB Tryz.func207
instance:QY Tryz.prog 208:=mB Tryz.func208
instance:QY Tryz.prog 211:=mB Tryz.func211
instance:QY Tryz.prog 212:=mB Tryz.func212
instance:QY Tryz.prog 213:=mB Tryz.func213
instance:QY Tryz.prog 214:=mB Tryz.func214
instance:QY Tryz.prog 215:=mB Tryz.func215
instance:QY Tryz.prog 216:=mB Tryz.func216
instance:QY Tryz.prog 217:=mB Tryz.func217
instance:QY Tryz.prog 218:=mB Tryz.func218
instance:QY Tryz.prog 219:=mB Tryz.func219
instance:QY Tryz.prog 220:=mB Tryz.func220
instance:QY Tryz.prog 221:=mB Tryz.func221
instance:QY Tryz.prog 222:=mB Tryz.func222
instance:QY Tryz.prog 223:=mB Tryz.func223
instance:QY Tryz.prog 229:=mB Tryz.func229
instance:QY Tryz.prog 230:=mB Tryz.func230
instance:QY Tryz.prog 231:=mB Tryz.func231
instance:QY Tryz.prog 232:=mB Tryz.func232
instance:QY Tryz.prog 233:=mB Tryz.func233
instance:QY Tryz.prog 234:=mB Tryz.func234
instance:QY Tryz.prog 235:=mB Tryz.func235
instance:QY Tryz.prog 236:=mB Tryz.func236
instance:QY Tryz.prog 238:=mB Tryz.func238
instance:QY Tryz.prog 239:=mB Tryz.func239
instance:QY Tryz.prog 240:=mB Tryz.func240
instance:QY Tryz.prog 241:=mB Tryz.func241
instance:QY Tryz.prog 242:=mB Tryz.func242
instance:QY Tryz.prog 243:=mB Tryz.func243
instance:QY Tryz.prog 244:=mB Tryz.func244
instance:QY Tryz.prog 245:=mB Tryz.func245
instance:QY Tryz.prog 246:=mB Tryz.func246
instance:QY Tryz.prog 248:=mB Tryz.func248
instance:QY Tryz.prog 250:=mB Tryz.func250
instance:QY Tryz.prog 252:=mB Tryz.func252
theorem mixed:Tryz.prog.follows .mixedOrders=true:=by kernel_rfl
end Go.Proofs.YtbnnnljagkjpiaaGreatDoor
set_option linter.unusedSimpArgs false
set_option linter.unusedSectionVars false
namespace Go.SL
theorem UG {a:Nat} (h:a < 18446744073709551616):IntKind.u64.wrap (a:Int)=a:=by
 simp[IntKind.wrap,IntKind.bits,IntKind.signed];omega
theorem K6 {a:Nat} (h:a < 9223372036854775808):IntKind.i64.wrap (a:Int)=a:=by
 simp[IntKind.wrap,IntKind.bits,IntKind.signed];omega
theorem Ku {a:Nat}:BitVec.ofInt 64 (a:Int)=BitVec.ofNat 64 a:=by
 apply BitVec.eq_of_toNat_eq;simp[BitVec.toNat_ofInt]
theorem DR {a b:Nat} (ha:a < 18446744073709551616) (hb:b < 18446744073709551616):YG .and .u64 a b=((a &&& b:Nat):Int):=by
 show IntKind.u64.wrap (((BitVec.ofInt 64 (a:Int)) &&& (BitVec.ofInt 64 (b:Int))).toNat:Int)=_;have hl:a &&& b < 18446744073709551616:=Nat.lt_of_le_of_lt Nat.and_le_left ha;rw[Ku,Ku,BitVec.toNat_and,BitVec.toNat_ofNat,BitVec.toNat_ofNat,Nat.mod_eq_of_lt ha,Nat.mod_eq_of_lt hb,UG hl]
theorem Ls {a b:Nat} (ha:a < 18446744073709551616) (hb:b < 18446744073709551616):YG .or .u64 a b=((a ||| b:Nat):Int):=by
 show IntKind.u64.wrap (((BitVec.ofInt 64 (a:Int)) ||| (BitVec.ofInt 64 (b:Int))).toNat:Int)=_;have hl:a ||| b < 18446744073709551616:=Nat.or_lt_two_pow (n:=64) ha hb;rw[Ku,Ku,BitVec.toNat_or,BitVec.toNat_ofNat,BitVec.toNat_ofNat,Nat.mod_eq_of_lt ha,Nat.mod_eq_of_lt hb,UG hl]
theorem Lt {a b:Nat} (ha:a < 18446744073709551616) (hb:b < 18446744073709551616):YG .xor .u64 a b=((a ^^^ b:Nat):Int):=by
 show IntKind.u64.wrap (((BitVec.ofInt 64 (a:Int)) ^^^ (BitVec.ofInt 64 (b:Int))).toNat:Int)=_;have hl:a ^^^ b < 18446744073709551616:=Nat.xor_lt_two_pow (n:=64) ha hb;rw[Ku,Ku,BitVec.toNat_xor,BitVec.toNat_ofNat,BitVec.toNat_ofNat,Nat.mod_eq_of_lt ha,Nat.mod_eq_of_lt hb,UG hl]
theorem S9 {a b:Nat} (ha:a < 18446744073709551616) (hb:b < 18446744073709551616):YG .andNot .u64 a b=((a &&& (18446744073709551615 - b):Nat):Int):=by
 show IntKind.u64.wrap (((BitVec.ofInt 64 (a:Int)) &&& ~~~(BitVec.ofInt 64 (b:Int))).toNat:Int)=_;have hl:a &&& (18446744073709551615 - b) < 18446744073709551616:=Nat.lt_of_le_of_lt Nat.and_le_left ha;rw[Ku,Ku,BitVec.toNat_and,BitVec.toNat_not,BitVec.toNat_ofNat,BitVec.toNat_ofNat,Nat.mod_eq_of_lt ha,Nat.mod_eq_of_lt hb];exact UG hl
theorem Fw {a b:Nat} (hb:b < 64):XE .u64 a b=((a*2 ^ b % 18446744073709551616:Nat):Int):=by
 unfold XE;have hm:min (b:Int).toNat IntKind.u64.bits=b:=by simp[IntKind.bits];omega
 rw[hm];have:((a:Int)*2 ^ b)=((a*2 ^ b:Nat):Int):=by simp
 rw[this];generalize a*2 ^ b=x;simp[IntKind.wrap,IntKind.bits,IntKind.signed]
theorem BZ {k:IntKind} {a b:Nat} (hb:b < 64) (hk:IntKind.bits k=64):Uz k a b=((a / 2 ^ b:Nat):Int):=by
 unfold Uz;have hm:min (b:Int).toNat (IntKind.bits k)=b:=by rw[hk];simp;omega
 rw[hm,Int.fdiv_eq_ediv_of_nonneg _ (by exact_mod_cast Nat.zero_le _)];simp
def YO (a wd:Nat):Nat:=(2 ^ wd - 1)*2 ^ a
theorem BG {a wd:Nat} (h:a+wd≤64):YO a wd < 18446744073709551616:=by
 unfold YO;have h1:(2 ^ wd - 1)*2 ^ a < 2 ^ wd*2 ^ a:=(Nat.mul_lt_mul_right (Nat.two_pow_pos a)).2 (Nat.sub_lt (Nat.two_pow_pos wd) (by decide));rw[← Nat.pow_add] at h1;have h2:2 ^ (wd+a)≤2 ^ 64:=Nat.pow_le_pow_right (by decide) (by omega);exact Nat.lt_of_lt_of_le h1 h2
theorem Lu {a wd i:Nat}:(YO a wd).testBit i=(decide (a≤i) && decide (i < a+wd)):=by
 unfold YO;rw[← Nat.shiftLeft_eq,Nat.testBit_shiftLeft,Nat.testBit_two_pow_sub_one];by_cases h:a≤i
 ·simp[h];omega
 ·simp[h]
theorem Lv {w a wd:Nat}:w &&& YO a wd=(w / 2 ^ a % 2 ^ wd)*2 ^ a:=by
 apply Nat.eq_of_testBit_eq;intro i;rw[Nat.testBit_and,Lu,← Nat.shiftLeft_eq,Nat.testBit_shiftLeft,Nat.testBit_mod_two_pow,Nat.testBit_div_two_pow];by_cases h:a≤i
 ·simp only[h,decide_true,Bool.true_and,ge_iff_le];rw[show i - a+a=i by omega,Bool.and_comm];congr 1;exact decide_eq_decide.2 (by omega)
 ·simp[h]
theorem SQ {w a wd:Nat}:(w &&& YO a wd) / 2 ^ a=w / 2 ^ a % 2 ^ wd:=by
 rw[Lv,Nat.mul_div_cancel _ (Nat.two_pow_pos a)]
theorem SV {w a wd:Nat} (hw:w < 2 ^ a) (h:a+wd≤64):w &&& (18446744073709551615 - YO a wd)=w:=by
 apply Nat.eq_of_testBit_eq;intro i;have hm:=BG h;have e:18446744073709551615 - YO a wd=2 ^ 64 - (YO a wd+1):=by omega
 rw[Nat.testBit_and,e,Nat.testBit_two_pow_sub_succ hm,Lu];by_cases hi:a≤i
 ·have:w.testBit i=false:=Nat.testBit_lt_two_pow (Nat.lt_of_lt_of_le hw (Nat.pow_le_pow_right (by decide) hi));simp[this]
 ·by_cases h64:i < 64
  ·simp[hi,h64]
  ·omega
theorem Lw {w a x:Nat} (hw:w < 2 ^ a):w ||| x*2 ^ a=w+x*2 ^ a:=by
 have:=Nat.shiftLeft_add_eq_or_of_lt hw x;rw[Nat.shiftLeft_eq] at this;rw[Nat.or_comm,← this,Nat.add_comm]
open List
theorem QZ.of_get {c:List Value}:∀ {vs:List Value} {o:Nat},(∀ j v,vs[j]? = some v→c[o+j]? = some v)→QZ c o vs.length vs
 | [],o,_ => .nil o
 | v::vs,o,h => .cons (by simpa using h 0 v rfl) (QZ.of_get fun j u hj=>by
  have:=h (j+1) u (by simpa using hj);rw[show o+1+j=o+(j+1) by omega];exact this)
theorem QZ.part {c cs es:List Value} {o n i:Nat} (h:QZ c o n cs) (he:∀ j v,es[j]? = some v→cs[i+j]? = some v):QZ c (o+i) es.length es:=
 QZ.of_get fun j v hj=>by
  have:=h.get (i+j) v (he j v hj);rw[Nat.add_assoc];exact this
theorem DW:∀ (vs:List Value) (c:List Value) (o:Nat),o+vs.length≤c.length→wr c o vs=c.take o++vs++c.drop (o+vs.length)
 | [],c,o,h=>by simp[wr]
 | v::vs,c,o,h=>by
  rw[length_cons] at h;have ih:=DW vs (c.set o v) (o+1) (by simp;omega);show wr (c.set o v) (o+1) vs=_;rw[ih]
  have h1:(c.set o v).take (o+1)=c.take o++[v]:=by
   rw[take_add_one,take_set_of_le (Nat.le_refl _)];simp[getElem?_set,show o < c.length by omega]
  have h2:(c.set o v).drop (o+1+vs.length)=c.drop (o+(v::vs).length):=by
   rw[drop_set_of_lt (by omega)];simp[Nat.add_assoc,Nat.add_comm,Nat.add_left_comm]
  rw[h1,h2];simp
def Vh (l:List Q2) (v:Value) (m k:Nat) (cs:List Value):Prop:=
 cs.length=m*k∧∃ ad cap,v = .slice ad m cap∧(m=0∨∃ b o E fz c,ad=some ⟨b,o,none⟩∧At b (.cells (List.toArray c) E fz) l∧QZ c o (m*k) cs)
theorem Vh.there {A:Q2} {l:List Q2} {v:Value} {m k:Nat} {cs:List Value} (h:Vh l v m k cs):Vh (A::l) v m k cs:=by
 obtain⟨h0,ad,cap,rfl,h⟩:=h;refine⟨h0,ad,cap,rfl,?_⟩
 rcases h with h|⟨b,o,E,fz,c,h1,h2,h3⟩
 ·exact .inl h
 ·exact .inr ⟨b,o,E,fz,c,h1,At.there (i:=h2),h3⟩
section
variable {P:Program} {n:Nat} {r:Option Nat} {ops:Array Oper} {Q:Y6} {ms:List Nat} {σ:QX} {w:World} {rest:List Oper} {o:Oper} {K:QX→World→Prop} {l l':List Q2}
variable {u t s:TypeId} {p:String} {af:Array Edge} {g:Option (Nat×Bool)} {d:Option Tmp} {x y z:Operand}
theorem sls_rd [Q4] {E k m:Nat} {v:Value} {cs:List Value} (H:Q0 w (QC E k v cs::l)) (hm:cs.length=m*k) (k0:0 < k) :
  ∃ D,Q0 w (D::l)∧(∀ l',Vh (D::l') v m k cs)∧∀ w' l',Q0 w' (D::l')→Q0 w' (QC E k v cs::l'):=by
 rcases GV H with ⟨rfl,rfl,H'⟩|⟨b,len,cap,spare,rfl,e3,e4,e5,H'⟩
 ·have m0:m=0:=by
   rcases Nat.mul_eq_zero.1 (show m*k=0 from hm.symm) with h|h
   ·exact h
   ·omega
  subst m0;exact⟨_,H,fun l'=>⟨hm,none,0,rfl,.inl rfl⟩,fun _ _ h=>h⟩
 ·have e:len=m:=Nat.eq_of_mul_eq_mul_right k0 (e3.symm.trans hm);subst e;refine⟨_,H',fun l'=>⟨hm,_,cap,rfl,.inr ⟨b,0,E,(0,0),cs++spare,rfl,At.here,?_⟩⟩,fun w' l' h=>ZZ e3 e4 e5 h⟩;rw[← hm];refine QZ.of_get fun j v hj=>?_;rw[Nat.zero_add,getElem?_append_left (List.getElem?_eq_some_iff.1 hj).1];exact hj
theorem Fx {e size bytes len cap c2:Nat} {a a2:Option Addr} (hT:VB P t e size bytes) (ty:TypeId) (h:len≤cap):(Builtin.append_ #[t,t] ty #[.slice a len cap,.slice a2 0 c2]).run P w = .ok (.slice a len cap) w:=by
 obtain⟨i,hi,e2⟩:=Option.map_eq_some_iff.1 hT.info;simp only[Prod.mk.injEq] at e2;have hs:(sizeOf e).run P w = .ok size w:=Zu (by rw[hi];simp[e2.1])
 have hf:(Builtin.firstCells size 0 (.slice a2 0 c2)).run P w = .ok #[] w:=by
  cases a2 with
  | none=>rfl
  | some a2=>
   have:=run_loadCells_list (P:=P) (w:=w) a2 [] (by simp);simpa [Builtin.firstCells] using this
 have hst:∀ a',(storeCells a' []).run P w = .ok () w:=fun a'=>by rw[storeCells.eq_def];rfl
 cases a with
 | none=>simp[Builtin.append_,Vn hT.und,hs,Builtin.lenOf,h,hf]
 | some a=>simp[Builtin.append_,Vn hT.und,hs,Builtin.lenOf,h,hf,hst]
theorem Fy [Q4] {e size bytes:Nat} {zv v2:Value} [hT:VB P t e size bytes] [hz:Qy P e zv] {s:Value} {cs new:List Value} {m:Nat} (H:Q0 w (QC e size s cs::l))
  (hx:ev σ x=s) (hy:ev σ y=v2) (hr:Vh l v2 m size new) (h1:new.all (·.oneCell')=true)
  (hb:(cs.length+new.length)*bytes≤140737488355328) (hd:Qf n d=true) (hq:(decide ((Qt zv).length=size) && decide (0 < size) && decide (0 < bytes))=true)
  (k:∀ v' w',Q0 w' (QC e size v' (cs++new)::l)→K (put σ d v') w'):St P n r ⟨d,.call { callee := .builtin .append,args:=#[x,y],argTypes:=#[t,t] },u,p,af,g⟩ σ w K:=by
 obtain⟨h0,ad,cap,rfl,h⟩:=hr
 rcases Nat.eq_zero_or_pos m with rfl|hm
 ·have hn:new=[]:=eq_nil_of_length_eq_zero (by omega);subst hn;have H2:=H;rw[← append_nil cs] at H
  rcases GV H2 with ⟨rfl,_,_⟩|⟨b,len,cap',spare,rfl,_,e4,_,_⟩
  ·refine V3 (v := .slice none 0 0) (w':=w) hd (fun c e=>by cases e) ?_ (k _ _ H);simp[execOp,resolve,invoke,builtin,hx,hy,Fx (w:=w) hT u (Nat.le_refl 0)]
  ·refine V3 (v := .slice (some ⟨b,0,none⟩) len cap') (w':=w) hd (fun c e=>by cases e) ?_ (k _ _ H);simp[execOp,resolve,invoke,builtin,hx,hy,Fx (w:=w) hT u e4.1]
 ·rcases h with rfl|⟨b,o2,E,fz,c,rfl,hA,hrd⟩
  ·omega
  ·haveI:=hA;exact YF H hx hy hrd h1 hm hb hd hq k
theorem SY [Q4] {e size bytes:Nat} (H:Q0 w l) [hT:VB P t e size bytes] (hd:Qf n d=true)
  (k:∀ b w',Q0 w' (QC e size (.slice (some ⟨b,0,none⟩) 0 0) []::l)→K (put σ d (.slice (some ⟨b,0,none⟩) 0 0)) w'):St P n r ⟨d,.buildSlice t 0 #[],u,p,af,g⟩ σ w K:=by
 obtain⟨i,hi,e2⟩:=Option.map_eq_some_iff.1 hT.info;simp only[Prod.mk.injEq] at e2;have hs:(sizeOf e).run P w = .ok size w:=Zu (by rw[hi];simp[e2.1]);have hn:=H.new (row e []);refine V3 (v := .slice (some ⟨w.heap.size,0,none⟩) 0 0) (w':=w.alloc (.cells #[] e)) hd (fun c e=>by cases e) ?_ (k _ _ (Uh (by simp) hn));have e0:(Array.range 0).map (fun _:Nat=>(default:Value))=#[]:=by apply Array.ext <;> simp
 simp[execOp,Instr.buildSlice,Vn hT.und,hs,Instr.fill,newRow,e0]
theorem SZ (z:Value) (k:Nat):(Builtin.zeroCells z.cells k).toList=Vx (Qt z) k:=by
 have:=DZ (Qt z) k;unfold Builtin.zeroCells;rw[K4];have e:(Qt z).toArray.size=(Qt z).length:=by simp
 rw[e];rw[show (Qt z).length=(Qt z).toArray.size by simp] at this;rw[e] at this;rw[this]
theorem SG [Q4] {e size bytes b o2 m cap E:Nat} {zv:Value} {c:List Value} [hT:VB P t e size bytes] [hz:Qy P e zv] (H:Q0 w (pts b (row E c)::l)) (hx:ev σ x = .slice (some ⟨b,o2,none⟩) m cap) (hm:0 < m)
  (hl:o2+(Vx (Qt zv) m).length≤c.length) (h1:(Qt zv).all (·.oneCell')=true) (hd:Qf n d=true)
  (k:∀ w',Q0 w' (pts b (row E (wr c o2 (Vx (Qt zv) m)))::l)→K (put σ d (.tuple #[])) w'):St P n r ⟨d,.call { callee := .builtin .clear,args:=#[x],argTypes:=#[t] },u,p,af,g⟩ σ w K:=by
 obtain⟨i',hi',hz'⟩:=Option.map_eq_some_iff.1 hz.zero;have hzv:(zeroValue e).run P w = .ok zv w:=by simp[zeroValue,typeInfo,hi',hz']
 have hone:∀ v∈Vx (Qt zv) m,v.oneCell'=true:=by
  have:∀ m,∀ v∈Vx (Qt zv) m,v.oneCell'=true:=by
   intro m
   induction m with
   | zero=>intro v hv;simp[Vx] at hv
   | succ m ih=>
    intro v hv;simp only[Vx,mem_append] at hv
    rcases hv with hv|hv
    ·exact all_eq_true.1 h1 v hv
    ·exact ih v hv
  exact this m
 obtain⟨w',hr,h2,h3,h4⟩:=B1 (P:=P) (Vx (Qt zv) m) w b o2 E c 0 H.pts (by omega) hone;have H':=H.set (o':=row E (wr c (o2+0) (Vx (Qt zv) m))) h2 h3 h4;refine V3 (v := .tuple #[]) (w':=w') hd (fun c e=>by cases e) ?_ (k w' H');obtain⟨m',rfl⟩:∃ m',m=m'+1:=⟨m - 1,by omega⟩;simp[execOp,resolve,invoke,builtin,hx,Builtin.clear_,Vn hT.und,hzv,SZ,hr]
end
end Go.SL
namespace Go.SL
section
variable {P:Program} {n:Nat} {r:Option Nat} {σ:QX} {w:World} {K:QX→World→Prop} {l:List Q2}
variable {u t:TypeId} {p:String} {af:Array Edge} {g:Option (Nat×Bool)} {d:Option Tmp} {x y:Operand}
theorem Qq [Q4] {E k:Nat} {v:Value} {c:List Value} (H:Q0 w (QC E k v c::l)):∃ a m cap,v = .slice a m cap:=by
 rcases GV H with ⟨rfl,_,_⟩|⟨b,len,cap,spare,rfl,_⟩
 ·exact⟨none,0,0,rfl⟩
 ·exact⟨_,_,_,rfl⟩
theorem SU (a:Addr):a.add 0=a:=by simp[Addr.add]
theorem SX {e size bytes len cap:Nat} {ad:Option Addr} {q:IntKind} {i:Int} [hT:VB P t e size bytes] (hx:ev σ x = .slice ad len cap) (hy:ev σ y = .int q i) (h0:0≤i) (h1:i≤cap) (hd:Qf n d=true)
  (k:K (put σ d (.slice ad i.toNat cap)) w):St P n r ⟨d,.slice t x none (some y) none,u,p,af,g⟩ σ w K:=by
 have hs:(sizeOf e).run P w = .ok size w:=by
  obtain⟨k,hk,e2⟩:=Option.map_eq_some_iff.1 hT.info;simp only[Prod.mk.injEq] at e2;exact Zu (by rw[hk];simp[e2.1])
 refine V3 (v := .slice ad i.toNat cap) (w':=w) hd (fun c e=>by cases e) ?_ k;cases ad with
 | none=>simp[execOp,hx,hy,Instr.sliceAt,Instr.slice,Vn hT.und,Instr.sliceBounds,Instr.sliceBound,asIntOf,h0,h1,hs]
 | some a=>simp[execOp,hx,hy,Instr.sliceAt,Instr.slice,Vn hT.und,Instr.sliceBounds,Instr.sliceBound,asIntOf,h0,h1,hs,SU]
end
end Go.SL
namespace Go.Proofs
open Go.Shelf
def Tryz.laysLen_ren : Go.Shelf.Ren := ⟨fun | 129 => 181 | n => n, fun | 53 => 94 | 3 => 3 | 4 => 4 | 46 => 121 | 5 => 5 | 9 => 9 | n => n, fun | n => n⟩
theorem Tryz.laysLen : Go.Proofs.Lays.n129 Tryz.prog Tryz.laysLen_ren := {
  mixed := by kernel_rfl
  f129 := Tryz.func181.trans (congrArg some (by kernel_rfl))
  t3 := Tryz.underlying3
  a3 := Tryz.isAgg3
  z3 := Tryz.sizeOf3
  v3 := Tryz.zeroValue3
  t4 := Tryz.underlying4
  a4 := Tryz.isAgg4
  z4 := Tryz.sizeOf4
  v4 := Tryz.zeroValue4
  t5 := Tryz.underlying5
  a5 := Tryz.isAgg5
  z5 := Tryz.sizeOf5
  v5 := Tryz.zeroValue5
  t9 := Tryz.underlying9
  a9 := Tryz.isAgg9
  z9 := Tryz.sizeOf9
  v9 := Tryz.zeroValue9
  t46 := Tryz.underlying121
  a46 := Tryz.isAgg121
  z46 := Tryz.sizeOf121
  v46 := Tryz.zeroValue121
  t53 := Tryz.underlying94
  a53 := Tryz.isAgg94
  z53 := Tryz.sizeOf94
  v53 := Tryz.zeroValue94 }
def Tryz.laysTz_ren : Go.Shelf.Ren := ⟨fun | 29 => 202 | n => n, fun | 22 => 94 | 3 => 3 | 4 => 4 | 25 => 121 | 54 => 329 | 0 => 0 | 5 => 5 | n => n, fun | 1 => 0 | n => n⟩
theorem Tryz.laysTz : Go.Proofs.Lays7.n29 Tryz.prog Tryz.laysTz_ren := {
  mixed := by kernel_rfl
  f29 := Tryz.func202.trans (congrArg some (by kernel_rfl))
  t0 := Tryz.underlying0
  a0 := Tryz.isAgg0
  z0 := Tryz.sizeOf0
  v0 := Tryz.zeroValue0
  i0 := by kernel_rfl
  t3 := Tryz.underlying3
  a3 := Tryz.isAgg3
  z3 := Tryz.sizeOf3
  v3 := Tryz.zeroValue3
  i3 := by kernel_rfl
  t4 := Tryz.underlying4
  a4 := Tryz.isAgg4
  z4 := Tryz.sizeOf4
  v4 := Tryz.zeroValue4
  i4 := by kernel_rfl
  t5 := Tryz.underlying5
  a5 := Tryz.isAgg5
  z5 := Tryz.sizeOf5
  v5 := Tryz.zeroValue5
  i5 := by kernel_rfl
  t22 := Tryz.underlying94
  a22 := Tryz.isAgg94
  z22 := Tryz.sizeOf94
  v22 := Tryz.zeroValue94
  i22 := by kernel_rfl
  t25 := Tryz.underlying121
  a25 := Tryz.isAgg121
  z25 := Tryz.sizeOf121
  v25 := Tryz.zeroValue121
  i25 := by kernel_rfl
  t54 := Tryz.underlying329
  a54 := Tryz.isAgg329
  z54 := Tryz.sizeOf329
  g1 := by kernel_rfl }
end Go.Proofs
namespace Go.SL
open List
inductive SK where
 | i
 | b
def BU:SK→Value→Bool
 | .i,.int .i64 _=>true
 | .b,.bool _=>true
 | _,_=>false
def ZC:List SK→List Value→Bool
 | [],[]=>true
 | k::ks,v::vs=>BU k v && ZC ks vs
 | _,_=>false
@[reducible] def Fz:Value→Value→Bool
 | .int _ a,.int _ b=>a == b
 | .bool a,.bool b=>a == b
 | _,_=>false
@[reducible] def veq:List Value→List Value→Bool
 | [],[]=>true
 | x::xs,y::ys=>Fz x y && veq xs ys
 | _,_=>false
theorem Rq:∀ {ks:List SK} {vs:List Value},ZC ks vs=true→vs.length=ks.length
 | [],[],_=>rfl
 | [],_::_,h=>by cases h
 | _::_,[],h=>by cases h
 | _::ks,_::vs,h=>by
  simp only[ZC,Bool.and_eq_true] at h;simp[Rq h.2]
theorem H0:∀ {ks:List SK} {ks':List SK} {vs:List Value},ZC (ks++ks') vs=true→ZC ks (vs.take ks.length)=true∧ZC ks' (vs.drop ks.length)=true
 | [],ks',vs,h=>by simpa [ZC] using h
 | k::ks,ks',[],h=>by cases h
 | k::ks,ks',v::vs,h=>by
  simp only[cons_append,ZC,Bool.and_eq_true] at h;have:=H0 h.2;simp[ZC,h.1,this]
theorem Lx:∀ (n:Nat) (xs ys:List Value),n≤xs.length→n≤ys.length→veq xs ys=(veq (xs.take n) (ys.take n) && veq (xs.drop n) (ys.drop n))
 | 0,xs,ys,_,_=>by simp[veq]
 | n+1,[],ys,h,_=>by simp at h
 | n+1,_::_,[],_,h=>by simp at h
 | n+1,x::xs,y::ys,h,h'=>by
  have:=Lx n xs ys (by simpa using h) (by simpa using h');simp[veq,this,Bool.and_assoc]
def Wu (P:Program) (t:TypeId) (ks:List SK) (d:Nat):Prop:=
 ∀ k,d≤k→∀ (w:World) (xs ys:List Value),ZC ks xs=true→ZC ks ys=true→(Op.equalIn k t (.agg xs.toArray) (.agg ys.toArray)).run P w = .ok (veq xs ys) w
def SR (P:Program) (t:TypeId):SK→Prop
 | .i=>∃ q,P.underlying t=some (.int q)
 | .b=>P.underlying t=some .bool
inductive Ze (P:Program):List Field→Nat→List SK→Nat→Prop where
 | nil {off d:Nat}:Ze P [] off [] d
 | one {f:Field} {fs:List Field} {off d:Nat} {k:SK} {ks:List SK} (h1:f.name ≠ "_") (h2:f.offset=off) (h3:T1 P f.type) (h4:SR P f.type k) (h5:1≤d) (h:Ze P fs (off+1) ks d):Ze P (f::fs) off (k::ks) d
 | agg {f:Field} {fs:List Field} {off d d' n:Nat} {ks ks' kk:List SK} (h1:f.name ≠ "_") (h2:f.offset=off) (h3:TN P f.type n) (h4:Wu P f.type ks d') (h5:d'≤d) (h6:ks.length=n) (h7:kk=ks++ks') (h:Ze P fs (off+n) ks' d):Ze P (f::fs) off kk d
theorem QZ.take' {c:List Value} {o n m:Nat} {l:List Value} (h:QZ c o n l) (hm:m≤n):QZ c o m (l.take m):=by
 have hl:=h.len;have e:(l.take m).length=m:=by simp;omega
 have:=QZ.of_get (c:=c) (vs:=l.take m) (o:=o) fun j v hj=>by
  have:l[j]? = some v:=by
   rw[getElem?_take] at hj;split at hj
   ·exact hj
   ·cases hj
  exact h.get j v this
 rw[e] at this;exact this
theorem QZ.drop' {c:List Value} {o n m:Nat} {l:List Value} (h:QZ c o n l) (hm:m≤n):QZ c (o+m) (n - m) (l.drop m):=by
 have hl:=h.len;have e:(l.drop m).length=n - m:=by simp;omega
 have:=QZ.of_get (c:=c) (vs:=l.drop m) (o:=o+m) fun j v hj=>by
  rw[getElem?_drop] at hj;have:=h.get (m+j) v hj;rw[Nat.add_assoc];exact this
 rw[e] at this;exact this
theorem SA {P:Program} {fs:List Field} {off d:Nat} {ks:List SK} (h:Ze P fs off ks d):∀ (k:Nat),d≤k→∀ (w:World) (cx cy xs ys:List Value),QZ cx off ks.length xs→QZ cy off ks.length ys→ZC ks xs=true→ZC ks ys=true →
  (Op.eqFields k cx.toArray cy.toArray fs).run P w = .ok (veq xs ys) w:=by
 induction h with
 | nil=>
  intro k hk w cx cy xs ys hx hy fx fy;have e1:=Rq fx;have e2:=Rq fy;have:xs=[]:=eq_nil_of_length_eq_zero e1;have:ys=[]:=eq_nil_of_length_eq_zero e2;subst xs ys;rfl
 | @one f fs off d q ks h1 h2 h3 h4 h5 h ih=>
  intro k hk w cx cy xs ys hx hy fx fy;cases xs with
  | nil=>cases fx
  | cons x xs=>
  cases ys with
  | nil=>cases fy
  | cons y ys=>
  have gx:=hx.get 0 x rfl;have gy:=hy.get 0 y rfl;rw[Nat.add_zero] at gx gy;have rx:=hx.drop' (m:=1) (by simp);have ry:=hy.drop' (m:=1) (by simp);simp only[length_cons,Nat.add_sub_cancel,drop_succ_cons,drop_zero] at rx ry;simp only[ZC,Bool.and_eq_true] at fx fy
  have e1:(Op.equalIn k f.type x y).run P w = .ok (Fz x y) w:=by
   obtain⟨k,rfl⟩:∃ j,k=j+1:=⟨k - 1,by omega⟩;cases q with
   | i=>
    obtain⟨q,hq⟩:=h4
    obtain⟨a,rfl⟩:∃ a,x = .int .i64 a:=by
     have:=fx.1;unfold BU at this;split at this <;> simp_all
    obtain⟨b,rfl⟩:∃ a,y = .int .i64 a:=by
     have:=fy.1;unfold BU at this;split at this <;> simp_all
    exact run_equalIn_int w k _ _ _ _ _ hq
   | b=>
    obtain⟨a,rfl⟩:∃ a,x = .bool a:=by
     have:=fx.1;unfold BU at this;split at this <;> simp_all
    obtain⟨b,rfl⟩:∃ a,y = .bool a:=by
     have:=fy.1;unfold BU at this;split at this <;> simp_all
    exact run_equalIn_bool w k _ _ _ h4
  have e2:=ih k hk w cx cy xs ys rx ry fx.2 fy.2;simp only[Op.eqFields,h1,ne_eq,not_false_eq_true,if_true,Sem.run_bind,h2,Wk h3 gx,Wk h3 gy,Result.andThen_ok,e1,veq];cases hs:Fz x y
  ·simp
  ·simp[e2]
 | @agg f fs off d d' n ks ks' kk h1 h2 h3 h4 h5 h6 h7 h ih=>
  subst h7;intro k hk w cx cy xs ys hx hy fx fy;have lx:=Rq fx;have ly:=Rq fy;rw[length_append] at lx ly hx hy;have sx:=H0 fx;have sy:=H0 fy;rw[h6] at sx sy lx ly hx hy;have px:=L9 (w:=w) h3 (hx.take' (m:=n) (by omega));have py:=L9 (w:=w) h3 (hy.take' (m:=n) (by omega));have e1:=h4 k (by omega) w _ _ sx.1 sy.1;have rx:=hx.drop' (m:=n) (by omega);have ry:=hy.drop' (m:=n) (by omega);rw[show n+ks'.length - n=ks'.length by omega] at rx ry;have e2:=ih k hk w cx cy _ _ rx ry sx.2 sy.2;rw[Lx n xs ys (by omega) (by omega)];simp only[Op.eqFields,h1,ne_eq,not_false_eq_true,if_true,Sem.run_bind,h2,px,py,Result.andThen_ok,e1];cases hs:veq (xs.take n) (ys.take n)
  ·simp
  ·simp[e2]
theorem H8 {P:Program} {t:TypeId} {fs:Array Field} {ks:List SK} {d:Nat} (h1:P.underlying t=some (.struct fs)) (h2:P.stoodInHeld t=false) (h:Ze P fs.toList 0 ks d):Wu P t ks (d+1):=by
 intro k hk w xs ys fx fy;obtain⟨k,rfl⟩:∃ j,k=j+1:=⟨k - 1,by omega⟩;have hf:P.fieldsOf t=fs:=by simp[Program.fieldsOf,h1]
 rw[run_equalIn_struct w k t _ _ (by rw[hf];exact h1) h2,hf]
 have whole:∀ (c:List Value),c.length=ks.length→QZ c 0 ks.length c:=fun c hc=>by
  rw[← hc];exact QZ.of_get fun j v hj=>by rw[Nat.zero_add];exact hj
 exact SA h k (by omega) w xs ys xs ys (whole _ (Rq fx)) (whole _ (Rq fy)) fx fy
class BX (P:Program) (t:TypeId) (ks:outParam (List SK)):Prop where
 sem:∃ d,d≤10000∧Wu P t ks d
 guard:P.eqGuardType P.depth t=false
section
variable {P:Program} {n:Nat} {r:Option Nat} {ops:Array Oper} {Q:Y6} {ms:List Nat} {σ:QX} {w:World} {rest:List Oper} {o:Oper} {K:QX→World→Prop} {l l':List Q2}
variable {ivs:List (List Nat×(World→Prop))} {T:QX→World→Prop} {f:Nat} {L:Array Bool}
variable {u t s:TypeId} {p:String} {af:Array Edge} {g:Option (Nat×Bool)} {d:Option Tmp} {x y z:Operand} {ks:List SK}
theorem Ly (h:BX P t ks) (op:BinOp) (xs ys:List Value) (X Y:Operand) (ho:op = .eql∨op = .neq) (fx:ZC ks xs=true) (fy:ZC ks ys=true) :
  (do eqGuard op t X Y (.agg xs.toArray) (.agg ys.toArray);binOp op t (.agg xs.toArray) (.agg ys.toArray):Sem Value).run P w = .ok (.bool (if Y8 op then veq xs ys else !veq xs ys)) w:=by
 have h0:=run_eqGuard_agg (P:=P) w op t X Y xs.toArray ys.toArray h.guard;obtain⟨d,hd,hs⟩:=h.sem;have h1:=hs 10000 hd w xs ys fx fy;simp only[Sem.run_bind,h0,Result.andThen_ok]
 rcases ho with rfl|rfl
 ·rw[run_eql_struct,h1];rfl
 ·rw[run_neq_struct,h1];rfl
theorem Wv {op:BinOp} {yt:TypeId} {xs ys:List Value} [h:BX P t ks] (hx:ev σ x = .agg xs.toArray) (hy:ev σ y = .agg ys.toArray) (fx:ZC ks xs=true) (fy:ZC ks ys=true) (ho:op = .eql∨op = .neq) (hd:Qf n d=true)
  (k:K (put σ d (.bool (if Y8 op then veq xs ys else !veq xs ys))) w):St P n r ⟨d,.binOp op t x y yt,u,p,af,g⟩ σ w K:=
 V3 hd (fun c e=>by cases e) (by simp only[execOp,hx,hy,Sem.run_bind];rw[← Sem.run_bind,Ly h op xs ys x y ho fx fy];rfl) k
theorem Lz {op:BinOp} {yt:TypeId} {xs ys:List Value} (j:Nat) (hj:ops[j]? = some ⟨d,.binOp op t x y yt,u,p,af,g⟩) (hg:Q9 ops σ ⟨d,.binOp op t x y yt,u,p,af,g⟩ true) [h:BX P t ks] (hx:ev σ x = .agg xs.toArray) (hy:ev σ y = .agg ys.toArray) (fx:ZC ks xs=true) (fy:ZC ks ys=true) (ho:op = .eql∨op = .neq)
  (hb:YU n ops (ivs.map (·.1)) L j []=true) (k:Any P n r ops ivs T f (L.setIfInBounds j true) (put σ d (.bool (if Y8 op then veq xs ys else !veq xs ys))) w):Any P n r ops ivs T (f+1) L σ w:=
 Gp j hj hg (fun c e=>by cases e) (fun w=>by simp only[execOp,hx,hy,Sem.run_bind];rw[← Sem.run_bind,Ly h op xs ys x y ho fx fy];rfl) hb k
theorem SB {o o':Oper} (i j:Nat) (hi:ops[i]? = some o) (hj:ops[j]? = some o') (hr:Region.ready .any ops L=[i,j]) (hI:Vc ivs L w) (hg:Q9 ops σ o true) (hg':Q9 ops σ o' true)
  (h:St P n r o σ w (Any P n r ops ivs T f (L.setIfInBounds i true))) (h':St P n r o' σ w (Any P n r ops ivs T f (L.setIfInBounds j true))):Any P n r ops ivs T (f+1) L σ w:=
 ⟨hI, fun h0 => (by rw [hr] at h0; cases h0), fun k hk => by
  rw[hr] at hk;have:k=i∨k=j:=by simpa using hk
  rcases this with rfl|rfl
  ·exact⟨o,hi,.inl ⟨hg,h⟩⟩
  ·exact⟨o',hj,.inl ⟨hg',h'⟩⟩⟩
theorem SC {o o' o2:Oper} (i j m:Nat) (hi:ops[i]? = some o) (hj:ops[j]? = some o') (hm:ops[m]? = some o2) (hr:Region.ready .any ops L=[i,j,m]) (hI:Vc ivs L w) (hg:Q9 ops σ o true) (hg':Q9 ops σ o' true) (hg2:Q9 ops σ o2 true)
  (h:St P n r o σ w (Any P n r ops ivs T f (L.setIfInBounds i true))) (h':St P n r o' σ w (Any P n r ops ivs T f (L.setIfInBounds j true))) (h2:St P n r o2 σ w (Any P n r ops ivs T f (L.setIfInBounds m true))):Any P n r ops ivs T (f+1) L σ w:=
 ⟨hI, fun h0 => (by rw [hr] at h0; cases h0), fun k hk => by
  rw[hr] at hk;have:k=i∨k=j∨k=m:=by simpa using hk
  rcases this with rfl|rfl|rfl
  ·exact⟨o,hi,.inl ⟨hg,h⟩⟩
  ·exact⟨o',hj,.inl ⟨hg',h'⟩⟩
  ·exact⟨o2,hm,.inl ⟨hg2,h2⟩⟩⟩
end
end Go.SL
namespace Go.Proofs.YtbnnnljagkjpiaaGreatDoor
open Go.SL
theorem SD:Wu Tryz.prog 62 [.i,.i] 2:=H8 Tryz.underlying62 (by kernel_rfl) (Ze.one (by decide) rfl (inferInstance:T1 Tryz.prog 3) ⟨_,Tryz.underlying3⟩ (by decide) (Ze.one (by decide) rfl (inferInstance:T1 Tryz.prog 3) ⟨_,Tryz.underlying3⟩ (by decide) Ze.nil))
theorem SE:Wu Tryz.prog 64 [.i,.i,.i,.i,.b] 2:=H8 Tryz.underlying64 (by kernel_rfl) (Ze.one (by decide) rfl (inferInstance:T1 Tryz.prog 3) ⟨_,Tryz.underlying3⟩ (by decide) (Ze.one (by decide) rfl (inferInstance:T1 Tryz.prog 3) ⟨_,Tryz.underlying3⟩ (by decide) (Ze.one (by decide) rfl (inferInstance:T1 Tryz.prog 3) ⟨_,Tryz.underlying3⟩ (by decide) (Ze.one (by decide) rfl (inferInstance:T1 Tryz.prog 3) ⟨_,Tryz.underlying3⟩ (by decide) (Ze.one (by decide) rfl (inferInstance:T1 Tryz.prog 4) Tryz.underlying4 (by decide) Ze.nil)))))
instance:BX Tryz.prog 64 [.i,.i,.i,.i,.b]:=⟨⟨2,by decide,SE⟩,by kernel_rfl⟩
theorem SF:Wu Tryz.prog 85 [.i,.i,.i] 3:=H8 Tryz.underlying85 (by kernel_rfl) (Ze.one (by decide) rfl (inferInstance:T1 Tryz.prog 3) ⟨_,Tryz.underlying3⟩ (by decide) (Ze.agg (by decide) rfl (inferInstance:TN Tryz.prog 62 2) SD (by decide) rfl rfl Ze.nil))
instance:BX Tryz.prog 85 [.i,.i,.i]:=⟨⟨3,by decide,SF⟩,by kernel_rfl⟩
end Go.Proofs.YtbnnnljagkjpiaaGreatDoor
namespace Go.SL
open List
section
variable {P:Program} {n:Nat} {r:Option Nat} {σ:QX} {w:World} {K:QX→World→Prop} {l:List Q2}
variable {u t:TypeId} {p:String} {af:Array Edge} {g:Option (Nat×Bool)} {d:Option Tmp} {x y:Operand}
theorem H9 {k q:IntKind} {a b:Int} {ts:Array TypeId} (hx:ev σ x = .int k a) (hy:ev σ y = .int q b) (hd:Qf n d=true) (h:K (put σ d (.int k (if b > a then b else a))) w) :
  St P n r ⟨d,.call { callee := .builtin .max,args:=#[x,y],argTypes:=ts },u,p,af,g⟩ σ w K:=by
 refine V3 (v := .int k (if b > a then b else a)) (w':=w) hd (fun c e=>by cases e) ?_ h;simp[execOp,resolve,invoke,builtin,hx,hy,Builtin.max_,Builtin.max2]
theorem Rr (z:Value):∀ n,Vx [z] n=List.replicate n z
 | 0=>rfl
 | n+1=>by simp[Vx,Rr z n,replicate_succ]
theorem ZG [Q4] {e size bytes m:Nat} {zv:Value} {kl kc:IntKind} (H:Q0 w l) [hT:VB P t e size bytes] [hz:Qy P e zv] (hx:ev σ x = .int kl (m:Int)) (hy:ev σ y = .int kc (m:Int)) (hq:(decide ((Qt zv).length=size) && decide (bytes≤1000000))=true) (hm:m≤100000000) (hd:Qf n d=true)
  (k:∀ b w',Q0 w' (QC e size (.slice (some ⟨b,0,none⟩) m m) (Vx (Qt zv) m)::l)→K (put σ d (.slice (some ⟨b,0,none⟩) m m)) w'):St P n r ⟨d,.makeSlice t x y,u,p,af,g⟩ σ w K:=by
 obtain⟨i,hi,e2⟩:=Option.map_eq_some_iff.1 hT.info;obtain⟨i',hi',hz'⟩:=Option.map_eq_some_iff.1 hz.zero;rw[hi] at hi';cases hi';simp only[Prod.mk.injEq] at e2;simp only[Bool.and_eq_true,decide_eq_true_eq] at hq
 have hb:(i.bytes:Int)*(m:Int)≤281474976710656:=by
  have:i.bytes*m≤1000000*100000000:=Nat.mul_le_mul (by omega) hm;have h:((i.bytes*m:Nat):Int)≤281474976710656:=by omega
  rwa [Int.natCast_mul] at h
 have hr:=run_make (P:=P) w t e i zv hT.und hi hz' kl kc m m (by omega) (Int.le_refl _) hb (by omega)
 have hc:madeCells zv.cells (m*i.size)=(Vx (Qt zv) m).toArray:=by
  unfold madeCells;rw[← DZ,K4,hq.1,e2.1]
 rw[Int.toNat_natCast,hc] at hr;have hn:=H.new (row e (Vx (Qt zv) m));refine V3 (v := .slice (some ⟨w.heap.size,0,none⟩) m m) (w':=w.alloc (.cells (Vx (Qt zv) m).toArray e)) hd (fun c e=>by cases e) ?_ (k _ _ (Uh (by rw[Fr,hq.1]) hn));simp only[execOp,hx,hy,hr,Sem.run_bind,Result.andThen_ok,Sem.run_pure]
theorem SH {a:Nat} (ha:a < 18446744073709551616) (hx:ev σ x = .int .u64 a) (hd:Qf n d=true) (h:K (put σ d (.int .u64 ((18446744073709551615 - a:Nat):Int))) w):St P n r ⟨d,.unOp .xor t x,u,p,af,g⟩ σ w K:=by
 refine V3 (v := .int .u64 ((18446744073709551615 - a:Nat):Int)) (w':=w) hd (fun c e=>by cases e) ?_ h;have e1:(if IntKind.u64.signed=true then (-1:Int) else IntKind.u64.max)=((18446744073709551615:Nat):Int):=by decide
 have e2:YG .xor .u64 ((18446744073709551615:Nat):Int) (a:Int)=((18446744073709551615 - a:Nat):Int):=by
  rw[Lt (by decide) ha];congr 1;apply Nat.eq_of_testBit_eq;intro i;have e:18446744073709551615 - a=2 ^ 64 - (a+1):=by omega
  rw[Nat.testBit_xor,e,Nat.testBit_two_pow_sub_succ ha,show (18446744073709551615:Nat)=2 ^ 64 - 1 from rfl,Nat.testBit_two_pow_sub_one];by_cases hi:i < 64
  ·simp[hi]
  ·have:a.testBit i=false:=Nat.testBit_lt_two_pow (Nat.lt_of_lt_of_le ha (Nat.pow_le_pow_right (n:=2) (by decide) (show 64≤i by omega)));simp[hi,this]
 have e3:(Op.unary .xor (.int .u64 (a:Int))).run P w = .ok (.int .u64 ((18446744073709551615 - a:Nat):Int)) w:=by
  have:(Op.intBits .xor .u64 ((18446744073709551615:Nat):Int) (a:Int)).run P w = .ok (.int .u64 (YG .xor .u64 ((18446744073709551615:Nat):Int) (a:Int))) w:=by
   simp[Op.intBits,YG]
  rw[← e2,← this,← e1];rfl
 simp only[execOp,hx,Sem.run_bind,e3,Result.andThen_ok,Sem.run_pure]
end
def DA (g:Nat) (tab:List Nat) (w:World):Prop:=∀ j,j < tab.length→w.cell? ⟨g,j,none⟩=some (.int .u8 (tab.getD j 0))
class YX (g:outParam Nat) (tab:outParam (List Nat)) (l:List Q2):Prop where
 tab:∀ w:World,VK l (hp w)→DA g tab w
instance {g:Nat} {tab:List Nat} {A:Q2} {l:List Q2} [h:YX g tab l]:YX g tab (A::l):=⟨fun w s=>h.tab w (Rh s)⟩
theorem SI {g:Nat} {tab:List Nat} {W:World} {l:List Q2} (h:DA g tab W) (hg:g < W.heap.size):YX g tab (old W::l):=⟨fun w s j hj=>by
 obtain⟨f,_,a,_,_,x,_⟩:=s;have e:=x g hg
 have e2:w.heap[g]? = W.heap[g]?:=by
  cases ho:W.heap[g]? with
  | none=>have:=Array.getElem?_eq_none_iff.1 ho;omega
  | some o=>rw[ho] at e;exact a g o e
 have:=h j hj;unfold World.cell? at this ⊢;simp only[e2];exact this⟩
end Go.SL
namespace Go.SL
open List
section
variable {P:Program} {n:Nat} {r:Option Nat} {ops:Array Oper} {Q:Y6} {ms:List Nat} {σ:QX} {w:World} {rest:List Oper} {o:Oper} {K:QX→World→Prop} {l l':List Q2}
variable {ivs:List (List Nat×(World→Prop))} {T:QX→World→Prop} {f:Nat} {L:Array Bool}
variable {u t s:TypeId} {p:String} {af:Array Edge} {g:Option (Nat×Bool)} {d:Option Tmp} {x y z:Operand}
theorem SJ {e size bytes b o2 len cap i j:Nat} {q q':IntKind} (hT:VB P t e size bytes) (h1:i≤j) (h2:j≤cap) (h3:i < cap) :
  (Instr.sliceAt t (.slice (some ⟨b,o2,none⟩) len cap) (some (.int q (i:Int))) (some (.int q' (j:Int))) none).run P w = .ok (.slice (some ⟨b,o2+i*size,none⟩) (j - i) (cap - i)) w:=by
 have hs:(sizeOf e).run P w = .ok size w:=by
  obtain⟨k,hk,e2⟩:=Option.map_eq_some_iff.1 hT.info;simp only[Prod.mk.injEq] at e2;exact Zu (by rw[hk];simp[e2.1])
 have hne:cap≠i:=by omega
 have b1:(0:Int)≤i∧(i:Int)≤j:=by omega
 have b2:(0:Int)≤j∧(j:Int)≤cap:=by omega
 simp[Instr.sliceAt,Instr.slice,Vn hT.und,Instr.sliceBounds,Instr.sliceBound,asIntOf,h1,h2,hs,ZV,hne]
theorem BK {e size bytes b o2 len cap i j:Nat} {q q':IntKind} (m:Nat) (hm:ops[m]? = some ⟨d,.slice t x (some y) (some z) none,u,p,af,g⟩) (hg:Q9 ops σ ⟨d,.slice t x (some y) (some z) none,u,p,af,g⟩ true) [hT:VB P t e size bytes] (hx:ev σ x = .slice (some ⟨b,o2,none⟩) len cap) (hy:ev σ y = .int q (i:Int)) (hz:ev σ z = .int q' (j:Int)) (h1:i≤j) (h2:j≤cap) (h3:i < cap)
  (hb:YU n ops (ivs.map (·.1)) L m []=true) (k:Any P n r ops ivs T f (L.setIfInBounds m true) (put σ d (.slice (some ⟨b,o2+i*size,none⟩) (j - i) (cap - i))) w):Any P n r ops ivs T (f+1) L σ w:=
 Gp m hm hg (fun c e=>by cases e) (fun w=>by simp only[execOp,hx,hy,hz,Option.map_some,Option.map_none,Sem.run_bind,SJ hT h1 h2 h3,Result.andThen_ok,Sem.run_pure]) hb k
theorem SM {c:List Value} {o m:Nat} {vs:List Value} (h:QZ c o m vs):∀ (q:o+vs.length≤c.length),wr c o vs=c:=fun q=>by
 rw[DW vs c o q];apply ext_getElem?;intro j;by_cases h1:j < o
 ·rw[append_assoc,getElem?_append_left (by simp;omega),getElem?_take_of_lt h1]
 ·by_cases h2:j < o+vs.length
  ·rw[append_assoc,getElem?_append_right (by simp;omega),getElem?_append_left (by simp;omega)];have e1:(c.take o).length=o:=by simp;omega
   rw[e1];have:=h.get (j - o) (vs[j - o]'(by omega)) (getElem?_eq_getElem (by omega));rw[show o+(j - o)=j by omega] at this;rw[this,getElem?_eq_getElem (by omega)]
  ·rw[append_assoc,getElem?_append_right (by simp;omega),getElem?_append_right (by simp;omega),getElem?_drop];congr 1;simp;omega
theorem Yx [Q4] {E k m cap:Nat} {a:Option Addr} {c:List Value} (H:Q0 w (QC E k (.slice a m cap) c::l)) (h0:0 < m) :
  ∃ b spare,a=some ⟨b,0,none⟩∧Q0 w (pts b (row E (c++spare))::l)∧m≤cap∧(cap - m)*k≤spare.length∧∀ w' l' c',c'.length=c.length→Q0 w' (pts b (row E (c'++spare))::l')→Q0 w' (QC E k (.slice a m cap) c'::l'):=by
 rcases GV H with ⟨h,_⟩|⟨b,len,cap',spare,h,e3,e4,e5,H2⟩
 ·injection h with h1 h2;omega
 ·injection h with h1 h2 h3
  subst h1 h2 h3;exact⟨b,spare,rfl,H2,e4.1,e5,fun w' l' c' hc H'=>ZZ (hc.trans e3) e4 e5 H'⟩
theorem SN [Q4] {e size bytes b o2 m cap cap' E:Nat} {c vs:List Value} [hT:VB P t e size bytes] (H:Q0 w (pts b (row E c)::l)) (hx:ev σ x = .slice (some ⟨b,o2,none⟩) m cap) (hy:ev σ y = .slice (some ⟨b,o2,none⟩) m cap') (hrd:QZ c o2 (m*size) vs) (hl:o2+m*size≤c.length) (h1:vs.all (·.oneCell')=true) (hd:Qf n d=true)
  (k:∀ w',Q0 w' (pts b (row E c)::l)→K (put σ d (.int .i64 m)) w'):St P n r ⟨d,.call { callee := .builtin .copy,args:=#[x,y],argTypes:=#[t,t] },u,p,af,g⟩ σ w K:=by
 have hs:(sizeOf e).run P w = .ok size w:=by
  obtain⟨k,hk,e2⟩:=Option.map_eq_some_iff.1 hT.info;simp only[Prod.mk.injEq] at e2;exact Zu (by rw[hk];simp[e2.1])
 have ev1:=hrd.len;have hbk:w.heap[b]? = some (.cells c.toArray E (0,0)):=H.pts
 have hfc:(Builtin.firstCells size m (.slice (some ⟨b,o2,none⟩) m cap')).run P w = .ok vs.toArray w:=by
  unfold Builtin.firstCells
  have:=run_loadCells_list (P:=P) (w:=w) ⟨b,o2,none⟩ vs (fun j v hj=>by
   rw[ZV];exact Zj hbk (hrd.get j v hj))
  rwa [ev1] at this
 obtain⟨w',hr,h2,h3,h4⟩:=B1 (P:=P) vs w b o2 E c 0 H.pts (by omega) (all_eq_true.1 h1);rw[Nat.add_zero,SM hrd (by omega)] at h2;have H':=H.set (o':=row E c) h2 h3 h4;refine V3 (v := .int .i64 m) (w':=w') hd (fun c e=>by cases e) ?_ (k w' H');have hmin:Nat.min m m=m:=Nat.min_self m;simp[execOp,resolve,invoke,builtin,hx,hy,Builtin.copy_,Vn hT.und,Builtin.lenOf,hmin,hs,hfc,hr,goInt]
end
end Go.SL
namespace Go.SL
section
variable {P:Program} {n:Nat} {r:Option Nat} {ops:Array Oper} {Q:Y6} {ms:List Nat} {σ:QX} {w:World} {rest:List Oper} {o:Oper} {K:QX→World→Prop} {l l':List Q2}
variable {u t s:TypeId} {p:String} {af:Array Edge} {g:Option (Nat×Bool)} {d:Option Tmp} {x y z:Operand}
theorem SO {e size bytes len cap:Nat} {ad:Option Addr} {q:IntKind} {i:Nat} [hT:VB P t e size bytes] (hx:ev σ x = .slice ad len cap) (hy:ev σ y = .int q (i:Int)) (h1:i≤len) (hd:Qf n d=true)
  (k:∀ v,K (put σ d v) w):St P n r ⟨d,.slice t x (some y) none none,u,p,af,g⟩ σ w K:=by
 have hs:(sizeOf e).run P w = .ok size w:=by
  obtain⟨k,hk,e2⟩:=Option.map_eq_some_iff.1 hT.info;simp only[Prod.mk.injEq] at e2;exact Zu (by rw[hk];simp[e2.1])
 cases ad with
 | none=>
  refine V3 (w':=w) hd (fun c e=>by cases e) ?_ (k (.slice none (len - i) (cap - i)));simp[execOp,hx,hy,Instr.sliceAt,Instr.slice,Vn hT.und,Instr.sliceBounds,Instr.sliceBound,asIntOf,h1,hs]
 | some a=>
  by_cases hc:cap=i
  ·subst hc;refine V3 (w':=w) hd (fun c e=>by cases e) ?_ (k (.slice (some a) (len - cap) (cap - cap)));simp[execOp,hx,hy,Instr.sliceAt,Instr.slice,Vn hT.und,Instr.sliceBounds,Instr.sliceBound,asIntOf,h1,hs]
  ·refine V3 (w':=w) hd (fun c e=>by cases e) ?_ (k (.slice (some (a.add (i*size))) (len - i) (cap - i)));simp[execOp,hx,hy,Instr.sliceAt,Instr.slice,Vn hT.und,Instr.sliceBounds,Instr.sliceBound,asIntOf,h1,hs,hc]
end
end Go.SL
namespace Go.SL
open List
theorem split_at {α:Type} {l:List α} {k:Nat} {x:α} (h:l[k]? = some x):l=l.take k++x::l.drop (k+1):=by
 obtain⟨h1,h2⟩:=List.getElem?_eq_some_iff.1 h;rw[← h2,getElem_cons_drop,take_append_drop]
theorem set_split {α:Type} {l:List α} {k:Nat} {x y:α} (h:l[k]? = some x):l.set k y=l.take k++y::l.drop (k+1):=by
 have h1:=(List.getElem?_eq_some_iff.1 h).1;rw[set_eq_take_append_cons_drop,if_pos h1]
theorem M0 {A B:List Value}:∀ (vs y:List Value) (j:Nat),j+vs.length≤y.length→wr (A++(y++B)) (A.length+j) vs=A++(wr y j vs++B)
 | [],y,j,_=>rfl
 | v::vs,y,j,h=>by
  simp only[length_cons] at h;show wr ((A++(y++B)).set (A.length+j) v) (A.length+j+1) vs=A++(wr (y.set j v) (j+1) vs++B);rw[set_append_right _ _ (by omega),show A.length+j - A.length=j by omega,set_append_left _ _ (by omega)];exact M0 vs (y.set j v) (j+1) (by simp;omega)
section
variable {α:Type} {f:α→List Value} {m:Nat}
theorem Ge (hf:∀ a,(f a).length=m) (l:List α):(l.flatMap f).length=l.length*m:=by
 induction l with
 | nil=>simp
 | cons a l ih=>rw[flatMap_cons,length_append,ih,hf,length_cons,Nat.succ_mul];omega
theorem M3 {l:List α} {i:Nat} {x:α} (h:l[i]? = some x) (s:List Value):l.flatMap f++s=(l.take i).flatMap f++(f x++((l.drop (i+1)).flatMap f++s)):=by
 conv=>lhs;rw[split_at h]
 simp
theorem HQ (hf:∀ a,(f a).length=m) {l:List α} {i:Nat} {x:α} (h:l[i]? = some x):((l.take i).flatMap f).length=i*m:=by
 have h1:=(List.getElem?_eq_some_iff.1 h).1;rw[Ge hf,length_take,Nat.min_eq_left (by omega)]
theorem XN (hf:∀ a,(f a).length=m) {l:List α} {i:Nat} {x:α} (h:l[i]? = some x) {s:List Value} {j:Nat} {v:Value} (hv:(f x)[j]? = some v):(l.flatMap f++s)[i*m+j]? = some v:=by
 have hj:=(List.getElem?_eq_some_iff.1 hv).1;rw[M3 h,getElem?_append_right (by rw[HQ hf h];omega),HQ hf h,show i*m+j - i*m=j by omega,getElem?_append_left hj];exact hv
theorem Ww (hf:∀ a,(f a).length=m) {l:List α} {i:Nat} {x:α} (h:l[i]? = some x) {s:List Value} {j:Nat} {vs:List Value} (hv:QZ (f x) j vs.length vs):QZ (l.flatMap f++s) (i*m+j) vs.length vs:=
 QZ.of_get fun k v hk=>by
  rw[show i*m+j+k=i*m+(j+k) by omega];exact XN hf h (hv.get k v hk)
theorem DB (hf:∀ a,(f a).length=m) {l:List α} {i:Nat} {x x':α} (h:l[i]? = some x) {s:List Value} {j:Nat} {vs:List Value} (hj:j+vs.length≤m) (hx:wr (f x) j vs=f x'):wr (l.flatMap f++s) (i*m+j) vs=(l.set i x').flatMap f++s:=by
 rw[M3 h,← HQ hf h,M0 vs (f x) j (by rw[hf];exact hj),hx,set_split h];simp
theorem M4 (hf:∀ a,(f a).length=m) {l:List α} {i:Nat} {x x':α} (h:l[i]? = some x) {s:List Value} {j:Nat} {v:Value} (hj:j < m) (hx:(f x).set j v=f x'):(l.flatMap f++s).set (i*m+j) v=(l.set i x').flatMap f++s:=
 DB (vs:=[v]) hf h (by simp;omega) hx
end
end Go.SL
namespace Go.Proofs
open Go.Shelf
def Tryz.laysBs_ren : Go.Shelf.Ren := ⟨fun | 25 => 102 | 31 => 177 | 32 => 188 | 37 => 229 | n => n, fun | 22 => 25 | 3 => 3 | 4 => 4 | 40 => 121 | 0 => 0 | n => n, fun | n => n⟩
theorem Tryz.laysBs : Go.Proofs.Lays2.n25 Tryz.prog Tryz.laysBs_ren := {
  mixed := by kernel_rfl
  f25 := Tryz.func102.trans (congrArg some (by kernel_rfl))
  f31 := Tryz.func177.trans (congrArg some (by kernel_rfl))
  f32 := Tryz.func188.trans (congrArg some (by kernel_rfl))
  f37 := Tryz.func229.trans (congrArg some (by kernel_rfl))
  t0 := Tryz.underlying0
  a0 := Tryz.isAgg0
  z0 := Tryz.sizeOf0
  v0 := Tryz.zeroValue0
  t3 := Tryz.underlying3
  a3 := Tryz.isAgg3
  z3 := Tryz.sizeOf3
  v3 := Tryz.zeroValue3
  t4 := Tryz.underlying4
  a4 := Tryz.isAgg4
  z4 := Tryz.sizeOf4
  v4 := Tryz.zeroValue4
  t22 := Tryz.underlying25
  a22 := Tryz.isAgg25
  z22 := Tryz.sizeOf25
  v22 := Tryz.zeroValue25
  t40 := Tryz.underlying121
  a40 := Tryz.isAgg121
  z40 := Tryz.sizeOf121
  v40 := Tryz.zeroValue121 }
def Tryz.laysIns_ren : Go.Shelf.Ren := ⟨fun | 21 => 143 | 27 => 209 | 28 => 210 | 35 => 237 | 39 => 251 | n => n, fun | 22 => 25 | 3 => 3 | 4 => 4 | 0 => 0 | n => n, fun | n => n⟩
theorem Tryz.laysIns : Go.Proofs.Lays2.n21 Tryz.prog Tryz.laysIns_ren := {
  mixed := by kernel_rfl
  f21 := Tryz.func143.trans (congrArg some (by kernel_rfl))
  f27 := Tryz.func209.trans (congrArg some (by kernel_rfl))
  f28 := Tryz.func210.trans (congrArg some (by kernel_rfl))
  f35 := Tryz.func237.trans (congrArg some (by kernel_rfl))
  f39 := Tryz.func251.trans (congrArg some (by kernel_rfl))
  t0 := Tryz.underlying0
  a0 := Tryz.isAgg0
  z0 := Tryz.sizeOf0
  v0 := Tryz.zeroValue0
  t3 := Tryz.underlying3
  a3 := Tryz.isAgg3
  z3 := Tryz.sizeOf3
  v3 := Tryz.zeroValue3
  t4 := Tryz.underlying4
  a4 := Tryz.isAgg4
  z4 := Tryz.sizeOf4
  v4 := Tryz.zeroValue4
  t22 := Tryz.underlying25
  a22 := Tryz.isAgg25
  z22 := Tryz.sizeOf25
  v22 := Tryz.zeroValue25
  i3 := by kernel_rfl }
def Tryz.laysSort_ren : Go.Shelf.Ren := ⟨fun | 189 => 32 | 125 => 96 | 257 => 95 | 128 => 180 | 129 => 181 | 294 => 171 | 295 => 172 | 296 => 173 | 297 => 174 | 298 => 175 | 299 => 176 | 216 => 177 | 300 => 178 | 301 => 179 | 328 => 224 | 329 => 225 | 330 => 226 | 331 => 227 | 332 => 228 | 215 => 229 | 343 => 247 | n => n, fun | 28 => 25 | 3 => 3 | 46 => 121 | 0 => 0 | 51 => 289 | 53 => 94 | 4 => 4 | 183 => 282 | 182 => 281 | 131 => 206 | 5 => 5 | 9 => 9 | 218 => 319 | 222 => 323 | 228 => 334 | 229 => 192 | n => n, fun | n => n⟩
theorem Tryz.laysSort : Go.Proofs.Lays.n189 Tryz.prog Tryz.laysSort_ren := {
  mixed := by kernel_rfl
  f125 := Tryz.func96.trans (congrArg some (by kernel_rfl))
  f128 := Tryz.func180.trans (congrArg some (by kernel_rfl))
  f129 := Tryz.func181.trans (congrArg some (by kernel_rfl))
  f189 := Tryz.func32.trans (congrArg some (by kernel_rfl))
  f215 := Tryz.func229.trans (congrArg some (by kernel_rfl))
  f216 := Tryz.func177.trans (congrArg some (by kernel_rfl))
  f257 := Tryz.func95.trans (congrArg some (by kernel_rfl))
  f294 := Tryz.func171.trans (congrArg some (by kernel_rfl))
  f295 := Tryz.func172.trans (congrArg some (by kernel_rfl))
  f296 := Tryz.func173.trans (congrArg some (by kernel_rfl))
  f297 := Tryz.func174.trans (congrArg some (by kernel_rfl))
  f298 := Tryz.func175.trans (congrArg some (by kernel_rfl))
  f299 := Tryz.func176.trans (congrArg some (by kernel_rfl))
  f300 := Tryz.func178.trans (congrArg some (by kernel_rfl))
  f301 := Tryz.func179.trans (congrArg some (by kernel_rfl))
  f328 := Tryz.func224.trans (congrArg some (by kernel_rfl))
  f329 := Tryz.func225.trans (congrArg some (by kernel_rfl))
  f330 := Tryz.func226.trans (congrArg some (by kernel_rfl))
  f331 := Tryz.func227.trans (congrArg some (by kernel_rfl))
  f332 := Tryz.func228.trans (congrArg some (by kernel_rfl))
  f343 := Tryz.func247.trans (congrArg some (by kernel_rfl))
  t0 := Tryz.underlying0
  a0 := Tryz.isAgg0
  z0 := Tryz.sizeOf0
  v0 := Tryz.zeroValue0
  t3 := Tryz.underlying3
  a3 := Tryz.isAgg3
  z3 := Tryz.sizeOf3
  v3 := Tryz.zeroValue3
  t4 := Tryz.underlying4
  a4 := Tryz.isAgg4
  z4 := Tryz.sizeOf4
  v4 := Tryz.zeroValue4
  t5 := Tryz.underlying5
  a5 := Tryz.isAgg5
  z5 := Tryz.sizeOf5
  v5 := Tryz.zeroValue5
  t9 := Tryz.underlying9
  a9 := Tryz.isAgg9
  z9 := Tryz.sizeOf9
  v9 := Tryz.zeroValue9
  t28 := Tryz.underlying25
  a28 := Tryz.isAgg25
  z28 := Tryz.sizeOf25
  v28 := Tryz.zeroValue25
  t46 := Tryz.underlying121
  a46 := Tryz.isAgg121
  z46 := Tryz.sizeOf121
  v46 := Tryz.zeroValue121
  t51 := Tryz.underlying289
  a51 := Tryz.isAgg289
  z51 := Tryz.sizeOf289
  v51 := Tryz.zeroValue289
  t53 := Tryz.underlying94
  a53 := Tryz.isAgg94
  z53 := Tryz.sizeOf94
  v53 := Tryz.zeroValue94
  t131 := Tryz.underlying206
  a131 := Tryz.isAgg206
  z131 := Tryz.sizeOf206
  v131 := Tryz.zeroValue206
  t182 := Tryz.underlying281
  a182 := Tryz.isAgg281
  z182 := Tryz.sizeOf281
  v182 := Tryz.zeroValue281
  t183 := Tryz.underlying282
  a183 := Tryz.isAgg282
  z183 := Tryz.sizeOf282
  v183 := Tryz.zeroValue282
  t218 := Tryz.underlying319
  a218 := Tryz.isAgg319
  z218 := Tryz.sizeOf319
  v218 := Tryz.zeroValue319
  t222 := Tryz.underlying323
  a222 := Tryz.isAgg323
  z222 := Tryz.sizeOf323
  v222 := Tryz.zeroValue323
  t228 := Tryz.underlying334
  a228 := Tryz.isAgg334
  z228 := Tryz.sizeOf334
  v228 := Tryz.zeroValue334
  t229 := Tryz.underlying192
  a229 := Tryz.isAgg192
  z229 := Tryz.sizeOf192
  v229 := Tryz.zeroValue192 }
end Go.Proofs
namespace Go.SL
open List
open Go.Sort Go.Proofs
section
variable {α:Type} [Inhabited α] {enc:α→List Value} {k:Nat}
theorem BR (hk:∀ x,(enc x).length=k):∀ l:List α,(l.flatMap enc).length=l.length*k
 | []=>by simp
 | x::l=>by simp only[flatMap_cons,length_append,hk,BR hk l,length_cons,Nat.succ_mul];omega
theorem HV (hk:∀ x,(enc x).length=k) (k0:0 < k):∀ (l:List α) (t:Nat),(l.flatMap enc)[t]? = (l[t / k]?).bind fun x=>(enc x)[t % k]?
 | [],t=>by simp
 | x::l,t=>by
  rw[flatMap_cons];by_cases h:t < k
  ·rw[getElem?_append_left (by rw[hk];exact h),Nat.div_eq_of_lt h,Nat.mod_eq_of_lt h];simp
  ·rw[getElem?_append_right (by rw[hk];omega),hk,HV hk k0 l (t - k)];have e1:t / k=(t - k) / k+1:=Nat.div_eq_sub_div k0 (by omega);have e2:t % k=(t - k) % k:=Nat.mod_eq_sub_mod (by omega);rw[e1,e2];simp
theorem M5 (hk:∀ x,(enc x).length=k) (k0:0 < k) (d:Array α):flatK enc k d=(d.toList.flatMap enc).toArray:=by
 apply Array.ext';apply ext_getElem?;intro t;show (flatK enc k d).toList[t]? = (d.toList.flatMap enc)[t]?;rw[HV hk k0];by_cases h:t < d.size*k
 ·have hd:t / k < d.size:=(Nat.div_lt_iff_lt_mul k0).2 h;have hm:=Nat.mod_lt t k0;have h2:=get_flatK enc k d t h;rw[getElem!_pos _ t (by simpa using h)] at h2;rw[Array.getElem?_toList,Array.getElem?_eq_getElem (by simpa using h),h2,getElem!_pos d _ hd,getElem!_pos _ _ (by rw[hk];exact hm)];simp[hd,hk,hm]
 ·have hd:d.size≤t / k:=(Nat.le_div_iff_mul_le k0).2 (by omega);rw[getElem?_eq_none (by simp;omega),getElem?_eq_none (by simpa using hd)];rfl
theorem SS (F cs spare:List Value) (h:F.length=cs.length):putCells id 0 F.toArray (cs++spare).toArray=(F++spare).toArray:=by
 apply Array.ext';apply ext_getElem?;intro t;simp only[putCells,Array.getElem?_toList,Array.getElem?_mapIdx,getElem?_toArray,Nat.zero_le,true_and,Nat.zero_add,Nat.sub_zero,size_toArray,id];by_cases ht:t < F.length
 ·rw[getElem?_append_left (by omega),getElem?_append_left ht];have h2:t < cs.length:=by omega
  simp[h2,ht]
 ·rw[getElem?_append_right (by omega),getElem?_append_right (by omega),h];have h2:¬ t < cs.length:=by omega
  simp[ht,h2]
theorem Sa [Q4] (hk:∀ x,(enc x).length=k) (k0:0 < k) {w:World} {b m E:Nat} {d':Array α} {os:Array Obj} {cs spare:List Value} {l:List Q2} (H:Q0 w (pts b (row E (cs++spare))::l)) (hl:cs.length=d'.size*k) :
  Q0 (sortWorldK enc k w b 0 m d' os) (pts b (row E (d'.toList.flatMap enc++spare))::l):=by
 have hb:=H.pts;have hlt:=H.fresh;have e1:(putRowK enc k (Sort.ahead w m) b 0 d').heap=w.heap.modify b (onCells (putCells id 0 (flatK enc k d'))):=rfl
 have H1:Q0 (putRowK enc k (Sort.ahead w m) b 0 d') (pts b (row E (d'.toList.flatMap enc++spare))::l):=by
  refine H.set ?_ ?_
  ·rw[e1,Array.getElem?_modify,if_pos rfl,hb];simp only[Option.map_some,row,onCells];rw[M5 hk k0,SS _ _ _ (by rw[BR hk,hl];simp)]
  ·intro c hc;rw[e1,Array.getElem?_modify,if_neg (Ne.symm hc)]
 refine H1.up (fun c o hc=>?_) ⟨rfl,rfl⟩;show ((putRowK enc k (Sort.ahead w m) b 0 d').heap++os)[c]? = some o;have:=(Array.getElem?_eq_some_iff.1 hc).1;rw[Array.getElem?_append_left this];exact hc
open Go.Proofs Go.Shelf in
theorem Sb [Q4] {P:Program} {ρ:Ren} (L:SlLaysF0.n6 P ρ) {t:TypeId} (ht:ρ.t 24=t) (hN:TN P t k) (k0:0 < k) (hk:∀ x,(enc x).length=k) (h1:∀ x,∀ v∈enc x,v.oneCell'=true)
  (cf:α→α→Int) (hO:SWO (ltOf cf)) {g:Nat} (hg:QY P g)
  (hc:∀ (x y:α) (W:World),Calls P g #[.agg (enc x).toArray,.agg (enc y).toArray] W fun e w'=>e = .returned (.int .i64 (cf x y))∧∃ q os',w'=grow (W.drewN q) os')
  {E:TypeId} {v:Value} {d:List α} {w:World} {l:List Q2} (H:Q0 w (QC E k v (d.flatMap enc)::l)) (hsz:d.length < 4611686018427387904) :
  Calls P (ρ.f 6) #[v,.func (.func g) #[] #[]] w (ret fun _ w'=>∃ d':List α,d'.Perm d∧d'.Pairwise (fun a b=>ltOf cf b a=false)∧Q0 w' (QC E k v (d'.flatMap enc)::l)):=by
 subst ht
 rcases GV H with ⟨rfl,h0,H'⟩|⟨b,len,cap,spare,rfl,e3,e4,e5,H'⟩
 ·have hd:d=[]:=by
   have:=BR hk d;rw[h0] at this;have h2:d.length*k=0:=this.symm
   rcases Nat.mul_eq_zero.1 h2 with h|h
   ·exact eq_nil_of_length_eq_zero h
   ·omega
  subst hd;refine(AnyF.slices_SortFunc_none L none 0 _ w).mono ?_;rintro e w' ⟨rfl,rfl⟩;exact⟨[],List.Perm.refl _,List.Pairwise.nil,Yn H'⟩
 ·have hb:=H'.pts
  have hlen:len=d.length:=by
   have:=BR hk d;rw[e3] at this;exact Nat.eq_of_mul_eq_mul_right k0 this
  subst hlen
  have hH:HoldsK enc k w b 0 d.toArray:=by
   intro j hj;rw[size_flatK] at hj;rw[M5 hk k0,Nat.zero_add];have hj':j < (d.flatMap enc).length:=by rw[e3];simpa using hj
   refine⟨?_,Rk hb⟩;refine Zj hb ?_;rw[getElem?_append_left hj',getElem?_eq_getElem hj'];show some _=some ((d.flatMap enc).toArray[j]!);rw[getElem!_pos _ j (by simpa using hj')];simp
  have:=AnyQ.slices_SortFunc L k (fun w=>Ff hN) (fun w=>Zu hN.size) enc hk h1 cf hO g #[] b 0 cap d.toArray w (fun args w=>Fi hg args) (fun m os dk hs x y=>by simpa using hc x y _) hH H'.fresh (by simpa using hsz);rw[show d.toArray.size=d.length by simp] at this;refine this.mono ?_;rintro e w' ⟨rfl,d',n,os,hp,hs,rfl⟩;have hsize:d'.size=d.length:=by rw[hp.1];simp
  have hx:∀ a:Array α,a.size=d.length→a.extract 0 d.length=a:=fun a ha=>by rw[← ha];simp
  refine⟨d'.toList,?_,?_,?_⟩
  ·have h2:=hp.2.2;rw[hx d' hsize,hx d.toArray (by simp)] at h2;simpa using h2
  ·rw[pairwise_iff_getElem];intro i j hi hj hij;have:=hs i j (Nat.zero_le _) hij (by simp at hj ⊢;omega);rw[getElem!_pos d' i (by simpa using hi),getElem!_pos d' j (by simpa using hj)] at this;simpa using this
  ·have hl:(d'.toList.flatMap enc).length=d.length*k:=by rw[BR hk];simp[hsize]
   exact ZZ hl e4 e5 (Sa hk k0 H' (by rw[e3,hsize]))
end
end Go.SL
namespace Go.Proofs
open Go.Shelf
def Tryz.sortRef_ren : Go.Shelf.Ren := ⟨fun | 6 => 231 | 15 => 96 | 14 => 249 | 28 => 180 | 29 => 181 | 20 => 253 | 21 => 254 | 22 => 255 | 23 => 256 | 24 => 257 | 25 => 258 | 26 => 259 | 27 => 260 | 46 => 261 | 47 => 225 | 48 => 226 | 49 => 262 | 50 => 263 | 57 => 264 | n => n, fun | 22 => 129 | 24 => 132 | 25 => 296 | 3 => 3 | 39 => 121 | 0 => 0 | 53 => 289 | 55 => 94 | 4 => 4 | 46 => 282 | 45 => 281 | 50 => 206 | 5 => 5 | 9 => 9 | 66 => 319 | 70 => 323 | 76 => 334 | 77 => 192 | n => n, fun | n => n⟩
theorem Tryz.sortRef : Go.Proofs.SlLaysF0.n6 Tryz.prog Tryz.sortRef_ren := {
  mixed := by kernel_rfl
  f6 := ⟨Tryz.f231.name, by decide, Tryz.func231.trans (congrArg some (by kernel_rfl))⟩
  f14 := ⟨Tryz.f249.name, by decide, Tryz.func249.trans (congrArg some (by kernel_rfl))⟩
  f15 := Tryz.func96.trans (congrArg some (by kernel_rfl))
  f20 := ⟨Tryz.f253.name, by decide, Tryz.func253.trans (congrArg some (by kernel_rfl))⟩
  f21 := ⟨Tryz.f254.name, by decide, Tryz.func254.trans (congrArg some (by kernel_rfl))⟩
  f22 := ⟨Tryz.f255.name, by decide, Tryz.func255.trans (congrArg some (by kernel_rfl))⟩
  f23 := ⟨Tryz.f256.name, by decide, Tryz.func256.trans (congrArg some (by kernel_rfl))⟩
  f24 := ⟨Tryz.f257.name, by decide, Tryz.func257.trans (congrArg some (by kernel_rfl))⟩
  f25 := ⟨Tryz.f258.name, by decide, Tryz.func258.trans (congrArg some (by kernel_rfl))⟩
  f26 := ⟨Tryz.f259.name, by decide, Tryz.func259.trans (congrArg some (by kernel_rfl))⟩
  f27 := ⟨Tryz.f260.name, by decide, Tryz.func260.trans (congrArg some (by kernel_rfl))⟩
  f28 := Tryz.func180.trans (congrArg some (by kernel_rfl))
  f29 := Tryz.func181.trans (congrArg some (by kernel_rfl))
  f46 := ⟨Tryz.f261.name, by decide, Tryz.func261.trans (congrArg some (by kernel_rfl))⟩
  f47 := Tryz.func225.trans (congrArg some (by kernel_rfl))
  f48 := Tryz.func226.trans (congrArg some (by kernel_rfl))
  f49 := ⟨Tryz.f262.name, by decide, Tryz.func262.trans (congrArg some (by kernel_rfl))⟩
  f50 := ⟨Tryz.f263.name, by decide, Tryz.func263.trans (congrArg some (by kernel_rfl))⟩
  f57 := ⟨Tryz.f264.name, by decide, Tryz.func264.trans (congrArg some (by kernel_rfl))⟩
  t0 := Tryz.underlying0
  a0 := Tryz.isAgg0
  z0 := Tryz.sizeOf0
  v0 := Tryz.zeroValue0
  t3 := Tryz.underlying3
  a3 := Tryz.isAgg3
  z3 := Tryz.sizeOf3
  v3 := Tryz.zeroValue3
  t4 := Tryz.underlying4
  a4 := Tryz.isAgg4
  z4 := Tryz.sizeOf4
  v4 := Tryz.zeroValue4
  t5 := Tryz.underlying5
  a5 := Tryz.isAgg5
  z5 := Tryz.sizeOf5
  v5 := Tryz.zeroValue5
  t9 := Tryz.underlying9
  a9 := Tryz.isAgg9
  z9 := Tryz.sizeOf9
  v9 := Tryz.zeroValue9
  t22 := Tryz.underlying129
  a22 := Tryz.isAgg129
  z22 := Tryz.sizeOf129
  v22 := Tryz.zeroValue129
  t25 := Tryz.underlying296
  a25 := Tryz.isAgg296
  z25 := Tryz.sizeOf296
  v25 := Tryz.zeroValue296
  t39 := Tryz.underlying121
  a39 := Tryz.isAgg121
  z39 := Tryz.sizeOf121
  v39 := Tryz.zeroValue121
  t45 := Tryz.underlying281
  a45 := Tryz.isAgg281
  z45 := Tryz.sizeOf281
  v45 := Tryz.zeroValue281
  t46 := Tryz.underlying282
  a46 := Tryz.isAgg282
  z46 := Tryz.sizeOf282
  v46 := Tryz.zeroValue282
  t50 := Tryz.underlying206
  a50 := Tryz.isAgg206
  z50 := Tryz.sizeOf206
  v50 := Tryz.zeroValue206
  t53 := Tryz.underlying289
  a53 := Tryz.isAgg289
  z53 := Tryz.sizeOf289
  v53 := Tryz.zeroValue289
  t55 := Tryz.underlying94
  a55 := Tryz.isAgg94
  z55 := Tryz.sizeOf94
  v55 := Tryz.zeroValue94
  t66 := Tryz.underlying319
  a66 := Tryz.isAgg319
  z66 := Tryz.sizeOf319
  v66 := Tryz.zeroValue319
  t70 := Tryz.underlying323
  a70 := Tryz.isAgg323
  z70 := Tryz.sizeOf323
  v70 := Tryz.zeroValue323
  t76 := Tryz.underlying334
  a76 := Tryz.isAgg334
  z76 := Tryz.sizeOf334
  v76 := Tryz.zeroValue334
  t77 := Tryz.underlying192
  a77 := Tryz.isAgg192
  z77 := Tryz.sizeOf192
  v77 := Tryz.zeroValue192 }
def Tryz.laysDel_ren : Go.Shelf.Ren := ⟨fun | 23 => 195 | n => n, fun | 22 => 25 | 3 => 3 | 4 => 4 | 0 => 0 | n => n, fun | n => n⟩
theorem Tryz.laysDel : Go.Proofs.Lays2.n23 Tryz.prog Tryz.laysDel_ren := {
  mixed := by kernel_rfl
  f23 := Tryz.func195.trans (congrArg some (by kernel_rfl))
  t0 := Tryz.underlying0
  a0 := Tryz.isAgg0
  z0 := Tryz.sizeOf0
  v0 := Tryz.zeroValue0
  t3 := Tryz.underlying3
  a3 := Tryz.isAgg3
  z3 := Tryz.sizeOf3
  v3 := Tryz.zeroValue3
  t4 := Tryz.underlying4
  a4 := Tryz.isAgg4
  z4 := Tryz.sizeOf4
  v4 := Tryz.zeroValue4
  t22 := Tryz.underlying25
  a22 := Tryz.isAgg25
  z22 := Tryz.sizeOf25
  v22 := Tryz.zeroValue25
  i3 := by kernel_rfl }
end Go.Proofs
