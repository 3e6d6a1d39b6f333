/- Cells: what is proved on the way: every input of the statement; no condition. Texts joined: Ins SlU SlM SlN Srl SlV InE SlW. -/
import Derived.Test.YtbnnnljagkjpiaaGreatDoorBgc
import Derived.Test.YtbnnnljagkjpiaaGreatDoorProg
import Derived.KernelRfl
import Derived.Test.YtbnnnljagkjpiaaGreatDoorBga
import Derived.Shelf.SlGeneric
import Derived.Shelf.Strconv.Itoa0
import Derived.Shelf.Spec.TrailingZeros
import Derived.Ground.Names7Prog
import Derived.Ground.NamesProg
import Derived.Laws.MakeOwn
set_option linter.unusedVariables false
namespace Go.Proofs.YtbnnnljagkjpiaaGreatDoor
open Go.SL
theorem mB {P:Program} {f:FuncId} {fn:Func} (h:P.funcs[f]? = some fn) (a:fn.body.isNone=false:=by kernel_rfl) (b:(fn.name == "runtime.NumGoroutine")=false:=by kernel_rfl):QV P f:=⟨fn,h,a,b⟩
theorem mF {P:Program} {s:TypeId} {f off:Nat} {fs:Array Field} {fd:Field} (h:P.underlying s=some (.struct fs)) (a:fs[f]? = some fd:=by rfl) (b:fd.offset=off:=by rfl) (c:(P.info? fd.type).map (·.size)=some 1:=by kernel_rfl):QO P s f off:=⟨fs,fd,h,a,b,1,c,by decide⟩
theorem mT {P:Program} {t:TypeId} {d:TypeDesc} (h:P.underlying t=some d) (a:∀ fs,d ≠ .struct fs:=by intro _ h;cases h) (b:∀ k e,d ≠ .array k e:=by intro _ _ h;cases h) (c:(P.info? t).map (·.size)=some 1:=by kernel_rfl):T1 P t:=⟨⟨d,h,a,b⟩,c⟩
instance:T1 Tryz.prog 3:=mT Tryz.underlying3
instance:V1 Tryz.prog 3 (.int .i64 0):=⟨by kernel_rfl⟩
instance:Xi Tryz.prog 3 .i64:=⟨Tryz.underlying3⟩
instance:T1 Tryz.prog 4:=mT Tryz.underlying4
instance:Fu Tryz.prog 4:=⟨Tryz.underlying4⟩
instance:TN Tryz.prog 23 3:=⟨.inl ⟨_,Tryz.underlying23⟩,by kernel_rfl⟩
instance:QO Tryz.prog 23 0 0:=mF Tryz.underlying23
instance:QO Tryz.prog 23 1 1:=mF Tryz.underlying23
instance:QO Tryz.prog 23 2 2:=mF Tryz.underlying23
instance:VW Tryz.prog 24 105 12 128:=⟨Tryz.underlying24,by kernel_rfl⟩
instance:T1 Tryz.prog 25:=mT Tryz.underlying25
instance:VW Tryz.prog 25 3 1 8:=⟨Tryz.underlying25,by kernel_rfl⟩
instance:T1 Tryz.prog 30:=mT Tryz.underlying30
instance:V1 Tryz.prog 30 (.pointer none):=⟨by kernel_rfl⟩
instance:U6 Tryz.prog 30:=⟨⟨_,Tryz.underlying30⟩⟩
instance:T1 Tryz.prog 35:=mT Tryz.underlying35
instance:U6 Tryz.prog 35:=⟨⟨_,Tryz.underlying35⟩⟩
instance:T1 Tryz.prog 36:=mT Tryz.underlying36
instance:U6 Tryz.prog 36:=⟨⟨_,Tryz.underlying36⟩⟩
instance:T1 Tryz.prog 37:=mT Tryz.underlying37
instance:U6 Tryz.prog 37:=⟨⟨_,Tryz.underlying37⟩⟩
instance:T1 Tryz.prog 38:=mT Tryz.underlying38
instance:U6 Tryz.prog 38:=⟨⟨_,Tryz.underlying38⟩⟩
instance:T1 Tryz.prog 39:=mT Tryz.underlying39
instance:U6 Tryz.prog 39:=⟨⟨_,Tryz.underlying39⟩⟩
instance:T1 Tryz.prog 40:=mT Tryz.underlying40
instance:U6 Tryz.prog 40:=⟨⟨_,Tryz.underlying40⟩⟩
instance:T1 Tryz.prog 41:=mT Tryz.underlying41
instance:Yi Tryz.prog 41 3 139:=⟨Tryz.underlying41⟩
instance:T1 Tryz.prog 42:=mT Tryz.underlying42
instance:Yi Tryz.prog 42 3 123:=⟨Tryz.underlying42⟩
instance:V1 Tryz.prog 44 (.agg #[.pointer none,.pointer none,.pointer none,.pointer none,.pointer none,.pointer none,.map none,.map none]):=⟨by kernel_rfl⟩
instance:YN Tryz.prog 44 [(0,1),(1,1),(2,1),(3,1),(4,1),(5,1),(6,1),(7,1)]:=⟨_,Tryz.underlying44,by kernel_rfl⟩
instance:QO Tryz.prog 44 0 0:=mF Tryz.underlying44
instance:QO Tryz.prog 44 1 1:=mF Tryz.underlying44
instance:QO Tryz.prog 44 2 2:=mF Tryz.underlying44
instance:QO Tryz.prog 44 3 3:=mF Tryz.underlying44
instance:QO Tryz.prog 44 4 4:=mF Tryz.underlying44
instance:QO Tryz.prog 44 5 5:=mF Tryz.underlying44
instance:QO Tryz.prog 44 6 6:=mF Tryz.underlying44
instance:QO Tryz.prog 44 7 7:=mF Tryz.underlying44
instance:T1 Tryz.prog 45:=mT Tryz.underlying45
instance:U6 Tryz.prog 45:=⟨⟨_,Tryz.underlying45⟩⟩
instance:T1 Tryz.prog 46:=mT Tryz.underlying46
instance:T1 Tryz.prog 47:=mT Tryz.underlying47
instance:VW Tryz.prog 47 62 2 16:=⟨Tryz.underlying47,by kernel_rfl⟩
instance:V1 Tryz.prog 49 (.agg #[.pointer none,.pointer none,.slice none 0 0]):=⟨by kernel_rfl⟩
instance:YN Tryz.prog 49 [(0,1),(1,1),(2,1)]:=⟨_,Tryz.underlying49,by kernel_rfl⟩
instance:QO Tryz.prog 49 0 0:=mF Tryz.underlying49
instance:QO Tryz.prog 49 1 1:=mF Tryz.underlying49
instance:QO Tryz.prog 49 2 2:=mF Tryz.underlying49
instance:T1 Tryz.prog 51:=mT Tryz.underlying51
instance:Yi Tryz.prog 51 3 3:=⟨Tryz.underlying51⟩
instance:T1 Tryz.prog 52:=mT Tryz.underlying52
instance:T1 Tryz.prog 53:=mT Tryz.underlying53
instance:VW Tryz.prog 53 164 4 64:=⟨Tryz.underlying53,by kernel_rfl⟩
instance:T1 Tryz.prog 54:=mT Tryz.underlying54
instance:VW Tryz.prog 54 267 1 8:=⟨Tryz.underlying54,by kernel_rfl⟩
instance:V1 Tryz.prog 56 (.agg #[.pointer none,.slice none 0 0,.slice none 0 0]):=⟨by kernel_rfl⟩
instance:YN Tryz.prog 56 [(0,1),(1,1),(2,1)]:=⟨_,Tryz.underlying56,by kernel_rfl⟩
instance:QO Tryz.prog 56 0 0:=mF Tryz.underlying56
instance:QO Tryz.prog 56 1 1:=mF Tryz.underlying56
instance:QO Tryz.prog 56 2 2:=mF Tryz.underlying56
instance:TN Tryz.prog 62 2:=⟨.inl ⟨_,Tryz.underlying62⟩,by kernel_rfl⟩
instance:V1 Tryz.prog 62 (.agg #[.int .i64 0,.int .i64 0]):=⟨by kernel_rfl⟩
instance:YN Tryz.prog 62 [(0,1),(1,1)]:=⟨_,Tryz.underlying62,by kernel_rfl⟩
instance:QO Tryz.prog 62 0 0:=mF Tryz.underlying62
instance:QO Tryz.prog 62 1 1:=mF Tryz.underlying62
instance:Kz Tryz.prog 62:=⟨⟨_,_,_,_,Tryz.underlying62,by decide,by decide,rfl,rfl,Tryz.underlying3,Tryz.underlying3⟩,fun f g h=>by rw[Tryz.underlying62] at h;cases h;exact⟨(inferInstance:T1 Tryz.prog 3),(inferInstance:T1 Tryz.prog 3)⟩,by kernel_rfl,by kernel_rfl⟩
instance:TN Tryz.prog 64 5:=⟨.inl ⟨_,Tryz.underlying64⟩,by kernel_rfl⟩
instance:V1 Tryz.prog 64 (.agg #[.int .i64 0,.int .i64 0,.int .i64 0,.int .i64 0,.bool false]):=⟨by kernel_rfl⟩
instance:YN Tryz.prog 64 [(0,1),(1,1),(2,1),(3,1),(4,1)]:=⟨_,Tryz.underlying64,by kernel_rfl⟩
instance:T1 Tryz.prog 73:=mT Tryz.underlying73
instance:V1 Tryz.prog 73 (.slice none 0 0):=⟨by kernel_rfl⟩
instance:VW Tryz.prog 73 87 6 48:=⟨Tryz.underlying73,by kernel_rfl⟩
instance:TN Tryz.prog 78 4:=⟨.inl ⟨_,Tryz.underlying78⟩,by kernel_rfl⟩
instance:V1 Tryz.prog 78 (.agg #[.int .i64 0,.int .i64 0,.bool false,.bool false]):=⟨by kernel_rfl⟩
instance:YN Tryz.prog 78 [(0,1),(1,1),(2,1),(3,1)]:=⟨_,Tryz.underlying78,by kernel_rfl⟩
instance:QO Tryz.prog 78 0 0:=mF Tryz.underlying78
instance:QO Tryz.prog 78 1 1:=mF Tryz.underlying78
instance:QO Tryz.prog 78 2 2:=mF Tryz.underlying78
instance:QO Tryz.prog 78 3 3:=mF Tryz.underlying78
instance:TN Tryz.prog 85 3:=⟨.inl ⟨_,Tryz.underlying85⟩,by kernel_rfl⟩
instance:V1 Tryz.prog 85 (.agg #[.int .i64 0,.int .i64 0,.int .i64 0]):=⟨by kernel_rfl⟩
instance:YN Tryz.prog 85 [(0,1),(1,2)]:=⟨_,Tryz.underlying85,by kernel_rfl⟩
instance:QO Tryz.prog 85 0 0:=mF Tryz.underlying85
instance:QO Tryz.prog 85 1 1:=⟨_,_,Tryz.underlying85,rfl,rfl,2,by kernel_rfl,by decide⟩
instance:TN Tryz.prog 87 6:=⟨.inl ⟨_,Tryz.underlying87⟩,by kernel_rfl⟩
instance:V1 Tryz.prog 87 (.agg #[.int .i64 0,.int .i64 0,.int .i64 0,.int .i64 0,.int .i64 0,.int .i64 0]):=⟨by kernel_rfl⟩
instance:YN Tryz.prog 87 [(0,2),(2,1),(3,3)]:=⟨_,Tryz.underlying87,by kernel_rfl⟩
instance:QO Tryz.prog 87 0 0:=⟨_,_,Tryz.underlying87,rfl,rfl,2,by kernel_rfl,by decide⟩
instance:QO Tryz.prog 87 1 2:=mF Tryz.underlying87
instance:QO Tryz.prog 87 2 3:=⟨_,_,Tryz.underlying87,rfl,rfl,3,by kernel_rfl,by decide⟩
instance:T1 Tryz.prog 94:=mT Tryz.underlying94
instance:V1 Tryz.prog 94 (.int .u64 0):=⟨by kernel_rfl⟩
instance:Xi Tryz.prog 94 .u64:=⟨Tryz.underlying94⟩
instance:T1 Tryz.prog 95:=mT Tryz.underlying95
instance:VW Tryz.prog 95 94 1 8:=⟨Tryz.underlying95,by kernel_rfl⟩
instance:VW Tryz.prog 101 103 9 88:=⟨Tryz.underlying101,by kernel_rfl⟩
instance:TN Tryz.prog 103 9:=⟨.inl ⟨_,Tryz.underlying103⟩,by kernel_rfl⟩
instance:V1 Tryz.prog 103 (.agg #[.int .i64 0,.int .i64 0,.int .i64 0,.int .i64 0,.int .u64 0,.slice none 0 0,.bool false,.int .i64 0,.int .i64 0]):=⟨by kernel_rfl⟩
instance:QO Tryz.prog 103 0 0:=mF Tryz.underlying103
instance:QO Tryz.prog 103 1 1:=mF Tryz.underlying103
instance:QO Tryz.prog 103 2 2:=mF Tryz.underlying103
instance:QO Tryz.prog 103 3 3:=mF Tryz.underlying103
instance:QO Tryz.prog 103 4 4:=mF Tryz.underlying103
instance:QO Tryz.prog 103 5 5:=mF Tryz.underlying103
instance:QO Tryz.prog 103 6 6:=mF Tryz.underlying103
instance:QO Tryz.prog 103 7 7:=⟨_,_,Tryz.underlying103,rfl,rfl,2,by kernel_rfl,by decide⟩
instance:TN Tryz.prog 105 12:=⟨.inl ⟨_,Tryz.underlying105⟩,by kernel_rfl⟩
instance:V1 Tryz.prog 105 (.agg #[.int .i64 0,.int .i64 0,.int .i64 0,.int .i64 0,.int .i64 0,.int .u64 0,.slice none 0 0,.bool false,.int .i64 0,.int .i64 0,.int .i64 0,.slice none 0 0]):=⟨by kernel_rfl⟩
instance:QO Tryz.prog 105 0 0:=mF Tryz.underlying105
instance:QO Tryz.prog 105 1 1:=⟨_,_,Tryz.underlying105,rfl,rfl,9,by kernel_rfl,by decide⟩
instance:QO Tryz.prog 105 2 10:=mF Tryz.underlying105
instance:QO Tryz.prog 105 3 11:=mF Tryz.underlying105
instance:V1 Tryz.prog 112 (.agg #[.slice none 0 0]):=⟨by kernel_rfl⟩
instance:YN Tryz.prog 112 [(0,1)]:=⟨_,Tryz.underlying112,by kernel_rfl⟩
instance:QO Tryz.prog 112 0 0:=mF Tryz.underlying112
instance:V1 Tryz.prog 114 (.agg #[.map none,.int .i64 0]):=⟨by kernel_rfl⟩
instance:YN Tryz.prog 114 [(0,1),(1,1)]:=⟨_,Tryz.underlying114,by kernel_rfl⟩
instance:QO Tryz.prog 114 0 0:=mF Tryz.underlying114
instance:QO Tryz.prog 114 1 1:=mF Tryz.underlying114
instance:TN Tryz.prog 117 3:=⟨.inl ⟨_,Tryz.underlying117⟩,by kernel_rfl⟩
instance:V1 Tryz.prog 117 (.agg #[.int .i64 0,.int .i64 0,.int .i64 0]):=⟨by kernel_rfl⟩
instance:YN Tryz.prog 117 [(0,1),(1,1),(2,1)]:=⟨_,Tryz.underlying117,by kernel_rfl⟩
instance:QO Tryz.prog 117 0 0:=mF Tryz.underlying117
instance:QO Tryz.prog 117 1 1:=mF Tryz.underlying117
instance:QO Tryz.prog 117 2 2:=mF Tryz.underlying117
instance:Xi Tryz.prog 121 .u64:=⟨Tryz.underlying121⟩
instance:T1 Tryz.prog 123:=mT Tryz.underlying123
instance:V1 Tryz.prog 123 (.pointer none):=⟨by kernel_rfl⟩
instance:U6 Tryz.prog 123:=⟨⟨_,Tryz.underlying123⟩⟩
instance:T1 Tryz.prog 129:=mT Tryz.underlying129
instance:VW Tryz.prog 129 132 2 16:=⟨Tryz.underlying129,by kernel_rfl⟩
instance:TN Tryz.prog 132 2:=⟨.inl ⟨_,Tryz.underlying132⟩,by kernel_rfl⟩
instance:V1 Tryz.prog 132 (.agg #[.int .i64 0,.int .i64 0]):=⟨by kernel_rfl⟩
instance:YN Tryz.prog 132 [(0,1),(1,1)]:=⟨_,Tryz.underlying132,by kernel_rfl⟩
instance:QO Tryz.prog 132 0 0:=mF Tryz.underlying132
instance:QO Tryz.prog 132 1 1:=mF Tryz.underlying132
instance:Kz Tryz.prog 132:=⟨⟨_,_,_,_,Tryz.underlying132,by decide,by decide,rfl,rfl,Tryz.underlying3,Tryz.underlying3⟩,fun f g h=>by rw[Tryz.underlying132] at h;cases h;exact⟨(inferInstance:T1 Tryz.prog 3),(inferInstance:T1 Tryz.prog 3)⟩,by kernel_rfl,by kernel_rfl⟩
instance:V1 Tryz.prog 139 (.pointer none):=⟨by kernel_rfl⟩
instance:U6 Tryz.prog 139:=⟨⟨_,Tryz.underlying139⟩⟩
instance:Yi Tryz.prog 147 62 3:=⟨Tryz.underlying147⟩
instance:T1 Tryz.prog 150:=mT Tryz.underlying150
instance:T1 Tryz.prog 151:=mT Tryz.underlying151
instance:VW Tryz.prog 151 158 6 40:=⟨Tryz.underlying151,by kernel_rfl⟩
instance:T1 Tryz.prog 152:=mT Tryz.underlying152
instance:U6 Tryz.prog 152:=⟨⟨_,Tryz.underlying152⟩⟩
instance:V1 Tryz.prog 154 (.agg #[.slice none 0 0,.pointer none,.int .i64 0]):=⟨by kernel_rfl⟩
instance:YN Tryz.prog 154 [(0,1),(1,1),(2,1)]:=⟨_,Tryz.underlying154,by kernel_rfl⟩
instance:QO Tryz.prog 154 0 0:=mF Tryz.underlying154
instance:QO Tryz.prog 154 1 1:=mF Tryz.underlying154
instance:V1 Tryz.prog 158 (.agg #[.int .i64 0,.bool false,.int .i64 0,.int .i64 0,.bool false,.bool false]):=⟨by kernel_rfl⟩
instance:QO Tryz.prog 158 0 0:=mF Tryz.underlying158
instance:QO Tryz.prog 158 1 1:=mF Tryz.underlying158
instance:QO Tryz.prog 158 2 2:=⟨_,_,Tryz.underlying158,rfl,rfl,4,by kernel_rfl,by decide⟩
instance:T1 Tryz.prog 162:=mT Tryz.underlying162
instance:TN Tryz.prog 164 4:=⟨.inl ⟨_,Tryz.underlying164⟩,by kernel_rfl⟩
instance:V1 Tryz.prog 164 (.agg #[.int .i64 0,.slice none 0 0,.int .i64 0,.slice none 0 0]):=⟨by kernel_rfl⟩
instance:YN Tryz.prog 164 [(0,1),(1,1),(2,1),(3,1)]:=⟨_,Tryz.underlying164,by kernel_rfl⟩
instance:QO Tryz.prog 164 0 0:=mF Tryz.underlying164
instance:QO Tryz.prog 164 1 1:=mF Tryz.underlying164
instance:QO Tryz.prog 164 2 2:=mF Tryz.underlying164
instance:QO Tryz.prog 164 3 3:=mF Tryz.underlying164
instance:V1 Tryz.prog 199 (.agg #[.slice none 0 0]):=⟨by kernel_rfl⟩
instance:YN Tryz.prog 199 [(0,1)]:=⟨_,Tryz.underlying199,by kernel_rfl⟩
instance:QO Tryz.prog 199 0 0:=mF Tryz.underlying199
instance:T1 Tryz.prog 202:=mT Tryz.underlying202
instance:V1 Tryz.prog 202 (.map none):=⟨by kernel_rfl⟩
instance:Yi Tryz.prog 202 132 3:=⟨Tryz.underlying202⟩
instance:T1 Tryz.prog 203:=mT Tryz.underlying203
instance:Yi Tryz.prog 203 3 202:=⟨Tryz.underlying203⟩
instance:V1 Tryz.prog 205 (.agg #[.map none,.map none,.map none]):=⟨by kernel_rfl⟩
instance:YN Tryz.prog 205 [(0,1),(1,1),(2,1)]:=⟨_,Tryz.underlying205,by kernel_rfl⟩
instance:QO Tryz.prog 205 0 0:=mF Tryz.underlying205
instance:QO Tryz.prog 205 1 1:=mF Tryz.underlying205
instance:QO Tryz.prog 205 2 2:=mF Tryz.underlying205
instance:V1 Tryz.prog 213 (.agg #[.pointer none,.pointer none]):=⟨by kernel_rfl⟩
instance:YN Tryz.prog 213 [(0,1),(1,1)]:=⟨_,Tryz.underlying213,by kernel_rfl⟩
instance:QO Tryz.prog 213 0 0:=mF Tryz.underlying213
instance:QO Tryz.prog 213 1 1:=mF Tryz.underlying213
instance:T1 Tryz.prog 222:=mT Tryz.underlying222
instance:VW Tryz.prog 222 226 2 16:=⟨Tryz.underlying222,by kernel_rfl⟩
instance:V1 Tryz.prog 224 (.agg #[.pointer none,.int .i64 0,.slice none 0 0,.int .i64 0,.int .i64 0]):=⟨by kernel_rfl⟩
instance:YN Tryz.prog 224 [(0,1),(1,1),(2,1),(3,1),(4,1)]:=⟨_,Tryz.underlying224,by kernel_rfl⟩
instance:QO Tryz.prog 224 0 0:=mF Tryz.underlying224
instance:QO Tryz.prog 224 1 1:=mF Tryz.underlying224
instance:QO Tryz.prog 224 2 2:=mF Tryz.underlying224
instance:QO Tryz.prog 224 3 3:=mF Tryz.underlying224
instance:QO Tryz.prog 224 4 4:=mF Tryz.underlying224
instance:TN Tryz.prog 226 2:=⟨.inl ⟨_,Tryz.underlying226⟩,by kernel_rfl⟩
instance:V1 Tryz.prog 226 (.agg #[.int .i64 0,.int .i64 0]):=⟨by kernel_rfl⟩
instance:YN Tryz.prog 226 [(0,1),(1,1)]:=⟨_,Tryz.underlying226,by kernel_rfl⟩
instance:QO Tryz.prog 226 0 0:=mF Tryz.underlying226
instance:QO Tryz.prog 226 1 1:=mF Tryz.underlying226
instance:Kz Tryz.prog 226:=⟨⟨_,_,_,_,Tryz.underlying226,by decide,by decide,rfl,rfl,Tryz.underlying3,Tryz.underlying3⟩,fun f g h=>by rw[Tryz.underlying226] at h;cases h;exact⟨(inferInstance:T1 Tryz.prog 3),(inferInstance:T1 Tryz.prog 3)⟩,by kernel_rfl,by kernel_rfl⟩
instance:V1 Tryz.prog 230 (.agg #[.slice none 0 0,.int .i64 0,.slice none 0 0,.pointer none]):=⟨by kernel_rfl⟩
instance:YN Tryz.prog 230 [(0,1),(1,1),(2,1),(3,1)]:=⟨_,Tryz.underlying230,by kernel_rfl⟩
instance:QO Tryz.prog 230 0 0:=mF Tryz.underlying230
instance:QO Tryz.prog 230 1 1:=mF Tryz.underlying230
instance:QO Tryz.prog 230 2 2:=mF Tryz.underlying230
instance:QO Tryz.prog 230 3 3:=mF Tryz.underlying230
instance:V1 Tryz.prog 235 (.agg #[.int .i64 0,.slice none 0 0,.int .i64 0]):=⟨by kernel_rfl⟩
instance:YN Tryz.prog 235 [(0,1),(1,1),(2,1)]:=⟨_,Tryz.underlying235,by kernel_rfl⟩
instance:QO Tryz.prog 235 0 0:=mF Tryz.underlying235
instance:QO Tryz.prog 235 1 1:=mF Tryz.underlying235
instance:QO Tryz.prog 235 2 2:=mF Tryz.underlying235
instance:V1 Tryz.prog 245 (.agg #[.slice none 0 0]):=⟨by kernel_rfl⟩
instance:YN Tryz.prog 245 [(0,1)]:=⟨_,Tryz.underlying245,by kernel_rfl⟩
instance:QO Tryz.prog 245 0 0:=mF Tryz.underlying245
instance:VW Tryz.prog 248 308 2 16:=⟨Tryz.underlying248,by kernel_rfl⟩
instance:V1 Tryz.prog 266 (.agg #[.int .i64 0,.int .i64 0,.int .i64 0,.slice none 0 0,.slice none 0 0,.slice none 0 0,.bool false,.bool false,.bool false]):=⟨by kernel_rfl⟩
instance:YN Tryz.prog 266 [(0,1),(1,1),(2,1),(3,1),(4,1),(5,1),(6,1),(7,1),(8,1)]:=⟨_,Tryz.underlying266,by kernel_rfl⟩
instance:QO Tryz.prog 266 0 0:=mF Tryz.underlying266
instance:QO Tryz.prog 266 1 1:=mF Tryz.underlying266
instance:QO Tryz.prog 266 2 2:=mF Tryz.underlying266
instance:QO Tryz.prog 266 3 3:=mF Tryz.underlying266
instance:QO Tryz.prog 266 4 4:=mF Tryz.underlying266
instance:QO Tryz.prog 266 5 5:=mF Tryz.underlying266
instance:QO Tryz.prog 266 6 6:=mF Tryz.underlying266
instance:QO Tryz.prog 266 7 7:=mF Tryz.underlying266
instance:QO Tryz.prog 266 8 8:=mF Tryz.underlying266
instance:T1 Tryz.prog 267:=mT Tryz.underlying267
instance:V1 Tryz.prog 267 (.pointer none):=⟨by kernel_rfl⟩
instance:TN Tryz.prog 308 2:=⟨.inl ⟨_,Tryz.underlying308⟩,by kernel_rfl⟩
instance:V1 Tryz.prog 308 (.agg #[.int .i64 0,.int .i64 0]):=⟨by kernel_rfl⟩
instance:YN Tryz.prog 308 [(0,1),(1,1)]:=⟨_,Tryz.underlying308,by kernel_rfl⟩
instance:QO Tryz.prog 308 0 0:=mF Tryz.underlying308
instance:QO Tryz.prog 308 1 1:=mF Tryz.underlying308
instance:QV Tryz.prog 5:=mB Tryz.func5
instance:QV Tryz.prog 6:=mB Tryz.func6
instance:QV Tryz.prog 7:=mB Tryz.func7
instance:QV Tryz.prog 8:=mB Tryz.func8
instance:QV Tryz.prog 9:=mB Tryz.func9
instance:QV Tryz.prog 10:=mB Tryz.func10
instance:QV Tryz.prog 11:=mB Tryz.func11
instance:QV Tryz.prog 12:=mB Tryz.func12
instance:QV Tryz.prog 13:=mB Tryz.func13
instance:QV Tryz.prog 14:=mB Tryz.func14
instance:QV Tryz.prog 15:=mB Tryz.func15
instance:QV Tryz.prog 16:=mB Tryz.func16
instance:QV Tryz.prog 17:=mB Tryz.func17
instance:QV Tryz.prog 18:=mB Tryz.func18
instance:QV Tryz.prog 19:=mB Tryz.func19
instance:QV Tryz.prog 20:=mB Tryz.func20
instance:QV Tryz.prog 21:=mB Tryz.func21
instance:QV Tryz.prog 22:=mB Tryz.func22
instance:QV Tryz.prog 23:=mB Tryz.func23
instance:QV Tryz.prog 24:=mB Tryz.func24
instance:QV Tryz.prog 25:=mB Tryz.func25
instance:QV Tryz.prog 26:=mB Tryz.func26
instance:QV Tryz.prog 27:=mB Tryz.func27
instance:QV Tryz.prog 28:=mB Tryz.func28
instance:QV Tryz.prog 29:=mB Tryz.func29
instance:QV Tryz.prog 30:=mB Tryz.func30
instance:QV Tryz.prog 31:=mB Tryz.func31
instance:QV Tryz.prog 32:=mB Tryz.func32
instance:QV Tryz.prog 33:=mB Tryz.func33
instance:QV Tryz.prog 34:=mB Tryz.func34
instance:QV Tryz.prog 35:=mB Tryz.func35
instance:QV Tryz.prog 36:=mB Tryz.func36
instance:QV Tryz.prog 37:=mB Tryz.func37
instance:QV Tryz.prog 38:=mB Tryz.func38
instance:QV Tryz.prog 39:=mB Tryz.func39
instance:QV Tryz.prog 40:=mB Tryz.func40
instance:QV Tryz.prog 41:=mB Tryz.func41
instance:QV Tryz.prog 42:=mB Tryz.func42
instance:QV Tryz.prog 43:=mB Tryz.func43
instance:QV Tryz.prog 44:=mB Tryz.func44
instance:QV Tryz.prog 45:=mB Tryz.func45
instance:QV Tryz.prog 46:=mB Tryz.func46
instance:QV Tryz.prog 47:=mB Tryz.func47
instance:QV Tryz.prog 48:=mB Tryz.func48
instance:QV Tryz.prog 49:=mB Tryz.func49
instance:QV Tryz.prog 50:=mB Tryz.func50
instance:QV Tryz.prog 51:=mB Tryz.func51
instance:QV Tryz.prog 52:=mB Tryz.func52
instance:QV Tryz.prog 53:=mB Tryz.func53
instance:QV Tryz.prog 54:=mB Tryz.func54
instance:QV Tryz.prog 55:=mB Tryz.func55
instance:QV Tryz.prog 56:=mB Tryz.func56
instance:QV Tryz.prog 57:=mB Tryz.func57
instance:QV Tryz.prog 58:=mB Tryz.func58
instance:QV Tryz.prog 59:=mB Tryz.func59
instance:QV Tryz.prog 60:=mB Tryz.func60
instance:QV Tryz.prog 61:=mB Tryz.func61
instance:QV Tryz.prog 62:=mB Tryz.func62
instance:QV Tryz.prog 63:=mB Tryz.func63
instance:QV Tryz.prog 64:=mB Tryz.func64
instance:QV Tryz.prog 65:=mB Tryz.func65
instance:QV Tryz.prog 66:=mB Tryz.func66
instance:QV Tryz.prog 67:=mB Tryz.func67
instance:QV Tryz.prog 68:=mB Tryz.func68
instance:QV Tryz.prog 69:=mB Tryz.func69
instance:QV Tryz.prog 70:=mB Tryz.func70
instance:QV Tryz.prog 71:=mB Tryz.func71
instance:QV Tryz.prog 72:=mB Tryz.func72
instance:QV Tryz.prog 73:=mB Tryz.func73
instance:QV Tryz.prog 74:=mB Tryz.func74
instance:QV Tryz.prog 75:=mB Tryz.func75
instance:QV Tryz.prog 76:=mB Tryz.func76
instance:QV Tryz.prog 77:=mB Tryz.func77
instance:QV Tryz.prog 78:=mB Tryz.func78
instance:QV Tryz.prog 79:=mB Tryz.func79
instance:QV Tryz.prog 80:=mB Tryz.func80
instance:QV Tryz.prog 81:=mB Tryz.func81
instance:QV Tryz.prog 82:=mB Tryz.func82
instance:QV Tryz.prog 83:=mB Tryz.func83
instance:QV Tryz.prog 84:=mB Tryz.func84
instance:QV Tryz.prog 85:=mB Tryz.func85
instance:QV Tryz.prog 86:=mB Tryz.func86
instance:QV Tryz.prog 87:=mB Tryz.func87
instance:QV Tryz.prog 88:=mB Tryz.func88
instance:QV Tryz.prog 89:=mB Tryz.func89
instance:QV Tryz.prog 90:=mB Tryz.func90
instance:QV Tryz.prog 91:=mB Tryz.func91
instance:QV Tryz.prog 92:=mB Tryz.func92
instance:QV Tryz.prog 93:=mB Tryz.func93
instance:QV Tryz.prog 94:=mB Tryz.func94
instance:QV Tryz.prog 97:=mB Tryz.func97
instance:QV Tryz.prog 98:=mB Tryz.func98
instance:QV Tryz.prog 100:=mB Tryz.func100
instance:QV Tryz.prog 101:=mB Tryz.func101
instance:QV Tryz.prog 102:=mB Tryz.func102
instance:QV Tryz.prog 103:=mB Tryz.func103
instance:QV Tryz.prog 104:=mB Tryz.func104
instance:QV Tryz.prog 105:=mB Tryz.func105
instance:QV Tryz.prog 106:=mB Tryz.func106
instance:QV Tryz.prog 107:=mB Tryz.func107
instance:QV Tryz.prog 108:=mB Tryz.func108
instance:QV Tryz.prog 109:=mB Tryz.func109
instance:QV Tryz.prog 110:=mB Tryz.func110
instance:QV Tryz.prog 111:=mB Tryz.func111
instance:QV Tryz.prog 112:=mB Tryz.func112
instance:QV Tryz.prog 113:=mB Tryz.func113
instance:QV Tryz.prog 114:=mB Tryz.func114
instance:QV Tryz.prog 115:=mB Tryz.func115
instance:QV Tryz.prog 116:=mB Tryz.func116
instance:QV Tryz.prog 117:=mB Tryz.func117
instance:QV Tryz.prog 118:=mB Tryz.func118
instance:QV Tryz.prog 119:=mB Tryz.func119
instance:QV Tryz.prog 120:=mB Tryz.func120
instance:QV Tryz.prog 121:=mB Tryz.func121
instance:QV Tryz.prog 122:=mB Tryz.func122
instance:QV Tryz.prog 123:=mB Tryz.func123
instance:QV Tryz.prog 124:=mB Tryz.func124
instance:QV Tryz.prog 125:=mB Tryz.func125
instance:QV Tryz.prog 126:=mB Tryz.func126
instance:QV Tryz.prog 127:=mB Tryz.func127
instance:QV Tryz.prog 128:=mB Tryz.func128
instance:QV Tryz.prog 129:=mB Tryz.func129
instance:QV Tryz.prog 130:=mB Tryz.func130
instance:QV Tryz.prog 131:=mB Tryz.func131
instance:QV Tryz.prog 132:=mB Tryz.func132
instance:QV Tryz.prog 133:=mB Tryz.func133
instance:QV Tryz.prog 134:=mB Tryz.func134
instance:QV Tryz.prog 135:=mB Tryz.func135
instance:QV Tryz.prog 136:=mB Tryz.func136
instance:QV Tryz.prog 137:=mB Tryz.func137
instance:QV Tryz.prog 138:=mB Tryz.func138
instance:QV Tryz.prog 139:=mB Tryz.func139
instance:QV Tryz.prog 140:=mB Tryz.func140
instance:QV Tryz.prog 141:=mB Tryz.func141
instance:QV Tryz.prog 142:=mB Tryz.func142
instance:QV Tryz.prog 143:=mB Tryz.func143
instance:QV Tryz.prog 144:=mB Tryz.func144
instance:QV Tryz.prog 145:=mB Tryz.func145
instance:QV Tryz.prog 146:=mB Tryz.func146
instance:QV Tryz.prog 147:=mB Tryz.func147
instance:QV Tryz.prog 148:=mB Tryz.func148
instance:QV Tryz.prog 149:=mB Tryz.func149
instance:QV Tryz.prog 150:=mB Tryz.func150
instance:QV Tryz.prog 151:=mB Tryz.func151
instance:QV Tryz.prog 152:=mB Tryz.func152
instance:QV Tryz.prog 153:=mB Tryz.func153
instance:QV Tryz.prog 154:=mB Tryz.func154
instance:QV Tryz.prog 155:=mB Tryz.func155
instance:QV Tryz.prog 156:=mB Tryz.func156
instance:QV Tryz.prog 157:=mB Tryz.func157
instance:QV Tryz.prog 158:=mB Tryz.func158
instance:QV Tryz.prog 159:=mB Tryz.func159
instance:QV Tryz.prog 160:=mB Tryz.func160
instance:QV Tryz.prog 161:=mB Tryz.func161
instance:QV Tryz.prog 162:=mB Tryz.func162
instance:QV Tryz.prog 163:=mB Tryz.func163
instance:QV Tryz.prog 164:=mB Tryz.func164
instance:QV Tryz.prog 165:=mB Tryz.func165
instance:QV Tryz.prog 166:=mB Tryz.func166
instance:QV Tryz.prog 167:=mB Tryz.func167
instance:QV Tryz.prog 168:=mB Tryz.func168
instance:QV Tryz.prog 169:=mB Tryz.func169
instance:QV Tryz.prog 170:=mB Tryz.func170
instance:QV Tryz.prog 181:=mB Tryz.func181
instance:QV Tryz.prog 182:=mB Tryz.func182
instance:QV Tryz.prog 183:=mB Tryz.func183
instance:QV Tryz.prog 184:=mB Tryz.func184
instance:QV Tryz.prog 185:=mB Tryz.func185
instance:QV Tryz.prog 186:=mB Tryz.func186
instance:QV Tryz.prog 187:=mB Tryz.func187
instance:QV Tryz.prog 189:=mB Tryz.func189
instance:QV Tryz.prog 190:=mB Tryz.func190
instance:QV Tryz.prog 191:=mB Tryz.func191
instance:QV Tryz.prog 192:=mB Tryz.func192
instance:QV Tryz.prog 193:=mB Tryz.func193
instance:QV Tryz.prog 194:=mB Tryz.func194
instance:QV Tryz.prog 195:=mB Tryz.func195
instance:QV Tryz.prog 196:=mB Tryz.func196
instance:QV Tryz.prog 197:=mB Tryz.func197
instance:QV Tryz.prog 198:=mB Tryz.func198
instance:QV Tryz.prog 199:=mB Tryz.func199
instance:QV Tryz.prog 200:=mB Tryz.func200
instance:QV Tryz.prog 201:=mB Tryz.func201
instance:QV Tryz.prog 202:=mB Tryz.func202
instance:QV Tryz.prog 203:=mB Tryz.func203
instance:QV Tryz.prog 204:=mB Tryz.func204
instance:QV Tryz.prog 205:=mB Tryz.func205
instance:QV Tryz.prog 206:=mB Tryz.func206
instance:QV Tryz.prog 207:=mB Tryz.func207
instance:QV Tryz.prog 208:=mB Tryz.func208
instance:QV Tryz.prog 211:=mB Tryz.func211
instance:QV Tryz.prog 212:=mB Tryz.func212
instance:QV Tryz.prog 213:=mB Tryz.func213
instance:QV Tryz.prog 214:=mB Tryz.func214
instance:QV Tryz.prog 215:=mB Tryz.func215
instance:QV Tryz.prog 216:=mB Tryz.func216
instance:QV Tryz.prog 217:=mB Tryz.func217
instance:QV Tryz.prog 218:=mB Tryz.func218
instance:QV Tryz.prog 219:=mB Tryz.func219
instance:QV Tryz.prog 220:=mB Tryz.func220
instance:QV Tryz.prog 221:=mB Tryz.func221
instance:QV Tryz.prog 222:=mB Tryz.func222
instance:QV Tryz.prog 223:=mB Tryz.func223
instance:QV Tryz.prog 229:=mB Tryz.func229
instance:QV Tryz.prog 230:=mB Tryz.func230
instance:QV Tryz.prog 231:=mB Tryz.func231
instance:QV Tryz.prog 232:=mB Tryz.func232
instance:QV Tryz.prog 233:=mB Tryz.func233
instance:QV Tryz.prog 234:=mB Tryz.func234
instance:QV Tryz.prog 235:=mB Tryz.func235
instance:QV Tryz.prog 236:=mB Tryz.func236
instance:QV Tryz.prog 238:=mB Tryz.func238
instance:QV Tryz.prog 239:=mB Tryz.func239
instance:QV Tryz.prog 240:=mB Tryz.func240
instance:QV Tryz.prog 241:=mB Tryz.func241
instance:QV Tryz.prog 242:=mB Tryz.func242
instance:QV Tryz.prog 243:=mB Tryz.func243
instance:QV Tryz.prog 244:=mB Tryz.func244
instance:QV Tryz.prog 245:=mB Tryz.func245
instance:QV Tryz.prog 246:=mB Tryz.func246
instance:QV Tryz.prog 248:=mB Tryz.func248
instance:QV Tryz.prog 250:=mB Tryz.func250
instance:QV Tryz.prog 252:=mB Tryz.func252
theorem mixed:Tryz.prog.follows .mixedOrders=true:=by kernel_rfl
end Go.Proofs.YtbnnnljagkjpiaaGreatDoor
set_option linter.unusedSimpArgs false
set_option linter.unusedSectionVars false
namespace Go.SL
theorem UH {a:Nat} (h:a < 18446744073709551616):IntKind.u64.wrap (a:Int)=a:=by
 simp[IntKind.wrap,IntKind.bits,IntKind.signed];omega
theorem KW {a:Nat} (h:a < 9223372036854775808):IntKind.i64.wrap (a:Int)=a:=by
 simp[IntKind.wrap,IntKind.bits,IntKind.signed];omega
theorem R8 {a:Nat}:BitVec.ofInt 64 (a:Int)=BitVec.ofNat 64 a:=by
 apply BitVec.eq_of_toNat_eq;simp[BitVec.toNat_ofInt]
theorem DI {a b:Nat} (ha:a < 18446744073709551616) (hb:b < 18446744073709551616):YM .and .u64 a b=((a &&& b:Nat):Int):=by
 show IntKind.u64.wrap (((BitVec.ofInt 64 (a:Int)) &&& (BitVec.ofInt 64 (b:Int))).toNat:Int)=_;have hl:a &&& b < 18446744073709551616:=Nat.lt_of_le_of_lt Nat.and_le_left ha;rw[R8,R8,BitVec.toNat_and,BitVec.toNat_ofNat,BitVec.toNat_ofNat,Nat.mod_eq_of_lt ha,Nat.mod_eq_of_lt hb,UH hl]
theorem M0 {a b:Nat} (ha:a < 18446744073709551616) (hb:b < 18446744073709551616):YM .or .u64 a b=((a ||| b:Nat):Int):=by
 show IntKind.u64.wrap (((BitVec.ofInt 64 (a:Int)) ||| (BitVec.ofInt 64 (b:Int))).toNat:Int)=_;have hl:a ||| b < 18446744073709551616:=Nat.or_lt_two_pow (n:=64) ha hb;rw[R8,R8,BitVec.toNat_or,BitVec.toNat_ofNat,BitVec.toNat_ofNat,Nat.mod_eq_of_lt ha,Nat.mod_eq_of_lt hb,UH hl]
theorem M3 {a b:Nat} (ha:a < 18446744073709551616) (hb:b < 18446744073709551616):YM .xor .u64 a b=((a ^^^ b:Nat):Int):=by
 show IntKind.u64.wrap (((BitVec.ofInt 64 (a:Int)) ^^^ (BitVec.ofInt 64 (b:Int))).toNat:Int)=_;have hl:a ^^^ b < 18446744073709551616:=Nat.xor_lt_two_pow (n:=64) ha hb;rw[R8,R8,BitVec.toNat_xor,BitVec.toNat_ofNat,BitVec.toNat_ofNat,Nat.mod_eq_of_lt ha,Nat.mod_eq_of_lt hb,UH hl]
theorem SJ {a b:Nat} (ha:a < 18446744073709551616) (hb:b < 18446744073709551616):YM .andNot .u64 a b=((a &&& (18446744073709551615 - b):Nat):Int):=by
 show IntKind.u64.wrap (((BitVec.ofInt 64 (a:Int)) &&& ~~~(BitVec.ofInt 64 (b:Int))).toNat:Int)=_;have hl:a &&& (18446744073709551615 - b) < 18446744073709551616:=Nat.lt_of_le_of_lt Nat.and_le_left ha;rw[R8,R8,BitVec.toNat_and,BitVec.toNat_not,BitVec.toNat_ofNat,BitVec.toNat_ofNat,Nat.mod_eq_of_lt ha,Nat.mod_eq_of_lt hb];exact UH hl
theorem HY {a b:Nat} (hb:b < 64):Xf .u64 a b=((a*2 ^ b % 18446744073709551616:Nat):Int):=by
 unfold Xf;have hm:min (b:Int).toNat IntKind.u64.bits=b:=by simp[IntKind.bits];omega
 rw[hm];have:((a:Int)*2 ^ b)=((a*2 ^ b:Nat):Int):=by simp
 rw[this];generalize a*2 ^ b=x;simp[IntKind.wrap,IntKind.bits,IntKind.signed]
theorem BC {k:IntKind} {a b:Nat} (hb:b < 64) (hk:IntKind.bits k=64):XG k a b=((a / 2 ^ b:Nat):Int):=by
 unfold XG;have hm:min (b:Int).toNat (IntKind.bits k)=b:=by rw[hk];simp;omega
 rw[hm,Int.fdiv_eq_ediv_of_nonneg _ (by exact_mod_cast Nat.zero_le _)];simp
def YT (a wd:Nat):Nat:=(2 ^ wd - 1)*2 ^ a
theorem BD {a wd:Nat} (h:a+wd≤64):YT a wd < 18446744073709551616:=by
 unfold YT;have h1:(2 ^ wd - 1)*2 ^ a < 2 ^ wd*2 ^ a:=(Nat.mul_lt_mul_right (Nat.two_pow_pos a)).2 (Nat.sub_lt (Nat.two_pow_pos wd) (by decide));rw[← Nat.pow_add] at h1;have h2:2 ^ (wd+a)≤2 ^ 64:=Nat.pow_le_pow_right (by decide) (by omega);exact Nat.lt_of_lt_of_le h1 h2
theorem M4 {a wd i:Nat}:(YT a wd).testBit i=(decide (a≤i) && decide (i < a+wd)):=by
 unfold YT;rw[← Nat.shiftLeft_eq,Nat.testBit_shiftLeft,Nat.testBit_two_pow_sub_one];by_cases h:a≤i
 ·simp[h];omega
 ·simp[h]
theorem M5 {w a wd:Nat}:w &&& YT a wd=(w / 2 ^ a % 2 ^ wd)*2 ^ a:=by
 apply Nat.eq_of_testBit_eq;intro i;rw[Nat.testBit_and,M4,← Nat.shiftLeft_eq,Nat.testBit_shiftLeft,Nat.testBit_mod_two_pow,Nat.testBit_div_two_pow];by_cases h:a≤i
 ·simp only[h,decide_true,Bool.true_and,ge_iff_le];rw[show i - a+a=i by omega,Bool.and_comm];congr 1;exact decide_eq_decide.2 (by omega)
 ·simp[h]
theorem SM {w a wd:Nat}:(w &&& YT a wd) / 2 ^ a=w / 2 ^ a % 2 ^ wd:=by
 rw[M5,Nat.mul_div_cancel _ (Nat.two_pow_pos a)]
theorem SN {w a wd:Nat} (hw:w < 2 ^ a) (h:a+wd≤64):w &&& (18446744073709551615 - YT a wd)=w:=by
 apply Nat.eq_of_testBit_eq;intro i;have hm:=BD h;have e:18446744073709551615 - YT a wd=2 ^ 64 - (YT a wd+1):=by omega
 rw[Nat.testBit_and,e,Nat.testBit_two_pow_sub_succ hm,M4];by_cases hi:a≤i
 ·have:w.testBit i=false:=Nat.testBit_lt_two_pow (Nat.lt_of_lt_of_le hw (Nat.pow_le_pow_right (by decide) hi));simp[this]
 ·by_cases h64:i < 64
  ·simp[hi,h64]
  ·omega
theorem M6 {w a x:Nat} (hw:w < 2 ^ a):w ||| x*2 ^ a=w+x*2 ^ a:=by
 have:=Nat.shiftLeft_add_eq_or_of_lt hw x;rw[Nat.shiftLeft_eq] at this;rw[Nat.or_comm,← this,Nat.add_comm]
open List
theorem Q9.of_get {c:List Value}:∀ {vs:List Value} {o:Nat},(∀ j v,vs[j]? = some v→c[o+j]? = some v)→Q9 c o vs.length vs
 | [],o,_ => .nil o
 | v::vs,o,h => .cons (by simpa using h 0 v rfl) (Q9.of_get fun j u hj=>by
  have:=h (j+1) u (by simpa using hj);rw[show o+1+j=o+(j+1) by omega];exact this)
theorem Q9.part {c cs es:List Value} {o n i:Nat} (h:Q9 c o n cs) (he:∀ j v,es[j]? = some v→cs[i+j]? = some v):Q9 c (o+i) es.length es:=
 Q9.of_get fun j v hj=>by
  have:=h.get (i+j) v (he j v hj);rw[Nat.add_assoc];exact this
theorem DJ:∀ (vs:List Value) (c:List Value) (o:Nat),o+vs.length≤c.length→wr c o vs=c.take o++vs++c.drop (o+vs.length)
 | [],c,o,h=>by simp[wr]
 | v::vs,c,o,h=>by
  rw[length_cons] at h;have ih:=DJ vs (c.set o v) (o+1) (by simp;omega);show wr (c.set o v) (o+1) vs=_;rw[ih]
  have h1:(c.set o v).take (o+1)=c.take o++[v]:=by
   rw[take_add_one,take_set_of_le (Nat.le_refl _)];simp[getElem?_set,show o < c.length by omega]
  have h2:(c.set o v).drop (o+1+vs.length)=c.drop (o+(v::vs).length):=by
   rw[drop_set_of_lt (by omega)];simp[Nat.add_assoc,Nat.add_comm,Nat.add_left_comm]
  rw[h1,h2];simp
def Vt (l:List Q2) (v:Value) (m k:Nat) (cs:List Value):Prop:=
 cs.length=m*k∧∃ ad cap,v = .slice ad m cap∧(m=0∨∃ b o E fz c,ad=some ⟨b,o,none⟩∧At b (.cells (List.toArray c) E fz) l∧Q9 c o (m*k) cs)
theorem Vt.there {A:Q2} {l:List Q2} {v:Value} {m k:Nat} {cs:List Value} (h:Vt l v m k cs):Vt (A::l) v m k cs:=by
 obtain⟨h0,ad,cap,rfl,h⟩:=h;refine⟨h0,ad,cap,rfl,?_⟩
 rcases h with h|⟨b,o,E,fz,c,h1,h2,h3⟩
 ·exact .inl h
 ·exact .inr ⟨b,o,E,fz,c,h1,At.there (i:=h2),h3⟩
section
variable {P:Program} {n:Nat} {r:Option Nat} {ops:Array Oper} {Q:YQ} {ms:List Nat} {σ:QU} {w:World} {rest:List Oper} {o:Oper} {K:QU→World→Prop} {l l':List Q2}
variable {u t s:TypeId} {p:String} {af:Array Edge} {g:Option (Nat×Bool)} {d:Option Tmp} {x y z:Operand}
theorem sls_rd [Q4] {E k m:Nat} {v:Value} {cs:List Value} (H:Q0 w (QX E k v cs::l)) (hm:cs.length=m*k) (k0:0 < k) :
  ∃ D,Q0 w (D::l)∧(∀ l',Vt (D::l') v m k cs)∧∀ w' l',Q0 w' (D::l')→Q0 w' (QX E k v cs::l'):=by
 rcases GD H with ⟨rfl,rfl,H'⟩|⟨b,len,cap,spare,rfl,e3,e4,e5,H'⟩
 ·have m0:m=0:=by
   rcases Nat.mul_eq_zero.1 (show m*k=0 from hm.symm) with h|h
   ·exact h
   ·omega
  subst m0;exact⟨_,H,fun l'=>⟨hm,none,0,rfl,.inl rfl⟩,fun _ _ h=>h⟩
 ·have e:len=m:=Nat.eq_of_mul_eq_mul_right k0 (e3.symm.trans hm);subst e;refine⟨_,H',fun l'=>⟨hm,_,cap,rfl,.inr ⟨b,0,E,(0,0),cs++spare,rfl,At.here,?_⟩⟩,fun w' l' h=>ZK e3 e4 e5 h⟩;rw[← hm];refine Q9.of_get fun j v hj=>?_;rw[Nat.zero_add,getElem?_append_left (List.getElem?_eq_some_iff.1 hj).1];exact hj
theorem HZ {e size bytes len cap c2:Nat} {a a2:Option Addr} (hT:VW P t e size bytes) (ty:TypeId) (h:len≤cap):(Builtin.append_ #[t,t] ty #[.slice a len cap,.slice a2 0 c2]).run P w = .ok (.slice a len cap) w:=by
 obtain⟨i,hi,e2⟩:=Option.map_eq_some_iff.1 hT.info;simp only[Prod.mk.injEq] at e2;have hs:(sizeOf e).run P w = .ok size w:=Zz (by rw[hi];simp[e2.1])
 have hf:(Builtin.firstCells size 0 (.slice a2 0 c2)).run P w = .ok #[] w:=by
  cases a2 with
  | none=>rfl
  | some a2=>
   have:=run_loadCells_list (P:=P) (w:=w) a2 [] (by simp);simpa [Builtin.firstCells] using this
 have hst:∀ a',(storeCells a' []).run P w = .ok () w:=fun a'=>by rw[storeCells.eq_def];rfl
 cases a with
 | none=>simp[Builtin.append_,Vr hT.und,hs,Builtin.lenOf,h,hf]
 | some a=>simp[Builtin.append_,Vr hT.und,hs,Builtin.lenOf,h,hf,hst]
theorem HG [Q4] {e size bytes:Nat} {zv v2:Value} [hT:VW P t e size bytes] [hz:V1 P e zv] {s:Value} {cs new:List Value} {m:Nat} (H:Q0 w (QX e size s cs::l))
  (hx:ev σ x=s) (hy:ev σ y=v2) (hr:Vt l v2 m size new) (h1:new.all (·.oneCell')=true)
  (hb:(cs.length+new.length)*bytes≤140737488355328) (hd:Qh n d=true) (hq:(decide ((Qv zv).length=size) && decide (0 < size) && decide (0 < bytes))=true)
  (k:∀ v' w',Q0 w' (QX e size v' (cs++new)::l)→K (put σ d v') w'):St P n r ⟨d,.call { callee := .builtin .append,args:=#[x,y],argTypes:=#[t,t] },u,p,af,g⟩ σ w K:=by
 obtain⟨h0,ad,cap,rfl,h⟩:=hr
 rcases Nat.eq_zero_or_pos m with rfl|hm
 ·have hn:new=[]:=eq_nil_of_length_eq_zero (by omega);subst hn;have H2:=H;rw[← append_nil cs] at H
  rcases GD H2 with ⟨rfl,_,_⟩|⟨b,len,cap',spare,rfl,_,e4,_,_⟩
  ·refine V6 (v := .slice none 0 0) (w':=w) hd (fun c e=>by cases e) ?_ (k _ _ H);simp[execOp,resolve,invoke,builtin,hx,hy,HZ (w:=w) hT u (Nat.le_refl 0)]
  ·refine V6 (v := .slice (some ⟨b,0,none⟩) len cap') (w':=w) hd (fun c e=>by cases e) ?_ (k _ _ H);simp[execOp,resolve,invoke,builtin,hx,hy,HZ (w:=w) hT u e4.1]
 ·rcases h with rfl|⟨b,o2,E,fz,c,rfl,hA,hrd⟩
  ·omega
  ·haveI:=hA;exact YR H hx hy hrd h1 hm hb hd hq k
theorem SO [Q4] {e size bytes:Nat} (H:Q0 w l) [hT:VW P t e size bytes] (hd:Qh n d=true)
  (k:∀ b w',Q0 w' (QX e size (.slice (some ⟨b,0,none⟩) 0 0) []::l)→K (put σ d (.slice (some ⟨b,0,none⟩) 0 0)) w'):St P n r ⟨d,.buildSlice t 0 #[],u,p,af,g⟩ σ w K:=by
 obtain⟨i,hi,e2⟩:=Option.map_eq_some_iff.1 hT.info;simp only[Prod.mk.injEq] at e2;have hs:(sizeOf e).run P w = .ok size w:=Zz (by rw[hi];simp[e2.1]);have hn:=H.new (row e []);refine V6 (v := .slice (some ⟨w.heap.size,0,none⟩) 0 0) (w':=w.alloc (.cells #[] e)) hd (fun c e=>by cases e) ?_ (k _ _ (Uq (by simp) hn));have e0:(Array.range 0).map (fun _:Nat=>(default:Value))=#[]:=by apply Array.ext <;> simp
 simp[execOp,Instr.buildSlice,Vr hT.und,hs,Instr.fill,newRow,e0]
theorem SS (z:Value) (k:Nat):(Builtin.zeroCells z.cells k).toList=Y2 (Qv z) k:=by
 have:=DE (Qv z) k;unfold Builtin.zeroCells;rw[KX];have e:(Qv z).toArray.size=(Qv z).length:=by simp
 rw[e];rw[show (Qv z).length=(Qv z).toArray.size by simp] at this;rw[e] at this;rw[this]
theorem Sa [Q4] {e size bytes b o2 m cap E:Nat} {zv:Value} {c:List Value} [hT:VW P t e size bytes] [hz:V1 P e zv] (H:Q0 w (pts b (row E c)::l)) (hx:ev σ x = .slice (some ⟨b,o2,none⟩) m cap) (hm:0 < m)
  (hl:o2+(Y2 (Qv zv) m).length≤c.length) (h1:(Qv zv).all (·.oneCell')=true) (hd:Qh n d=true)
  (k:∀ w',Q0 w' (pts b (row E (wr c o2 (Y2 (Qv zv) m)))::l)→K (put σ d (.tuple #[])) w'):St P n r ⟨d,.call { callee := .builtin .clear,args:=#[x],argTypes:=#[t] },u,p,af,g⟩ σ w K:=by
 obtain⟨i',hi',hz'⟩:=Option.map_eq_some_iff.1 hz.zero;have hzv:(zeroValue e).run P w = .ok zv w:=by simp[zeroValue,typeInfo,hi',hz']
 have hone:∀ v∈Y2 (Qv zv) m,v.oneCell'=true:=by
  have:∀ m,∀ v∈Y2 (Qv zv) m,v.oneCell'=true:=by
   intro m
   induction m with
   | zero=>intro v hv;simp[Y2] at hv
   | succ m ih=>
    intro v hv;simp only[Y2,mem_append] at hv
    rcases hv with hv|hv
    ·exact all_eq_true.1 h1 v hv
    ·exact ih v hv
  exact this m
 obtain⟨w',hr,h2,h3,h4⟩:=BY (P:=P) (Y2 (Qv zv) m) w b o2 E c 0 H.pts (by omega) hone;have H':=H.set (o':=row E (wr c (o2+0) (Y2 (Qv zv) m))) h2 h3 h4;refine V6 (v := .tuple #[]) (w':=w') hd (fun c e=>by cases e) ?_ (k w' H');obtain⟨m',rfl⟩:∃ m',m=m'+1:=⟨m - 1,by omega⟩;simp[execOp,resolve,invoke,builtin,hx,Builtin.clear_,Vr hT.und,hzv,SS,hr]
end
end Go.SL
namespace Go.SL
section
variable {P:Program} {n:Nat} {r:Option Nat} {σ:QU} {w:World} {K:QU→World→Prop} {l:List Q2}
variable {u t:TypeId} {p:String} {af:Array Edge} {g:Option (Nat×Bool)} {d:Option Tmp} {x y:Operand}
theorem Qs [Q4] {E k:Nat} {v:Value} {c:List Value} (H:Q0 w (QX E k v c::l)):∃ a m cap,v = .slice a m cap:=by
 rcases GD H with ⟨rfl,_,_⟩|⟨b,len,cap,spare,rfl,_⟩
 ·exact⟨none,0,0,rfl⟩
 ·exact⟨_,_,_,rfl⟩
theorem Sb (a:Addr):a.add 0=a:=by simp[Addr.add]
theorem Sc {e size bytes len cap:Nat} {ad:Option Addr} {q:IntKind} {i:Int} [hT:VW P t e size bytes] (hx:ev σ x = .slice ad len cap) (hy:ev σ y = .int q i) (h0:0≤i) (h1:i≤cap) (hd:Qh n d=true)
  (k:K (put σ d (.slice ad i.toNat cap)) w):St P n r ⟨d,.slice t x none (some y) none,u,p,af,g⟩ σ w K:=by
 have hs:(sizeOf e).run P w = .ok size w:=by
  obtain⟨k,hk,e2⟩:=Option.map_eq_some_iff.1 hT.info;simp only[Prod.mk.injEq] at e2;exact Zz (by rw[hk];simp[e2.1])
 refine V6 (v := .slice ad i.toNat cap) (w':=w) hd (fun c e=>by cases e) ?_ k;cases ad with
 | none=>simp[execOp,hx,hy,Instr.sliceAt,Instr.slice,Vr hT.und,Instr.sliceBounds,Instr.sliceBound,asIntOf,h0,h1,hs]
 | some a=>simp[execOp,hx,hy,Instr.sliceAt,Instr.slice,Vr hT.und,Instr.sliceBounds,Instr.sliceBound,asIntOf,h0,h1,hs,Sb]
end
end Go.SL
namespace Go.Proofs
open Go.Shelf
def Tryz.laysLen_ren : Go.Shelf.Ren := ⟨fun | 129 => 181 | n => n, fun | 53 => 94 | 3 => 3 | 4 => 4 | 46 => 121 | 5 => 5 | 9 => 9 | n => n, fun | n => n⟩
theorem Tryz.laysLen : Go.Proofs.Lays.n129 Tryz.prog Tryz.laysLen_ren := {
  mixed := by kernel_rfl
  f129 := Tryz.func181.trans (congrArg some (by kernel_rfl))
  t3 := Tryz.underlying3
  a3 := Tryz.isAgg3
  z3 := Tryz.sizeOf3
  v3 := Tryz.zeroValue3
  t4 := Tryz.underlying4
  a4 := Tryz.isAgg4
  z4 := Tryz.sizeOf4
  v4 := Tryz.zeroValue4
  t5 := Tryz.underlying5
  a5 := Tryz.isAgg5
  z5 := Tryz.sizeOf5
  v5 := Tryz.zeroValue5
  t9 := Tryz.underlying9
  a9 := Tryz.isAgg9
  z9 := Tryz.sizeOf9
  v9 := Tryz.zeroValue9
  t46 := Tryz.underlying121
  a46 := Tryz.isAgg121
  z46 := Tryz.sizeOf121
  v46 := Tryz.zeroValue121
  t53 := Tryz.underlying94
  a53 := Tryz.isAgg94
  z53 := Tryz.sizeOf94
  v53 := Tryz.zeroValue94 }
def Tryz.laysTz_ren : Go.Shelf.Ren := ⟨fun | 29 => 202 | n => n, fun | 22 => 94 | 3 => 3 | 4 => 4 | 25 => 121 | 54 => 329 | 0 => 0 | 5 => 5 | n => n, fun | 1 => 0 | n => n⟩
theorem Tryz.laysTz : Go.Proofs.Lays7.n29 Tryz.prog Tryz.laysTz_ren := {
  mixed := by kernel_rfl
  f29 := Tryz.func202.trans (congrArg some (by kernel_rfl))
  t0 := Tryz.underlying0
  a0 := Tryz.isAgg0
  z0 := Tryz.sizeOf0
  v0 := Tryz.zeroValue0
  i0 := by kernel_rfl
  t3 := Tryz.underlying3
  a3 := Tryz.isAgg3
  z3 := Tryz.sizeOf3
  v3 := Tryz.zeroValue3
  i3 := by kernel_rfl
  t4 := Tryz.underlying4
  a4 := Tryz.isAgg4
  z4 := Tryz.sizeOf4
  v4 := Tryz.zeroValue4
  i4 := by kernel_rfl
  t5 := Tryz.underlying5
  a5 := Tryz.isAgg5
  z5 := Tryz.sizeOf5
  v5 := Tryz.zeroValue5
  i5 := by kernel_rfl
  t22 := Tryz.underlying94
  a22 := Tryz.isAgg94
  z22 := Tryz.sizeOf94
  v22 := Tryz.zeroValue94
  i22 := by kernel_rfl
  t25 := Tryz.underlying121
  a25 := Tryz.isAgg121
  z25 := Tryz.sizeOf121
  v25 := Tryz.zeroValue121
  i25 := by kernel_rfl
  t54 := Tryz.underlying329
  a54 := Tryz.isAgg329
  z54 := Tryz.sizeOf329
  g1 := by kernel_rfl }
end Go.Proofs
namespace Go.SL
open List
inductive SK where
 | i
 | b
def BE:SK→Value→Bool
 | .i,.int .i64 _=>true
 | .b,.bool _=>true
 | _,_=>false
def ZL:List SK→List Value→Bool
 | [],[]=>true
 | k::ks,v::vs=>BE k v && ZL ks vs
 | _,_=>false
@[reducible] def HU:Value→Value→Bool
 | .int _ a,.int _ b=>a == b
 | .bool a,.bool b=>a == b
 | _,_=>false
@[reducible] def veq:List Value→List Value→Bool
 | [],[]=>true
 | x::xs,y::ys=>HU x y && veq xs ys
 | _,_=>false
theorem WQ:∀ {ks:List SK} {vs:List Value},ZL ks vs=true→vs.length=ks.length
 | [],[],_=>rfl
 | [],_::_,h=>by cases h
 | _::_,[],h=>by cases h
 | _::ks,_::vs,h=>by
  simp only[ZL,Bool.and_eq_true] at h;simp[WQ h.2]
theorem HX:∀ {ks:List SK} {ks':List SK} {vs:List Value},ZL (ks++ks') vs=true→ZL ks (vs.take ks.length)=true∧ZL ks' (vs.drop ks.length)=true
 | [],ks',vs,h=>by simpa [ZL] using h
 | k::ks,ks',[],h=>by cases h
 | k::ks,ks',v::vs,h=>by
  simp only[cons_append,ZL,Bool.and_eq_true] at h;have:=HX h.2;simp[ZL,h.1,this]
theorem M7:∀ (n:Nat) (xs ys:List Value),n≤xs.length→n≤ys.length→veq xs ys=(veq (xs.take n) (ys.take n) && veq (xs.drop n) (ys.drop n))
 | 0,xs,ys,_,_=>by simp[veq]
 | n+1,[],ys,h,_=>by simp at h
 | n+1,_::_,[],_,h=>by simp at h
 | n+1,x::xs,y::ys,h,h'=>by
  have:=M7 n xs ys (by simpa using h) (by simpa using h');simp[veq,this,Bool.and_assoc]
def A2 (P:Program) (t:TypeId) (ks:List SK) (d:Nat):Prop:=
 ∀ k,d≤k→∀ (w:World) (xs ys:List Value),ZL ks xs=true→ZL ks ys=true→(Op.equalIn k t (.agg xs.toArray) (.agg ys.toArray)).run P w = .ok (veq xs ys) w
def Sd (P:Program) (t:TypeId):SK→Prop
 | .i=>∃ q,P.underlying t=some (.int q)
 | .b=>P.underlying t=some .bool
inductive Ze (P:Program):List Field→Nat→List SK→Nat→Prop where
 | nil {off d:Nat}:Ze P [] off [] d
 | one {f:Field} {fs:List Field} {off d:Nat} {k:SK} {ks:List SK} (h1:f.name ≠ "_") (h2:f.offset=off) (h3:T1 P f.type) (h4:Sd P f.type k) (h5:1≤d) (h:Ze P fs (off+1) ks d):Ze P (f::fs) off (k::ks) d
 | agg {f:Field} {fs:List Field} {off d d' n:Nat} {ks ks' kk:List SK} (h1:f.name ≠ "_") (h2:f.offset=off) (h3:TN P f.type n) (h4:A2 P f.type ks d') (h5:d'≤d) (h6:ks.length=n) (h7:kk=ks++ks') (h:Ze P fs (off+n) ks' d):Ze P (f::fs) off kk d
theorem Q9.take' {c:List Value} {o n m:Nat} {l:List Value} (h:Q9 c o n l) (hm:m≤n):Q9 c o m (l.take m):=by
 have hl:=h.len;have e:(l.take m).length=m:=by simp;omega
 have:=Q9.of_get (c:=c) (vs:=l.take m) (o:=o) fun j v hj=>by
  have:l[j]? = some v:=by
   rw[getElem?_take] at hj;split at hj
   ·exact hj
   ·cases hj
  exact h.get j v this
 rw[e] at this;exact this
theorem Q9.drop' {c:List Value} {o n m:Nat} {l:List Value} (h:Q9 c o n l) (hm:m≤n):Q9 c (o+m) (n - m) (l.drop m):=by
 have hl:=h.len;have e:(l.drop m).length=n - m:=by simp;omega
 have:=Q9.of_get (c:=c) (vs:=l.drop m) (o:=o+m) fun j v hj=>by
  rw[getElem?_drop] at hj;have:=h.get (m+j) v hj;rw[Nat.add_assoc];exact this
 rw[e] at this;exact this
theorem Se {P:Program} {fs:List Field} {off d:Nat} {ks:List SK} (h:Ze P fs off ks d):∀ (k:Nat),d≤k→∀ (w:World) (cx cy xs ys:List Value),Q9 cx off ks.length xs→Q9 cy off ks.length ys→ZL ks xs=true→ZL ks ys=true →
  (Op.eqFields k cx.toArray cy.toArray fs).run P w = .ok (veq xs ys) w:=by
 induction h with
 | nil=>
  intro k hk w cx cy xs ys hx hy fx fy;have e1:=WQ fx;have e2:=WQ fy;have:xs=[]:=eq_nil_of_length_eq_zero e1;have:ys=[]:=eq_nil_of_length_eq_zero e2;subst xs ys;rfl
 | @one f fs off d q ks h1 h2 h3 h4 h5 h ih=>
  intro k hk w cx cy xs ys hx hy fx fy;cases xs with
  | nil=>cases fx
  | cons x xs=>
  cases ys with
  | nil=>cases fy
  | cons y ys=>
  have gx:=hx.get 0 x rfl;have gy:=hy.get 0 y rfl;rw[Nat.add_zero] at gx gy;have rx:=hx.drop' (m:=1) (by simp);have ry:=hy.drop' (m:=1) (by simp);simp only[length_cons,Nat.add_sub_cancel,drop_succ_cons,drop_zero] at rx ry;simp only[ZL,Bool.and_eq_true] at fx fy
  have e1:(Op.equalIn k f.type x y).run P w = .ok (HU x y) w:=by
   obtain⟨k,rfl⟩:∃ j,k=j+1:=⟨k - 1,by omega⟩;cases q with
   | i=>
    obtain⟨q,hq⟩:=h4
    obtain⟨a,rfl⟩:∃ a,x = .int .i64 a:=by
     have:=fx.1;unfold BE at this;split at this <;> simp_all
    obtain⟨b,rfl⟩:∃ a,y = .int .i64 a:=by
     have:=fy.1;unfold BE at this;split at this <;> simp_all
    exact run_equalIn_int w k _ _ _ _ _ hq
   | b=>
    obtain⟨a,rfl⟩:∃ a,x = .bool a:=by
     have:=fx.1;unfold BE at this;split at this <;> simp_all
    obtain⟨b,rfl⟩:∃ a,y = .bool a:=by
     have:=fy.1;unfold BE at this;split at this <;> simp_all
    exact run_equalIn_bool w k _ _ _ h4
  have e2:=ih k hk w cx cy xs ys rx ry fx.2 fy.2;simp only[Op.eqFields,h1,ne_eq,not_false_eq_true,if_true,Sem.run_bind,h2,Wu h3 gx,Wu h3 gy,Result.andThen_ok,e1,veq];cases hs:HU x y
  ·simp
  ·simp[e2]
 | @agg f fs off d d' n ks ks' kk h1 h2 h3 h4 h5 h6 h7 h ih=>
  subst h7;intro k hk w cx cy xs ys hx hy fx fy;have lx:=WQ fx;have ly:=WQ fy;rw[length_append] at lx ly hx hy;have sx:=HX fx;have sy:=HX fy;rw[h6] at sx sy lx ly hx hy;have px:=LK (w:=w) h3 (hx.take' (m:=n) (by omega));have py:=LK (w:=w) h3 (hy.take' (m:=n) (by omega));have e1:=h4 k (by omega) w _ _ sx.1 sy.1;have rx:=hx.drop' (m:=n) (by omega);have ry:=hy.drop' (m:=n) (by omega);rw[show n+ks'.length - n=ks'.length by omega] at rx ry;have e2:=ih k hk w cx cy _ _ rx ry sx.2 sy.2;rw[M7 n xs ys (by omega) (by omega)];simp only[Op.eqFields,h1,ne_eq,not_false_eq_true,if_true,Sem.run_bind,h2,px,py,Result.andThen_ok,e1];cases hs:veq (xs.take n) (ys.take n)
  ·simp
  ·simp[e2]
theorem HK {P:Program} {t:TypeId} {fs:Array Field} {ks:List SK} {d:Nat} (h1:P.underlying t=some (.struct fs)) (h2:P.stoodInHeld t=false) (h:Ze P fs.toList 0 ks d):A2 P t ks (d+1):=by
 intro k hk w xs ys fx fy;obtain⟨k,rfl⟩:∃ j,k=j+1:=⟨k - 1,by omega⟩;have hf:P.fieldsOf t=fs:=by simp[Program.fieldsOf,h1]
 rw[run_equalIn_struct w k t _ _ (by rw[hf];exact h1) h2,hf]
 have whole:∀ (c:List Value),c.length=ks.length→Q9 c 0 ks.length c:=fun c hc=>by
  rw[← hc];exact Q9.of_get fun j v hj=>by rw[Nat.zero_add];exact hj
 exact Se h k (by omega) w xs ys xs ys (whole _ (WQ fx)) (whole _ (WQ fy)) fx fy
class BF (P:Program) (t:TypeId) (ks:outParam (List SK)):Prop where
 sem:∃ d,d≤10000∧A2 P t ks d
 guard:P.eqGuardType P.depth t=false
section
variable {P:Program} {n:Nat} {r:Option Nat} {ops:Array Oper} {Q:YQ} {ms:List Nat} {σ:QU} {w:World} {rest:List Oper} {o:Oper} {K:QU→World→Prop} {l l':List Q2}
variable {ivs:List (List Nat×(World→Prop))} {T:QU→World→Prop} {f:Nat} {L:Array Bool}
variable {u t s:TypeId} {p:String} {af:Array Edge} {g:Option (Nat×Bool)} {d:Option Tmp} {x y z:Operand} {ks:List SK}
theorem M8 (h:BF P t ks) (op:BinOp) (xs ys:List Value) (X Y:Operand) (ho:op = .eql∨op = .neq) (fx:ZL ks xs=true) (fy:ZL ks ys=true) :
  (do eqGuard op t X Y (.agg xs.toArray) (.agg ys.toArray);binOp op t (.agg xs.toArray) (.agg ys.toArray):Sem Value).run P w = .ok (.bool (if YK op then veq xs ys else !veq xs ys)) w:=by
 have h0:=run_eqGuard_agg (P:=P) w op t X Y xs.toArray ys.toArray h.guard;obtain⟨d,hd,hs⟩:=h.sem;have h1:=hs 10000 hd w xs ys fx fy;simp only[Sem.run_bind,h0,Result.andThen_ok]
 rcases ho with rfl|rfl
 ·rw[run_eql_struct,h1];rfl
 ·rw[run_neq_struct,h1];rfl
theorem R9 {op:BinOp} {yt:TypeId} {xs ys:List Value} [h:BF P t ks] (hx:ev σ x = .agg xs.toArray) (hy:ev σ y = .agg ys.toArray) (fx:ZL ks xs=true) (fy:ZL ks ys=true) (ho:op = .eql∨op = .neq) (hd:Qh n d=true)
  (k:K (put σ d (.bool (if YK op then veq xs ys else !veq xs ys))) w):St P n r ⟨d,.binOp op t x y yt,u,p,af,g⟩ σ w K:=
 V6 hd (fun c e=>by cases e) (by simp only[execOp,hx,hy,Sem.run_bind];rw[← Sem.run_bind,M8 h op xs ys x y ho fx fy];rfl) k
theorem M9 {op:BinOp} {yt:TypeId} {xs ys:List Value} (j:Nat) (hj:ops[j]? = some ⟨d,.binOp op t x y yt,u,p,af,g⟩) (hg:Q7 ops σ ⟨d,.binOp op t x y yt,u,p,af,g⟩ true) [h:BF P t ks] (hx:ev σ x = .agg xs.toArray) (hy:ev σ y = .agg ys.toArray) (fx:ZL ks xs=true) (fy:ZL ks ys=true) (ho:op = .eql∨op = .neq)
  (hb:YX n ops (ivs.map (·.1)) L j []=true) (k:Any P n r ops ivs T f (L.setIfInBounds j true) (put σ d (.bool (if YK op then veq xs ys else !veq xs ys))) w):Any P n r ops ivs T (f+1) L σ w:=
 U7 j hj hg (fun c e=>by cases e) (fun w=>by simp only[execOp,hx,hy,Sem.run_bind];rw[← Sem.run_bind,M8 h op xs ys x y ho fx fy];rfl) hb k
theorem Sf {o o':Oper} (i j:Nat) (hi:ops[i]? = some o) (hj:ops[j]? = some o') (hr:Region.ready .any ops L=[i,j]) (hI:Vj ivs L w) (hg:Q7 ops σ o true) (hg':Q7 ops σ o' true)
  (h:St P n r o σ w (Any P n r ops ivs T f (L.setIfInBounds i true))) (h':St P n r o' σ w (Any P n r ops ivs T f (L.setIfInBounds j true))):Any P n r ops ivs T (f+1) L σ w:=
 ⟨hI, fun h0 => (by rw [hr] at h0; cases h0), fun k hk => by
  rw[hr] at hk;have:k=i∨k=j:=by simpa using hk
  rcases this with rfl|rfl
  ·exact⟨o,hi,.inl ⟨hg,h⟩⟩
  ·exact⟨o',hj,.inl ⟨hg',h'⟩⟩⟩
theorem Sg {o o' o2:Oper} (i j m:Nat) (hi:ops[i]? = some o) (hj:ops[j]? = some o') (hm:ops[m]? = some o2) (hr:Region.ready .any ops L=[i,j,m]) (hI:Vj ivs L w) (hg:Q7 ops σ o true) (hg':Q7 ops σ o' true) (hg2:Q7 ops σ o2 true)
  (h:St P n r o σ w (Any P n r ops ivs T f (L.setIfInBounds i true))) (h':St P n r o' σ w (Any P n r ops ivs T f (L.setIfInBounds j true))) (h2:St P n r o2 σ w (Any P n r ops ivs T f (L.setIfInBounds m true))):Any P n r ops ivs T (f+1) L σ w:=
 ⟨hI, fun h0 => (by rw [hr] at h0; cases h0), fun k hk => by
  rw[hr] at hk;have:k=i∨k=j∨k=m:=by simpa using hk
  rcases this with rfl|rfl|rfl
  ·exact⟨o,hi,.inl ⟨hg,h⟩⟩
  ·exact⟨o',hj,.inl ⟨hg',h'⟩⟩
  ·exact⟨o2,hm,.inl ⟨hg2,h2⟩⟩⟩
end
end Go.SL
namespace Go.Proofs.YtbnnnljagkjpiaaGreatDoor
open Go.SL
theorem Sh:A2 Tryz.prog 62 [.i,.i] 2:=HK Tryz.underlying62 (by kernel_rfl) (Ze.one (by decide) rfl (inferInstance:T1 Tryz.prog 3) ⟨_,Tryz.underlying3⟩ (by decide) (Ze.one (by decide) rfl (inferInstance:T1 Tryz.prog 3) ⟨_,Tryz.underlying3⟩ (by decide) Ze.nil))
theorem Si:A2 Tryz.prog 64 [.i,.i,.i,.i,.b] 2:=HK Tryz.underlying64 (by kernel_rfl) (Ze.one (by decide) rfl (inferInstance:T1 Tryz.prog 3) ⟨_,Tryz.underlying3⟩ (by decide) (Ze.one (by decide) rfl (inferInstance:T1 Tryz.prog 3) ⟨_,Tryz.underlying3⟩ (by decide) (Ze.one (by decide) rfl (inferInstance:T1 Tryz.prog 3) ⟨_,Tryz.underlying3⟩ (by decide) (Ze.one (by decide) rfl (inferInstance:T1 Tryz.prog 3) ⟨_,Tryz.underlying3⟩ (by decide) (Ze.one (by decide) rfl (inferInstance:T1 Tryz.prog 4) Tryz.underlying4 (by decide) Ze.nil)))))
instance:BF Tryz.prog 64 [.i,.i,.i,.i,.b]:=⟨⟨2,by decide,Si⟩,by kernel_rfl⟩
theorem Sj:A2 Tryz.prog 85 [.i,.i,.i] 3:=HK Tryz.underlying85 (by kernel_rfl) (Ze.one (by decide) rfl (inferInstance:T1 Tryz.prog 3) ⟨_,Tryz.underlying3⟩ (by decide) (Ze.agg (by decide) rfl (inferInstance:TN Tryz.prog 62 2) Sh (by decide) rfl rfl Ze.nil))
instance:BF Tryz.prog 85 [.i,.i,.i]:=⟨⟨3,by decide,Sj⟩,by kernel_rfl⟩
end Go.Proofs.YtbnnnljagkjpiaaGreatDoor
namespace Go.SL
open List
section
variable {P:Program} {n:Nat} {r:Option Nat} {σ:QU} {w:World} {K:QU→World→Prop} {l:List Q2}
variable {u t:TypeId} {p:String} {af:Array Edge} {g:Option (Nat×Bool)} {d:Option Tmp} {x y:Operand}
theorem HR {k q:IntKind} {a b:Int} {ts:Array TypeId} (hx:ev σ x = .int k a) (hy:ev σ y = .int q b) (hd:Qh n d=true) (h:K (put σ d (.int k (if b > a then b else a))) w) :
  St P n r ⟨d,.call { callee := .builtin .max,args:=#[x,y],argTypes:=ts },u,p,af,g⟩ σ w K:=by
 refine V6 (v := .int k (if b > a then b else a)) (w':=w) hd (fun c e=>by cases e) ?_ h;simp[execOp,resolve,invoke,builtin,hx,hy,Builtin.max_,Builtin.max2]
theorem WV (z:Value):∀ n,Y2 [z] n=List.replicate n z
 | 0=>rfl
 | n+1=>by simp[Y2,WV z n,replicate_succ]
theorem ZR [Q4] {e size bytes m:Nat} {zv:Value} {kl kc:IntKind} (H:Q0 w l) [hT:VW P t e size bytes] [hz:V1 P e zv] (hx:ev σ x = .int kl (m:Int)) (hy:ev σ y = .int kc (m:Int)) (hq:(decide ((Qv zv).length=size) && decide (bytes≤1000000))=true) (hm:m≤100000000) (hd:Qh n d=true)
  (k:∀ b w',Q0 w' (QX e size (.slice (some ⟨b,0,none⟩) m m) (Y2 (Qv zv) m)::l)→K (put σ d (.slice (some ⟨b,0,none⟩) m m)) w'):St P n r ⟨d,.makeSlice t x y,u,p,af,g⟩ σ w K:=by
 obtain⟨i,hi,e2⟩:=Option.map_eq_some_iff.1 hT.info;obtain⟨i',hi',hz'⟩:=Option.map_eq_some_iff.1 hz.zero;rw[hi] at hi';cases hi';simp only[Prod.mk.injEq] at e2;simp only[Bool.and_eq_true,decide_eq_true_eq] at hq
 have hb:(i.bytes:Int)*(m:Int)≤281474976710656:=by
  have:i.bytes*m≤1000000*100000000:=Nat.mul_le_mul (by omega) hm;have h:((i.bytes*m:Nat):Int)≤281474976710656:=by omega
  rwa [Int.natCast_mul] at h
 have hr:=run_make (P:=P) w t e i zv hT.und hi hz' kl kc m m (by omega) (Int.le_refl _) hb (by omega)
 have hc:madeCells zv.cells (m*i.size)=(Y2 (Qv zv) m).toArray:=by
  unfold madeCells;rw[← DE,KX,hq.1,e2.1]
 rw[Int.toNat_natCast,hc] at hr;have hn:=H.new (row e (Y2 (Qv zv) m));refine V6 (v := .slice (some ⟨w.heap.size,0,none⟩) m m) (w':=w.alloc (.cells (Y2 (Qv zv) m).toArray e)) hd (fun c e=>by cases e) ?_ (k _ _ (Uq (by rw[Fx,hq.1]) hn));simp only[execOp,hx,hy,hr,Sem.run_bind,Result.andThen_ok,Sem.run_pure]
theorem Sk {a:Nat} (ha:a < 18446744073709551616) (hx:ev σ x = .int .u64 a) (hd:Qh n d=true) (h:K (put σ d (.int .u64 ((18446744073709551615 - a:Nat):Int))) w):St P n r ⟨d,.unOp .xor t x,u,p,af,g⟩ σ w K:=by
 refine V6 (v := .int .u64 ((18446744073709551615 - a:Nat):Int)) (w':=w) hd (fun c e=>by cases e) ?_ h;have e1:(if IntKind.u64.signed=true then (-1:Int) else IntKind.u64.max)=((18446744073709551615:Nat):Int):=by decide
 have e2:YM .xor .u64 ((18446744073709551615:Nat):Int) (a:Int)=((18446744073709551615 - a:Nat):Int):=by
  rw[M3 (by decide) ha];congr 1;apply Nat.eq_of_testBit_eq;intro i;have e:18446744073709551615 - a=2 ^ 64 - (a+1):=by omega
  rw[Nat.testBit_xor,e,Nat.testBit_two_pow_sub_succ ha,show (18446744073709551615:Nat)=2 ^ 64 - 1 from rfl,Nat.testBit_two_pow_sub_one];by_cases hi:i < 64
  ·simp[hi]
  ·have:a.testBit i=false:=Nat.testBit_lt_two_pow (Nat.lt_of_lt_of_le ha (Nat.pow_le_pow_right (n:=2) (by decide) (show 64≤i by omega)));simp[hi,this]
 have e3:(Op.unary .xor (.int .u64 (a:Int))).run P w = .ok (.int .u64 ((18446744073709551615 - a:Nat):Int)) w:=by
  have:(Op.intBits .xor .u64 ((18446744073709551615:Nat):Int) (a:Int)).run P w = .ok (.int .u64 (YM .xor .u64 ((18446744073709551615:Nat):Int) (a:Int))) w:=by
   simp[Op.intBits,YM]
  rw[← e2,← this,← e1];rfl
 simp only[execOp,hx,Sem.run_bind,e3,Result.andThen_ok,Sem.run_pure]
end
def DL (g:Nat) (tab:List Nat) (w:World):Prop:=∀ j,j < tab.length→w.cell? ⟨g,j,none⟩=some (.int .u8 (tab.getD j 0))
class YW (g:outParam Nat) (tab:outParam (List Nat)) (l:List Q2):Prop where
 tab:∀ w:World,VK l (hp w)→DL g tab w
instance {g:Nat} {tab:List Nat} {A:Q2} {l:List Q2} [h:YW g tab l]:YW g tab (A::l):=⟨fun w s=>h.tab w (W2 s)⟩
theorem Sl {g:Nat} {tab:List Nat} {W:World} {l:List Q2} (h:DL g tab W) (hg:g < W.heap.size):YW g tab (old W::l):=⟨fun w s j hj=>by
 obtain⟨f,_,a,_,_,x,_⟩:=s;have e:=x g hg
 have e2:w.heap[g]? = W.heap[g]?:=by
  cases ho:W.heap[g]? with
  | none=>have:=Array.getElem?_eq_none_iff.1 ho;omega
  | some o=>rw[ho] at e;exact a g o e
 have:=h j hj;unfold World.cell? at this ⊢;simp only[e2];exact this⟩
end Go.SL
