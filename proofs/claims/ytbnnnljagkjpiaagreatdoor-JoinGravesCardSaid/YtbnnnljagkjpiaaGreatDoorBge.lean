/- Cells: what is proved on the way: every input of the statement; no condition. Texts joined: SlX SlY SlT Sri Srs SlS Srt Srd SlJ SlI SlQ SlO SlR SlZ. -/
import Derived.Test.YtbnnnljagkjpiaaGreatDoorBgd
import Derived.Shelf.SlGeneric
import Derived.Shelf.Spec.SlicesInsert
import Derived.Shelf.Spec.SlicesInsertGrow
import Derived.Shelf.Slices.SearchI
import Derived.Shelf.Slices.Empties
import Derived.Ground.Names2Prog
import Derived.Test.YtbnnnljagkjpiaaGreatDoorProg
import Derived.Shelf.Sort.Plain
import Derived.Shelf.Slices.In.SortNone
import Derived.Ground.NamesProg
import Derived.Test.YtbnnnljagkjpiaaGreatDoorBgc
import Derived.Shelf.SlSortCmp.NoneTotal
import Derived.Ground.SlsfProg
import Derived.Shelf.Slices.Delete
import Derived.RangeFuncNested
import Derived.WideKeyArgs
import Derived.ChangeOld
import Derived.OpenShut
import Derived.ProofKit
import Derived.Deep.Slices
set_option linter.unusedVariables false
set_option linter.unusedSimpArgs false
set_option linter.unusedSectionVars false
namespace Go.SL
open List
section
variable {P:Program} {n:Nat} {r:Option Nat} {ops:Array Oper} {Q:YQ} {ms:List Nat} {σ:QU} {w:World} {rest:List Oper} {o:Oper} {K:QU→World→Prop} {l l':List Q2}
variable {ivs:List (List Nat×(World→Prop))} {T:QU→World→Prop} {f:Nat} {L:Array Bool}
variable {u t s:TypeId} {p:String} {af:Array Edge} {g:Option (Nat×Bool)} {d:Option Tmp} {x y z:Operand}
theorem Sm {e size bytes b o2 len cap i j:Nat} {q q':IntKind} (hT:VW P t e size bytes) (h1:i≤j) (h2:j≤cap) (h3:i < cap) :
  (Instr.sliceAt t (.slice (some ⟨b,o2,none⟩) len cap) (some (.int q (i:Int))) (some (.int q' (j:Int))) none).run P w = .ok (.slice (some ⟨b,o2+i*size,none⟩) (j - i) (cap - i)) w:=by
 have hs:(sizeOf e).run P w = .ok size w:=by
  obtain⟨k,hk,e2⟩:=Option.map_eq_some_iff.1 hT.info;simp only[Prod.mk.injEq] at e2;exact Zz (by rw[hk];simp[e2.1])
 have hne:cap≠i:=by omega
 have b1:(0:Int)≤i∧(i:Int)≤j:=by omega
 have b2:(0:Int)≤j∧(j:Int)≤cap:=by omega
 simp[Instr.sliceAt,Instr.slice,Vr hT.und,Instr.sliceBounds,Instr.sliceBound,asIntOf,h1,h2,hs,ZX,hne]
theorem BH {e size bytes b o2 len cap i j:Nat} {q q':IntKind} (m:Nat) (hm:ops[m]? = some ⟨d,.slice t x (some y) (some z) none,u,p,af,g⟩) (hg:Q7 ops σ ⟨d,.slice t x (some y) (some z) none,u,p,af,g⟩ true) [hT:VW P t e size bytes] (hx:ev σ x = .slice (some ⟨b,o2,none⟩) len cap) (hy:ev σ y = .int q (i:Int)) (hz:ev σ z = .int q' (j:Int)) (h1:i≤j) (h2:j≤cap) (h3:i < cap)
  (hb:YX n ops (ivs.map (·.1)) L m []=true) (k:Any P n r ops ivs T f (L.setIfInBounds m true) (put σ d (.slice (some ⟨b,o2+i*size,none⟩) (j - i) (cap - i))) w):Any P n r ops ivs T (f+1) L σ w:=
 U7 m hm hg (fun c e=>by cases e) (fun w=>by simp only[execOp,hx,hy,hz,Option.map_some,Option.map_none,Sem.run_bind,Sm hT h1 h2 h3,Result.andThen_ok,Sem.run_pure]) hb k
theorem So {c:List Value} {o m:Nat} {vs:List Value} (h:Q9 c o m vs):∀ (q:o+vs.length≤c.length),wr c o vs=c:=fun q=>by
 rw[DJ vs c o q];apply ext_getElem?;intro j;by_cases h1:j < o
 ·rw[append_assoc,getElem?_append_left (by simp;omega),getElem?_take_of_lt h1]
 ·by_cases h2:j < o+vs.length
  ·rw[append_assoc,getElem?_append_right (by simp;omega),getElem?_append_left (by simp;omega)];have e1:(c.take o).length=o:=by simp;omega
   rw[e1];have:=h.get (j - o) (vs[j - o]'(by omega)) (getElem?_eq_getElem (by omega));rw[show o+(j - o)=j by omega] at this;rw[this,getElem?_eq_getElem (by omega)]
  ·rw[append_assoc,getElem?_append_right (by simp;omega),getElem?_append_right (by simp;omega),getElem?_drop];congr 1;simp;omega
theorem Z2 [Q4] {E k m cap:Nat} {a:Option Addr} {c:List Value} (H:Q0 w (QX E k (.slice a m cap) c::l)) (h0:0 < m) :
  ∃ b spare,a=some ⟨b,0,none⟩∧Q0 w (pts b (row E (c++spare))::l)∧m≤cap∧(cap - m)*k≤spare.length∧∀ w' l' c',c'.length=c.length→Q0 w' (pts b (row E (c'++spare))::l')→Q0 w' (QX E k (.slice a m cap) c'::l'):=by
 rcases GD H with ⟨h,_⟩|⟨b,len,cap',spare,h,e3,e4,e5,H2⟩
 ·injection h with h1 h2;omega
 ·injection h with h1 h2 h3
  subst h1 h2 h3;exact⟨b,spare,rfl,H2,e4.1,e5,fun w' l' c' hc H'=>ZK (hc.trans e3) e4 e5 H'⟩
theorem Sp [Q4] {e size bytes b o2 m cap cap' E:Nat} {c vs:List Value} [hT:VW P t e size bytes] (H:Q0 w (pts b (row E c)::l)) (hx:ev σ x = .slice (some ⟨b,o2,none⟩) m cap) (hy:ev σ y = .slice (some ⟨b,o2,none⟩) m cap') (hrd:Q9 c o2 (m*size) vs) (hl:o2+m*size≤c.length) (h1:vs.all (·.oneCell')=true) (hd:Qh n d=true)
  (k:∀ w',Q0 w' (pts b (row E c)::l)→K (put σ d (.int .i64 m)) w'):St P n r ⟨d,.call { callee := .builtin .copy,args:=#[x,y],argTypes:=#[t,t] },u,p,af,g⟩ σ w K:=by
 have hs:(sizeOf e).run P w = .ok size w:=by
  obtain⟨k,hk,e2⟩:=Option.map_eq_some_iff.1 hT.info;simp only[Prod.mk.injEq] at e2;exact Zz (by rw[hk];simp[e2.1])
 have ev1:=hrd.len;have hbk:w.heap[b]? = some (.cells c.toArray E (0,0)):=H.pts
 have hfc:(Builtin.firstCells size m (.slice (some ⟨b,o2,none⟩) m cap')).run P w = .ok vs.toArray w:=by
  unfold Builtin.firstCells
  have:=run_loadCells_list (P:=P) (w:=w) ⟨b,o2,none⟩ vs (fun j v hj=>by
   rw[ZX];exact Zl hbk (hrd.get j v hj))
  rwa [ev1] at this
 obtain⟨w',hr,h2,h3,h4⟩:=BY (P:=P) vs w b o2 E c 0 H.pts (by omega) (all_eq_true.1 h1);rw[Nat.add_zero,So hrd (by omega)] at h2;have H':=H.set (o':=row E c) h2 h3 h4;refine V6 (v := .int .i64 m) (w':=w') hd (fun c e=>by cases e) ?_ (k w' H');have hmin:Nat.min m m=m:=Nat.min_self m;simp[execOp,resolve,invoke,builtin,hx,hy,Builtin.copy_,Vr hT.und,Builtin.lenOf,hmin,hs,hfc,hr,goInt]
end
end Go.SL
namespace Go.SL
section
variable {P:Program} {n:Nat} {r:Option Nat} {ops:Array Oper} {Q:YQ} {ms:List Nat} {σ:QU} {w:World} {rest:List Oper} {o:Oper} {K:QU→World→Prop} {l l':List Q2}
variable {u t s:TypeId} {p:String} {af:Array Edge} {g:Option (Nat×Bool)} {d:Option Tmp} {x y z:Operand}
theorem Sq {e size bytes len cap:Nat} {ad:Option Addr} {q:IntKind} {i:Nat} [hT:VW P t e size bytes] (hx:ev σ x = .slice ad len cap) (hy:ev σ y = .int q (i:Int)) (h1:i≤len) (hd:Qh n d=true)
  (k:∀ v,K (put σ d v) w):St P n r ⟨d,.slice t x (some y) none none,u,p,af,g⟩ σ w K:=by
 have hs:(sizeOf e).run P w = .ok size w:=by
  obtain⟨k,hk,e2⟩:=Option.map_eq_some_iff.1 hT.info;simp only[Prod.mk.injEq] at e2;exact Zz (by rw[hk];simp[e2.1])
 cases ad with
 | none=>
  refine V6 (w':=w) hd (fun c e=>by cases e) ?_ (k (.slice none (len - i) (cap - i)));simp[execOp,hx,hy,Instr.sliceAt,Instr.slice,Vr hT.und,Instr.sliceBounds,Instr.sliceBound,asIntOf,h1,hs]
 | some a=>
  by_cases hc:cap=i
  ·subst hc;refine V6 (w':=w) hd (fun c e=>by cases e) ?_ (k (.slice (some a) (len - cap) (cap - cap)));simp[execOp,hx,hy,Instr.sliceAt,Instr.slice,Vr hT.und,Instr.sliceBounds,Instr.sliceBound,asIntOf,h1,hs]
  ·refine V6 (w':=w) hd (fun c e=>by cases e) ?_ (k (.slice (some (a.add (i*size))) (len - i) (cap - i)));simp[execOp,hx,hy,Instr.sliceAt,Instr.slice,Vr hT.und,Instr.sliceBounds,Instr.sliceBound,asIntOf,h1,hs,hc]
end
end Go.SL
namespace Go.SL
open List
theorem split_at {α:Type} {l:List α} {k:Nat} {x:α} (h:l[k]? = some x):l=l.take k++x::l.drop (k+1):=by
 obtain⟨h1,h2⟩:=List.getElem?_eq_some_iff.1 h;rw[← h2,getElem_cons_drop,take_append_drop]
theorem set_split {α:Type} {l:List α} {k:Nat} {x y:α} (h:l[k]? = some x):l.set k y=l.take k++y::l.drop (k+1):=by
 have h1:=(List.getElem?_eq_some_iff.1 h).1;rw[set_eq_take_append_cons_drop,if_pos h1]
theorem MV {A B:List Value}:∀ (vs y:List Value) (j:Nat),j+vs.length≤y.length→wr (A++(y++B)) (A.length+j) vs=A++(wr y j vs++B)
 | [],y,j,_=>rfl
 | v::vs,y,j,h=>by
  simp only[length_cons] at h;show wr ((A++(y++B)).set (A.length+j) v) (A.length+j+1) vs=A++(wr (y.set j v) (j+1) vs++B);rw[set_append_right _ _ (by omega),show A.length+j - A.length=j by omega,set_append_left _ _ (by omega)];exact MV vs (y.set j v) (j+1) (by simp;omega)
section
variable {α:Type} {f:α→List Value} {m:Nat}
theorem Gu (hf:∀ a,(f a).length=m) (l:List α):(l.flatMap f).length=l.length*m:=by
 induction l with
 | nil=>simp
 | cons a l ih=>rw[flatMap_cons,length_append,ih,hf,length_cons,Nat.succ_mul];omega
theorem MY {l:List α} {i:Nat} {x:α} (h:l[i]? = some x) (s:List Value):l.flatMap f++s=(l.take i).flatMap f++(f x++((l.drop (i+1)).flatMap f++s)):=by
 conv=>lhs;rw[split_at h]
 simp
theorem HW (hf:∀ a,(f a).length=m) {l:List α} {i:Nat} {x:α} (h:l[i]? = some x):((l.take i).flatMap f).length=i*m:=by
 have h1:=(List.getElem?_eq_some_iff.1 h).1;rw[Gu hf,length_take,Nat.min_eq_left (by omega)]
theorem UI (hf:∀ a,(f a).length=m) {l:List α} {i:Nat} {x:α} (h:l[i]? = some x) {s:List Value} {j:Nat} {v:Value} (hv:(f x)[j]? = some v):(l.flatMap f++s)[i*m+j]? = some v:=by
 have hj:=(List.getElem?_eq_some_iff.1 hv).1;rw[MY h,getElem?_append_right (by rw[HW hf h];omega),HW hf h,show i*m+j - i*m=j by omega,getElem?_append_left hj];exact hv
theorem RV (hf:∀ a,(f a).length=m) {l:List α} {i:Nat} {x:α} (h:l[i]? = some x) {s:List Value} {j:Nat} {vs:List Value} (hv:Q9 (f x) j vs.length vs):Q9 (l.flatMap f++s) (i*m+j) vs.length vs:=
 Q9.of_get fun k v hk=>by
  rw[show i*m+j+k=i*m+(j+k) by omega];exact UI hf h (hv.get k v hk)
theorem DM (hf:∀ a,(f a).length=m) {l:List α} {i:Nat} {x x':α} (h:l[i]? = some x) {s:List Value} {j:Nat} {vs:List Value} (hj:j+vs.length≤m) (hx:wr (f x) j vs=f x'):wr (l.flatMap f++s) (i*m+j) vs=(l.set i x').flatMap f++s:=by
 rw[MY h,← HW hf h,MV vs (f x) j (by rw[hf];exact hj),hx,set_split h];simp
theorem MZ (hf:∀ a,(f a).length=m) {l:List α} {i:Nat} {x x':α} (h:l[i]? = some x) {s:List Value} {j:Nat} {v:Value} (hj:j < m) (hx:(f x).set j v=f x'):(l.flatMap f++s).set (i*m+j) v=(l.set i x').flatMap f++s:=
 DM (vs:=[v]) hf h (by simp;omega) hx
end
end Go.SL
namespace Go.Proofs
open Go.Shelf
def Tryz.laysBs_ren : Go.Shelf.Ren := ⟨fun | 25 => 102 | 31 => 177 | 32 => 188 | 37 => 229 | n => n, fun | 22 => 25 | 3 => 3 | 4 => 4 | 40 => 121 | 0 => 0 | n => n, fun | n => n⟩
theorem Tryz.laysBs : Go.Proofs.Lays2.n25 Tryz.prog Tryz.laysBs_ren := {
  mixed := by kernel_rfl
  f25 := Tryz.func102.trans (congrArg some (by kernel_rfl))
  f31 := Tryz.func177.trans (congrArg some (by kernel_rfl))
  f32 := Tryz.func188.trans (congrArg some (by kernel_rfl))
  f37 := Tryz.func229.trans (congrArg some (by kernel_rfl))
  t0 := Tryz.underlying0
  a0 := Tryz.isAgg0
  z0 := Tryz.sizeOf0
  v0 := Tryz.zeroValue0
  t3 := Tryz.underlying3
  a3 := Tryz.isAgg3
  z3 := Tryz.sizeOf3
  v3 := Tryz.zeroValue3
  t4 := Tryz.underlying4
  a4 := Tryz.isAgg4
  z4 := Tryz.sizeOf4
  v4 := Tryz.zeroValue4
  t22 := Tryz.underlying25
  a22 := Tryz.isAgg25
  z22 := Tryz.sizeOf25
  v22 := Tryz.zeroValue25
  t40 := Tryz.underlying121
  a40 := Tryz.isAgg121
  z40 := Tryz.sizeOf121
  v40 := Tryz.zeroValue121 }
def Tryz.laysIns_ren : Go.Shelf.Ren := ⟨fun | 21 => 143 | 27 => 209 | 28 => 210 | 35 => 237 | 39 => 251 | n => n, fun | 22 => 25 | 3 => 3 | 4 => 4 | 0 => 0 | n => n, fun | n => n⟩
theorem Tryz.laysIns : Go.Proofs.Lays2.n21 Tryz.prog Tryz.laysIns_ren := {
  mixed := by kernel_rfl
  f21 := Tryz.func143.trans (congrArg some (by kernel_rfl))
  f27 := Tryz.func209.trans (congrArg some (by kernel_rfl))
  f28 := Tryz.func210.trans (congrArg some (by kernel_rfl))
  f35 := Tryz.func237.trans (congrArg some (by kernel_rfl))
  f39 := Tryz.func251.trans (congrArg some (by kernel_rfl))
  t0 := Tryz.underlying0
  a0 := Tryz.isAgg0
  z0 := Tryz.sizeOf0
  v0 := Tryz.zeroValue0
  t3 := Tryz.underlying3
  a3 := Tryz.isAgg3
  z3 := Tryz.sizeOf3
  v3 := Tryz.zeroValue3
  t4 := Tryz.underlying4
  a4 := Tryz.isAgg4
  z4 := Tryz.sizeOf4
  v4 := Tryz.zeroValue4
  t22 := Tryz.underlying25
  a22 := Tryz.isAgg25
  z22 := Tryz.sizeOf25
  v22 := Tryz.zeroValue25
  i3 := by kernel_rfl }
def Tryz.laysSort_ren : Go.Shelf.Ren := ⟨fun | 189 => 32 | 125 => 96 | 257 => 95 | 128 => 180 | 129 => 181 | 294 => 171 | 295 => 172 | 296 => 173 | 297 => 174 | 298 => 175 | 299 => 176 | 216 => 177 | 300 => 178 | 301 => 179 | 328 => 224 | 329 => 225 | 330 => 226 | 331 => 227 | 332 => 228 | 215 => 229 | 343 => 247 | n => n, fun | 28 => 25 | 3 => 3 | 46 => 121 | 0 => 0 | 51 => 289 | 53 => 94 | 4 => 4 | 183 => 282 | 182 => 281 | 131 => 206 | 5 => 5 | 9 => 9 | 218 => 319 | 222 => 323 | 228 => 334 | 229 => 192 | n => n, fun | n => n⟩
theorem Tryz.laysSort : Go.Proofs.Lays.n189 Tryz.prog Tryz.laysSort_ren := {
  mixed := by kernel_rfl
  f125 := Tryz.func96.trans (congrArg some (by kernel_rfl))
  f128 := Tryz.func180.trans (congrArg some (by kernel_rfl))
  f129 := Tryz.func181.trans (congrArg some (by kernel_rfl))
  f189 := Tryz.func32.trans (congrArg some (by kernel_rfl))
  f215 := Tryz.func229.trans (congrArg some (by kernel_rfl))
  f216 := Tryz.func177.trans (congrArg some (by kernel_rfl))
  f257 := Tryz.func95.trans (congrArg some (by kernel_rfl))
  f294 := Tryz.func171.trans (congrArg some (by kernel_rfl))
  f295 := Tryz.func172.trans (congrArg some (by kernel_rfl))
  f296 := Tryz.func173.trans (congrArg some (by kernel_rfl))
  f297 := Tryz.func174.trans (congrArg some (by kernel_rfl))
  f298 := Tryz.func175.trans (congrArg some (by kernel_rfl))
  f299 := Tryz.func176.trans (congrArg some (by kernel_rfl))
  f300 := Tryz.func178.trans (congrArg some (by kernel_rfl))
  f301 := Tryz.func179.trans (congrArg some (by kernel_rfl))
  f328 := Tryz.func224.trans (congrArg some (by kernel_rfl))
  f329 := Tryz.func225.trans (congrArg some (by kernel_rfl))
  f330 := Tryz.func226.trans (congrArg some (by kernel_rfl))
  f331 := Tryz.func227.trans (congrArg some (by kernel_rfl))
  f332 := Tryz.func228.trans (congrArg some (by kernel_rfl))
  f343 := Tryz.func247.trans (congrArg some (by kernel_rfl))
  t0 := Tryz.underlying0
  a0 := Tryz.isAgg0
  z0 := Tryz.sizeOf0
  v0 := Tryz.zeroValue0
  t3 := Tryz.underlying3
  a3 := Tryz.isAgg3
  z3 := Tryz.sizeOf3
  v3 := Tryz.zeroValue3
  t4 := Tryz.underlying4
  a4 := Tryz.isAgg4
  z4 := Tryz.sizeOf4
  v4 := Tryz.zeroValue4
  t5 := Tryz.underlying5
  a5 := Tryz.isAgg5
  z5 := Tryz.sizeOf5
  v5 := Tryz.zeroValue5
  t9 := Tryz.underlying9
  a9 := Tryz.isAgg9
  z9 := Tryz.sizeOf9
  v9 := Tryz.zeroValue9
  t28 := Tryz.underlying25
  a28 := Tryz.isAgg25
  z28 := Tryz.sizeOf25
  v28 := Tryz.zeroValue25
  t46 := Tryz.underlying121
  a46 := Tryz.isAgg121
  z46 := Tryz.sizeOf121
  v46 := Tryz.zeroValue121
  t51 := Tryz.underlying289
  a51 := Tryz.isAgg289
  z51 := Tryz.sizeOf289
  v51 := Tryz.zeroValue289
  t53 := Tryz.underlying94
  a53 := Tryz.isAgg94
  z53 := Tryz.sizeOf94
  v53 := Tryz.zeroValue94
  t131 := Tryz.underlying206
  a131 := Tryz.isAgg206
  z131 := Tryz.sizeOf206
  v131 := Tryz.zeroValue206
  t182 := Tryz.underlying281
  a182 := Tryz.isAgg281
  z182 := Tryz.sizeOf281
  v182 := Tryz.zeroValue281
  t183 := Tryz.underlying282
  a183 := Tryz.isAgg282
  z183 := Tryz.sizeOf282
  v183 := Tryz.zeroValue282
  t218 := Tryz.underlying319
  a218 := Tryz.isAgg319
  z218 := Tryz.sizeOf319
  v218 := Tryz.zeroValue319
  t222 := Tryz.underlying323
  a222 := Tryz.isAgg323
  z222 := Tryz.sizeOf323
  v222 := Tryz.zeroValue323
  t228 := Tryz.underlying334
  a228 := Tryz.isAgg334
  z228 := Tryz.sizeOf334
  v228 := Tryz.zeroValue334
  t229 := Tryz.underlying192
  a229 := Tryz.isAgg192
  z229 := Tryz.sizeOf192
  v229 := Tryz.zeroValue192 }
end Go.Proofs
namespace Go.SL
open List
open Go.Sort Go.Proofs
section
variable {α:Type} [Inhabited α] {enc:α→List Value} {k:Nat}
theorem BI (hk:∀ x,(enc x).length=k):∀ l:List α,(l.flatMap enc).length=l.length*k
 | []=>by simp
 | x::l=>by simp only[flatMap_cons,length_append,hk,BI hk l,length_cons,Nat.succ_mul];omega
theorem HA (hk:∀ x,(enc x).length=k) (k0:0 < k):∀ (l:List α) (t:Nat),(l.flatMap enc)[t]? = (l[t / k]?).bind fun x=>(enc x)[t % k]?
 | [],t=>by simp
 | x::l,t=>by
  rw[flatMap_cons];by_cases h:t < k
  ·rw[getElem?_append_left (by rw[hk];exact h),Nat.div_eq_of_lt h,Nat.mod_eq_of_lt h];simp
  ·rw[getElem?_append_right (by rw[hk];omega),hk,HA hk k0 l (t - k)];have e1:t / k=(t - k) / k+1:=Nat.div_eq_sub_div k0 (by omega);have e2:t % k=(t - k) % k:=Nat.mod_eq_sub_mod (by omega);rw[e1,e2];simp
theorem MG (hk:∀ x,(enc x).length=k) (k0:0 < k) (d:Array α):flatK enc k d=(d.toList.flatMap enc).toArray:=by
 apply Array.ext';apply ext_getElem?;intro t;show (flatK enc k d).toList[t]? = (d.toList.flatMap enc)[t]?;rw[HA hk k0];by_cases h:t < d.size*k
 ·have hd:t / k < d.size:=(Nat.div_lt_iff_lt_mul k0).2 h;have hm:=Nat.mod_lt t k0;have h2:=get_flatK enc k d t h;rw[getElem!_pos _ t (by simpa using h)] at h2;rw[Array.getElem?_toList,Array.getElem?_eq_getElem (by simpa using h),h2,getElem!_pos d _ hd,getElem!_pos _ _ (by rw[hk];exact hm)];simp[hd,hk,hm]
 ·have hd:d.size≤t / k:=(Nat.le_div_iff_mul_le k0).2 (by omega);rw[getElem?_eq_none (by simp;omega),getElem?_eq_none (by simpa using hd)];rfl
theorem Sr (F cs spare:List Value) (h:F.length=cs.length):putCells id 0 F.toArray (cs++spare).toArray=(F++spare).toArray:=by
 apply Array.ext';apply ext_getElem?;intro t;simp only[putCells,Array.getElem?_toList,Array.getElem?_mapIdx,getElem?_toArray,Nat.zero_le,true_and,Nat.zero_add,Nat.sub_zero,size_toArray,id];by_cases ht:t < F.length
 ·rw[getElem?_append_left (by omega),getElem?_append_left ht];have h2:t < cs.length:=by omega
  simp[h2,ht]
 ·rw[getElem?_append_right (by omega),getElem?_append_right (by omega),h];have h2:¬ t < cs.length:=by omega
  simp[ht,h2]
theorem Ss [Q4] (hk:∀ x,(enc x).length=k) (k0:0 < k) {w:World} {b m E:Nat} {d':Array α} {os:Array Obj} {cs spare:List Value} {l:List Q2} (H:Q0 w (pts b (row E (cs++spare))::l)) (hl:cs.length=d'.size*k) :
  Q0 (sortWorldK enc k w b 0 m d' os) (pts b (row E (d'.toList.flatMap enc++spare))::l):=by
 have hb:=H.pts;have hlt:=H.fresh;have e1:(putRowK enc k (Sort.ahead w m) b 0 d').heap=w.heap.modify b (onCells (putCells id 0 (flatK enc k d'))):=rfl
 have H1:Q0 (putRowK enc k (Sort.ahead w m) b 0 d') (pts b (row E (d'.toList.flatMap enc++spare))::l):=by
  refine H.set ?_ ?_
  ·rw[e1,Array.getElem?_modify,if_pos rfl,hb];simp only[Option.map_some,row,onCells];rw[MG hk k0,Sr _ _ _ (by rw[BI hk,hl];simp)]
  ·intro c hc;rw[e1,Array.getElem?_modify,if_neg (Ne.symm hc)]
 refine H1.up (fun c o hc=>?_) ⟨rfl,rfl⟩;show ((putRowK enc k (Sort.ahead w m) b 0 d').heap++os)[c]? = some o;have:=(Array.getElem?_eq_some_iff.1 hc).1;rw[Array.getElem?_append_left this];exact hc
open Go.Proofs Go.Shelf in
theorem Su [Q4] {P:Program} {ρ:Ren} (L:SlLaysF0.n6 P ρ) {t:TypeId} (ht:ρ.t 24=t) (hN:TN P t k) (k0:0 < k) (hk:∀ x,(enc x).length=k) (h1:∀ x,∀ v∈enc x,v.oneCell'=true)
  (cf:α→α→Int) (hO:SWO (ltOf cf)) {g:Nat} (hg:QV P g)
  (hc:∀ (x y:α) (W:World),Calls P g #[.agg (enc x).toArray,.agg (enc y).toArray] W fun e w'=>e = .returned (.int .i64 (cf x y))∧∃ q os',w'=grow (W.drewN q) os')
  {E:TypeId} {v:Value} {d:List α} {w:World} {l:List Q2} (H:Q0 w (QX E k v (d.flatMap enc)::l)) (hsz:d.length < 4611686018427387904) :
  Calls P (ρ.f 6) #[v,.func (.func g) #[] #[]] w (ret fun _ w'=>∃ d':List α,d'.Perm d∧d'.Pairwise (fun a b=>ltOf cf b a=false)∧Q0 w' (QX E k v (d'.flatMap enc)::l)):=by
 subst ht
 rcases GD H with ⟨rfl,h0,H'⟩|⟨b,len,cap,spare,rfl,e3,e4,e5,H'⟩
 ·have hd:d=[]:=by
   have:=BI hk d;rw[h0] at this;have h2:d.length*k=0:=this.symm
   rcases Nat.mul_eq_zero.1 h2 with h|h
   ·exact eq_nil_of_length_eq_zero h
   ·omega
  subst hd;refine(AnyF.slices_SortFunc_none L none 0 _ w).mono ?_;rintro e w' ⟨rfl,rfl⟩;exact⟨[],List.Perm.refl _,List.Pairwise.nil,Yt H'⟩
 ·have hb:=H'.pts
  have hlen:len=d.length:=by
   have:=BI hk d;rw[e3] at this;exact Nat.eq_of_mul_eq_mul_right k0 this
  subst hlen
  have hH:HoldsK enc k w b 0 d.toArray:=by
   intro j hj;rw[size_flatK] at hj;rw[MG hk k0,Nat.zero_add];have hj':j < (d.flatMap enc).length:=by rw[e3];simpa using hj
   refine⟨?_,W4 hb⟩;refine Zl hb ?_;rw[getElem?_append_left hj',getElem?_eq_getElem hj'];show some _=some ((d.flatMap enc).toArray[j]!);rw[getElem!_pos _ j (by simpa using hj')];simp
  have:=AnyQ.slices_SortFunc L k (fun w=>Fo hN) (fun w=>Zz hN.size) enc hk h1 cf hO g #[] b 0 cap d.toArray w (fun args w=>DU hg args) (fun m os dk hs x y=>by simpa using hc x y _) hH H'.fresh (by simpa using hsz);rw[show d.toArray.size=d.length by simp] at this;refine this.mono ?_;rintro e w' ⟨rfl,d',n,os,hp,hs,rfl⟩;have hsize:d'.size=d.length:=by rw[hp.1];simp
  have hx:∀ a:Array α,a.size=d.length→a.extract 0 d.length=a:=fun a ha=>by rw[← ha];simp
  refine⟨d'.toList,?_,?_,?_⟩
  ·have h2:=hp.2.2;rw[hx d' hsize,hx d.toArray (by simp)] at h2;simpa using h2
  ·rw[pairwise_iff_getElem];intro i j hi hj hij;have:=hs i j (Nat.zero_le _) hij (by simp at hj ⊢;omega);rw[getElem!_pos d' i (by simpa using hi),getElem!_pos d' j (by simpa using hj)] at this;simpa using this
  ·have hl:(d'.toList.flatMap enc).length=d.length*k:=by rw[BI hk];simp[hsize]
   exact ZK hl e4 e5 (Ss hk k0 H' (by rw[e3,hsize]))
end
end Go.SL
namespace Go.Proofs
open Go.Shelf
def Tryz.sortRef_ren : Go.Shelf.Ren := ⟨fun | 6 => 231 | 15 => 96 | 14 => 249 | 28 => 180 | 29 => 181 | 20 => 253 | 21 => 254 | 22 => 255 | 23 => 256 | 24 => 257 | 25 => 258 | 26 => 259 | 27 => 260 | 46 => 261 | 47 => 225 | 48 => 226 | 49 => 262 | 50 => 263 | 57 => 264 | n => n, fun | 22 => 129 | 24 => 132 | 25 => 296 | 3 => 3 | 39 => 121 | 0 => 0 | 53 => 289 | 55 => 94 | 4 => 4 | 46 => 282 | 45 => 281 | 50 => 206 | 5 => 5 | 9 => 9 | 66 => 319 | 70 => 323 | 76 => 334 | 77 => 192 | n => n, fun | n => n⟩
theorem Tryz.sortRef : Go.Proofs.SlLaysF0.n6 Tryz.prog Tryz.sortRef_ren := {
  mixed := by kernel_rfl
  f6 := ⟨Tryz.f231.name, by decide, Tryz.func231.trans (congrArg some (by kernel_rfl))⟩
  f14 := ⟨Tryz.f249.name, by decide, Tryz.func249.trans (congrArg some (by kernel_rfl))⟩
  f15 := Tryz.func96.trans (congrArg some (by kernel_rfl))
  f20 := ⟨Tryz.f253.name, by decide, Tryz.func253.trans (congrArg some (by kernel_rfl))⟩
  f21 := ⟨Tryz.f254.name, by decide, Tryz.func254.trans (congrArg some (by kernel_rfl))⟩
  f22 := ⟨Tryz.f255.name, by decide, Tryz.func255.trans (congrArg some (by kernel_rfl))⟩
  f23 := ⟨Tryz.f256.name, by decide, Tryz.func256.trans (congrArg some (by kernel_rfl))⟩
  f24 := ⟨Tryz.f257.name, by decide, Tryz.func257.trans (congrArg some (by kernel_rfl))⟩
  f25 := ⟨Tryz.f258.name, by decide, Tryz.func258.trans (congrArg some (by kernel_rfl))⟩
  f26 := ⟨Tryz.f259.name, by decide, Tryz.func259.trans (congrArg some (by kernel_rfl))⟩
  f27 := ⟨Tryz.f260.name, by decide, Tryz.func260.trans (congrArg some (by kernel_rfl))⟩
  f28 := Tryz.func180.trans (congrArg some (by kernel_rfl))
  f29 := Tryz.func181.trans (congrArg some (by kernel_rfl))
  f46 := ⟨Tryz.f261.name, by decide, Tryz.func261.trans (congrArg some (by kernel_rfl))⟩
  f47 := Tryz.func225.trans (congrArg some (by kernel_rfl))
  f48 := Tryz.func226.trans (congrArg some (by kernel_rfl))
  f49 := ⟨Tryz.f262.name, by decide, Tryz.func262.trans (congrArg some (by kernel_rfl))⟩
  f50 := ⟨Tryz.f263.name, by decide, Tryz.func263.trans (congrArg some (by kernel_rfl))⟩
  f57 := ⟨Tryz.f264.name, by decide, Tryz.func264.trans (congrArg some (by kernel_rfl))⟩
  t0 := Tryz.underlying0
  a0 := Tryz.isAgg0
  z0 := Tryz.sizeOf0
  v0 := Tryz.zeroValue0
  t3 := Tryz.underlying3
  a3 := Tryz.isAgg3
  z3 := Tryz.sizeOf3
  v3 := Tryz.zeroValue3
  t4 := Tryz.underlying4
  a4 := Tryz.isAgg4
  z4 := Tryz.sizeOf4
  v4 := Tryz.zeroValue4
  t5 := Tryz.underlying5
  a5 := Tryz.isAgg5
  z5 := Tryz.sizeOf5
  v5 := Tryz.zeroValue5
  t9 := Tryz.underlying9
  a9 := Tryz.isAgg9
  z9 := Tryz.sizeOf9
  v9 := Tryz.zeroValue9
  t22 := Tryz.underlying129
  a22 := Tryz.isAgg129
  z22 := Tryz.sizeOf129
  v22 := Tryz.zeroValue129
  t25 := Tryz.underlying296
  a25 := Tryz.isAgg296
  z25 := Tryz.sizeOf296
  v25 := Tryz.zeroValue296
  t39 := Tryz.underlying121
  a39 := Tryz.isAgg121
  z39 := Tryz.sizeOf121
  v39 := Tryz.zeroValue121
  t45 := Tryz.underlying281
  a45 := Tryz.isAgg281
  z45 := Tryz.sizeOf281
  v45 := Tryz.zeroValue281
  t46 := Tryz.underlying282
  a46 := Tryz.isAgg282
  z46 := Tryz.sizeOf282
  v46 := Tryz.zeroValue282
  t50 := Tryz.underlying206
  a50 := Tryz.isAgg206
  z50 := Tryz.sizeOf206
  v50 := Tryz.zeroValue206
  t53 := Tryz.underlying289
  a53 := Tryz.isAgg289
  z53 := Tryz.sizeOf289
  v53 := Tryz.zeroValue289
  t55 := Tryz.underlying94
  a55 := Tryz.isAgg94
  z55 := Tryz.sizeOf94
  v55 := Tryz.zeroValue94
  t66 := Tryz.underlying319
  a66 := Tryz.isAgg319
  z66 := Tryz.sizeOf319
  v66 := Tryz.zeroValue319
  t70 := Tryz.underlying323
  a70 := Tryz.isAgg323
  z70 := Tryz.sizeOf323
  v70 := Tryz.zeroValue323
  t76 := Tryz.underlying334
  a76 := Tryz.isAgg334
  z76 := Tryz.sizeOf334
  v76 := Tryz.zeroValue334
  t77 := Tryz.underlying192
  a77 := Tryz.isAgg192
  z77 := Tryz.sizeOf192
  v77 := Tryz.zeroValue192 }
def Tryz.laysDel_ren : Go.Shelf.Ren := ⟨fun | 23 => 195 | n => n, fun | 22 => 25 | 3 => 3 | 4 => 4 | 0 => 0 | n => n, fun | n => n⟩
theorem Tryz.laysDel : Go.Proofs.Lays2.n23 Tryz.prog Tryz.laysDel_ren := {
  mixed := by kernel_rfl
  f23 := Tryz.func195.trans (congrArg some (by kernel_rfl))
  t0 := Tryz.underlying0
  a0 := Tryz.isAgg0
  z0 := Tryz.sizeOf0
  v0 := Tryz.zeroValue0
  t3 := Tryz.underlying3
  a3 := Tryz.isAgg3
  z3 := Tryz.sizeOf3
  v3 := Tryz.zeroValue3
  t4 := Tryz.underlying4
  a4 := Tryz.isAgg4
  z4 := Tryz.sizeOf4
  v4 := Tryz.zeroValue4
  t22 := Tryz.underlying25
  a22 := Tryz.isAgg25
  z22 := Tryz.sizeOf25
  v22 := Tryz.zeroValue25
  i3 := by kernel_rfl }
end Go.Proofs
namespace Go.SL
open List
section
variable {P:Program} {n:Nat} {r:Option Nat} {ops:Array Oper} {Q:YQ} {ms:List Nat} {σ:QU} {w:World} {rest:List Oper} {o:Oper} {K:QU→World→Prop} {l l':List Q2}
variable {ivs:List (List Nat×(World→Prop))} {T:QU→World→Prop} {f:Nat} {L:Array Bool}
variable {u t s:TypeId} {p:String} {af:Array Edge} {g:Option (Nat×Bool)} {d:Option Tmp} {x y z:Operand}
theorem Sv {e size bytes b o2 len cap i j:Nat} {q q':IntKind} (hT:VW P t e size bytes) (h1:i≤j) (h2:j≤cap) :
  (Instr.sliceAt t (.slice (some ⟨b,o2,none⟩) len cap) none (some (.int q (i:Int))) (some (.int q' (j:Int)))).run P w = .ok (.slice (some ⟨b,o2,none⟩) i j) w:=by
 have hs:(sizeOf e).run P w = .ok size w:=by
  obtain⟨k,hk,e2⟩:=Option.map_eq_some_iff.1 hT.info;simp only[Prod.mk.injEq] at e2;exact Zz (by rw[hk];simp[e2.1])
 have b1:(0:Int)≤i∧(i:Int)≤j:=by omega
 have b2:(0:Int)≤j∧(j:Int)≤cap:=by omega
 simp[Instr.sliceAt,Instr.slice,Vr hT.und,Instr.sliceBounds,Instr.sliceBound,asIntOf,h1,h2,hs,ZX]
theorem Sw {e size bytes b o2 len cap i j:Nat} {q q':IntKind} (m:Nat) (hm:ops[m]? = some ⟨d,.slice t x none (some y) (some z),u,p,af,g⟩) (hg:Q7 ops σ ⟨d,.slice t x none (some y) (some z),u,p,af,g⟩ true) [hT:VW P t e size bytes] (hx:ev σ x = .slice (some ⟨b,o2,none⟩) len cap) (hy:ev σ y = .int q (i:Int)) (hz:ev σ z = .int q' (j:Int)) (h1:i≤j) (h2:j≤cap)
  (hb:YX n ops (ivs.map (·.1)) L m []=true) (k:Any P n r ops ivs T f (L.setIfInBounds m true) (put σ d (.slice (some ⟨b,o2,none⟩) i j)) w):Any P n r ops ivs T (f+1) L σ w:=
 U7 m hm hg (fun c e=>by cases e) (fun w=>by simp only[execOp,hx,hy,hz,Option.map_some,Option.map_none,Sem.run_bind,Sv hT h1 h2,Result.andThen_ok,Sem.run_pure]) hb k
theorem Sx {e size bytes b o2 len cap i:Nat} {q:IntKind} (hT:VW P t e size bytes) (h1:i≤len) (h2:len≤cap) :
  (Instr.sliceAt t (.slice (some ⟨b,o2,none⟩) len cap) (some (.int q (i:Int))) none none).run P w = .ok (.slice (some ⟨b,if cap=i then o2 else o2+i*size,none⟩) (len - i) (cap - i)) w:=by
 have hs:(sizeOf e).run P w = .ok size w:=by
  obtain⟨k,hk,e2⟩:=Option.map_eq_some_iff.1 hT.info;simp only[Prod.mk.injEq] at e2;exact Zz (by rw[hk];simp[e2.1])
 have b1:(0:Int)≤i∧(i:Int)≤len:=by omega
 by_cases he:cap=i
 ·simp[Instr.sliceAt,Instr.slice,Vr hT.und,Instr.sliceBounds,Instr.sliceBound,asIntOf,h1,h2,hs,ZX,he]
 ·simp[Instr.sliceAt,Instr.slice,Vr hT.und,Instr.sliceBounds,Instr.sliceBound,asIntOf,h1,h2,hs,ZX,he]
theorem Sy {e size bytes b o2 len cap i:Nat} {q:IntKind} (m:Nat) (hm:ops[m]? = some ⟨d,.slice t x (some y) none none,u,p,af,g⟩) (hg:Q7 ops σ ⟨d,.slice t x (some y) none none,u,p,af,g⟩ true) [hT:VW P t e size bytes] (hx:ev σ x = .slice (some ⟨b,o2,none⟩) len cap) (hy:ev σ y = .int q (i:Int)) (h1:i≤len) (h2:len≤cap)
  (hb:YX n ops (ivs.map (·.1)) L m []=true) (k:Any P n r ops ivs T f (L.setIfInBounds m true) (put σ d (.slice (some ⟨b,if cap=i then o2 else o2+i*size,none⟩) (len - i) (cap - i))) w):Any P n r ops ivs T (f+1) L σ w:=
 U7 m hm hg (fun c e=>by cases e) (fun w=>by simp only[execOp,hx,hy,Option.map_some,Option.map_none,Sem.run_bind,Sx hT h1 h2,Result.andThen_ok,Sem.run_pure]) hb k
theorem Sz [Q4] {e size bytes b o' N i m c2:Nat} {zv:Value} {c spare:List Value} [hT:VW P t e size bytes] [hz:V1 P e zv] (H:Q0 w (pts b (row e (c++spare))::l))
  (hx:ev σ x = .slice (some ⟨b,0,none⟩) i i) (hy:ev σ y = .slice (some ⟨b,o',none⟩) m c2) (hc:c.length=N*size) (hi:i < N) (hm:m=N - (i+1)) (ho:0 < m→o'=(i+1)*size) (hN:N≤1000000)
  (hb:c.length*bytes≤140737488355328) (hd:Qh n d=true) (hq:(decide ((Qv zv).length=size) && decide (0 < size) && decide (0 < bytes))=true)
  (k:∀ v' w',Q0 w' (QX e size v' (c.take (i*size)++c.drop ((i+1)*size))::l)→K (put σ d v') w'):St P n r ⟨d,.call { callee := .builtin .append,args:=#[x,y],argTypes:=#[t,t] },u,p,af,g⟩ σ w K:=by
 simp only[Bool.and_eq_true,decide_eq_true_eq] at hq;obtain⟨⟨hzl,hsz⟩,hby⟩:=hq;have hN1:(i+1)*size≤N*size:=Nat.mul_le_mul_right _ hi;have hi1:(i+1)*size=i*size+size:=Nat.succ_mul i size;have htl:(c.take (i*size)).length=i*size:=by rw[length_take];omega
 rcases Nat.eq_zero_or_pos m with hm0|hmp
 ·obtain rfl:N=i+1:=by omega
  subst hm0;have hdr:c.drop ((i+1)*size)=[]:=drop_eq_nil_of_le (by omega);refine V6 (v := .slice (some ⟨b,0,none⟩) i i) (w':=w) hd (fun c e=>by cases e) ?_ (k _ _ ?_)
  ·simp[execOp,resolve,invoke,builtin,hx,hy,HZ (w:=w) hT u (Nat.le_refl i)]
  ·rw[hdr,append_nil];refine ZK (spare:=c.drop (i*size)++spare) htl ⟨Nat.le_refl _,by omega⟩ (by simp) ?_;rw[← append_assoc,take_append_drop];exact H
 ·have hbk:=H.pts;obtain⟨j,hj,e2⟩:=Option.map_eq_some_iff.1 hT.info;simp only[Prod.mk.injEq] at e2;obtain⟨i1,i2⟩:=e2;obtain⟨j',hj',hz'⟩:=Option.map_eq_some_iff.1 hz.zero;have:j'=j:=by rw[hj] at hj';cases hj';rfl
  subst this;have hzc:zv.cells.size=size:=by rw[DB,hzl]
  have hdl:(c.drop ((i+1)*size)).length=m*size:=by rw[length_drop,hc,← Nat.sub_mul,hm]
  have him:i+m+1=N:=by omega
  have bb:N≤N*bytes:=Nat.le_mul_of_pos_right N hby;have mb:N≤N*size:=Nat.le_mul_of_pos_right N hsz;have hNb:N*bytes≤c.length*bytes:=Nat.mul_le_mul_right _ (by rw[hc];exact mb);have hib:(i+m)*bytes≤N*bytes:=Nat.mul_le_mul_right _ (by omega)
  have holds:∀ q v,(c.take (i*size))[q]? = some v→w.cell? ((⟨b,0,none⟩:Addr).add q)=some v:=fun q v hv=>by
   rw[ZX,Nat.zero_add];refine Zl hbk ?_;have h1:=(List.getElem?_eq_some_iff.1 hv).1;rw[htl] at h1;rw[getElem?_append_left (by omega)];rw[getElem?_take_of_lt h1] at hv;exact hv
  have hnews:∀ q v,(c.drop ((i+1)*size))[q]? = some v→w.cell? ((⟨b,o',none⟩:Addr).add q)=some v:=fun q v hv=>by
   rw[ZX,ho hmp];refine Zl hbk ?_;have h1:=(List.getElem?_eq_some_iff.1 hv).1;rw[hdl] at h1;rw[getElem?_drop] at hv;rw[getElem?_append_left (List.getElem?_eq_some_iff.1 hv).1];exact hv
  have hr:=run_append_grow (P:=P) w t u e j' zv hT.und hj hz' ⟨b,0,none⟩ i i (c.take (i*size)) (by rw[i1];exact htl) holds ⟨b,o',none⟩ m c2 (c.drop ((i+1)*size)) (by rw[i1];exact hdl) hnews (by omega) (by omega)
   (growslice_fits (by omega) (by rw[i2];omega))
  refine V6 (v := .slice (some ⟨w.heap.size,0,none⟩) (i+m) (grownCap w (i+m) i e)) (w':=w.drew.alloc (.cells ((c.take (i*size)).toArray++(c.drop ((i+1)*size)).toArray++Builtin.zeroCells zv.cells (grownCap w (i+m) i e - (i+m))) e)) hd (fun c e=>by cases e) (by simp only[execOp,resolve,invoke,builtin,Sem.run_bind,Sem.run_pure,Result.andThen_ok,map_toArray,map_cons,map_nil,hx,hy,hr]) (k _ _ ?_);have hg:i+m≤grownCap w (i+m) i e∧grownCap w (i+m) i e≤9223372036854775807:=⟨grownCap_ge w (i+m) i e,grownCap_le_maxLen w (i+m) i e (by unfold maxLen;omega)⟩;refine ZK (spare:=(Builtin.zeroCells zv.cells (grownCap w (i+m) i e - (i+m))).toList) (by rw[length_append,htl,hdl,Nat.add_mul]) hg (by simp[size_zeroCells,hzc]) ?_;have H':Q0 w.drew l:=H.drop.heap rfl;have:=H'.new (.cells ((c.take (i*size)).toArray++(c.drop ((i+1)*size)).toArray++Builtin.zeroCells zv.cells (grownCap w (i+m) i e - (i+m))) e (0,0));refine this.head fun h x=>?_;have e3:(c.take (i*size)).toArray++(c.drop ((i+1)*size)).toArray++Builtin.zeroCells zv.cells (grownCap w (i+m) i e - (i+m))=(c.take (i*size)++c.drop ((i+1)*size)++(Builtin.zeroCells zv.cells (grownCap w (i+m) i e - (i+m))).toList).toArray:=by apply Array.ext';simp
  rw[e3] at x;exact x
end
end Go.SL
namespace Go.SL
open List
section
variable {P:Program} {n:Nat} {r:Option Nat} {Q:YQ} {ms:List Nat} {σ:QU} {w:World} {l:List Q2}
theorem T0 [Q4] {m0 l0 D:Nat} {ps0:List Tmp} {assign0 body0:Code} {σ0:QU} {g:Operand} {ps:List Tmp} {assign body:Code} {f:FuncId} {a b:List Value} (H:Q0 w (LR m0 l0 ps0 assign0 body0 σ0 D .busy::l)) (hg:ev σ g = .func (.func f) a.toArray b.toArray) [hB:QV P f]
  (k : ∀ yl w1, Q0 w1 (LR n yl ps assign body σ D .ready :: LR m0 l0 ps0 assign0 body0 σ0 D .busy :: l) →
   Calls P f ((a++[Value.func (.yield yl) #[] #[]])++b).toArray w1 (ret fun _ w2=>∃ l2,Q0 w2 (LR n yl ps assign body σ D .ready::l2)∧∀ w3,Q0 w3 l2→Q .normal ms σ w3)) :
  C P n (some l0) (.rangeFunc g ps.toArray assign body) Q ms σ w:=by
 intro act ra;refine wpIn_rangeFunc ?_;intro fn _;obtain⟨fn0,tmps0,a1,a2,H1⟩:=A1 H;have H2:=H1.new (.loop { state := .ready,pending:=none,fn,tmps:=act.tmps,params:=ps.toArray,assign,body,defers:=D });have H3:=BA (m:=n) ra.size ra.val H2;have hc:=k _ _ (BA (m:=m0) a1 a2 H3.swap).swap
 refine⟨w.heap.size,[],w.alloc (.loop { state := .ready,pending:=none,fn,tmps:=act.tmps,params:=ps.toArray,assign,body,defers:=D }),
  { target := .fn (.func f) b.toArray,args:=(a++[Value.func (.yield w.heap.size) #[] #[]]).toArray },w.alloc (.loop { state := .ready,pending:=none,fn,tmps:=act.tmps,params:=ps.toArray,assign,body,defers:=D }),f,
  ((a++[Value.func (.yield w.heap.size) #[] #[]])++b).toArray,w.alloc (.loop { state := .ready,pending:=none,fn,tmps:=act.tmps,params:=ps.toArray,assign,body,defers:=D }),run_enterLoop_inner H1.pts fn act.tmps ps.toArray assign body,?_,fun _ _=>trivial,?_,fun hs=>by simp[F] at hs,Fk (r:=some l0) ?_⟩
 ·rw[ra.eval];simp only[rangeCall,resolve,hg,Deferred.ofValue,Sem.run_bind,Sem.run_pure,Result.andThen_ok];simp[ev]
 ·simp only[invoke];rw[DU hB];simp
 ·refine hc.mono fun e w2 q=>?_;cases e with
  | panicked c=>exact q.elim
  | outgrown=>exact q.elim
  | returned v=>
   obtain⟨l2,H4,kq⟩:=q;obtain⟨fn3,tmps3,h13,h23,H5⟩:=A1 H4;refine⟨none,_,run_endLoop H5.pts (by simp),?_⟩;have H6:=(H5.set (w':=w2.putObj w.heap.size (.loop { state := .exhausted,pending:=none,fn:=fn3,tmps:=tmps3,params:=ps.toArray,assign,body,defers:=D })) (World.putObj_heap_same H5.fresh) (fun c hc=>World.putObj_heap_other hc)).drop;refine⟨ms,σ,⟨ra.size,?_,ra.val⟩,kq _ H6⟩;show []++act.defers=_;rw[nil_append,ra.defs]
theorem MU [Q4] {fn:Func} {R:Value→World→Prop} {e:Exit} {vs:List Value} (l:List Q2) (he:e = .normal∨e = .ret) (H:Q0 w (mk ms::l))
  (hv:∀ w',Q0 w' l→UF P σ w' fn.results.toList vs) (hR:∀ w',Q0 w' l→R (KG vs) w'):Kw P n fn R e ms σ w:=
 ⟨he,.inl ⟨l,H,fun w' H' a ra=>⟨_,Lz ra (hv w' H'),hR w' H'⟩⟩⟩
end
end Go.SL
namespace Go
section
variable {F:Fence} {n:Nat} {P:Program} {Q:Exit→Act→World→Prop} {a:Act} {w:World} {b:Frame} {k:List Item} {cs:List Frame}
theorem A3 {c:Code}:step P (lone (b.atR a (.code (.scope c)::k)) cs w) = .next (lone (b.atR a (.code c :: .inScope c::k)) cs w):=
 step_lone_go (by simp[stepG,stepG.exec,Frame.atR])
theorem T3 {c:Code}:step P (lone (b.atR a (.inScope c::k)) cs w) = .next (lone (b.atR a k) cs w):=
 step_lone_go (by simp[stepG,stepG.exec,Frame.atR])
def T4 (Q:Exit→Act→World→Prop):Exit→Act→World→Prop
 | .goto _,_,_=>False
 | e,a,w=>Q e a w
theorem T5 {c:Code} (h:c.wpIn F n P (T4 Q) a w):(Code.scope c).wpIn F n P Q a w:=by
 intro b k cs hro hb hr;have h0:(lone (b.atR a (.code (.scope c)::k)) cs w).fenced P F:=fenced_calm hb hr rfl;obtain⟨e,a₁,w₁,hq,harr⟩:=h b (.inScope c::k) cs hro hb hr;cases e with
 | normal=>exact⟨.normal,a₁,w₁,hq,.head h0 A3 (StepsIn.trans harr (.one (fenced_calm hb hr rfl) T3))⟩
 | exit id=>
  have hx:exitTo id (.inScope c::k)=exitTo id k:=by simp[exitTo]
  exact⟨.exit id,a₁,w₁,hq,fun k' hk => .head h0 A3 (harr.1 k' (by rw[hx];exact hk)),
   fun hr' hk=>let ⟨k₁,h1,h2⟩:=harr.2 hr' (by rw[hx];exact hk);⟨k₁,h1,.head h0 A3 h2⟩⟩
 | goto l=>exact hq.elim
 | ret=>exact⟨_,a₁,w₁,hq,.of_steps (.one h0 A3) harr⟩
 | panic ch=>exact⟨_,a₁,w₁,hq,.of_steps (.one h0 A3) harr⟩
 | outgrown=>exact⟨_,a₁,w₁,hq,.of_steps (.one h0 A3) harr⟩
end
end Go
namespace Go.SL
def T6 (Q:YQ):YQ
 | .goto _,_,_,_=>False
 | e,ms,σ,w=>Q e ms σ w
section
variable {P:Program} {n:Nat} {r:Option Nat} {Q:YQ} {ms:List Nat} {σ:QU} {w:World}
theorem T7 {c:Code} (h:C P n r c (T6 Q) ms σ w):C P n r (.scope c) Q ms σ w:=fun a ra=>
 T5 (wpIn_mono (h a ra) fun e a w q=>by
  cases e with
  | outgrown=>exact q
  | normal=>obtain⟨ms,σ,r,q⟩:=q;exact⟨ms,σ,r,q⟩
  | exit id=>obtain⟨ms,σ,r,q⟩:=q;exact⟨ms,σ,r,q⟩
  | goto l=>obtain⟨ms,σ,r,q⟩:=q;exact q.elim
  | ret=>obtain⟨ms,σ,r,q⟩:=q;exact⟨ms,σ,r,q⟩
  | panic c=>obtain⟨ms,σ,r,q⟩:=q;exact⟨ms,σ,r,q⟩)
end
end Go.SL
namespace Go.SL
open List
section
variable {P:Program} {n:Nat} {r:Option Nat} {σ:QU} {w:World} {o:Oper} {K:QU→World→Prop} {l l':List Q2}
variable {u t:TypeId} {p:String} {af:Array Edge} {g:Option (Nat×Bool)} {d:Option Tmp} {x y z:Operand}
variable {A B:Type} [DecidableEq A] {ek:A→Value} {vv:B→Value} {b:Nat} {m:List (A×B)} {kt et:TypeId}
theorem MX [Q4] (H:Q0 w (mp ek vv b m::l)):∃ es c,Ys ek vv es c m∧Q0 w (pts b (.map es c)::l):=by
 obtain⟨⟨f,g,a,e,d,⟨es,c,h1,h2⟩,y⟩,ok⟩:=H;exact⟨es,c,h2,⟨f,g,a,e,d,h1,y⟩,ok⟩
theorem MK [Q4] {es:Array MapEntry} {c:Nat} (ok:Ys ek vv es c m) (H:Q0 w (pts b (.map es c)::l)):Q0 w (mp ek vv b m::l):=H.head fun h e=>⟨es,c,e,ok⟩
theorem Ys.push {es:Array MapEntry} {c:Nat} (ok:Ys ek vv es c m) {k:A} (hk:k∉m.map (·.1)) (v:B):Ys ek vv (es.push { key:=ek k,val:=vv v,born:=c }) (c+1) (m++[(k,v)]):=by
 refine⟨by simp[ok.ents],?_,?_,?_⟩
 ·have:=DA (x:=k) (v:=v) ok.nodup;rwa [Xg hk] at this
 ·simp only[Array.toList_push,map_append,map_cons,map_nil];refine pairwise_append.2 ⟨ok.rise,by simp,fun a ha c' hc=>?_⟩;obtain⟨q,hq,rfl⟩:=mem_map.1 ha;simp at hc;subst hc;exact ok.born q hq
 ·intro q hq;simp only[Array.toList_push,mem_append,mem_singleton] at hq
  rcases hq with hq|rfl
  ·exact Nat.lt_succ_of_lt (ok.born q hq)
  ·exact Nat.lt_succ_self _
theorem MR [Q4] {ix:Operand} {key:A} {zv:Value} {es:Array MapEntry} {c:Nat} (H:Q0 w (pts b (.map es c)::l)) (ok:Ys ek vv es c m) (hno:key∉m.map (·.1)) (hx:ev σ x = .map (some b)) (hk:ev σ ix=ek key) (TK:GB P kt ek) [hM:Yi P t kt et] [hz:V1 P et zv] (hd:Qh n d=true)
  (k:∀ w',Q0 w' (pts b (.map (es.push { key:=ek key,val:=zv,born:=c }) (c+1))::l)→K (put σ d (.tuple #[zv,.int .i64 c])) w'):St P n r ⟨d,.mapEntry t x ix,u,p,af,g⟩ σ w K:=by
 have h1:w.heap[b]? = some (.map es c):=H.pts;have hlt:b < w.heap.size:=(Array.getElem?_eq_some_iff.1 h1).1
 have hrun:(Instr.mapEntry t (.map (some b)) (ek key)).run P w = .ok (.tuple #[zv,.int .i64 c]) (w.putObj b (.map (es.push { key:=ek key,val:=zv,born:=c }) (c+1))):=by
  unfold Instr.mapEntry;simp only[Sem.run_bind,Vr hM.und,Result.andThen_ok,Ww h1,Sem.run_pure,TK.check]
  rcases ok.find TK w key with ⟨h3,h4⟩|⟨j,y,v,h3,h4,h5,h6⟩
  ·rw[h3];simp only[Result.andThen_ok,Sem.run_bind,Fq hz,Wx _ h1,Sem.run_pure];rfl
  ·exact absurd (mem_map.2 ⟨_,mem_of_getElem? h6,rfl⟩) hno
 refine V6 (v := .tuple #[zv,.int .i64 c]) (w':=w.putObj b (.map (es.push { key:=ek key,val:=zv,born:=c }) (c+1))) hd (fun c e=>by cases e) ?_ (k _ (H.set (World.putObj_heap_same hlt) (fun c hc=>World.putObj_heap_other hc) ⟨rfl,rfl⟩));simp only[execOp,hx,hk,Sem.run_bind,hrun,Result.andThen_ok];rfl
theorem find_born {es:Array MapEntry} {e0:MapEntry} (h:∀ e∈es.toList,e.born < e0.born):(es.push e0).findIdx? (fun e=>(e.born:Int) == (e0.born:Int))=some es.size:=by
 rw[Array.findIdx?_push,Array.findIdx?_eq_none_iff.2]
 ·simp
 ·intro e he;have:=h e (by simpa using he);rw[beq_eq_false_iff_ne];omega
theorem MW [Q4] {st:Operand} {kx zv v:Value} {es:Array MapEntry} {c c2:Nat} (H:Q0 w (pts b (.map (es.push { key:=kx,val:=zv,born:=c }) c2)::l)) (hb:∀ e∈es.toList,e.born < c) (hx:ev σ x = .map (some b)) (hs:ev σ st = .int .i64 c) (hv:ev σ y=v) (hd:Qh n d=true)
  (k:∀ w',Q0 w' (pts b (.map (es.push { key:=kx,val:=v,born:=c }) c2)::l)→K (put σ d undef) w'):St P n r ⟨d,.entryStore t x st y,u,p,af,g⟩ σ w K:=by
 have h1:w.heap[b]? = some (.map (es.push { key:=kx,val:=zv,born:=c }) c2):=H.pts;have hlt:b < w.heap.size:=(Array.getElem?_eq_some_iff.1 h1).1
 have hmod:(es.push { key:=kx,val:=zv,born:=c }).modify es.size (fun e=>{ e with val:=v })=es.push { key:=kx,val:=v,born:=c }:=by
  apply Array.ext_getElem?;intro i;rw[Array.getElem?_modify,Array.getElem?_push,Array.getElem?_push];by_cases hi:es.size=i
  ·subst hi;simp
  ·rw[if_neg hi,if_neg (fun h=>hi h.symm),if_neg (fun h=>hi h.symm)]
 have hf:(es.push { key:=kx,val:=zv,born:=c }).findIdx? (fun e=>(e.born:Int) == (c:Int))=some es.size:=find_born (es:=es) (e0:={ key:=kx,val:=zv,born:=c }) hb
 have hrun:(Instr.entryStore t (.map (some b)) (.int .i64 c) v).run P w = .ok () (w.putObj b (.map (es.push { key:=kx,val:=v,born:=c }) c2)):=by
  unfold Instr.entryStore;simp only[Sem.run_bind,Result.andThen_ok,Ww h1,Sem.run_pure,asInt,asIntOf,hf,hmod];exact Wx _ h1
 refine DG (w':=w.putObj b (.map (es.push { key:=kx,val:=v,born:=c }) c2)) hd (fun c e=>by cases e) ?_ (k _ (H.set (World.putObj_heap_same hlt) (fun c hc=>World.putObj_heap_other hc) ⟨rfl,rfl⟩));simp only[execOp,hx,hs,hv,Sem.run_bind,hrun,Result.andThen_ok];rfl
end
end Go.SL
namespace Go.SL
open List
section
variable {P:Program} {n:Nat} {r:Option Nat} {ops:Array Oper} {Q:YQ} {ms:List Nat} {σ:QU} {w:World} {rest:List Oper} {o:Oper} {K:QU→World→Prop} {l l':List Q2}
variable {ivs:List (List Nat×(World→Prop))} {T:QU→World→Prop} {f:Nat} {L:Array Bool}
variable {u t:TypeId} {p:String} {af:Array Edge} {g:Option (Nat×Bool)} {d:Option Tmp} {x y z:Operand}
theorem T8 [Q4] {e size bytes:Nat} {zv:Value} (hT:VW P t e size bytes) (hz:V1 P e zv) (hzl:(Qv zv).length=size) (hsz:0 < size) (hby:0 < bytes) {s:Value} {cs new:List Value} {m c:Nat} {a:Addr} {l:List Q2} (H:Q0 w (QX e size s cs::l))
  (ty:TypeId) (hm:0 < m) (hnl:new.length=m*size) (hnews:∀ j v,new[j]? = some v→w.cell? (a.add j)=some v) (h1:∀ v∈new,v.oneCell'=true)
  (hb:∀ n,cs.length=n*size→(n+m)*bytes≤140737488355328) :
  ∃ v' w',(Builtin.append_ #[t,t] ty #[s,.slice (some a) m c]).run P w = .ok v' w'∧Q0 w' (QX e size v' (cs++new)::l):=by
 obtain⟨i,hi,e2⟩:=Option.map_eq_some_iff.1 hT.info;simp only[Prod.mk.injEq] at e2;obtain⟨i1,i2⟩:=e2;obtain⟨i',hi',hz'⟩:=Option.map_eq_some_iff.1 hz.zero;have:i'=i:=by rw[hi] at hi';cases hi';rfl
 subst this;have hzc:zv.cells.size=size:=by rw[DB,hzl]
 have mb:∀ k,k≤k*size:=fun k=>Nat.le_mul_of_pos_right k hsz;have bb:∀ k,k≤k*bytes:=fun k=>Nat.le_mul_of_pos_right k hby
 rcases GD H with ⟨rfl,rfl,H2⟩|⟨b,len,cap,spare,rfl,e3,e4,e5,H2⟩
 ·have hb0:=hb 0 (by simp);rw[Nat.zero_add] at hb0;have hr:=run_append_nil (P:=P) w t ty e i' zv hT.und hi hz' a m c new (by rw[i1];exact hnl) hnews hm (by have:=bb m;omega) (by rw[i2];omega);refine⟨_,_,hr,?_⟩;have hg:m≤grownCap w m 0 e∧grownCap w m 0 e≤9223372036854775807:=⟨grownCap_ge w m 0 e,grownCap_le_maxLen w m 0 e (by have:=bb m;unfold maxLen;omega)⟩;refine ZK (spare:=(Builtin.zeroCells zv.cells (grownCap w m 0 e - m)).toList) (by simpa using hnl) hg (by simp[size_zeroCells,hzc]) ?_;have H':Q0 w.drew l:=H2.heap rfl;have:=H'.new (.cells (new.toArray++Builtin.zeroCells zv.cells (grownCap w m 0 e - m)) e (0,0));refine this.head fun h x=>?_;have e:new.toArray++Builtin.zeroCells zv.cells (grownCap w m 0 e - m)=([]++new++(Builtin.zeroCells zv.cells (grownCap w m 0 e - m)).toList).toArray:=by apply Array.ext';simp
  rw[e] at x;exact x
 ·have hbk:=H2.pts;have hbn:=hb len e3;by_cases hroom:len+m≤cap
  ·have hsp:m*size≤spare.length:=Nat.le_trans (Nat.mul_le_mul_right _ (by omega)) e5
   have hr:=run_append_room (P:=P) w t ty e i' hT.und hi b len cap (cs++spare).toArray hbk a m c new (by rw[i1];exact hnl) hnews h1 hroom (by
    simp only[size_toArray,length_append,i1,e3,hnl];omega)
   refine⟨_,_,hr,?_⟩;refine ZK (spare:=spare.drop new.length) (by simp[e3,hnl,Nat.add_mul]) ⟨hroom,e4.2⟩ ?_ ?_
   ·have e6:(cap - (len+m))*size=(cap - len)*size - m*size:=by rw[← Nat.sub_mul,Nat.sub_sub]
    rw[length_drop,hnl,e6];omega
   ·have hh:=setRow_heap w b (cs++spare).toArray ((cs++spare).toArray.toList.take (len*i'.size)++new++(cs++spare).toArray.toList.drop (len*i'.size+new.length)).toArray e _ hbk;refine(H2.set hh (fun k hk=>setRow_other w b k _ hk)).head fun h x=>?_
    have e:(cs++spare).toArray.toList.take (len*i'.size)++new++(cs++spare).toArray.toList.drop (len*i'.size+new.length)=cs++new++spare.drop new.length:=by
     rw[i1,← e3];show (cs++spare).take cs.length++new++(cs++spare).drop (cs.length+new.length)=_;rw[take_left,← drop_drop,drop_left]
    rw[e] at x;exact x
  ·have holds:∀ j u,cs[j]? = some u→w.cell? ((⟨b,0,none⟩:Addr).add j)=some u:=fun j u hj=>by
    rw[ZX];refine Zl hbk ?_;rw[Nat.zero_add,getElem?_append_left ((List.getElem?_eq_some_iff.1 hj).1)];exact hj
   have hadd:(len+m)*bytes=len*bytes+m*bytes:=Nat.add_mul _ _ _
   have hr:=run_append_grow (P:=P) w t ty e i' zv hT.und hi hz' ⟨b,0,none⟩ len cap cs (by rw[i1];exact e3) holds a m c new (by rw[i1];exact hnl) hnews (by omega) (by have:=bb (len+m);omega)
    (growslice_fits (by omega) (by rw[i2];omega))
   refine⟨_,_,hr,?_⟩;have hg:len+m≤grownCap w (len+m) cap e∧grownCap w (len+m) cap e≤9223372036854775807:=⟨grownCap_ge w (len+m) cap e,grownCap_le_maxLen w (len+m) cap e (by have:=bb (len+m);unfold maxLen;omega)⟩;refine ZK (spare:=(Builtin.zeroCells zv.cells (grownCap w (len+m) cap e - (len+m))).toList) (by simp[e3,hnl,Nat.add_mul]) hg (by simp[size_zeroCells,hzc]) ?_;have H':Q0 w.drew l:=H2.drop.heap rfl;have:=H'.new (.cells (cs.toArray++new.toArray++Builtin.zeroCells zv.cells (grownCap w (len+m) cap e - (len+m))) e (0,0));refine this.head fun h x=>?_;have e:cs.toArray++new.toArray++Builtin.zeroCells zv.cells (grownCap w (len+m) cap e - (len+m))=(cs++new++(Builtin.zeroCells zv.cells (grownCap w (len+m) cap e - (len+m))).toList).toArray:=by apply Array.ext';simp
   rw[e] at x;exact x
theorem T9 [Q4] {e size bytes:Nat} {zv:Value} [hT:VW P t e size bytes] [hz:V1 P e zv] {s:Value} {cs new c2:List Value} {m cap b o E:Nat} {fz:Nat×Nat} (H:Q0 w (QX e size s cs::l))
  (hx:ev σ x=s) (hy:ev σ y = .slice (some ⟨b,o,none⟩) m cap) [ha:At b (.cells c2.toArray E fz) l] (hn:Q9 c2 o (m*size) new) (h1:new.all (·.oneCell')=true) (hm:0 < m)
  (hb:∀ n,cs.length=n*size→(n+m)*bytes≤140737488355328) (hd:Qh n d=true) (hq:(decide ((Qv zv).length=size) && decide (0 < size) && decide (0 < bytes))=true)
  (k:∀ v' w',Q0 w' (QX e size v' (cs++new)::l)→K (put σ d v') w'):St P n r ⟨d,.call { callee := .builtin .append,args:=#[x,y],argTypes:=#[t,t] },u,p,af,g⟩ σ w K:=by
 simp only[Bool.and_eq_true,decide_eq_true_eq] at hq;have hbk:w.heap[b]? = some (.cells c2.toArray E fz):=ha.get _ H.drop.1;obtain⟨v',w',hr,H'⟩:=T8 (w:=w) (c:=cap) (a:=⟨b,o,none⟩) (m:=m) hT hz hq.1.1 hq.1.2 hq.2 H u hm hn.len (fun j v hj=>by rw[ZX];exact Zl hbk (hn.get j v hj)) (all_eq_true.1 h1) hb;refine V6 (v:=v') (w':=w') hd (fun c e=>by cases e) ?_ (k v' w' H');simp[execOp,resolve,invoke,builtin,hx,hy,hr]
end
end Go.SL
namespace Go.SL
open List
open Go.ChangeShapes
section
variable {H:Type} {enc:TypeId×Value→H} {P:Program} {W W':World}
theorem MB (hl:laidOutB P=true):∀ {ts:List TypeId} {vs:List Value} {ds:List (DataW H)} {ps:List MemPlace} {sp:Nat→Bool},(∀ t∈ts,P.readableRec t=true∧t < P.types.size) →
  DataW.TrodAll enc P W 0 (fun _=>true) true ts vs ds ps→(∀ p∈ps,W.sameAt W' p)→(∀ p∈ps,sp p.block=true)→DataW.TrodAll enc P W' 0 sp true ts vs ds ps
 | [],[],[],_,_,_,h,_,_=>h
 | t::ts,v::vs,d::ds,_,sp,hr,⟨p,q,h,hs,e⟩,same,hsp=>by
  subst e;have hr0:=hr t (by simp)
  exact⟨p,q,Go.WideElems.Trod_stays hl hr0.1 hr0.2 h (fun x hx=>same x (mem_append_left _ hx)) (fun x hx=>hsp x (mem_append_left _ hx)),
   MB hl (fun t ht=>hr t (by simp[ht])) hs (fun x hx=>same x (mem_append_right _ hx)) (fun x hx=>hsp x (mem_append_right _ hx)),rfl⟩
theorem MA {f:Func} {s:ChangeSpec} {args:Array Value} {v:Value} {ds gs:List (DataW H)} {before:List MemPlace} (hl:laidOutB P=true) (hts:∀ t∈f.params.toList,P.readableRec t=true∧t < P.types.size)
  (hv:s.vars=[]) (hW:DataW.Whole enc P f.params.toList s.vars false W args.toList ds gs before) (hh:∀ b,b < W.heap.size→W'.heap[b]? = W.heap[b]?) (hos:W'.os=W.os) (hout:W'.output=W.output)
  (ha:(s.fn H (ds++gs)).args=ds) (hva:(s.fn H (ds++gs)).vars=[])
  (hres:DataW.TrodAll enc P W' W.heap.size (fun _=>false) false f.resultTypes.toList (v.resultList f.resultTypes.size) (s.fn H (ds++gs)).results []):s.post enc P f false true false false W args v W':=by
 have hlt:=hW.lt;have hW':=hW;obtain⟨p,q,h1,h2,rfl,h3,h4⟩:=hW;rw[hv] at h2;obtain⟨rfl,rfl⟩:=trodVars_none h2
 have same:∀ x∈p,W.sameAt W' x:=by
  intro x hx;have hb:=hlt x (by simp[hx]);cases x with
  | cell b off=>show W'.cell? _=W.cell? _;unfold World.cell?;rw[hh b hb]
  | map b=>exact hh b hb
 have hsp:∀ x∈p,(fun b=>decide (b < W.heap.size)) x.block=true:=fun x hx=>by
  have:=hlt x (by simp[hx]);simpa using this
 refine⟨ds,[],p++[],[],p,[],hW',hres,?_,?_,⟨hos,hout,fun i hi=>?_⟩,fun h=>by cases h⟩
 ·rw[ha];exact MB hl hts h1 same hsp
 ·rw[hva,hv];show ([]:List MemPlace)=[];rfl
 ·rw[hh i hi];cases hx:W.heap[i]? with
  | none=>trivial
  | some o=>cases o <;> simp
end
end Go.SL
