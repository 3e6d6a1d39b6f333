/- Cells: what is proved on the way: every input of the statement; no condition. Texts joined: SlS Srt Srd SlJ SlI SlQ SlO SlR SlZ. -/
import Derived.Test.YtmjdnljneifpcaaGreatDoorBbb
import Derived.Shelf.SlSortCmp.NoneTotal
import Derived.Shelf.SlGeneric
import Derived.Ground.SlsfProg
import Derived.Test.YtmjdnljneifpcaaGreatDoorProg
import Derived.Shelf.Slices.Delete
import Derived.Ground.Names2Prog
import Derived.Test.YtmjdnljneifpcaaGreatDoorBbc
import Derived.RangeFuncNested
import Derived.WideKeyArgs
import Derived.ChangeOld
import Derived.OpenShut
import Derived.ProofKit
import Derived.Deep.Slices
set_option linter.unusedVariables false
set_option linter.unusedSimpArgs false
set_option linter.unusedSectionVars false
namespace Go.SL
open Go.Sort Go.Proofs
section
variable {α:Type} [Inhabited α] {enc:α→List Value} {k:Nat}
theorem Q5y (hk:∀ x,(enc x).length=k):∀ l:List α,(l.flatMap enc).length=l.length*k
 | []=>by simp
 | x::l=>by simp only[List.flatMap_cons,List.length_append,hk,Q5y hk l,List.length_cons,Nat.succ_mul];omega
theorem V2k (hk:∀ x,(enc x).length=k) (k0:0 < k):∀ (l:List α) (t:Nat),(l.flatMap enc)[t]? = (l[t / k]?).bind fun x=>(enc x)[t % k]?
 | [],t=>by simp
 | x::l,t=>by
  rw[List.flatMap_cons];by_cases h:t < k
  ·rw[List.getElem?_append_left (by rw[hk];exact h),Nat.div_eq_of_lt h,Nat.mod_eq_of_lt h];simp
  ·rw[List.getElem?_append_right (by rw[hk];omega),hk,V2k hk k0 l (t - k)];have e1:t / k=(t - k) / k+1:=Nat.div_eq_sub_div k0 (by omega);have e2:t % k=(t - k) % k:=Nat.mod_eq_sub_mod (by omega);rw[e1,e2];simp
theorem Y2e (hk:∀ x,(enc x).length=k) (k0:0 < k) (d:Array α):flatK enc k d=(d.toList.flatMap enc).toArray:=by
 apply Array.ext';apply List.ext_getElem?;intro t;show (flatK enc k d).toList[t]? = (d.toList.flatMap enc)[t]?;rw[V2k hk k0];by_cases h:t < d.size*k
 ·have hd:t / k < d.size:=(Nat.div_lt_iff_lt_mul k0).2 h;have hm:=Nat.mod_lt t k0;have h2:=get_flatK enc k d t h;rw[getElem!_pos _ t (by simpa using h)] at h2;rw[Array.getElem?_toList,Array.getElem?_eq_getElem (by simpa using h),h2,getElem!_pos d _ hd,getElem!_pos _ _ (by rw[hk];exact hm)];simp[hd,hk,hm]
 ·have hd:d.size≤t / k:=(Nat.le_div_iff_mul_le k0).2 (by omega);rw[List.getElem?_eq_none (by simp;omega),List.getElem?_eq_none (by simpa using hd)];rfl
theorem Y4t (F cs spare:List Value) (h:F.length=cs.length):putCells id 0 F.toArray (cs++spare).toArray=(F++spare).toArray:=by
 apply Array.ext';apply List.ext_getElem?;intro t;simp only[putCells,Array.getElem?_toList,Array.getElem?_mapIdx,List.getElem?_toArray,Nat.zero_le,true_and,Nat.zero_add,Nat.sub_zero,List.size_toArray,id];by_cases ht:t < F.length
 ·rw[List.getElem?_append_left (by omega),List.getElem?_append_left ht];have h2:t < cs.length:=by omega
  simp[h2,ht]
 ·rw[List.getElem?_append_right (by omega),List.getElem?_append_right (by omega),h];have h2:¬ t < cs.length:=by omega
  simp[ht,h2]
theorem Z6g [Q0i] (hk:∀ x,(enc x).length=k) (k0:0 < k) {w:World} {b m E:Nat} {d':Array α} {os:Array Obj} {cs spare:List Value} {l:List Q0e} (H:Q0a w (pts b (row E (cs++spare))::l)) (hl:cs.length=d'.size*k) :
  Q0a (sortWorldK enc k w b 0 m d' os) (pts b (row E (d'.toList.flatMap enc++spare))::l):=by
 have hb:=H.pts;have hlt:=H.fresh;have e1:(putRowK enc k (Sort.ahead w m) b 0 d').heap=w.heap.modify b (onCells (putCells id 0 (flatK enc k d'))):=rfl
 have H1:Q0a (putRowK enc k (Sort.ahead w m) b 0 d') (pts b (row E (d'.toList.flatMap enc++spare))::l):=by
  refine H.set ?_ ?_
  ·rw[e1,Array.getElem?_modify,if_pos rfl,hb];simp only[Option.map_some,row,onCells];rw[Y2e hk k0,Y4t _ _ _ (by rw[Q5y hk,hl];simp)]
  ·intro c hc;rw[e1,Array.getElem?_modify,if_neg (Ne.symm hc)]
 refine H1.up (fun c o hc=>?_) ⟨rfl,rfl⟩;show ((putRowK enc k (Sort.ahead w m) b 0 d').heap++os)[c]? = some o;have:=(Array.getElem?_eq_some_iff.1 hc).1;rw[Array.getElem?_append_left this];exact hc
open Go.Proofs Go.Shelf in
theorem Y4u [Q0i] {P:Program} {ρ:Ren} (L:SlLaysF0.n6 P ρ) {t:TypeId} (ht:ρ.t 24=t) (hN:TN P t k) (k0:0 < k) (hk:∀ x,(enc x).length=k) (h1:∀ x,∀ v∈enc x,v.oneCell'=true)
  (cf:α→α→Int) (hO:SWO (ltOf cf)) {g:Nat} (hg:Q0p P g)
  (hc:∀ (x y:α) (W:World),Calls P g #[.agg (enc x).toArray,.agg (enc y).toArray] W fun e w'=>e = .returned (.int .i64 (cf x y))∧∃ q os',w'=grow (W.drewN q) os')
  {E:TypeId} {v:Value} {d:List α} {w:World} {l:List Q0e} (H:Q0a w (sls E k v (d.flatMap enc)::l)) (hsz:d.length < 4611686018427387904) :
  Calls P (ρ.f 6) #[v,.func (.func g) #[] #[]] w (ret fun _ w'=>∃ d':List α,d'.Perm d∧d'.Pairwise (fun a b=>ltOf cf b a=false)∧Q0a w' (sls E k v (d'.flatMap enc)::l)):=by
 subst ht
 rcases Q4n H with ⟨rfl,h0,H'⟩|⟨b,len,cap,spare,rfl,e3,e4,e5,H'⟩
 ·have hd:d=[]:=by
   have:=Q5y hk d;rw[h0] at this;have h2:d.length*k=0:=this.symm
   rcases Nat.mul_eq_zero.1 h2 with h|h
   ·exact List.eq_nil_of_length_eq_zero h
   ·omega
  subst hd;refine(AnyF.slices_SortFunc_none L none 0 _ w).mono ?_;rintro e w' ⟨rfl,rfl⟩;exact⟨[],List.Perm.refl _,List.Pairwise.nil,Q3x H'⟩
 ·have hb:=H'.pts
  have hlen:len=d.length:=by
   have:=Q5y hk d;rw[e3] at this;exact Nat.eq_of_mul_eq_mul_right k0 this
  subst hlen
  have hH:HoldsK enc k w b 0 d.toArray:=by
   intro j hj;rw[size_flatK] at hj;rw[Y2e hk k0,Nat.zero_add];have hj':j < (d.flatMap enc).length:=by rw[e3];simpa using hj
   refine⟨?_,Q7b hb⟩;refine Q4b hb ?_;rw[List.getElem?_append_left hj',List.getElem?_eq_getElem hj'];show some _=some ((d.flatMap enc).toArray[j]!);rw[getElem!_pos _ j (by simpa using hj')];simp
  have:=AnyQ.slices_SortFunc L k (fun w=>V5b hN) (fun w=>Q2j hN.size) enc hk h1 cf hO g #[] b 0 cap d.toArray w (fun args w=>V0s hg args) (fun m os dk hs x y=>by simpa using hc x y _) hH H'.fresh (by simpa using hsz);rw[show d.toArray.size=d.length by simp] at this;refine this.mono ?_;rintro e w' ⟨rfl,d',n,os,hp,hs,rfl⟩;have hsize:d'.size=d.length:=by rw[hp.1];simp
  have hx:∀ a:Array α,a.size=d.length→a.extract 0 d.length=a:=fun a ha=>by rw[← ha];simp
  refine⟨d'.toList,?_,?_,?_⟩
  ·have h2:=hp.2.2;rw[hx d' hsize,hx d.toArray (by simp)] at h2;simpa using h2
  ·rw[List.pairwise_iff_getElem];intro i j hi hj hij;have:=hs i j (Nat.zero_le _) hij (by simp at hj ⊢;omega);rw[getElem!_pos d' i (by simpa using hi),getElem!_pos d' j (by simpa using hj)] at this;simpa using this
  ·have hl:(d'.toList.flatMap enc).length=d.length*k:=by rw[Q5y hk];simp[hsize]
   exact Q5x hl e4 e5 (Z6g hk k0 H' (by rw[e3,hsize]))
end
end Go.SL
namespace Go.Proofs
open Go.Shelf
def Tryz.sortRef_ren : Go.Shelf.Ren := ⟨fun | 6 => 245 | 15 => 116 | 14 => 259 | 28 => 196 | 29 => 197 | 20 => 263 | 21 => 264 | 22 => 265 | 23 => 266 | 24 => 267 | 25 => 268 | 26 => 269 | 27 => 270 | 46 => 271 | 47 => 240 | 48 => 241 | 49 => 272 | 50 => 273 | 57 => 274 | n => n, fun | 22 => 130 | 24 => 133 | 25 => 296 | 3 => 3 | 39 => 164 | 0 => 0 | 53 => 289 | 55 => 83 | 4 => 4 | 46 => 283 | 45 => 282 | 50 => 202 | 5 => 5 | 9 => 9 | 66 => 318 | 70 => 322 | 76 => 331 | 77 => 190 | n => n, fun | n => n⟩
theorem Tryz.sortRef : Go.Proofs.SlLaysF0.n6 Tryz.prog Tryz.sortRef_ren := {
  mixed := by kernel_rfl
  f6 := ⟨Tryz.f245.name, by decide, Tryz.func245.trans (congrArg some (by kernel_rfl))⟩
  f14 := ⟨Tryz.f259.name, by decide, Tryz.func259.trans (congrArg some (by kernel_rfl))⟩
  f15 := Tryz.func116.trans (congrArg some (by kernel_rfl))
  f20 := ⟨Tryz.f263.name, by decide, Tryz.func263.trans (congrArg some (by kernel_rfl))⟩
  f21 := ⟨Tryz.f264.name, by decide, Tryz.func264.trans (congrArg some (by kernel_rfl))⟩
  f22 := ⟨Tryz.f265.name, by decide, Tryz.func265.trans (congrArg some (by kernel_rfl))⟩
  f23 := ⟨Tryz.f266.name, by decide, Tryz.func266.trans (congrArg some (by kernel_rfl))⟩
  f24 := ⟨Tryz.f267.name, by decide, Tryz.func267.trans (congrArg some (by kernel_rfl))⟩
  f25 := ⟨Tryz.f268.name, by decide, Tryz.func268.trans (congrArg some (by kernel_rfl))⟩
  f26 := ⟨Tryz.f269.name, by decide, Tryz.func269.trans (congrArg some (by kernel_rfl))⟩
  f27 := ⟨Tryz.f270.name, by decide, Tryz.func270.trans (congrArg some (by kernel_rfl))⟩
  f28 := Tryz.func196.trans (congrArg some (by kernel_rfl))
  f29 := Tryz.func197.trans (congrArg some (by kernel_rfl))
  f46 := ⟨Tryz.f271.name, by decide, Tryz.func271.trans (congrArg some (by kernel_rfl))⟩
  f47 := Tryz.func240.trans (congrArg some (by kernel_rfl))
  f48 := Tryz.func241.trans (congrArg some (by kernel_rfl))
  f49 := ⟨Tryz.f272.name, by decide, Tryz.func272.trans (congrArg some (by kernel_rfl))⟩
  f50 := ⟨Tryz.f273.name, by decide, Tryz.func273.trans (congrArg some (by kernel_rfl))⟩
  f57 := ⟨Tryz.f274.name, by decide, Tryz.func274.trans (congrArg some (by kernel_rfl))⟩
  t0 := Tryz.underlying0
  a0 := Tryz.isAgg0
  z0 := Tryz.sizeOf0
  v0 := Tryz.zeroValue0
  t3 := Tryz.underlying3
  a3 := Tryz.isAgg3
  z3 := Tryz.sizeOf3
  v3 := Tryz.zeroValue3
  t4 := Tryz.underlying4
  a4 := Tryz.isAgg4
  z4 := Tryz.sizeOf4
  v4 := Tryz.zeroValue4
  t5 := Tryz.underlying5
  a5 := Tryz.isAgg5
  z5 := Tryz.sizeOf5
  v5 := Tryz.zeroValue5
  t9 := Tryz.underlying9
  a9 := Tryz.isAgg9
  z9 := Tryz.sizeOf9
  v9 := Tryz.zeroValue9
  t22 := Tryz.underlying130
  a22 := Tryz.isAgg130
  z22 := Tryz.sizeOf130
  v22 := Tryz.zeroValue130
  t25 := Tryz.underlying296
  a25 := Tryz.isAgg296
  z25 := Tryz.sizeOf296
  v25 := Tryz.zeroValue296
  t39 := Tryz.underlying164
  a39 := Tryz.isAgg164
  z39 := Tryz.sizeOf164
  v39 := Tryz.zeroValue164
  t45 := Tryz.underlying282
  a45 := Tryz.isAgg282
  z45 := Tryz.sizeOf282
  v45 := Tryz.zeroValue282
  t46 := Tryz.underlying283
  a46 := Tryz.isAgg283
  z46 := Tryz.sizeOf283
  v46 := Tryz.zeroValue283
  t50 := Tryz.underlying202
  a50 := Tryz.isAgg202
  z50 := Tryz.sizeOf202
  v50 := Tryz.zeroValue202
  t53 := Tryz.underlying289
  a53 := Tryz.isAgg289
  z53 := Tryz.sizeOf289
  v53 := Tryz.zeroValue289
  t55 := Tryz.underlying83
  a55 := Tryz.isAgg83
  z55 := Tryz.sizeOf83
  v55 := Tryz.zeroValue83
  t66 := Tryz.underlying318
  a66 := Tryz.isAgg318
  z66 := Tryz.sizeOf318
  v66 := Tryz.zeroValue318
  t70 := Tryz.underlying322
  a70 := Tryz.isAgg322
  z70 := Tryz.sizeOf322
  v70 := Tryz.zeroValue322
  t76 := Tryz.underlying331
  a76 := Tryz.isAgg331
  z76 := Tryz.sizeOf331
  v76 := Tryz.zeroValue331
  t77 := Tryz.underlying190
  a77 := Tryz.isAgg190
  z77 := Tryz.sizeOf190
  v77 := Tryz.zeroValue190 }
end Go.Proofs
namespace Go.Proofs
open Go.Shelf
def Tryz.laysDel_ren : Go.Shelf.Ren := ⟨fun | 23 => 210 | n => n, fun | 22 => 31 | 3 => 3 | 4 => 4 | 0 => 0 | n => n, fun | n => n⟩
theorem Tryz.laysDel : Go.Proofs.Lays2.n23 Tryz.prog Tryz.laysDel_ren := {
  mixed := by kernel_rfl
  f23 := Tryz.func210.trans (congrArg some (by kernel_rfl))
  t0 := Tryz.underlying0
  a0 := Tryz.isAgg0
  z0 := Tryz.sizeOf0
  v0 := Tryz.zeroValue0
  t3 := Tryz.underlying3
  a3 := Tryz.isAgg3
  z3 := Tryz.sizeOf3
  v3 := Tryz.zeroValue3
  t4 := Tryz.underlying4
  a4 := Tryz.isAgg4
  z4 := Tryz.sizeOf4
  v4 := Tryz.zeroValue4
  t22 := Tryz.underlying31
  a22 := Tryz.isAgg31
  z22 := Tryz.sizeOf31
  v22 := Tryz.zeroValue31
  i3 := by kernel_rfl }
end Go.Proofs
namespace Go.SL
section
variable {P:Program} {n:Nat} {r:Option Nat} {ops:Array Oper} {Q:V3f} {ms:List Nat} {σ:Env} {w:World} {rest:List Oper} {o:Oper} {K:Env→World→Prop} {l l':List Q0e}
variable {ivs:List (List Nat×(World→Prop))} {T:Env→World→Prop} {f:Nat} {L:Array Bool}
variable {u t s:TypeId} {p:String} {af:Array Edge} {g:Option (Nat×Bool)} {d:Option Tmp} {x y z:Operand}
theorem Z6h {e size bytes b o2 len cap i j:Nat} {q q':IntKind} (hT:Q2m P t e size bytes) (h1:i≤j) (h2:j≤cap) :
  (Instr.sliceAt t (.slice (some ⟨b,o2,none⟩) len cap) none (some (.int q (i:Int))) (some (.int q' (j:Int)))).run P w = .ok (.slice (some ⟨b,o2,none⟩) i j) w:=by
 have hs:(sizeOf e).run P w = .ok size w:=by
  obtain⟨k,hk,e2⟩:=Option.map_eq_some_iff.1 hT.info;simp only[Prod.mk.injEq] at e2;exact Q2j (by rw[hk];simp[e2.1])
 have b1:(0:Int)≤i∧(i:Int)≤j:=by omega
 have b2:(0:Int)≤j∧(j:Int)≤cap:=by omega
 simp[Instr.sliceAt,Instr.slice,Q2g hT.und,Instr.sliceBounds,Instr.sliceBound,asIntOf,h1,h2,hs,Q3k]
theorem G5h {e size bytes b o2 len cap i j:Nat} {q q':IntKind} (m:Nat) (hm:ops[m]? = some ⟨d,.slice t x none (some y) (some z),u,p,af,g⟩) (hg:Q0n ops σ ⟨d,.slice t x none (some y) (some z),u,p,af,g⟩ true) [hT:Q2m P t e size bytes] (hx:ev σ x = .slice (some ⟨b,o2,none⟩) len cap) (hy:ev σ y = .int q (i:Int)) (hz:ev σ z = .int q' (j:Int)) (h1:i≤j) (h2:j≤cap)
  (hb:stB n ops (ivs.map (·.1)) L m []=true) (k:Any P n r ops ivs T f (L.setIfInBounds m true) (put σ d (.slice (some ⟨b,o2,none⟩) i j)) w):Any P n r ops ivs T (f+1) L σ w:=
 V3k m hm hg (fun c e=>by cases e) (fun w=>by simp only[execOp,hx,hy,hz,Option.map_some,Option.map_none,Sem.run_bind,Z6h hT h1 h2,Result.andThen_ok,Sem.run_pure]) hb k
theorem Y1m {e size bytes b o2 len cap i:Nat} {q:IntKind} (hT:Q2m P t e size bytes) (h1:i≤len) (h2:len≤cap) :
  (Instr.sliceAt t (.slice (some ⟨b,o2,none⟩) len cap) (some (.int q (i:Int))) none none).run P w = .ok (.slice (some ⟨b,if cap=i then o2 else o2+i*size,none⟩) (len - i) (cap - i)) w:=by
 have hs:(sizeOf e).run P w = .ok size w:=by
  obtain⟨k,hk,e2⟩:=Option.map_eq_some_iff.1 hT.info;simp only[Prod.mk.injEq] at e2;exact Q2j (by rw[hk];simp[e2.1])
 have b1:(0:Int)≤i∧(i:Int)≤len:=by omega
 by_cases he:cap=i
 ·simp[Instr.sliceAt,Instr.slice,Q2g hT.und,Instr.sliceBounds,Instr.sliceBound,asIntOf,h1,h2,hs,Q3k,he]
 ·simp[Instr.sliceAt,Instr.slice,Q2g hT.und,Instr.sliceBounds,Instr.sliceBound,asIntOf,h1,h2,hs,Q3k,he]
theorem Y6y {e size bytes b o2 len cap i:Nat} {q:IntKind} (m:Nat) (hm:ops[m]? = some ⟨d,.slice t x (some y) none none,u,p,af,g⟩) (hg:Q0n ops σ ⟨d,.slice t x (some y) none none,u,p,af,g⟩ true) [hT:Q2m P t e size bytes] (hx:ev σ x = .slice (some ⟨b,o2,none⟩) len cap) (hy:ev σ y = .int q (i:Int)) (h1:i≤len) (h2:len≤cap)
  (hb:stB n ops (ivs.map (·.1)) L m []=true) (k:Any P n r ops ivs T f (L.setIfInBounds m true) (put σ d (.slice (some ⟨b,if cap=i then o2 else o2+i*size,none⟩) (len - i) (cap - i))) w):Any P n r ops ivs T (f+1) L σ w:=
 V3k m hm hg (fun c e=>by cases e) (fun w=>by simp only[execOp,hx,hy,Option.map_some,Option.map_none,Sem.run_bind,Y1m hT h1 h2,Result.andThen_ok,Sem.run_pure]) hb k
theorem G0g [Q0i] {e size bytes b o' N i m c2:Nat} {zv:Value} {c spare:List Value} [hT:Q2m P t e size bytes] [hz:Q3o P e zv] (H:Q0a w (pts b (row e (c++spare))::l))
  (hx:ev σ x = .slice (some ⟨b,0,none⟩) i i) (hy:ev σ y = .slice (some ⟨b,o',none⟩) m c2) (hc:c.length=N*size) (hi:i < N) (hm:m=N - (i+1)) (ho:0 < m→o'=(i+1)*size) (hN:N≤1000000)
  (hb:c.length*bytes≤140737488355328) (hd:okd n d=true) (hq:(decide ((Q1v zv).length=size) && decide (0 < size) && decide (0 < bytes))=true)
  (k:∀ v' w',Q0a w' (sls e size v' (c.take (i*size)++c.drop ((i+1)*size))::l)→K (put σ d v') w'):St P n r ⟨d,.call { callee := .builtin .append,args:=#[x,y],argTypes:=#[t,t] },u,p,af,g⟩ σ w K:=by
 simp only[Bool.and_eq_true,decide_eq_true_eq] at hq;obtain⟨⟨hzl,hsz⟩,hby⟩:=hq;have hN1:(i+1)*size≤N*size:=Nat.mul_le_mul_right _ hi;have hi1:(i+1)*size=i*size+size:=Nat.succ_mul i size;have htl:(c.take (i*size)).length=i*size:=by rw[List.length_take];omega
 rcases Nat.eq_zero_or_pos m with hm0|hmp
 ·obtain rfl:N=i+1:=by omega
  subst hm0;have hdr:c.drop ((i+1)*size)=[]:=List.drop_eq_nil_of_le (by omega);refine Q1c (v := .slice (some ⟨b,0,none⟩) i i) (w':=w) hd (fun c e=>by cases e) ?_ (k _ _ ?_)
  ·simp[execOp,resolve,invoke,builtin,hx,hy,V2j (w:=w) hT u (Nat.le_refl i)]
  ·rw[hdr,List.append_nil];refine Q5x (spare:=c.drop (i*size)++spare) htl ⟨Nat.le_refl _,by omega⟩ (by simp) ?_;rw[← List.append_assoc,List.take_append_drop];exact H
 ·have hbk:=H.pts;obtain⟨j,hj,e2⟩:=Option.map_eq_some_iff.1 hT.info;simp only[Prod.mk.injEq] at e2;obtain⟨i1,i2⟩:=e2;obtain⟨j',hj',hz'⟩:=Option.map_eq_some_iff.1 hz.zero;have:j'=j:=by rw[hj] at hj';cases hj';rfl
  subst this;have hzc:zv.cells.size=size:=by rw[V3r,hzl]
  have hdl:(c.drop ((i+1)*size)).length=m*size:=by rw[List.length_drop,hc,← Nat.sub_mul,hm]
  have him:i+m+1=N:=by omega
  have bb:N≤N*bytes:=Nat.le_mul_of_pos_right N hby;have mb:N≤N*size:=Nat.le_mul_of_pos_right N hsz;have hNb:N*bytes≤c.length*bytes:=Nat.mul_le_mul_right _ (by rw[hc];exact mb);have hib:(i+m)*bytes≤N*bytes:=Nat.mul_le_mul_right _ (by omega)
  have holds:∀ q v,(c.take (i*size))[q]? = some v→w.cell? ((⟨b,0,none⟩:Addr).add q)=some v:=fun q v hv=>by
   rw[Q3k,Nat.zero_add];refine Q4b hbk ?_;have h1:=(List.getElem?_eq_some_iff.1 hv).1;rw[htl] at h1;rw[List.getElem?_append_left (by omega)];rw[List.getElem?_take_of_lt h1] at hv;exact hv
  have hnews:∀ q v,(c.drop ((i+1)*size))[q]? = some v→w.cell? ((⟨b,o',none⟩:Addr).add q)=some v:=fun q v hv=>by
   rw[Q3k,ho hmp];refine Q4b hbk ?_;have h1:=(List.getElem?_eq_some_iff.1 hv).1;rw[hdl] at h1;rw[List.getElem?_drop] at hv;rw[List.getElem?_append_left (List.getElem?_eq_some_iff.1 hv).1];exact hv
  have hr:=run_append_grow (P:=P) w t u e j' zv hT.und hj hz' ⟨b,0,none⟩ i i (c.take (i*size)) (by rw[i1];exact htl) holds ⟨b,o',none⟩ m c2 (c.drop ((i+1)*size)) (by rw[i1];exact hdl) hnews (by omega) (by omega)
   (growslice_fits (by omega) (by rw[i2];omega))
  refine Q1c (v := .slice (some ⟨w.heap.size,0,none⟩) (i+m) (grownCap w (i+m) i e)) (w':=w.drew.alloc (.cells ((c.take (i*size)).toArray++(c.drop ((i+1)*size)).toArray++Builtin.zeroCells zv.cells (grownCap w (i+m) i e - (i+m))) e)) hd (fun c e=>by cases e) (by simp only[execOp,resolve,invoke,builtin,Sem.run_bind,Sem.run_pure,Result.andThen_ok,List.map_toArray,List.map_cons,List.map_nil,hx,hy,hr]) (k _ _ ?_);have hg:i+m≤grownCap w (i+m) i e∧grownCap w (i+m) i e≤9223372036854775807:=⟨grownCap_ge w (i+m) i e,grownCap_le_maxLen w (i+m) i e (by unfold maxLen;omega)⟩;refine Q5x (spare:=(Builtin.zeroCells zv.cells (grownCap w (i+m) i e - (i+m))).toList) (by rw[List.length_append,htl,hdl,Nat.add_mul]) hg (by simp[size_zeroCells,hzc]) ?_;have H':Q0a w.drew l:=H.drop.heap rfl;have:=H'.new (.cells ((c.take (i*size)).toArray++(c.drop ((i+1)*size)).toArray++Builtin.zeroCells zv.cells (grownCap w (i+m) i e - (i+m))) e (0,0));refine this.head fun h x=>?_;have e3:(c.take (i*size)).toArray++(c.drop ((i+1)*size)).toArray++Builtin.zeroCells zv.cells (grownCap w (i+m) i e - (i+m))=(c.take (i*size)++c.drop ((i+1)*size)++(Builtin.zeroCells zv.cells (grownCap w (i+m) i e - (i+m))).toList).toArray:=by apply Array.ext';simp
  rw[e3] at x;exact x
end
end Go.SL
namespace Go.SL
section
variable {P:Program} {n:Nat} {r:Option Nat} {Q:V3f} {ms:List Nat} {σ:Env} {w:World} {l:List Q0e}
theorem G5i [Q0i] {fn:Func} {R:Value→World→Prop} {e:Exit} {vs:List Value} (l:List Q0e) (he:e = .normal∨e = .ret) (H:Q0a w (mk ms::l))
  (hv:∀ w',Q0a w' l→V5g P σ w' fn.results.toList vs) (hR:∀ w',Q0a w' l→R (G4r vs) w'):V6p P n fn R e ms σ w:=
 ⟨he,.inl ⟨l,H,fun w' H' a ra=>⟨_,Y2b ra (hv w' H'),hR w' H'⟩⟩⟩
end
end Go.SL
namespace Go
section
variable {F:Fence} {n:Nat} {P:Program} {Q:Exit→Act→World→Prop} {a:Act} {w:World} {b:Frame} {k:List Item} {cs:List Frame}
theorem Q6i {c:Code}:step P (lone (b.atR a (.code (.scope c)::k)) cs w) = .next (lone (b.atR a (.code c :: .inScope c::k)) cs w):=
 step_lone_go (by simp[stepG,stepG.exec,Frame.atR])
theorem Y1n {c:Code}:step P (lone (b.atR a (.inScope c::k)) cs w) = .next (lone (b.atR a k) cs w):=
 step_lone_go (by simp[stepG,stepG.exec,Frame.atR])
def U8v (Q:Exit→Act→World→Prop):Exit→Act→World→Prop
 | .goto _,_,_=>False
 | e,a,w=>Q e a w
theorem Z1g {c:Code} (h:c.wpIn F n P (U8v Q) a w):(Code.scope c).wpIn F n P Q a w:=by
 intro b k cs hro hb hr;have h0:(lone (b.atR a (.code (.scope c)::k)) cs w).fenced P F:=fenced_calm hb hr rfl;obtain⟨e,a₁,w₁,hq,harr⟩:=h b (.inScope c::k) cs hro hb hr;cases e with
 | normal=>exact⟨.normal,a₁,w₁,hq,.head h0 Q6i (StepsIn.trans harr (.one (fenced_calm hb hr rfl) Y1n))⟩
 | exit id=>
  have hx:exitTo id (.inScope c::k)=exitTo id k:=by simp[exitTo]
  exact⟨.exit id,a₁,w₁,hq,fun k' hk => .head h0 Q6i (harr.1 k' (by rw[hx];exact hk)),
   fun hr' hk=>let ⟨k₁,h1,h2⟩:=harr.2 hr' (by rw[hx];exact hk);⟨k₁,h1,.head h0 Q6i h2⟩⟩
 | goto l=>exact hq.elim
 | ret=>exact⟨_,a₁,w₁,hq,.of_steps (.one h0 Q6i) harr⟩
 | panic ch=>exact⟨_,a₁,w₁,hq,.of_steps (.one h0 Q6i) harr⟩
 | outgrown=>exact⟨_,a₁,w₁,hq,.of_steps (.one h0 Q6i) harr⟩
end
end Go
namespace Go.SL
def U9z (Q:V3f):V3f
 | .goto _,_,_,_=>False
 | e,ms,σ,w=>Q e ms σ w
section
variable {P:Program} {n:Nat} {r:Option Nat} {Q:V3f} {ms:List Nat} {σ:Env} {w:World}
theorem G9p {c:Code} (h:C P n r c (U9z Q) ms σ w):C P n r (.scope c) Q ms σ w:=fun a ra=>
 Z1g (wpIn_mono (h a ra) fun e a w q=>by
  cases e with
  | outgrown=>exact q
  | normal=>obtain⟨ms,σ,r,q⟩:=q;exact⟨ms,σ,r,q⟩
  | exit id=>obtain⟨ms,σ,r,q⟩:=q;exact⟨ms,σ,r,q⟩
  | goto l=>obtain⟨ms,σ,r,q⟩:=q;exact q.elim
  | ret=>obtain⟨ms,σ,r,q⟩:=q;exact⟨ms,σ,r,q⟩
  | panic c=>obtain⟨ms,σ,r,q⟩:=q;exact⟨ms,σ,r,q⟩)
end
end Go.SL
namespace Go.SL
section
variable {P:Program} {n:Nat} {r:Option Nat} {σ:Env} {w:World} {o:Oper} {K:Env→World→Prop} {l l':List Q0e}
variable {u t:TypeId} {p:String} {af:Array Edge} {g:Option (Nat×Bool)} {d:Option Tmp} {x y z:Operand}
variable {A B:Type} [DecidableEq A] {ek:A→Value} {vv:B→Value} {b:Nat} {m:List (A×B)} {kt et:TypeId}
theorem G0h [Q0i] (H:Q0a w (mp ek vv b m::l)):∃ es c,Q8l ek vv es c m∧Q0a w (pts b (.map es c)::l):=by
 obtain⟨⟨f,g,a,e,d,⟨es,c,h1,h2⟩,y⟩,ok⟩:=H;exact⟨es,c,h2,⟨f,g,a,e,d,h1,y⟩,ok⟩
theorem Z4j [Q0i] {es:Array MapEntry} {c:Nat} (ok:Q8l ek vv es c m) (H:Q0a w (pts b (.map es c)::l)):Q0a w (mp ek vv b m::l):=H.head fun h e=>⟨es,c,e,ok⟩
theorem Q8l.push {es:Array MapEntry} {c:Nat} (ok:Q8l ek vv es c m) {k:A} (hk:k∉m.map (·.1)) (v:B):Q8l ek vv (es.push { key:=ek k,val:=vv v,born:=c }) (c+1) (m++[(k,v)]):=by
 refine⟨by simp[ok.ents],?_,?_,?_⟩
 ·have:=V3m (x:=k) (v:=v) ok.nodup;rwa [Q7j hk] at this
 ·simp only[Array.toList_push,List.map_append,List.map_cons,List.map_nil];refine List.pairwise_append.2 ⟨ok.rise,by simp,fun a ha c' hc=>?_⟩;obtain⟨q,hq,rfl⟩:=List.mem_map.1 ha;simp at hc;subst hc;exact ok.born q hq
 ·intro q hq;simp only[Array.toList_push,List.mem_append,List.mem_singleton] at hq
  rcases hq with hq|rfl
  ·exact Nat.lt_succ_of_lt (ok.born q hq)
  ·exact Nat.lt_succ_self _
theorem V2e [Q0i] {ix:Operand} {key:A} {zv:Value} {es:Array MapEntry} {c:Nat} (H:Q0a w (pts b (.map es c)::l)) (ok:Q8l ek vv es c m) (hno:key∉m.map (·.1)) (hx:ev σ x = .map (some b)) (hk:ev σ ix=ek key) (TK:Z0m P kt ek) [hM:V7s P t kt et] [hz:Q3o P et zv] (hd:okd n d=true)
  (k:∀ w',Q0a w' (pts b (.map (es.push { key:=ek key,val:=zv,born:=c }) (c+1))::l)→K (put σ d (.tuple #[zv,.int .i64 c])) w'):St P n r ⟨d,.mapEntry t x ix,u,p,af,g⟩ σ w K:=by
 have h1:w.heap[b]? = some (.map es c):=H.pts;have hlt:b < w.heap.size:=(Array.getElem?_eq_some_iff.1 h1).1
 have hrun:(Instr.mapEntry t (.map (some b)) (ek key)).run P w = .ok (.tuple #[zv,.int .i64 c]) (w.putObj b (.map (es.push { key:=ek key,val:=zv,born:=c }) (c+1))):=by
  unfold Instr.mapEntry;simp only[Sem.run_bind,Q2g hM.und,Result.andThen_ok,Q8f h1,Sem.run_pure,TK.check]
  rcases ok.find TK w key with ⟨h3,h4⟩|⟨j,y,v,h3,h4,h5,h6⟩
  ·rw[h3];simp only[Result.andThen_ok,Sem.run_bind,Q9x hz,Q8g _ h1,Sem.run_pure];rfl
  ·exact absurd (List.mem_map.2 ⟨_,List.mem_of_getElem? h6,rfl⟩) hno
 refine Q1c (v := .tuple #[zv,.int .i64 c]) (w':=w.putObj b (.map (es.push { key:=ek key,val:=zv,born:=c }) (c+1))) hd (fun c e=>by cases e) ?_ (k _ (H.set (World.putObj_heap_same hlt) (fun c hc=>World.putObj_heap_other hc) ⟨rfl,rfl⟩));simp only[execOp,hx,hk,Sem.run_bind,hrun,Result.andThen_ok];rfl
theorem find_born {es:Array MapEntry} {e0:MapEntry} (h:∀ e∈es.toList,e.born < e0.born):(es.push e0).findIdx? (fun e=>(e.born:Int) == (e0.born:Int))=some es.size:=by
 rw[Array.findIdx?_push,Array.findIdx?_eq_none_iff.2]
 ·simp
 ·intro e he;have:=h e (by simpa using he);rw[beq_eq_false_iff_ne];omega
theorem V3v [Q0i] {st:Operand} {kx zv v:Value} {es:Array MapEntry} {c c2:Nat} (H:Q0a w (pts b (.map (es.push { key:=kx,val:=zv,born:=c }) c2)::l)) (hb:∀ e∈es.toList,e.born < c) (hx:ev σ x = .map (some b)) (hs:ev σ st = .int .i64 c) (hv:ev σ y=v) (hd:okd n d=true)
  (k:∀ w',Q0a w' (pts b (.map (es.push { key:=kx,val:=v,born:=c }) c2)::l)→K (put σ d undef) w'):St P n r ⟨d,.entryStore t x st y,u,p,af,g⟩ σ w K:=by
 have h1:w.heap[b]? = some (.map (es.push { key:=kx,val:=zv,born:=c }) c2):=H.pts;have hlt:b < w.heap.size:=(Array.getElem?_eq_some_iff.1 h1).1
 have hmod:(es.push { key:=kx,val:=zv,born:=c }).modify es.size (fun e=>{ e with val:=v })=es.push { key:=kx,val:=v,born:=c }:=by
  apply Array.ext_getElem?;intro i;rw[Array.getElem?_modify,Array.getElem?_push,Array.getElem?_push];by_cases hi:es.size=i
  ·subst hi;simp
  ·rw[if_neg hi,if_neg (fun h=>hi h.symm),if_neg (fun h=>hi h.symm)]
 have hf:(es.push { key:=kx,val:=zv,born:=c }).findIdx? (fun e=>(e.born:Int) == (c:Int))=some es.size:=find_born (es:=es) (e0:={ key:=kx,val:=zv,born:=c }) hb
 have hrun:(Instr.entryStore t (.map (some b)) (.int .i64 c) v).run P w = .ok () (w.putObj b (.map (es.push { key:=kx,val:=v,born:=c }) c2)):=by
  unfold Instr.entryStore;simp only[Sem.run_bind,Result.andThen_ok,Q8f h1,Sem.run_pure,asInt,asIntOf,hf,hmod];exact Q8g _ h1
 refine Y4d (w':=w.putObj b (.map (es.push { key:=kx,val:=v,born:=c }) c2)) hd (fun c e=>by cases e) ?_ (k _ (H.set (World.putObj_heap_same hlt) (fun c hc=>World.putObj_heap_other hc) ⟨rfl,rfl⟩));simp only[execOp,hx,hs,hv,Sem.run_bind,hrun,Result.andThen_ok];rfl
end
end Go.SL
namespace Go.SL
section
variable {P:Program} {n:Nat} {r:Option Nat} {ops:Array Oper} {Q:V3f} {ms:List Nat} {σ:Env} {w:World} {rest:List Oper} {o:Oper} {K:Env→World→Prop} {l l':List Q0e}
variable {ivs:List (List Nat×(World→Prop))} {T:Env→World→Prop} {f:Nat} {L:Array Bool}
variable {u t:TypeId} {p:String} {af:Array Edge} {g:Option (Nat×Bool)} {d:Option Tmp} {x y z:Operand}
theorem Z1h [Q0i] {e size bytes:Nat} {zv:Value} (hT:Q2m P t e size bytes) (hz:Q3o P e zv) (hzl:(Q1v zv).length=size) (hsz:0 < size) (hby:0 < bytes) {s:Value} {cs new:List Value} {m c:Nat} {a:Addr} {l:List Q0e} (H:Q0a w (sls e size s cs::l))
  (ty:TypeId) (hm:0 < m) (hnl:new.length=m*size) (hnews:∀ j v,new[j]? = some v→w.cell? (a.add j)=some v) (h1:∀ v∈new,v.oneCell'=true)
  (hb:∀ n,cs.length=n*size→(n+m)*bytes≤140737488355328) :
  ∃ v' w',(Builtin.append_ #[t,t] ty #[s,.slice (some a) m c]).run P w = .ok v' w'∧Q0a w' (sls e size v' (cs++new)::l):=by
 obtain⟨i,hi,e2⟩:=Option.map_eq_some_iff.1 hT.info;simp only[Prod.mk.injEq] at e2;obtain⟨i1,i2⟩:=e2;obtain⟨i',hi',hz'⟩:=Option.map_eq_some_iff.1 hz.zero;have:i'=i:=by rw[hi] at hi';cases hi';rfl
 subst this;have hzc:zv.cells.size=size:=by rw[V3r,hzl]
 have mb:∀ k,k≤k*size:=fun k=>Nat.le_mul_of_pos_right k hsz;have bb:∀ k,k≤k*bytes:=fun k=>Nat.le_mul_of_pos_right k hby
 rcases Q4n H with ⟨rfl,rfl,H2⟩|⟨b,len,cap,spare,rfl,e3,e4,e5,H2⟩
 ·have hb0:=hb 0 (by simp);rw[Nat.zero_add] at hb0;have hr:=run_append_nil (P:=P) w t ty e i' zv hT.und hi hz' a m c new (by rw[i1];exact hnl) hnews hm (by have:=bb m;omega) (by rw[i2];omega);refine⟨_,_,hr,?_⟩;have hg:m≤grownCap w m 0 e∧grownCap w m 0 e≤9223372036854775807:=⟨grownCap_ge w m 0 e,grownCap_le_maxLen w m 0 e (by have:=bb m;unfold maxLen;omega)⟩;refine Q5x (spare:=(Builtin.zeroCells zv.cells (grownCap w m 0 e - m)).toList) (by simpa using hnl) hg (by simp[size_zeroCells,hzc]) ?_;have H':Q0a w.drew l:=H2.heap rfl;have:=H'.new (.cells (new.toArray++Builtin.zeroCells zv.cells (grownCap w m 0 e - m)) e (0,0));refine this.head fun h x=>?_;have e:new.toArray++Builtin.zeroCells zv.cells (grownCap w m 0 e - m)=([]++new++(Builtin.zeroCells zv.cells (grownCap w m 0 e - m)).toList).toArray:=by apply Array.ext';simp
  rw[e] at x;exact x
 ·have hbk:=H2.pts;have hbn:=hb len e3;by_cases hroom:len+m≤cap
  ·have hsp:m*size≤spare.length:=Nat.le_trans (Nat.mul_le_mul_right _ (by omega)) e5
   have hr:=run_append_room (P:=P) w t ty e i' hT.und hi b len cap (cs++spare).toArray hbk a m c new (by rw[i1];exact hnl) hnews h1 hroom (by
    simp only[List.size_toArray,List.length_append,i1,e3,hnl];omega)
   refine⟨_,_,hr,?_⟩;refine Q5x (spare:=spare.drop new.length) (by simp[e3,hnl,Nat.add_mul]) ⟨hroom,e4.2⟩ ?_ ?_
   ·have e6:(cap - (len+m))*size=(cap - len)*size - m*size:=by rw[← Nat.sub_mul,Nat.sub_sub]
    rw[List.length_drop,hnl,e6];omega
   ·have hh:=setRow_heap w b (cs++spare).toArray ((cs++spare).toArray.toList.take (len*i'.size)++new++(cs++spare).toArray.toList.drop (len*i'.size+new.length)).toArray e _ hbk;refine(H2.set hh (fun k hk=>setRow_other w b k _ hk)).head fun h x=>?_
    have e:(cs++spare).toArray.toList.take (len*i'.size)++new++(cs++spare).toArray.toList.drop (len*i'.size+new.length)=cs++new++spare.drop new.length:=by
     rw[i1,← e3];show (cs++spare).take cs.length++new++(cs++spare).drop (cs.length+new.length)=_;rw[List.take_left,← List.drop_drop,List.drop_left]
    rw[e] at x;exact x
  ·have holds:∀ j u,cs[j]? = some u→w.cell? ((⟨b,0,none⟩:Addr).add j)=some u:=fun j u hj=>by
    rw[Q3k];refine Q4b hbk ?_;rw[Nat.zero_add,List.getElem?_append_left ((List.getElem?_eq_some_iff.1 hj).1)];exact hj
   have hadd:(len+m)*bytes=len*bytes+m*bytes:=Nat.add_mul _ _ _
   have hr:=run_append_grow (P:=P) w t ty e i' zv hT.und hi hz' ⟨b,0,none⟩ len cap cs (by rw[i1];exact e3) holds a m c new (by rw[i1];exact hnl) hnews (by omega) (by have:=bb (len+m);omega)
    (growslice_fits (by omega) (by rw[i2];omega))
   refine⟨_,_,hr,?_⟩;have hg:len+m≤grownCap w (len+m) cap e∧grownCap w (len+m) cap e≤9223372036854775807:=⟨grownCap_ge w (len+m) cap e,grownCap_le_maxLen w (len+m) cap e (by have:=bb (len+m);unfold maxLen;omega)⟩;refine Q5x (spare:=(Builtin.zeroCells zv.cells (grownCap w (len+m) cap e - (len+m))).toList) (by simp[e3,hnl,Nat.add_mul]) hg (by simp[size_zeroCells,hzc]) ?_;have H':Q0a w.drew l:=H2.drop.heap rfl;have:=H'.new (.cells (cs.toArray++new.toArray++Builtin.zeroCells zv.cells (grownCap w (len+m) cap e - (len+m))) e (0,0));refine this.head fun h x=>?_;have e:cs.toArray++new.toArray++Builtin.zeroCells zv.cells (grownCap w (len+m) cap e - (len+m))=(cs++new++(Builtin.zeroCells zv.cells (grownCap w (len+m) cap e - (len+m))).toList).toArray:=by apply Array.ext';simp
   rw[e] at x;exact x
theorem Z6i [Q0i] {e size bytes:Nat} {zv:Value} [hT:Q2m P t e size bytes] [hz:Q3o P e zv] {s:Value} {cs new c2:List Value} {m cap b o E:Nat} {fz:Nat×Nat} (H:Q0a w (sls e size s cs::l))
  (hx:ev σ x=s) (hy:ev σ y = .slice (some ⟨b,o,none⟩) m cap) [ha:At b (.cells c2.toArray E fz) l] (hn:Q0o c2 o (m*size) new) (h1:new.all (·.oneCell')=true) (hm:0 < m)
  (hb:∀ n,cs.length=n*size→(n+m)*bytes≤140737488355328) (hd:okd n d=true) (hq:(decide ((Q1v zv).length=size) && decide (0 < size) && decide (0 < bytes))=true)
  (k:∀ v' w',Q0a w' (sls e size v' (cs++new)::l)→K (put σ d v') w'):St P n r ⟨d,.call { callee := .builtin .append,args:=#[x,y],argTypes:=#[t,t] },u,p,af,g⟩ σ w K:=by
 simp only[Bool.and_eq_true,decide_eq_true_eq] at hq;have hbk:w.heap[b]? = some (.cells c2.toArray E fz):=ha.get _ H.drop.1;obtain⟨v',w',hr,H'⟩:=Z1h (w:=w) (c:=cap) (a:=⟨b,o,none⟩) (m:=m) hT hz hq.1.1 hq.1.2 hq.2 H u hm hn.len (fun j v hj=>by rw[Q3k];exact Q4b hbk (hn.get j v hj)) (List.all_eq_true.1 h1) hb;refine Q1c (v:=v') (w':=w') hd (fun c e=>by cases e) ?_ (k v' w' H');simp[execOp,resolve,invoke,builtin,hx,hy,hr]
end
end Go.SL
namespace Go.SL
open Go.ChangeShapes
section
variable {H:Type} {enc:TypeId×Value→H} {P:Program} {W W':World}
theorem V3w (hl:laidOutB P=true):∀ {ts:List TypeId} {vs:List Value} {ds:List (DataW H)} {ps:List MemPlace} {sp:Nat→Bool},(∀ t∈ts,P.readableRec t=true∧t < P.types.size) →
  DataW.TrodAll enc P W 0 (fun _=>true) true ts vs ds ps→(∀ p∈ps,W.sameAt W' p)→(∀ p∈ps,sp p.block=true)→DataW.TrodAll enc P W' 0 sp true ts vs ds ps
 | [],[],[],_,_,_,h,_,_=>h
 | t::ts,v::vs,d::ds,_,sp,hr,⟨p,q,h,hs,e⟩,same,hsp=>by
  subst e;have hr0:=hr t (by simp)
  exact⟨p,q,Go.WideElems.Trod_stays hl hr0.1 hr0.2 h (fun x hx=>same x (List.mem_append_left _ hx)) (fun x hx=>hsp x (List.mem_append_left _ hx)),
   V3w hl (fun t ht=>hr t (by simp[ht])) hs (fun x hx=>same x (List.mem_append_right _ hx)) (fun x hx=>hsp x (List.mem_append_right _ hx)),rfl⟩
theorem G0i {f:Func} {s:ChangeSpec} {args:Array Value} {v:Value} {ds gs:List (DataW H)} {before:List MemPlace} (hl:laidOutB P=true) (hts:∀ t∈f.params.toList,P.readableRec t=true∧t < P.types.size)
  (hv:s.vars=[]) (hW:DataW.Whole enc P f.params.toList s.vars false W args.toList ds gs before) (hh:∀ b,b < W.heap.size→W'.heap[b]? = W.heap[b]?) (hos:W'.os=W.os) (hout:W'.output=W.output)
  (ha:(s.fn H (ds++gs)).args=ds) (hva:(s.fn H (ds++gs)).vars=[])
  (hres:DataW.TrodAll enc P W' W.heap.size (fun _=>false) false f.resultTypes.toList (v.resultList f.resultTypes.size) (s.fn H (ds++gs)).results []):s.post enc P f false true false false W args v W':=by
 have hlt:=hW.lt;have hW':=hW;obtain⟨p,q,h1,h2,rfl,h3,h4⟩:=hW;rw[hv] at h2;obtain⟨rfl,rfl⟩:=trodVars_none h2
 have same:∀ x∈p,W.sameAt W' x:=by
  intro x hx;have hb:=hlt x (by simp[hx]);cases x with
  | cell b off=>show W'.cell? _=W.cell? _;unfold World.cell?;rw[hh b hb]
  | map b=>exact hh b hb
 have hsp:∀ x∈p,(fun b=>decide (b < W.heap.size)) x.block=true:=fun x hx=>by
  have:=hlt x (by simp[hx]);simpa using this
 refine⟨ds,[],p++[],[],p,[],hW',hres,?_,?_,⟨hos,hout,fun i hi=>?_⟩,fun h=>by cases h⟩
 ·rw[ha];exact V3w hl hts h1 same hsp
 ·rw[hva,hv];show ([]:List MemPlace)=[];rfl
 ·rw[hh i hi];cases hx:W.heap[i]? with
  | none=>trivial
  | some o=>cases o <;> simp
end
end Go.SL
