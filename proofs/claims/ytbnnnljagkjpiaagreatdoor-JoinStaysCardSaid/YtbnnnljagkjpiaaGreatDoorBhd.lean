/- Cells: what is proved on the way: every input of the statement; no condition. Texts joined: SlJ SlI SlQ SlO SlR SlZ Dic. -/
import Derived.Test.YtbnnnljagkjpiaaGreatDoorBhc
import Derived.Test.YtbnnnljagkjpiaaGreatDoorBhb
import Derived.RangeFuncNested
import Derived.WideKeyArgs
import Derived.ChangeOld
import Derived.OpenShut
import Derived.ProofKit
import Derived.Deep.Slices
import Derived.Test.YtbnnnljagkjpiaaGreatDoorBha
set_option linter.unusedVariables false
set_option linter.unusedSimpArgs false
set_option linter.unusedSectionVars false
namespace Go.SL
open List
section
variable {P:Program} {n:Nat} {r:Option Nat} {ops:Array Oper} {Q:Y6} {ms:List Nat} {σ:QX} {w:World} {rest:List Oper} {o:Oper} {K:QX→World→Prop} {l l':List Q2}
variable {ivs:List (List Nat×(World→Prop))} {T:QX→World→Prop} {f:Nat} {L:Array Bool}
variable {u t s:TypeId} {p:String} {af:Array Edge} {g:Option (Nat×Bool)} {d:Option Tmp} {x y z:Operand}
theorem Sc {e size bytes b o2 len cap i j:Nat} {q q':IntKind} (hT:VB P t e size bytes) (h1:i≤j) (h2:j≤cap) :
  (Instr.sliceAt t (.slice (some ⟨b,o2,none⟩) len cap) none (some (.int q (i:Int))) (some (.int q' (j:Int)))).run P w = .ok (.slice (some ⟨b,o2,none⟩) i j) w:=by
 have hs:(sizeOf e).run P w = .ok size w:=by
  obtain⟨k,hk,e2⟩:=Option.map_eq_some_iff.1 hT.info;simp only[Prod.mk.injEq] at e2;exact Zu (by rw[hk];simp[e2.1])
 have b1:(0:Int)≤i∧(i:Int)≤j:=by omega
 have b2:(0:Int)≤j∧(j:Int)≤cap:=by omega
 simp[Instr.sliceAt,Instr.slice,Vn hT.und,Instr.sliceBounds,Instr.sliceBound,asIntOf,h1,h2,hs,ZV]
theorem Sd {e size bytes b o2 len cap i j:Nat} {q q':IntKind} (m:Nat) (hm:ops[m]? = some ⟨d,.slice t x none (some y) (some z),u,p,af,g⟩) (hg:Q9 ops σ ⟨d,.slice t x none (some y) (some z),u,p,af,g⟩ true) [hT:VB P t e size bytes] (hx:ev σ x = .slice (some ⟨b,o2,none⟩) len cap) (hy:ev σ y = .int q (i:Int)) (hz:ev σ z = .int q' (j:Int)) (h1:i≤j) (h2:j≤cap)
  (hb:YU n ops (ivs.map (·.1)) L m []=true) (k:Any P n r ops ivs T f (L.setIfInBounds m true) (put σ d (.slice (some ⟨b,o2,none⟩) i j)) w):Any P n r ops ivs T (f+1) L σ w:=
 Gp m hm hg (fun c e=>by cases e) (fun w=>by simp only[execOp,hx,hy,hz,Option.map_some,Option.map_none,Sem.run_bind,Sc hT h1 h2,Result.andThen_ok,Sem.run_pure]) hb k
theorem Se {e size bytes b o2 len cap i:Nat} {q:IntKind} (hT:VB P t e size bytes) (h1:i≤len) (h2:len≤cap) :
  (Instr.sliceAt t (.slice (some ⟨b,o2,none⟩) len cap) (some (.int q (i:Int))) none none).run P w = .ok (.slice (some ⟨b,if cap=i then o2 else o2+i*size,none⟩) (len - i) (cap - i)) w:=by
 have hs:(sizeOf e).run P w = .ok size w:=by
  obtain⟨k,hk,e2⟩:=Option.map_eq_some_iff.1 hT.info;simp only[Prod.mk.injEq] at e2;exact Zu (by rw[hk];simp[e2.1])
 have b1:(0:Int)≤i∧(i:Int)≤len:=by omega
 by_cases he:cap=i
 ·simp[Instr.sliceAt,Instr.slice,Vn hT.und,Instr.sliceBounds,Instr.sliceBound,asIntOf,h1,h2,hs,ZV,he]
 ·simp[Instr.sliceAt,Instr.slice,Vn hT.und,Instr.sliceBounds,Instr.sliceBound,asIntOf,h1,h2,hs,ZV,he]
theorem Sf {e size bytes b o2 len cap i:Nat} {q:IntKind} (m:Nat) (hm:ops[m]? = some ⟨d,.slice t x (some y) none none,u,p,af,g⟩) (hg:Q9 ops σ ⟨d,.slice t x (some y) none none,u,p,af,g⟩ true) [hT:VB P t e size bytes] (hx:ev σ x = .slice (some ⟨b,o2,none⟩) len cap) (hy:ev σ y = .int q (i:Int)) (h1:i≤len) (h2:len≤cap)
  (hb:YU n ops (ivs.map (·.1)) L m []=true) (k:Any P n r ops ivs T f (L.setIfInBounds m true) (put σ d (.slice (some ⟨b,if cap=i then o2 else o2+i*size,none⟩) (len - i) (cap - i))) w):Any P n r ops ivs T (f+1) L σ w:=
 Gp m hm hg (fun c e=>by cases e) (fun w=>by simp only[execOp,hx,hy,Option.map_some,Option.map_none,Sem.run_bind,Se hT h1 h2,Result.andThen_ok,Sem.run_pure]) hb k
theorem Sg [Q4] {e size bytes b o' N i m c2:Nat} {zv:Value} {c spare:List Value} [hT:VB P t e size bytes] [hz:Qy P e zv] (H:Q0 w (pts b (row e (c++spare))::l))
  (hx:ev σ x = .slice (some ⟨b,0,none⟩) i i) (hy:ev σ y = .slice (some ⟨b,o',none⟩) m c2) (hc:c.length=N*size) (hi:i < N) (hm:m=N - (i+1)) (ho:0 < m→o'=(i+1)*size) (hN:N≤1000000)
  (hb:c.length*bytes≤140737488355328) (hd:Qf n d=true) (hq:(decide ((Qt zv).length=size) && decide (0 < size) && decide (0 < bytes))=true)
  (k:∀ v' w',Q0 w' (QC e size v' (c.take (i*size)++c.drop ((i+1)*size))::l)→K (put σ d v') w'):St P n r ⟨d,.call { callee := .builtin .append,args:=#[x,y],argTypes:=#[t,t] },u,p,af,g⟩ σ w K:=by
 simp only[Bool.and_eq_true,decide_eq_true_eq] at hq;obtain⟨⟨hzl,hsz⟩,hby⟩:=hq;have hN1:(i+1)*size≤N*size:=Nat.mul_le_mul_right _ hi;have hi1:(i+1)*size=i*size+size:=Nat.succ_mul i size;have htl:(c.take (i*size)).length=i*size:=by rw[length_take];omega
 rcases Nat.eq_zero_or_pos m with hm0|hmp
 ·obtain rfl:N=i+1:=by omega
  subst hm0;have hdr:c.drop ((i+1)*size)=[]:=drop_eq_nil_of_le (by omega);refine V3 (v := .slice (some ⟨b,0,none⟩) i i) (w':=w) hd (fun c e=>by cases e) ?_ (k _ _ ?_)
  ·simp[execOp,resolve,invoke,builtin,hx,hy,Fx (w:=w) hT u (Nat.le_refl i)]
  ·rw[hdr,append_nil];refine ZZ (spare:=c.drop (i*size)++spare) htl ⟨Nat.le_refl _,by omega⟩ (by simp) ?_;rw[← append_assoc,take_append_drop];exact H
 ·have hbk:=H.pts;obtain⟨j,hj,e2⟩:=Option.map_eq_some_iff.1 hT.info;simp only[Prod.mk.injEq] at e2;obtain⟨i1,i2⟩:=e2;obtain⟨j',hj',hz'⟩:=Option.map_eq_some_iff.1 hz.zero;have:j'=j:=by rw[hj] at hj';cases hj';rfl
  subst this;have hzc:zv.cells.size=size:=by rw[DQ,hzl]
  have hdl:(c.drop ((i+1)*size)).length=m*size:=by rw[length_drop,hc,← Nat.sub_mul,hm]
  have him:i+m+1=N:=by omega
  have bb:N≤N*bytes:=Nat.le_mul_of_pos_right N hby;have mb:N≤N*size:=Nat.le_mul_of_pos_right N hsz;have hNb:N*bytes≤c.length*bytes:=Nat.mul_le_mul_right _ (by rw[hc];exact mb);have hib:(i+m)*bytes≤N*bytes:=Nat.mul_le_mul_right _ (by omega)
  have holds:∀ q v,(c.take (i*size))[q]? = some v→w.cell? ((⟨b,0,none⟩:Addr).add q)=some v:=fun q v hv=>by
   rw[ZV,Nat.zero_add];refine Zj hbk ?_;have h1:=(List.getElem?_eq_some_iff.1 hv).1;rw[htl] at h1;rw[getElem?_append_left (by omega)];rw[getElem?_take_of_lt h1] at hv;exact hv
  have hnews:∀ q v,(c.drop ((i+1)*size))[q]? = some v→w.cell? ((⟨b,o',none⟩:Addr).add q)=some v:=fun q v hv=>by
   rw[ZV,ho hmp];refine Zj hbk ?_;have h1:=(List.getElem?_eq_some_iff.1 hv).1;rw[hdl] at h1;rw[getElem?_drop] at hv;rw[getElem?_append_left (List.getElem?_eq_some_iff.1 hv).1];exact hv
  have hr:=run_append_grow (P:=P) w t u e j' zv hT.und hj hz' ⟨b,0,none⟩ i i (c.take (i*size)) (by rw[i1];exact htl) holds ⟨b,o',none⟩ m c2 (c.drop ((i+1)*size)) (by rw[i1];exact hdl) hnews (by omega) (by omega)
   (growslice_fits (by omega) (by rw[i2];omega))
  refine V3 (v := .slice (some ⟨w.heap.size,0,none⟩) (i+m) (grownCap w (i+m) i e)) (w':=w.drew.alloc (.cells ((c.take (i*size)).toArray++(c.drop ((i+1)*size)).toArray++Builtin.zeroCells zv.cells (grownCap w (i+m) i e - (i+m))) e)) hd (fun c e=>by cases e) (by simp only[execOp,resolve,invoke,builtin,Sem.run_bind,Sem.run_pure,Result.andThen_ok,map_toArray,map_cons,map_nil,hx,hy,hr]) (k _ _ ?_);have hg:i+m≤grownCap w (i+m) i e∧grownCap w (i+m) i e≤9223372036854775807:=⟨grownCap_ge w (i+m) i e,grownCap_le_maxLen w (i+m) i e (by unfold maxLen;omega)⟩;refine ZZ (spare:=(Builtin.zeroCells zv.cells (grownCap w (i+m) i e - (i+m))).toList) (by rw[length_append,htl,hdl,Nat.add_mul]) hg (by simp[size_zeroCells,hzc]) ?_;have H':Q0 w.drew l:=H.drop.heap rfl;have:=H'.new (.cells ((c.take (i*size)).toArray++(c.drop ((i+1)*size)).toArray++Builtin.zeroCells zv.cells (grownCap w (i+m) i e - (i+m))) e (0,0));refine this.head fun h x=>?_;have e3:(c.take (i*size)).toArray++(c.drop ((i+1)*size)).toArray++Builtin.zeroCells zv.cells (grownCap w (i+m) i e - (i+m))=(c.take (i*size)++c.drop ((i+1)*size)++(Builtin.zeroCells zv.cells (grownCap w (i+m) i e - (i+m))).toList).toArray:=by apply Array.ext';simp
  rw[e3] at x;exact x
end
end Go.SL
namespace Go.SL
section
variable {P:Program} {n:Nat} {r:Option Nat} {Q:Y6} {ms:List Nat} {σ:QX} {w:World} {l:List Q2}
theorem Sh [Q4] {fn:Func} {R:Value→World→Prop} {e:Exit} {vs:List Value} (l:List Q2) (he:e = .normal∨e = .ret) (H:Q0 w (mk ms::l))
  (hv:∀ w',Q0 w' l→UZ P σ w' fn.results.toList vs) (hR:∀ w',Q0 w' l→R (K2 vs) w'):Km P n fn R e ms σ w:=
 ⟨he,.inl ⟨l,H,fun w' H' a ra=>⟨_,Lr ra (hv w' H'),hR w' H'⟩⟩⟩
end
end Go.SL
namespace Go
section
variable {F:Fence} {n:Nat} {P:Program} {Q:Exit→Act→World→Prop} {a:Act} {w:World} {b:Frame} {k:List Item} {cs:List Frame}
theorem Wx {c:Code}:step P (lone (b.atR a (.code (.scope c)::k)) cs w) = .next (lone (b.atR a (.code c :: .inScope c::k)) cs w):=
 step_lone_go (by simp[stepG,stepG.exec,Frame.atR])
theorem Si {c:Code}:step P (lone (b.atR a (.inScope c::k)) cs w) = .next (lone (b.atR a k) cs w):=
 step_lone_go (by simp[stepG,stepG.exec,Frame.atR])
def Sj (Q:Exit→Act→World→Prop):Exit→Act→World→Prop
 | .goto _,_,_=>False
 | e,a,w=>Q e a w
theorem Sk {c:Code} (h:c.wpIn F n P (Sj Q) a w):(Code.scope c).wpIn F n P Q a w:=by
 intro b k cs hro hb hr;have h0:(lone (b.atR a (.code (.scope c)::k)) cs w).fenced P F:=fenced_calm hb hr rfl;obtain⟨e,a₁,w₁,hq,harr⟩:=h b (.inScope c::k) cs hro hb hr;cases e with
 | normal=>exact⟨.normal,a₁,w₁,hq,.head h0 Wx (StepsIn.trans harr (.one (fenced_calm hb hr rfl) Si))⟩
 | exit id=>
  have hx:exitTo id (.inScope c::k)=exitTo id k:=by simp[exitTo]
  exact⟨.exit id,a₁,w₁,hq,fun k' hk => .head h0 Wx (harr.1 k' (by rw[hx];exact hk)),
   fun hr' hk=>let ⟨k₁,h1,h2⟩:=harr.2 hr' (by rw[hx];exact hk);⟨k₁,h1,.head h0 Wx h2⟩⟩
 | goto l=>exact hq.elim
 | ret=>exact⟨_,a₁,w₁,hq,.of_steps (.one h0 Wx) harr⟩
 | panic ch=>exact⟨_,a₁,w₁,hq,.of_steps (.one h0 Wx) harr⟩
 | outgrown=>exact⟨_,a₁,w₁,hq,.of_steps (.one h0 Wx) harr⟩
end
end Go
namespace Go.SL
def Sl (Q:Y6):Y6
 | .goto _,_,_,_=>False
 | e,ms,σ,w=>Q e ms σ w
section
variable {P:Program} {n:Nat} {r:Option Nat} {Q:Y6} {ms:List Nat} {σ:QX} {w:World}
theorem Sm {c:Code} (h:C P n r c (Sl Q) ms σ w):C P n r (.scope c) Q ms σ w:=fun a ra=>
 Sk (wpIn_mono (h a ra) fun e a w q=>by
  cases e with
  | outgrown=>exact q
  | normal=>obtain⟨ms,σ,r,q⟩:=q;exact⟨ms,σ,r,q⟩
  | exit id=>obtain⟨ms,σ,r,q⟩:=q;exact⟨ms,σ,r,q⟩
  | goto l=>obtain⟨ms,σ,r,q⟩:=q;exact q.elim
  | ret=>obtain⟨ms,σ,r,q⟩:=q;exact⟨ms,σ,r,q⟩
  | panic c=>obtain⟨ms,σ,r,q⟩:=q;exact⟨ms,σ,r,q⟩)
end
end Go.SL
namespace Go.SL
open List
section
variable {P:Program} {n:Nat} {r:Option Nat} {σ:QX} {w:World} {o:Oper} {K:QX→World→Prop} {l l':List Q2}
variable {u t:TypeId} {p:String} {af:Array Edge} {g:Option (Nat×Bool)} {d:Option Tmp} {x y z:Operand}
variable {A B:Type} [DecidableEq A] {ek:A→Value} {vv:B→Value} {b:Nat} {m:List (A×B)} {kt et:TypeId}
theorem M6 [Q4] (H:Q0 w (mp ek vv b m::l)):∃ es c,Ym ek vv es c m∧Q0 w (pts b (.map es c)::l):=by
 obtain⟨⟨f,g,a,e,d,⟨es,c,h1,h2⟩,y⟩,ok⟩:=H;exact⟨es,c,h2,⟨f,g,a,e,d,h1,y⟩,ok⟩
theorem M7 [Q4] {es:Array MapEntry} {c:Nat} (ok:Ym ek vv es c m) (H:Q0 w (pts b (.map es c)::l)):Q0 w (mp ek vv b m::l):=H.head fun h e=>⟨es,c,e,ok⟩
theorem Ym.push {es:Array MapEntry} {c:Nat} (ok:Ym ek vv es c m) {k:A} (hk:k∉m.map (·.1)) (v:B):Ym ek vv (es.push { key:=ek k,val:=vv v,born:=c }) (c+1) (m++[(k,v)]):=by
 refine⟨by simp[ok.ents],?_,?_,?_⟩
 ·have:=D9 (x:=k) (v:=v) ok.nodup;rwa [XF hk] at this
 ·simp only[Array.toList_push,map_append,map_cons,map_nil];refine pairwise_append.2 ⟨ok.rise,by simp,fun a ha c' hc=>?_⟩;obtain⟨q,hq,rfl⟩:=mem_map.1 ha;simp at hc;subst hc;exact ok.born q hq
 ·intro q hq;simp only[Array.toList_push,mem_append,mem_singleton] at hq
  rcases hq with hq|rfl
  ·exact Nat.lt_succ_of_lt (ok.born q hq)
  ·exact Nat.lt_succ_self _
theorem M8 [Q4] {ix:Operand} {key:A} {zv:Value} {es:Array MapEntry} {c:Nat} (H:Q0 w (pts b (.map es c)::l)) (ok:Ym ek vv es c m) (hno:key∉m.map (·.1)) (hx:ev σ x = .map (some b)) (hk:ev σ ix=ek key) (TK:GQ P kt ek) [hM:Yc P t kt et] [hz:Qy P et zv] (hd:Qf n d=true)
  (k:∀ w',Q0 w' (pts b (.map (es.push { key:=ek key,val:=zv,born:=c }) (c+1))::l)→K (put σ d (.tuple #[zv,.int .i64 c])) w'):St P n r ⟨d,.mapEntry t x ix,u,p,af,g⟩ σ w K:=by
 have h1:w.heap[b]? = some (.map es c):=H.pts;have hlt:b < w.heap.size:=(Array.getElem?_eq_some_iff.1 h1).1
 have hrun:(Instr.mapEntry t (.map (some b)) (ek key)).run P w = .ok (.tuple #[zv,.int .i64 c]) (w.putObj b (.map (es.push { key:=ek key,val:=zv,born:=c }) (c+1))):=by
  unfold Instr.mapEntry;simp only[Sem.run_bind,Vn hM.und,Result.andThen_ok,Wn h1,Sem.run_pure,TK.check]
  rcases ok.find TK w key with ⟨h3,h4⟩|⟨j,y,v,h3,h4,h5,h6⟩
  ·rw[h3];simp only[Result.andThen_ok,Sem.run_bind,Fh hz,Wo _ h1,Sem.run_pure];rfl
  ·exact absurd (mem_map.2 ⟨_,mem_of_getElem? h6,rfl⟩) hno
 refine V3 (v := .tuple #[zv,.int .i64 c]) (w':=w.putObj b (.map (es.push { key:=ek key,val:=zv,born:=c }) (c+1))) hd (fun c e=>by cases e) ?_ (k _ (H.set (World.putObj_heap_same hlt) (fun c hc=>World.putObj_heap_other hc) ⟨rfl,rfl⟩));simp only[execOp,hx,hk,Sem.run_bind,hrun,Result.andThen_ok];rfl
theorem find_born {es:Array MapEntry} {e0:MapEntry} (h:∀ e∈es.toList,e.born < e0.born):(es.push e0).findIdx? (fun e=>(e.born:Int) == (e0.born:Int))=some es.size:=by
 rw[Array.findIdx?_push,Array.findIdx?_eq_none_iff.2]
 ·simp
 ·intro e he;have:=h e (by simpa using he);rw[beq_eq_false_iff_ne];omega
theorem M9 [Q4] {st:Operand} {kx zv v:Value} {es:Array MapEntry} {c c2:Nat} (H:Q0 w (pts b (.map (es.push { key:=kx,val:=zv,born:=c }) c2)::l)) (hb:∀ e∈es.toList,e.born < c) (hx:ev σ x = .map (some b)) (hs:ev σ st = .int .i64 c) (hv:ev σ y=v) (hd:Qf n d=true)
  (k:∀ w',Q0 w' (pts b (.map (es.push { key:=kx,val:=v,born:=c }) c2)::l)→K (put σ d undef) w'):St P n r ⟨d,.entryStore t x st y,u,p,af,g⟩ σ w K:=by
 have h1:w.heap[b]? = some (.map (es.push { key:=kx,val:=zv,born:=c }) c2):=H.pts;have hlt:b < w.heap.size:=(Array.getElem?_eq_some_iff.1 h1).1
 have hmod:(es.push { key:=kx,val:=zv,born:=c }).modify es.size (fun e=>{ e with val:=v })=es.push { key:=kx,val:=v,born:=c }:=by
  apply Array.ext_getElem?;intro i;rw[Array.getElem?_modify,Array.getElem?_push,Array.getElem?_push];by_cases hi:es.size=i
  ·subst hi;simp
  ·rw[if_neg hi,if_neg (fun h=>hi h.symm),if_neg (fun h=>hi h.symm)]
 have hf:(es.push { key:=kx,val:=zv,born:=c }).findIdx? (fun e=>(e.born:Int) == (c:Int))=some es.size:=find_born (es:=es) (e0:={ key:=kx,val:=zv,born:=c }) hb
 have hrun:(Instr.entryStore t (.map (some b)) (.int .i64 c) v).run P w = .ok () (w.putObj b (.map (es.push { key:=kx,val:=v,born:=c }) c2)):=by
  unfold Instr.entryStore;simp only[Sem.run_bind,Result.andThen_ok,Wn h1,Sem.run_pure,asInt,asIntOf,hf,hmod];exact Wo _ h1
 refine D5 (w':=w.putObj b (.map (es.push { key:=kx,val:=v,born:=c }) c2)) hd (fun c e=>by cases e) ?_ (k _ (H.set (World.putObj_heap_same hlt) (fun c hc=>World.putObj_heap_other hc) ⟨rfl,rfl⟩));simp only[execOp,hx,hs,hv,Sem.run_bind,hrun,Result.andThen_ok];rfl
end
end Go.SL
namespace Go.SL
open List
section
variable {P:Program} {n:Nat} {r:Option Nat} {ops:Array Oper} {Q:Y6} {ms:List Nat} {σ:QX} {w:World} {rest:List Oper} {o:Oper} {K:QX→World→Prop} {l l':List Q2}
variable {ivs:List (List Nat×(World→Prop))} {T:QX→World→Prop} {f:Nat} {L:Array Bool}
variable {u t:TypeId} {p:String} {af:Array Edge} {g:Option (Nat×Bool)} {d:Option Tmp} {x y z:Operand}
theorem Sn [Q4] {e size bytes:Nat} {zv:Value} (hT:VB P t e size bytes) (hz:Qy P e zv) (hzl:(Qt zv).length=size) (hsz:0 < size) (hby:0 < bytes) {s:Value} {cs new:List Value} {m c:Nat} {a:Addr} {l:List Q2} (H:Q0 w (QC e size s cs::l))
  (ty:TypeId) (hm:0 < m) (hnl:new.length=m*size) (hnews:∀ j v,new[j]? = some v→w.cell? (a.add j)=some v) (h1:∀ v∈new,v.oneCell'=true)
  (hb:∀ n,cs.length=n*size→(n+m)*bytes≤140737488355328) :
  ∃ v' w',(Builtin.append_ #[t,t] ty #[s,.slice (some a) m c]).run P w = .ok v' w'∧Q0 w' (QC e size v' (cs++new)::l):=by
 obtain⟨i,hi,e2⟩:=Option.map_eq_some_iff.1 hT.info;simp only[Prod.mk.injEq] at e2;obtain⟨i1,i2⟩:=e2;obtain⟨i',hi',hz'⟩:=Option.map_eq_some_iff.1 hz.zero;have:i'=i:=by rw[hi] at hi';cases hi';rfl
 subst this;have hzc:zv.cells.size=size:=by rw[DQ,hzl]
 have mb:∀ k,k≤k*size:=fun k=>Nat.le_mul_of_pos_right k hsz;have bb:∀ k,k≤k*bytes:=fun k=>Nat.le_mul_of_pos_right k hby
 rcases GV H with ⟨rfl,rfl,H2⟩|⟨b,len,cap,spare,rfl,e3,e4,e5,H2⟩
 ·have hb0:=hb 0 (by simp);rw[Nat.zero_add] at hb0;have hr:=run_append_nil (P:=P) w t ty e i' zv hT.und hi hz' a m c new (by rw[i1];exact hnl) hnews hm (by have:=bb m;omega) (by rw[i2];omega);refine⟨_,_,hr,?_⟩;have hg:m≤grownCap w m 0 e∧grownCap w m 0 e≤9223372036854775807:=⟨grownCap_ge w m 0 e,grownCap_le_maxLen w m 0 e (by have:=bb m;unfold maxLen;omega)⟩;refine ZZ (spare:=(Builtin.zeroCells zv.cells (grownCap w m 0 e - m)).toList) (by simpa using hnl) hg (by simp[size_zeroCells,hzc]) ?_;have H':Q0 w.drew l:=H2.heap rfl;have:=H'.new (.cells (new.toArray++Builtin.zeroCells zv.cells (grownCap w m 0 e - m)) e (0,0));refine this.head fun h x=>?_;have e:new.toArray++Builtin.zeroCells zv.cells (grownCap w m 0 e - m)=([]++new++(Builtin.zeroCells zv.cells (grownCap w m 0 e - m)).toList).toArray:=by apply Array.ext';simp
  rw[e] at x;exact x
 ·have hbk:=H2.pts;have hbn:=hb len e3;by_cases hroom:len+m≤cap
  ·have hsp:m*size≤spare.length:=Nat.le_trans (Nat.mul_le_mul_right _ (by omega)) e5
   have hr:=run_append_room (P:=P) w t ty e i' hT.und hi b len cap (cs++spare).toArray hbk a m c new (by rw[i1];exact hnl) hnews h1 hroom (by
    simp only[size_toArray,length_append,i1,e3,hnl];omega)
   refine⟨_,_,hr,?_⟩;refine ZZ (spare:=spare.drop new.length) (by simp[e3,hnl,Nat.add_mul]) ⟨hroom,e4.2⟩ ?_ ?_
   ·have e6:(cap - (len+m))*size=(cap - len)*size - m*size:=by rw[← Nat.sub_mul,Nat.sub_sub]
    rw[length_drop,hnl,e6];omega
   ·have hh:=setRow_heap w b (cs++spare).toArray ((cs++spare).toArray.toList.take (len*i'.size)++new++(cs++spare).toArray.toList.drop (len*i'.size+new.length)).toArray e _ hbk;refine(H2.set hh (fun k hk=>setRow_other w b k _ hk)).head fun h x=>?_
    have e:(cs++spare).toArray.toList.take (len*i'.size)++new++(cs++spare).toArray.toList.drop (len*i'.size+new.length)=cs++new++spare.drop new.length:=by
     rw[i1,← e3];show (cs++spare).take cs.length++new++(cs++spare).drop (cs.length+new.length)=_;rw[take_left,← drop_drop,drop_left]
    rw[e] at x;exact x
  ·have holds:∀ j u,cs[j]? = some u→w.cell? ((⟨b,0,none⟩:Addr).add j)=some u:=fun j u hj=>by
    rw[ZV];refine Zj hbk ?_;rw[Nat.zero_add,getElem?_append_left ((List.getElem?_eq_some_iff.1 hj).1)];exact hj
   have hadd:(len+m)*bytes=len*bytes+m*bytes:=Nat.add_mul _ _ _
   have hr:=run_append_grow (P:=P) w t ty e i' zv hT.und hi hz' ⟨b,0,none⟩ len cap cs (by rw[i1];exact e3) holds a m c new (by rw[i1];exact hnl) hnews (by omega) (by have:=bb (len+m);omega)
    (growslice_fits (by omega) (by rw[i2];omega))
   refine⟨_,_,hr,?_⟩;have hg:len+m≤grownCap w (len+m) cap e∧grownCap w (len+m) cap e≤9223372036854775807:=⟨grownCap_ge w (len+m) cap e,grownCap_le_maxLen w (len+m) cap e (by have:=bb (len+m);unfold maxLen;omega)⟩;refine ZZ (spare:=(Builtin.zeroCells zv.cells (grownCap w (len+m) cap e - (len+m))).toList) (by simp[e3,hnl,Nat.add_mul]) hg (by simp[size_zeroCells,hzc]) ?_;have H':Q0 w.drew l:=H2.drop.heap rfl;have:=H'.new (.cells (cs.toArray++new.toArray++Builtin.zeroCells zv.cells (grownCap w (len+m) cap e - (len+m))) e (0,0));refine this.head fun h x=>?_;have e:cs.toArray++new.toArray++Builtin.zeroCells zv.cells (grownCap w (len+m) cap e - (len+m))=(cs++new++(Builtin.zeroCells zv.cells (grownCap w (len+m) cap e - (len+m))).toList).toArray:=by apply Array.ext';simp
   rw[e] at x;exact x
theorem So [Q4] {e size bytes:Nat} {zv:Value} [hT:VB P t e size bytes] [hz:Qy P e zv] {s:Value} {cs new c2:List Value} {m cap b o E:Nat} {fz:Nat×Nat} (H:Q0 w (QC e size s cs::l))
  (hx:ev σ x=s) (hy:ev σ y = .slice (some ⟨b,o,none⟩) m cap) [ha:At b (.cells c2.toArray E fz) l] (hn:QZ c2 o (m*size) new) (h1:new.all (·.oneCell')=true) (hm:0 < m)
  (hb:∀ n,cs.length=n*size→(n+m)*bytes≤140737488355328) (hd:Qf n d=true) (hq:(decide ((Qt zv).length=size) && decide (0 < size) && decide (0 < bytes))=true)
  (k:∀ v' w',Q0 w' (QC e size v' (cs++new)::l)→K (put σ d v') w'):St P n r ⟨d,.call { callee := .builtin .append,args:=#[x,y],argTypes:=#[t,t] },u,p,af,g⟩ σ w K:=by
 simp only[Bool.and_eq_true,decide_eq_true_eq] at hq;have hbk:w.heap[b]? = some (.cells c2.toArray E fz):=ha.get _ H.drop.1;obtain⟨v',w',hr,H'⟩:=Sn (w:=w) (c:=cap) (a:=⟨b,o,none⟩) (m:=m) hT hz hq.1.1 hq.1.2 hq.2 H u hm hn.len (fun j v hj=>by rw[ZV];exact Zj hbk (hn.get j v hj)) (all_eq_true.1 h1) hb;refine V3 (v:=v') (w':=w') hd (fun c e=>by cases e) ?_ (k v' w' H');simp[execOp,resolve,invoke,builtin,hx,hy,hr]
end
end Go.SL
namespace Go.SL
open List
open Go.ChangeShapes
section
variable {H:Type} {enc:TypeId×Value→H} {P:Program} {W W':World}
theorem MY (hl:laidOutB P=true):∀ {ts:List TypeId} {vs:List Value} {ds:List (DataW H)} {ps:List MemPlace} {sp:Nat→Bool},(∀ t∈ts,P.readableRec t=true∧t < P.types.size) →
  DataW.TrodAll enc P W 0 (fun _=>true) true ts vs ds ps→(∀ p∈ps,W.sameAt W' p)→(∀ p∈ps,sp p.block=true)→DataW.TrodAll enc P W' 0 sp true ts vs ds ps
 | [],[],[],_,_,_,h,_,_=>h
 | t::ts,v::vs,d::ds,_,sp,hr,⟨p,q,h,hs,e⟩,same,hsp=>by
  subst e;have hr0:=hr t (by simp)
  exact⟨p,q,Go.WideElems.Trod_stays hl hr0.1 hr0.2 h (fun x hx=>same x (mem_append_left _ hx)) (fun x hx=>hsp x (mem_append_left _ hx)),
   MY hl (fun t ht=>hr t (by simp[ht])) hs (fun x hx=>same x (mem_append_right _ hx)) (fun x hx=>hsp x (mem_append_right _ hx)),rfl⟩
theorem MV {f:Func} {s:ChangeSpec} {args:Array Value} {v:Value} {ds gs:List (DataW H)} {before:List MemPlace} (hl:laidOutB P=true) (hts:∀ t∈f.params.toList,P.readableRec t=true∧t < P.types.size)
  (hv:s.vars=[]) (hW:DataW.Whole enc P f.params.toList s.vars false W args.toList ds gs before) (hh:∀ b,b < W.heap.size→W'.heap[b]? = W.heap[b]?) (hos:W'.os=W.os) (hout:W'.output=W.output)
  (ha:(s.fn H (ds++gs)).args=ds) (hva:(s.fn H (ds++gs)).vars=[])
  (hres:DataW.TrodAll enc P W' W.heap.size (fun _=>false) false f.resultTypes.toList (v.resultList f.resultTypes.size) (s.fn H (ds++gs)).results []):s.post enc P f false true false false W args v W':=by
 have hlt:=hW.lt;have hW':=hW;obtain⟨p,q,h1,h2,rfl,h3,h4⟩:=hW;rw[hv] at h2;obtain⟨rfl,rfl⟩:=trodVars_none h2
 have same:∀ x∈p,W.sameAt W' x:=by
  intro x hx;have hb:=hlt x (by simp[hx]);cases x with
  | cell b off=>show W'.cell? _=W.cell? _;unfold World.cell?;rw[hh b hb]
  | map b=>exact hh b hb
 have hsp:∀ x∈p,(fun b=>decide (b < W.heap.size)) x.block=true:=fun x hx=>by
  have:=hlt x (by simp[hx]);simpa using this
 refine⟨ds,[],p++[],[],p,[],hW',hres,?_,?_,⟨hos,hout,fun i hi=>?_⟩,fun h=>by cases h⟩
 ·rw[ha];exact MY hl hts h1 same hsp
 ·rw[hva,hv];show ([]:List MemPlace)=[];rfl
 ·rw[hh i hi];cases hx:W.heap[i]? with
  | none=>trivial
  | some o=>cases o <;> simp
end
end Go.SL
namespace Go.SL
open List
section
variable [Q4] {P:Program} {n:Nat} {r:Option Nat} {ops:Array Oper} {Q:Y6} {ms:List Nat} {σ:QX} {w:World} {rest:List Oper} {o:Oper} {l:List Q2} {ivs:List (List Nat×(World→Prop))} {T:QX→World→Prop} {f:Nat} {L:Array Bool} {t u:TypeId} {p:String} {af:Array Edge} {g:Option (Nat×Bool)} {d:Option Tmp} {x:Operand} {G K:Prop}
theorem Jo (j:Nat) (H:Q0 w l) (k:St P n r o σ w (Any P n r ops ivs T f (L.setIfInBounds j true))) (hi:ops[j]? = some o:=by rfl) (hr:Region.ready .any ops L=[j]:=by kernel_rfl)
  (hI:Q0 w l→Vc ivs L w:=by intro H;repeat first|exact Vc.nil|refine Vc.cons (.inr (Q0.at H)) ?_|refine Vc.cons (.inr (Q0.mp H)) ?_|refine Vc.cons (.inl (by kernel_rfl)) ?_)
  (hg:Q9 ops σ o true:=by first|exact Q9.none rfl|exact Q9.of rfl rfl rfl):Any P n r ops ivs T (f+1) L σ w:=B5 j hi hr (hI H) hg k
theorem Ja {op:Op} {v:Value} (i:Nat) (k:Any P n r ops ivs T f (L.setIfInBounds i true) (put σ d v) w) (hi:ops[i]? = some ⟨d,op,u,p,af,g⟩:=by rfl) (hg:Q9 ops σ ⟨d,op,u,p,af,g⟩ true:=by first|exact Q9.none rfl|exact Q9.of rfl rfl rfl) (hv:pv σ op=some v:=by rfl) (hs:YU n ops (ivs.map (·.1)) L i []=true:=by kernel_rfl):Any P n r ops ivs T (f+1) L σ w:=Gc i hi hg hv hs k
theorem Jf {s:TypeId} {fi off b i₀:Nat} (i:Nat) (k:Any P n r ops ivs T f (L.setIfInBounds i true) (put σ d (.pointer (some ⟨b,i₀+off,none⟩))) w) (hi:ops[i]? = some ⟨d,.fieldAddr s x fi,u,p,af,g⟩:=by rfl) (hg:Q9 ops σ ⟨d,.fieldAddr s x fi,u,p,af,g⟩ true:=by first|exact Q9.none rfl|exact Q9.of rfl rfl rfl) [hf:QL P s fi off] (hx:ev σ x = .pointer (some ⟨b,i₀,none⟩):=by rfl) (hs:YU n ops (ivs.map (·.1)) L i []=true:=by kernel_rfl):Any P n r ops ivs T (f+1) L σ w:=Py i hi hg hx hs k
theorem Jl {b i₀ E:Nat} {fz:Nat×Nat} {c:List Value} {v:Value} (i:Nat) (D:List Nat) (H:Q0 w l) (k:Any P n r ops ((D,fun w=>w.heap[b]? = some (.cells c.toArray E fz))::ivs) T f (L.setIfInBounds i true) (put σ d v) w) (hi:ops[i]? = some ⟨d,.load t x,u,p,af,g⟩:=by rfl) (hg:Q9 ops σ ⟨d,.load t x,u,p,af,g⟩ true:=by first|exact Q9.none rfl|exact Q9.of rfl rfl rfl) (hx:ev σ x = .pointer (some ⟨b,i₀,none⟩):=by rfl) (h1:T1 P t:=by infer_instance) (ha:At b (.cells c.toArray E fz) l:=by infer_instance) (hv:c[i₀]? = some v:=by rfl) (hs:YU n ops (ivs.map (·.1)) L i D=true:=by kernel_rfl):Any P n r ops ivs T (f+1) L σ w:=Vg i D H hi hg hx hv hs k
theorem Jn {op:Op} (i:Nat) (k:Any P n r ops ivs T f (L.setIfInBounds i true) (put σ d undef) w) (hi:ops[i]? = some ⟨d,op,u,p,af,g⟩:=by rfl) (hg:Q9 ops σ ⟨d,op,u,p,af,g⟩ false:=by first|exact Q9.of rfl rfl rfl|exact Q9.skip rfl rfl) (hf:∀ c,op ≠ .defer c:=by intro c e;cases e) (hs:YU n ops (ivs.map (·.1)) L i []=true:=by kernel_rfl):Any P n r ops ivs T (f+1) L σ w:=Pk i hi hg hf hs k
theorem Ji {e size bytes b o len cap:Nat} {q:IntKind} {i:Int} {ix:Operand} (j:Nat) (k:Any P n r ops ivs T f (L.setIfInBounds j true) (put σ d (.pointer (some ⟨b,o+i.toNat*size,none⟩))) w) (hj:ops[j]? = some ⟨d,.indexAddr t x ix,u,p,af,g⟩:=by rfl) (hg:Q9 ops σ ⟨d,.indexAddr t x ix,u,p,af,g⟩ true:=by first|exact Q9.none rfl|exact Q9.of rfl rfl rfl) [hT:VB P t e size bytes] (hx:ev σ x = .slice (some ⟨b,o,none⟩) len cap:=by rfl) (hi:ev σ ix = .int q i:=by rfl) (h0:0≤i:=by omega) (h1:i < len:=by omega) (hs:YU n ops (ivs.map (·.1)) L j []=true:=by kernel_rfl):Any P n r ops ivs T (f+1) L σ w:=Ko j hj hg hx hi h0 h1 hs k
theorem Jd {e size bytes b o len cap:Nat} {q:IntKind} {i:Int} {ix:Operand} (k:Lp P n r ops Q rest ms (put σ d (.pointer (some ⟨b,o+i.toNat*size,none⟩))) w) [hT:VB P t e size bytes] (hx:ev σ x = .slice (some ⟨b,o,none⟩) len cap:=by rfl) (hi:ev σ ix = .int q i:=by rfl) (h0:0≤i:=by omega) (h1:i < len:=by omega) (hd:Qf n d=true:=by rfl):Lp P n r ops Q (⟨d,.indexAddr t x ix,u,p,af,none⟩::rest) ms σ w:=Q5 rfl (Gq hx hi h0 h1 hd k)
theorem Jv {op:Op} {v:Value} (k:Lp P n r ops Q rest ms (put σ d v) w) (h:pv σ op=some v:=by rfl) (hd:Qf n d=true:=by rfl):Lp P n r ops Q (⟨d,op,u,p,af,none⟩::rest) ms σ w:=UV h hd k
theorem Jx (H:Q0 w l) (k:T σ w) (hr:Region.ready .any ops L=[]:=by kernel_rfl) (hI:Q0 w l→Vc ivs L w:=by intro H;repeat first|exact Vc.nil|refine Vc.cons (.inr (Q0.at H)) ?_|refine Vc.cons (.inr (Q0.mp H)) ?_|refine Vc.cons (.inl (by kernel_rfl)) ?_):Any P n r ops ivs T f L σ w:=Fk hr (hI H) k
theorem Jw {o o':Oper} (i j:Nat) (H:Q0 w l) (hi:ops[i]? = some o) (hj:ops[j]? = some o') (k:St P n r o σ w (Any P n r ops ivs T f (L.setIfInBounds i true))) (k':St P n r o' σ w (Any P n r ops ivs T f (L.setIfInBounds j true))) (hr:Region.ready .any ops L=[i,j]:=by kernel_rfl) (hI:Q0 w l→Vc ivs L w:=by intro H;repeat first|exact Vc.nil|refine Vc.cons (.inr (Q0.at H)) ?_|refine Vc.cons (.inr (Q0.mp H)) ?_|refine Vc.cons (.inl (by kernel_rfl)) ?_) (hg:Q9 ops σ o true:=by first|exact Q9.none rfl|exact Q9.of rfl rfl rfl) (hg':Q9 ops σ o' true:=by first|exact Q9.none rfl|exact Q9.of rfl rfl rfl):Any P n r ops ivs T (f+1) L σ w:=SB i j hi hj hr (hI H) hg hg' k k'
theorem Jk {f:FuncId} {K:QX→World→Prop} {xs:List Operand} {ts:Array TypeId} {R:Value→World→Prop} (hx:ev σ x = .func (.func f) #[] #[]) [hb:QY P f] (hd:Qf n d=true) (s:Calls P f (xs.map (ev σ)).toArray w (ret R)) (k:∀ v w',R v w'→K (put σ d v) w') :
  St P n r ⟨d,.call { callee := .value x,args:=xs.toArray,argTypes:=ts },u,p,af,g⟩ σ w K:=V0 (a:=[]) (b:=[]) hx hd (by rw[nil_append,append_nil];exact call s k)
theorem Jc {f:FuncId} {xs:List Operand} {ts:Array TypeId} {R:Value→World→Prop} (hx:ev σ x = .func (.func f) #[] #[]) [hb:QY P f] (hd:Qf n d=true) (s:Calls P f (xs.map (ev σ)).toArray w (ret R)) (k:∀ v w',R v w'→Lp P n r ops Q rest ms (put σ d v) w') :
  Lp P n r ops Q (⟨d,.call { callee := .value x,args:=xs.toArray,argTypes:=ts },u,p,af,none⟩::rest) ms σ w:=Q5 rfl (Jk hx hd s k)
theorem Js {l':List Q2} (is:List Nat) (m:Nat) (H:Q0 w l) (h:Q0 w (sel is m l)→Q0 w l':=by intro H;dsimp only[SL.sel,SL.pull,List.drop] at H;exact H):Q0 w l':=h (H.sel is m)
theorem Jy {fn:Func} {R:Value→World→Prop} {e:Exit} {vs:List Value} (H:Q0 w l) (h:Ux σ fn.results.toList=some vs) (hr:∀ w',Q0 w' l→R (K2 vs) w') (he:e = .normal∨e = .ret:=by first|exact .inr rfl|exact .inl rfl):Km P n fn R e [] σ w:=Y7 _ he H h hr
theorem Jz {fn:Func} {R:Value→World→Prop} {e:Exit} {vs:List Value} (H:Q0 w l) (h:∀ w',Q0 w' l→UZ P σ w' fn.results.toList vs) (hr:∀ w',Q0 w' l→R (K2 vs) w') (he:e = .normal∨e = .ret:=by first|exact .inr rfl|exact .inl rfl):Km P n fn R e [] σ w:=BY _ he H h hr
theorem J0 (H:Q0 w l) (k:K) (h:Q0 w l→K→G:=by
 intro H k;refine Jv ?_;refine Q6 ?_;exact k):G:=h H k
theorem J1 (H:Q0 w l) (k:K) (h:Q0 w l→K→G:=by
 intro H k
 repeat refine Q7 ?_
 refine Wr H mixed ?_;exact k):G:=h H k
theorem J2 (H:Q0 w l) (k:K) (h:Q0 w l→K→G:=by
 intro H k;refine Jv ?_;refine Jv ?_;refine Q6 ?_;exact k):G:=h H k
theorem J3 (H:Q0 w l) (k:K) (h:Q0 w l→K→G:=by
 intro H k
 repeat refine Q7 ?_
 refine QG ?_;refine Jv ?_;refine Jv ?_;refine Q6 ?_;exact k):G:=h H k
theorem J4 (H:Q0 w l) (k:K) (h:Q0 w l→K→G:=by
 intro H k;refine Q5 rfl (Zc H rfl rfl inferInstance rfl rfl (Nat.le_of_ble_eq_true rfl) rfl ?_);exact k):G:=h H k
theorem J5 (H:Q0 w l) (k:K) (h:Q0 w l→K→G:=by
 intro H k
 repeat refine Q7 ?_
 refine QG ?_;refine Jv ?_;refine Jv ?_;exact k):G:=h H k
theorem J6 (H:Q0 w l) (k:K) (h:Q0 w l→K→G:=by
 intro H k
 repeat refine Q7 ?_
 refine QG ?_;refine Jv ?_;refine Q6 ?_
 repeat refine Q7 ?_
 exact k):G:=h H k
theorem J7 (H:Q0 w l) (k:K) (h:Q0 w l→K→G:=by
 intro H k
 repeat refine Q7 ?_
 exact k):G:=h H k
theorem J8 (H:Q0 w l) (k:K) (h:Q0 w l→K→G:=by
 intro H k
 repeat refine Q7 ?_
 refine QG ?_;refine Q5 rfl (Ws H rfl rfl ?_);exact k):G:=h H k
theorem J9 (H:Q0 w l) (k:K) (h:Q0 w l→K→G:=by
 intro H k
 repeat refine Q7 ?_
 refine QG ?_;refine Jv ?_;refine Jv ?_;refine Q5 rfl (V7 rfl rfl ?_);refine Q5 rfl (QW H rfl rfl rfl ?_);refine Jv ?_;exact k):G:=h H k
theorem V8 (H:Q0 w l) (k:K) (h:Q0 w l→K→G:=by
 intro H k
 repeat refine Q7 ?_
 refine VY rfl (QR ?_);exact k):G:=h H k
theorem VQ (H:Q0 w l) (k:K) (h:Q0 w l→K→G:=by
 intro H k;refine Q5 rfl (Vr H rfl ?_);exact k):G:=h H k
theorem VG (H:Q0 w l) (k:K) (h:Q0 w l→K→G:=by
 intro H k
 repeat refine Q7 ?_
 refine QG ?_;refine Jv ?_;refine Jv ?_;refine Jv ?_;refine Q6 ?_;exact k):G:=h H k
theorem VR (H:Q0 w l) (k:K) (h:Q0 w l→K→G:=by
 intro H k
 repeat refine Q7 ?_
 refine VE rfl ?_;exact k):G:=h H k
theorem VJ (H:Q0 w l) (k:K) (h:Q0 w l→K→G:=by
 intro H k
 repeat refine Q7 ?_
 refine QG ?_;refine Jv ?_;refine Q6 ?_;exact k):G:=h H k
theorem Vi (H:Q0 w l) (k:K) (h:Q0 w l→K→G:=by
 intro H k
 repeat refine Q7 ?_
 refine QG ?_;refine Jv ?_;refine Jv ?_;refine Jv ?_;exact k):G:=h H k
theorem Vj (H:Q0 w l) (k:K) (h:Q0 w l→K→G:=by
 intro H k;refine Jv ?_;refine Jv ?_;refine Jv ?_;refine Q5 rfl (Vr H rfl ?_);exact k):G:=h H k
theorem Vo (H:Q0 w l) (k:K) (h:Q0 w l→K→G:=by
 intro H k;refine Jv ?_;refine Q6 ?_
 repeat refine Q7 ?_
 refine VY rfl (QR ?_);exact k):G:=h H k
theorem Y9 (H:Q0 w l) (k:K) (h:Q0 w l→K→G:=by
 intro H k
 repeat refine Q7 ?_
 refine QS ?_
 repeat refine Q7 ?_
 refine QG ?_;exact k):G:=h H k
theorem YQ (H:Q0 w l) (k:K) (h:Q0 w l→K→G:=by
 intro H k
 repeat refine Q7 ?_
 refine QG ?_;refine Jv ?_;exact k):G:=h H k
theorem YK (H:Q0 w l) (k:K) (h:Q0 w l→K→G:=by
 intro H k;refine Jv ?_;refine Q6 ?_
 repeat refine Q7 ?_
 exact k):G:=h H k
theorem YR (H:Q0 w l) (k:K) (h:Q0 w l→K→G:=by
 intro H k
 repeat refine Q7 ?_
 refine VE rfl ?_
 repeat refine Q7 ?_
 refine QG ?_;refine Jv ?_;refine Q6 ?_;exact k):G:=h H k
theorem YI (H:Q0 w l) (k:K) (h:Q0 w l→K→G:=by
 intro H k;refine Jv ?_;refine Q6 ?_
 repeat refine Q7 ?_
 refine QG ?_;refine Jv ?_;refine Jv ?_;refine Q6 ?_;exact k):G:=h H k
theorem YP (H:Q0 w l) (k:K) (h:Q0 w l→K→G:=by
 intro H k;refine Jv ?_;refine Jv ?_;exact k):G:=h H k
theorem YS (H:Q0 w l) (k:K) (h:Q0 w l→K→G:=by
 intro H k
 repeat refine Q7 ?_
 refine QG ?_;refine Q5 rfl (Vr H rfl ?_);exact k):G:=h H k
theorem YT (H:Q0 w l) (k:K) (h:Q0 w l→K→G:=by
 intro H k;refine VZ rfl rfl rfl rfl ?_;exact k):G:=h H k
theorem Yi (H:Q0 w l) (k:K) (h:Q0 w l→K→G:=by
 intro H k
 repeat refine Q7 ?_
 refine VE rfl ?_
 repeat refine Q7 ?_
 refine QG ?_;refine Jv ?_;refine Jv ?_;refine Q6 ?_;exact k):G:=h H k
theorem Yo (H:Q0 w l) (k:K) (h:Q0 w l→K→G:=by
 intro H k;refine Ja 0 ?_;refine Ja 1 ?_;refine Jf 2 ?_;exact k):G:=h H k
theorem Yp (H:Q0 w l) (k:K) (h:Q0 w l→K→G:=by
 intro H k;refine Jv ?_;refine Q6 ?_
 repeat refine Q7 ?_
 refine QG ?_;refine Jv ?_;refine Jv ?_;refine Q6 ?_
 repeat refine Q7 ?_
 refine VY rfl (QR ?_);exact k):G:=h H k
theorem Yq (H:Q0 w l) (k:K) (h:Q0 w l→K→G:=by
 intro H k
 repeat refine Q7 ?_
 refine QG ?_;exact k):G:=h H k
theorem Yy (H:Q0 w l) (k:K) (h:Q0 w l→K→G:=by
 intro H k;refine VZ rfl rfl rfl rfl ?_;refine VZ rfl rfl rfl rfl ?_;exact k):G:=h H k
theorem ZU (H:Q0 w l) (k:K) (h:Q0 w l→K→G:=by
 intro H k
 repeat refine Q7 ?_
 refine QG ?_;refine Jv ?_;refine Jv ?_;refine Q5 rfl (V7 rfl rfl ?_);refine Q5 rfl (QW H rfl rfl rfl ?_);exact k):G:=h H k
theorem ZD (H:Q0 w l) (k:K) (h:Q0 w l→K→G:=by
 intro H k
 repeat refine Q7 ?_
 refine VY rfl ?_
 repeat refine Q7 ?_
 refine QG ?_;refine Jv ?_;refine Jv ?_;refine Q6 ?_;exact k):G:=h H k
theorem ZE (H:Q0 w l) (k:K) (h:Q0 w l→K→G:=by
 intro H k;refine Jv ?_;refine Jv ?_;refine Jv ?_;refine Jv ?_;refine Jv ?_;refine Q6 ?_;exact k):G:=h H k
theorem ZF (H:Q0 w l) (k:K) (h:Q0 w l→K→G:=by
 intro H k
 repeat refine Q7 ?_
 refine QG ?_;refine Q5 rfl (Lk H rfl rfl rfl ?_);exact k):G:=h H k
theorem ZH (H:Q0 w l) (k:K) (h:Q0 w l→K→G:=by
 intro H k;refine Ja 11 ?_;refine Jx H ?_;exact k):G:=h H k
theorem Zf (H:Q0 w l) (k:K) (h:Q0 w l→K→G:=by
 intro H k
 repeat refine Q7 ?_
 refine QS ?_;exact k):G:=h H k
theorem Zk (H:Q0 w l) (k:K) (h:Q0 w l→K→G:=by
 intro H k;refine Jv ?_;refine Jv ?_;refine Qu rfl rfl rfl ?_;refine Qu rfl rfl rfl ?_;refine Qu rfl rfl rfl ?_;refine Qu rfl rfl rfl ?_;exact k):G:=h H k
theorem Zw (H:Q0 w l) (k:K) (h:Q0 w l→K→G:=by
 intro H k;refine Jv ?_;refine Jv ?_;refine Jv ?_;refine Jv ?_;refine Jv ?_;refine Q6 ?_
 repeat refine Q7 ?_
 refine QG ?_;refine Jv ?_;refine Jv ?_;refine Q6 ?_
 repeat refine Q7 ?_
 refine VY rfl (QR ?_);exact k):G:=h H k
theorem GZ (H:Q0 w l) (k:K) (h:Q0 w l→K→G:=by
 intro H k
 repeat refine Q7 ?_
 refine QG ?_;refine Jv ?_;refine Q5 rfl (VH H rfl (by repeat first|exact .nil _|apply QZ.cons rfl) rfl ?_);exact k):G:=h H k
theorem GG (H:Q0 w l) (k:K) (h:Q0 w l→K→G:=by
 intro H k
 repeat refine Q7 ?_
 refine QG ?_;refine Q5 rfl (VH H rfl (by repeat first|exact .nil _|apply QZ.cons rfl) rfl ?_);exact k):G:=h H k
theorem GU (H:Q0 w l) (k:K) (h:Q0 w l→K→G:=by
 intro H k
 repeat refine Q7 ?_
 refine QG ?_;refine Jv ?_;refine Jv ?_;refine Q5 rfl (V7 rfl rfl ?_);refine Q5 rfl (QW H rfl rfl rfl ?_);refine Jv ?_;refine Jv ?_;exact k):G:=h H k
theorem GX (H:Q0 w l) (k:K) (h:Q0 w l→K→G:=by
 intro H k;refine Q5 rfl (Kr H rfl rfl rfl ?_);exact k):G:=h H k
theorem GK (H:Q0 w l) (k:K) (h:Q0 w l→K→G:=by
 intro H k;refine Jv ?_;refine Q5 rfl (V7 rfl rfl ?_);refine Q5 rfl (Yh H rfl rfl inferInstance rfl (Nat.le_of_ble_eq_true rfl) rfl ?_);exact k):G:=h H k
theorem Gf (H:Q0 w l) (k:K) (h:Q0 w l→K→G:=by
 intro H k
 repeat refine Q7 ?_
 refine QG ?_;refine Jv ?_;refine Jv ?_;refine Q6 ?_
 repeat refine Q7 ?_
 refine VY rfl (QR ?_);exact k):G:=h H k
theorem Gg (H:Q0 w l) (k:K) (h:Q0 w l→K→G:=by
 intro H k;refine Q5 rfl (V7 rfl rfl ?_);refine Q5 rfl (QW H rfl rfl rfl ?_);exact k):G:=h H k
theorem Gu (H:Q0 w l) (k:K) (h:Q0 w l→K→G:=by
 intro H k;refine Q5 rfl (Ug rfl rfl ?_);exact k):G:=h H k
theorem Gv (H:Q0 w l) (k:K) (h:Q0 w l→K→G:=by
 intro H k;refine Zc H rfl rfl inferInstance rfl rfl (Nat.le_of_ble_eq_true rfl) rfl ?_;exact k):G:=h H k
theorem Gw (H:Q0 w l) (k:K) (h:Q0 w l→K→G:=by
 intro H k;refine VZ rfl rfl rfl rfl ?_;refine VZ rfl rfl rfl rfl ?_;refine VZ rfl rfl rfl rfl ?_;exact k):G:=h H k
theorem Gx (H:Q0 w l) (k:K) (h:Q0 w l→K→G:=by
 intro H k
 repeat refine Q7 ?_
 refine QG ?_;refine Q5 rfl (QW H rfl rfl rfl ?_);exact k):G:=h H k
theorem UU (H:Q0 w l) (k:K) (h:Q0 w l→K→G:=by
 intro H k;refine Ja 7 ?_;refine Ja 8 ?_;refine Ja 9 ?_;refine Ja 10 ?_;refine Ja 11 ?_;refine Jx H ?_;exact k):G:=h H k
theorem UX (H:Q0 w l) (k:K) (h:Q0 w l→K→G:=by
 intro H k;refine Q6 ?_
 repeat refine Q7 ?_
 refine QG ?_;refine Jv ?_;refine Jv ?_;refine Q6 ?_;exact k):G:=h H k
theorem UK (H:Q0 w l) (k:K) (h:Q0 w l→K→G:=by
 intro H k;refine Jv ?_;refine Q6 ?_
 repeat refine Q7 ?_
 refine VE rfl ?_
 repeat refine Q7 ?_
 refine QG ?_;refine Jv ?_;refine Q6 ?_;exact k):G:=h H k
theorem UR (H:Q0 w l) (k:K) (h:Q0 w l→K→G:=by
 intro H k;refine X4 rfl rfl ?_;refine Q6 ?_;exact k):G:=h H k
theorem Ui (H:Q0 w l) (k:K) (h:Q0 w l→K→G:=by
 intro H k;refine Ja 4 ?_;refine Ja 5 ?_;exact k):G:=h H k
theorem Uj (H:Q0 w l) (k:K) (h:Q0 w l→K→G:=by
 intro H k;refine Yh H rfl rfl inferInstance rfl (Nat.le_of_ble_eq_true rfl) rfl ?_;exact k):G:=h H k
theorem Uk (H:Q0 w l) (k:K) (h:Q0 w l→K→G:=by
 intro H k;refine Q5 rfl (V7 rfl rfl ?_);refine Q5 rfl (Yh H rfl rfl inferInstance rfl (Nat.le_of_ble_eq_true rfl) rfl ?_);exact k):G:=h H k
theorem Ul (H:Q0 w l) (k:K) (h:Q0 w l→K→G:=by
 intro H k;refine Q5 rfl (ZY rfl rfl ?_);refine Jv ?_;refine Q6 ?_;exact k):G:=h H k
theorem Um (H:Q0 w l) (k:K) (h:Q0 w l→K→G:=by
 intro H k;refine Q5 rfl (Ws H rfl rfl ?_);exact k):G:=h H k
theorem Un (H:Q0 w l) (k:K) (h:Q0 w l→K→G:=by
 intro H k;refine Jv ?_;refine Q6 ?_
 repeat refine Q7 ?_
 refine VE rfl ?_;exact k):G:=h H k
theorem Gy (H:Q0 w l) (k:K) (h:Q0 w l→K→G:=by
 intro H k
 repeat refine Q7 ?_
 refine QG ?_;refine Jv ?_;refine Q6 ?_
 repeat refine Q7 ?_
 refine QG ?_;refine Jv ?_;refine Jv ?_;exact k):G:=h H k
theorem Uo (H:Q0 w l) (k:K) (h:Q0 w l→K→G:=by
 intro H k
 repeat refine Q7 ?_
 refine QG ?_;refine Jv ?_;refine Jv ?_;refine Q6 ?_
 repeat refine Q7 ?_
 refine QG ?_;refine Jv ?_;refine Jv ?_;exact k):G:=h H k
theorem Up (H:Q0 w l) (k:K) (h:Q0 w l→K→G:=by
 intro H k;refine Ja 0 ?_;refine Ja 1 ?_;refine Jf 2 ?_;refine Jl 3 [6] H ?_;refine Jf 4 ?_;refine Jl 5 [6] H ?_;refine Jo 6 H ?_;exact k):G:=h H k
theorem X5 (H:Q0 w l) (k:K) (h:Q0 w l→K→G:=by
 intro H k
 repeat refine Q7 ?_
 refine QG ?_;refine Jv ?_;refine Jv ?_;refine Jv ?_;refine Jv ?_;exact k):G:=h H k
theorem X6 (H:Q0 w l) (k:K) (h:Q0 w l→K→G:=by
 intro H k;refine Q5 rfl (Ug rfl rfl ?_);refine Q5 rfl (Ws H rfl rfl ?_);exact k):G:=h H k
theorem X7 (H:Q0 w l) (k:K) (h:Q0 w l→K→G:=by
 intro H k;refine Ja 0 ?_;refine Ja 1 ?_;refine Jf 2 ?_;refine Jl 3 [] H ?_;exact k):G:=h H k
theorem X8 (H:Q0 w l) (k:K) (h:Q0 w l→K→G:=by
 intro H k;refine Jv ?_;refine Jv ?_;refine Jv ?_;refine Jv ?_;refine Jv ?_;refine Q6 ?_
 repeat refine Q7 ?_
 refine QG ?_;refine Jv ?_;refine Jv ?_;refine Q6 ?_;exact k):G:=h H k
theorem X9 (H:Q0 w l) (k:K) (h:Q0 w l→K→G:=by
 intro H k;refine Ja 1 ?_;refine Jf 2 ?_;exact k):G:=h H k
theorem XO (H:Q0 w l) (k:K) (h:Q0 w l→K→G:=by
 intro H k;refine QT rfl rfl rfl (V7 rfl rfl ?_);refine QT rfl rfl rfl (QW H rfl rfl rfl ?_);refine VZ rfl rfl rfl rfl ?_;exact k):G:=h H k
theorem XP (H:Q0 w l) (k:K) (h:Q0 w l→K→G:=by
 intro H k;refine VZ rfl rfl rfl rfl ?_;refine Jv ?_;refine Jv ?_;refine Q6 ?_;exact k):G:=h H k
theorem XS (H:Q0 w l) (k:K) (h:Q0 w l→K→G:=by
 intro H k;refine Jv ?_;refine VZ rfl rfl rfl rfl ?_;refine VZ rfl rfl rfl rfl ?_;exact k):G:=h H k
theorem XT (H:Q0 w l) (k:K) (h:Q0 w l→K→G:=by
 intro H k;refine UY rfl rfl ?_;refine UY rfl rfl ?_;exact k):G:=h H k
theorem Xa (H:Q0 w l) (k:K) (h:Q0 w l→K→G:=by
 intro H k
 repeat refine Q7 ?_
 refine QG ?_;refine Jv ?_;refine Q5 rfl (ZY rfl rfl ?_);refine Jv ?_;refine Q6 ?_;exact k):G:=h H k
theorem Xb (H:Q0 w l) (k:K) (h:Q0 w l→K→G:=by
 intro H k;refine Ja 12 ?_;refine Jx H ?_;exact k):G:=h H k
theorem Xc (H:Q0 w l) (k:K) (h:Q0 w l→K→G:=by
 intro H k;refine Ja 0 ?_;refine Ja 1 ?_;refine Jf 2 ?_;refine Jl 3 [5,10] H ?_;refine VP 4 [5,10] H rfl (Q9.none rfl) rfl (by repeat first|exact .nil _|apply QZ.cons rfl) (by kernel_rfl) ?_;exact k):G:=h H k
theorem Xd (H:Q0 w l) (k:K) (h:Q0 w l→K→G:=by
 intro H k;refine Ja 6 ?_;refine Ja 7 ?_;refine Ja 8 ?_;refine Jo 9 H ?_;refine Vr H rfl ?_;exact k):G:=h H k
theorem Xe (H:Q0 w l) (k:K) (h:Q0 w l→K→G:=by
 intro H k;refine Jo 10 H ?_;refine Zc H rfl rfl inferInstance rfl rfl (Nat.le_of_ble_eq_true rfl) rfl ?_;exact k):G:=h H k
theorem Xf (H:Q0 w l) (k:K) (h:Q0 w l→K→G:=by
 intro H k;refine Ja 6 ?_;refine Ja 7 ?_;refine Ja 8 ?_;refine Jo 10 H ?_;refine Zc H rfl rfl inferInstance rfl rfl (Nat.le_of_ble_eq_true rfl) rfl ?_;exact k):G:=h H k
theorem Xg (H:Q0 w l) (k:K) (h:Q0 w l→K→G:=by
 intro H k;refine Jo 12 H ?_;refine Zc H rfl rfl inferInstance rfl rfl (Nat.le_of_ble_eq_true rfl) rfl ?_;exact k):G:=h H k
theorem Xh (H:Q0 w l) (k:K) (h:Q0 w l→K→G:=by
 intro H k
 repeat refine Q7 ?_
 refine QG ?_;refine Q5 rfl (QW H rfl rfl rfl ?_);refine Jv ?_;exact k):G:=h H k
theorem Xi (H:Q0 w l) (k:K) (h:Q0 w l→K→G:=by
 intro H k;refine Ja 8 ?_;refine Jx H ?_;exact k):G:=h H k
theorem Xj (H:Q0 w l) (k:K) (h:Q0 w l→K→G:=by
 intro H k
 repeat refine Q7 ?_
 refine QG ?_;refine Q5 rfl (QW H rfl rfl rfl ?_);refine Jv ?_;refine Q5 rfl (V7 rfl rfl ?_);refine Q5 rfl (QW H rfl rfl rfl ?_);refine Jv ?_;exact k):G:=h H k
theorem K7 (H:Q0 w l) (k:K) (h:Q0 w l→K→G:=by
 intro H k;refine Q5 rfl (VH H rfl (by repeat first|exact .nil _|apply QZ.cons rfl) rfl ?_);exact k):G:=h H k
theorem K8 (H:Q0 w l) (k:K) (h:Q0 w l→K→G:=by
 intro H k;refine QT rfl rfl rfl (VH H rfl (by repeat first|exact .nil _|apply QZ.cons rfl) rfl ?_);exact k):G:=h H k
theorem K9 (H:Q0 w l) (k:K) (h:Q0 w l→K→G:=by
 intro H k;refine Jv ?_;refine Jv ?_;refine Q6 ?_
 repeat refine Q7 ?_
 exact k):G:=h H k
theorem KQ (H:Q0 w l) (k:K) (h:Q0 w l→K→G:=by
 intro H k;refine Jv ?_;refine Jv ?_;refine Q6 ?_
 repeat refine Q7 ?_
 refine VY rfl ?_;exact k):G:=h H k
theorem KY (H:Q0 w l) (k:K) (h:Q0 w l→K→G:=by
 intro H k;refine Q5 rfl (QW H rfl rfl rfl ?_);exact k):G:=h H k
theorem KZ (H:Q0 w l) (k:K) (h:Q0 w l→K→G:=by
 intro H k
 repeat refine Q7 ?_
 refine QG ?_;refine Q5 rfl (VH H rfl (by repeat first|exact .nil _|apply QZ.cons rfl) rfl ?_);refine Q5 rfl (Zc H rfl rfl inferInstance rfl rfl (Nat.le_of_ble_eq_true rfl) rfl ?_);exact k):G:=h H k
theorem KG (H:Q0 w l) (k:K) (h:Q0 w l→K→G:=by
 intro H k
 repeat refine Q7 ?_
 refine QG ?_;refine Q5 rfl (V7 rfl rfl ?_);refine Q5 rfl (QW H rfl rfl rfl ?_);exact k):G:=h H k
theorem KU (H:Q0 w l) (k:K) (h:Q0 w l→K→G:=by
 intro H k
 repeat refine Q7 ?_
 refine QG ?_;refine Jv ?_;refine Jv ?_;refine Jv ?_;refine Jv ?_;refine Jv ?_;refine Q6 ?_;exact k):G:=h H k
theorem KX (H:Q0 w l) (k:K) (h:Q0 w l→K→G:=by
 intro H k
 repeat refine Q7 ?_
 refine QS ?_
 repeat refine Q7 ?_
 refine QG ?_;refine Jv ?_;refine Jv ?_;exact k):G:=h H k
theorem KK (H:Q0 w l) (k:K) (h:Q0 w l→K→G:=by
 intro H k;refine Jv ?_;refine Q6 ?_
 repeat refine Q7 ?_
 refine VY rfl (QR ?_)
 repeat refine Q7 ?_
 refine QG ?_;refine Jv ?_;refine Jv ?_;refine Q6 ?_;exact k):G:=h H k
theorem KR (H:Q0 w l) (k:K) (h:Q0 w l→K→G:=by
 intro H k;refine Jv ?_;refine VZ rfl rfl rfl rfl ?_;refine VZ rfl rfl rfl rfl ?_;refine VZ rfl rfl rfl rfl ?_;refine QT rfl rfl rfl (V7 rfl rfl ?_);refine QT rfl rfl rfl (QW H rfl rfl rfl ?_);refine QT rfl rfl rfl (ZY rfl rfl ?_);refine VZ rfl rfl rfl rfl ?_;exact k):G:=h H k
theorem KW (H:Q0 w l) (k:K) (h:Q0 w l→K→G:=by
 intro H k
 repeat refine Q7 ?_
 refine QG ?_;refine Q5 rfl (VH H rfl (by repeat first|exact .nil _|apply QZ.cons rfl) rfl ?_);refine Jv ?_;refine Q5 rfl (Zc H rfl rfl inferInstance rfl rfl (Nat.le_of_ble_eq_true rfl) rfl ?_);exact k):G:=h H k
theorem KA (H:Q0 w l) (k:K) (h:Q0 w l→K→G:=by
 intro H k;refine Q5 rfl (Lk H rfl rfl rfl ?_);exact k):G:=h H k
theorem KB (H:Q0 w l) (k:K) (h:Q0 w l→K→G:=by
 intro H k
 repeat refine Q7 ?_
 refine VY rfl (QR ?_)
 repeat refine Q7 ?_
 refine QG ?_;refine Jv ?_;refine Q6 ?_;exact k):G:=h H k
theorem KC (H:Q0 w l) (k:K) (h:Q0 w l→K→G:=by
 intro H k;refine Ja 12 ?_;refine Ja 13 ?_;exact k):G:=h H k
theorem KD (H:Q0 w l) (k:K) (h:Q0 w l→K→G:=by
 intro H k;refine Q5 rfl (V7 rfl rfl ?_);exact k):G:=h H k
theorem KE (H:Q0 w l) (k:K) (h:Q0 w l→K→G:=by
 intro H k
 repeat refine Q7 ?_
 refine QG ?_;refine Jv ?_;refine Jv ?_;refine Q5 rfl (ZY rfl rfl ?_);refine Jv ?_;refine Q6 ?_
 repeat refine Q7 ?_
 exact k):G:=h H k
theorem KF (H:Q0 w l) (k:K) (h:Q0 w l→K→G:=by
 intro H k
 repeat refine Q7 ?_
 refine QG ?_;refine Jv ?_;refine Jv ?_;refine Jv ?_;refine Q5 rfl (V7 rfl rfl ?_);refine Q5 rfl (QW H rfl rfl rfl ?_);refine Q5 rfl (ZY rfl rfl ?_);refine Jv ?_;refine Q6 ?_
 repeat refine Q7 ?_
 exact k):G:=h H k
theorem Kv (H:Q0 w l) (k:K) (h:Q0 w l→K→G:=by
 intro H k
 repeat refine Q7 ?_
 refine QG ?_;refine Q5 rfl (V7 rfl rfl ?_);refine Q5 rfl (QW H rfl rfl rfl ?_);refine Jv ?_;exact k):G:=h H k
theorem Kw (H:Q0 w l) (k:K) (h:Q0 w l→K→G:=by
 intro H k;refine Jf 0 ?_;refine Jl 1 [] H ?_;refine Ja 2 ?_;exact k):G:=h H k
theorem Kx (H:Q0 w l) (k:K) (h:Q0 w l→K→G:=by
 intro H k;refine Jf 4 ?_;refine Jl 5 [] H ?_;exact k):G:=h H k
theorem Ky (H:Q0 w l) (k:K) (h:Q0 w l→K→G:=by
 intro H k
 repeat refine Q7 ?_
 refine QG ?_;refine Jv ?_;refine Q6 ?_
 repeat refine Q7 ?_
 refine QG ?_;refine Jv ?_;refine Q5 rfl (UQ rfl rfl (.inl rfl) rfl ?_);refine Q6 ?_
 repeat refine Q7 ?_
 refine VY rfl (QR ?_)
 repeat refine Q7 ?_
 refine QG ?_;refine Jv ?_;refine Jv ?_;refine Q5 rfl (V7 rfl rfl ?_);refine Q5 rfl (QW H rfl rfl rfl ?_);exact k):G:=h H k
theorem Kz (H:Q0 w l) (k:K) (h:Q0 w l→K→G:=by
 intro H k;refine QS ?_
 repeat refine Q7 ?_
 refine QG ?_;refine Jv ?_;refine Q5 rfl (UQ rfl rfl (.inl rfl) rfl ?_);refine Jv ?_;refine Q6 ?_
 repeat refine Q7 ?_
 refine VY rfl ?_;exact k):G:=h H k
theorem R3 (H:Q0 w l) (k:K) (h:Q0 w l→K→G:=by
 intro H k
 repeat refine Q7 ?_
 refine QG ?_;refine Jv ?_;refine Q6 ?_
 repeat refine Q7 ?_
 refine QG ?_;refine Jv ?_;exact k):G:=h H k
theorem R4 (H:Q0 w l) (k:K) (h:Q0 w l→K→G:=by
 intro H k
 repeat refine Q7 ?_
 refine QG ?_;refine Jv ?_;refine Q5 rfl (V7 rfl rfl ?_);refine Q5 rfl (QW H rfl rfl rfl ?_);exact k):G:=h H k
theorem R5 (H:Q0 w l) (k:K) (h:Q0 w l→K→G:=by
 intro H k;refine Jv ?_;refine Q6 ?_
 repeat refine Q7 ?_
 refine QG ?_;refine Jv ?_;refine Q5 rfl (VH H rfl (by repeat first|exact .nil _|apply QZ.cons rfl) rfl ?_);exact k):G:=h H k
theorem R6 (H:Q0 w l) (k:K) (h:Q0 w l→K→G:=by
 intro H k;refine Q5 rfl (V7 rfl rfl ?_);refine Q5 rfl (QW H rfl rfl rfl ?_);refine Jv ?_;exact k):G:=h H k
theorem R7 (H:Q0 w l) (k:K) (h:Q0 w l→K→G:=by
 intro H k
 repeat refine Q7 ?_
 refine QS ?_
 repeat refine Q7 ?_
 refine QG ?_;refine Jv ?_;refine Jv ?_;refine Q6 ?_;exact k):G:=h H k
theorem R8 (H:Q0 w l) (k:K) (h:Q0 w l→K→G:=by
 intro H k;refine Ja 8 ?_;refine Ja 9 ?_;refine Ja 10 ?_;exact k):G:=h H k
theorem R9 (H:Q0 w l) (k:K) (h:Q0 w l→K→G:=by
 intro H k;refine Ja 13 ?_;refine Jx H ?_;exact k):G:=h H k
theorem Rs (H:Q0 w l) (k:K) (h:Q0 w l→K→G:=by
 intro H k;refine Q6 ?_
 repeat refine Q7 ?_
 refine QG ?_;refine Jv ?_;refine Jv ?_;exact k):G:=h H k
theorem Rt (H:Q0 w l) (k:K) (h:Q0 w l→K→G:=by
 intro H k;refine VZ rfl rfl rfl rfl ?_;refine Jv ?_;refine Q6 ?_
 repeat refine Q7 ?_
 refine VY rfl (QR ?_);exact k):G:=h H k
theorem Ru (H:Q0 w l) (k:K) (h:Q0 w l→K→G:=by
 intro H k;refine Kr H rfl rfl rfl ?_;exact k):G:=h H k
theorem Rv (H:Q0 w l) (k:K) (h:Q0 w l→K→G:=by
 intro H k;refine Jv ?_;refine Q6 ?_
 repeat refine Q7 ?_
 refine QG ?_;refine Q5 rfl (V7 rfl rfl ?_);refine Q5 rfl (QW H rfl rfl rfl ?_);exact k):G:=h H k
theorem Rw (H:Q0 w l) (k:K) (h:Q0 w l→K→G:=by
 intro H k
 repeat refine Q7 ?_
 refine QG ?_;refine Jv ?_;refine Q6 ?_
 repeat refine Q7 ?_
 refine QG ?_;refine Jv ?_;refine Jv ?_;refine Jv ?_;exact k):G:=h H k
theorem Rx (H:Q0 w l) (k:K) (h:Q0 w l→K→G:=by
 intro H k;refine Q6 ?_
 repeat refine Q7 ?_
 refine QG ?_;refine Jv ?_;refine Q6 ?_;exact k):G:=h H k
theorem Ry (H:Q0 w l) (k:K) (h:Q0 w l→K→G:=by
 intro H k
 repeat refine Q7 ?_
 refine QS ?_
 repeat refine Q7 ?_
 refine QG ?_;refine Jv ?_;refine Jv ?_;refine Jv ?_;exact k):G:=h H k
theorem Rz (H:Q0 w l) (k:K) (h:Q0 w l→K→G:=by
 intro H k;refine Q6 ?_
 repeat refine Q7 ?_
 refine QG ?_;refine Jv ?_;refine Jv ?_;refine Jv ?_;refine Q6 ?_;exact k):G:=h H k
theorem W0 (H:Q0 w l) (k:K) (h:Q0 w l→K→G:=by
 intro H k;refine Jv ?_;refine Jv ?_;refine Jv ?_;refine Jv ?_;refine Jv ?_;refine Q6 ?_
 repeat refine Q7 ?_
 exact k):G:=h H k
theorem W1 (H:Q0 w l) (k:K) (h:Q0 w l→K→G:=by
 intro H k;refine Jv ?_;refine Jv ?_;refine Jv ?_;exact k):G:=h H k
theorem W2 (H:Q0 w l) (k:K) (h:Q0 w l→K→G:=by
 intro H k
 repeat refine Q7 ?_
 refine QG ?_;refine Jv ?_;refine Jv ?_;refine Jv ?_;refine VZ rfl rfl rfl rfl ?_;refine VZ rfl rfl rfl rfl ?_;exact k):G:=h H k
theorem W3 (H:Q0 w l) (k:K) (h:Q0 w l→K→G:=by
 intro H k;refine Jv ?_;refine Jv ?_;refine Q6 ?_
 repeat refine Q7 ?_
 refine VY rfl (QR ?_);exact k):G:=h H k
theorem W4 (H:Q0 w l) (k:K) (h:Q0 w l→K→G:=by
 intro H k;refine UY rfl rfl ?_;refine UY rfl rfl ?_;refine UY rfl rfl ?_;refine Qu rfl rfl rfl ?_;exact k):G:=h H k
theorem W5 (H:Q0 w l) (k:K) (h:Q0 w l→K→G:=by
 intro H k;refine Qu rfl rfl rfl ?_;refine Qu rfl rfl rfl ?_;refine Qu rfl rfl rfl ?_;refine Qu rfl rfl rfl ?_;exact k):G:=h H k
theorem W6 (H:Q0 w l) (k:K) (h:Q0 w l→K→G:=by
 intro H k;refine VZ rfl rfl rfl rfl ?_;refine QT rfl rfl rfl (V7 rfl rfl ?_);refine QT rfl rfl rfl (QW H rfl rfl rfl ?_);refine VZ rfl rfl rfl rfl ?_;exact k):G:=h H k
theorem W7 (H:Q0 w l) (k:K) (h:Q0 w l→K→G:=by
 intro H k;refine Ja 6 ?_;refine Ja 7 ?_;refine Ja 8 ?_;exact k):G:=h H k
theorem W8 (H:Q0 w l) (k:K) (h:Q0 w l→K→G:=by
 intro H k;refine Ja 0 ?_;refine Ja 1 ?_;refine Ja 2 ?_;refine Jf 3 ?_;exact k):G:=h H k
theorem W9 (H:Q0 w l) (k:K) (h:Q0 w l→K→G:=by
 intro H k
 repeat refine Q7 ?_
 refine QG ?_;refine Jv ?_;refine Jv ?_;refine Jv ?_;refine Jv ?_;refine Q6 ?_;exact k):G:=h H k
theorem WQ (H:Q0 w l) (k:K) (h:Q0 w l→K→G:=by
 intro H k
 repeat refine Q7 ?_
 refine QG ?_;refine Jv ?_;refine Q6 ?_
 repeat refine Q7 ?_
 refine QG ?_;refine Jv ?_;refine Q5 rfl (UQ rfl rfl (.inl rfl) rfl ?_);refine Q6 ?_
 repeat refine Q7 ?_
 refine VY rfl (QR ?_)
 repeat refine Q7 ?_
 refine QG ?_;refine Jv ?_;refine Jv ?_;refine Q5 rfl (V7 rfl rfl ?_);refine Q5 rfl (QW H rfl rfl rfl ?_);refine Jv ?_;exact k):G:=h H k
theorem WV (H:Q0 w l) (k:K) (h:Q0 w l→K→G:=by
 intro H k;refine Jv ?_;refine Jv ?_;refine Jv ?_;refine Jv ?_;refine Q6 ?_;exact k):G:=h H k
theorem WY (H:Q0 w l) (k:K) (h:Q0 w l→K→G:=by
 intro H k
 repeat refine Q7 ?_
 refine QG ?_;refine Q5 rfl (V7 rfl rfl ?_);refine Q5 rfl (QW H rfl rfl rfl ?_);refine Jv ?_;refine Q6 ?_;exact k):G:=h H k
theorem WZ (H:Q0 w l) (k:K) (h:Q0 w l→K→G:=by
 intro H k;refine QT rfl rfl rfl (V7 rfl rfl ?_);refine QT rfl rfl rfl (QW H rfl rfl rfl ?_);refine QT rfl rfl rfl (V7 rfl rfl ?_);refine QT rfl rfl rfl (QW H rfl rfl rfl ?_);refine VZ rfl rfl rfl rfl ?_;exact k):G:=h H k
theorem WG (H:Q0 w l) (k:K) (h:Q0 w l→K→G:=by
 intro H k;refine Jv ?_;refine Q6 ?_
 repeat refine Q7 ?_
 refine QG ?_;refine Jv ?_;refine Jv ?_;refine Q6 ?_
 repeat refine Q7 ?_
 refine VE rfl ?_
 repeat refine Q7 ?_
 refine QG ?_;refine Jv ?_;refine Jv ?_;refine Jv ?_;refine Q6 ?_;exact k):G:=h H k
theorem Wy (H:Q0 w l) (k:K) (h:Q0 w l→K→G:=by
 intro H k;refine Jv ?_;refine QT rfl rfl rfl (V7 rfl rfl ?_);refine QT rfl rfl rfl (QW H rfl rfl rfl ?_);refine VZ rfl rfl rfl rfl ?_;exact k):G:=h H k
theorem Wz (H:Q0 w l) (k:K) (h:Q0 w l→K→G:=by
 intro H k
 repeat refine Q7 ?_
 refine QG ?_;refine Jv ?_;refine Q6 ?_
 repeat refine Q7 ?_
 refine QG ?_;refine Jv ?_;refine Q5 rfl (ZY rfl rfl ?_);refine Jv ?_;refine Q6 ?_
 repeat refine Q7 ?_
 refine QS ?_;exact k):G:=h H k
theorem A0 (H:Q0 w l) (k:K) (h:Q0 w l→K→G:=by
 intro H k;refine Jv ?_;refine QT rfl rfl rfl (V7 rfl rfl ?_);refine QT rfl rfl rfl (QW H rfl rfl rfl ?_);refine VZ rfl rfl rfl rfl ?_;refine Jv ?_;exact k):G:=h H k
theorem A1 (H:Q0 w l) (k:K) (h:Q0 w l→K→G:=by
 intro H k
 repeat refine Q7 ?_
 refine QG ?_;refine Jv ?_;refine Q6 ?_
 repeat refine Q7 ?_
 refine QS ?_;exact k):G:=h H k
theorem A2 (H:Q0 w l) (k:K) (h:Q0 w l→K→G:=by
 intro H k;refine Jo 11 H ?_;refine Zc H rfl rfl inferInstance rfl rfl (Nat.le_of_ble_eq_true rfl) rfl ?_;exact k):G:=h H k
theorem A3 (H:Q0 w l) (k:K) (h:Q0 w l→K→G:=by
 intro H k;refine Q5 rfl (H9 rfl rfl rfl ?_);exact k):G:=h H k
theorem A4 (H:Q0 w l) (k:K) (h:Q0 w l→K→G:=by
 intro H k
 repeat refine Q7 ?_
 refine QG ?_;refine Jv ?_;refine Jv ?_;refine Jv ?_;refine Q5 rfl (V7 rfl rfl ?_);refine Q5 rfl (QW H rfl rfl rfl ?_);exact k):G:=h H k
theorem A5 (H:Q0 w l) (k:K) (h:Q0 w l→K→G:=by
 intro H k
 repeat refine Q7 ?_
 refine VY rfl (QR ?_)
 repeat refine Q7 ?_
 refine QG ?_;refine Jv ?_;exact k):G:=h H k
theorem A6 (H:Q0 w l) (k:K) (h:Q0 w l→K→G:=by
 intro H k
 repeat refine Q7 ?_
 refine QS ?_
 repeat refine Q7 ?_
 refine QG ?_;refine Jv ?_;refine Jv ?_;refine Q5 rfl (V7 rfl rfl ?_);refine Q5 rfl (QW H rfl rfl rfl ?_);refine Jv ?_;exact k):G:=h H k
theorem A7 (H:Q0 w l) (k:K) (h:Q0 w l→K→G:=by
 intro H k;refine Jv ?_;refine Jv ?_;refine Jv ?_;refine Q6 ?_;exact k):G:=h H k
theorem A8 (H:Q0 w l) (k:K) (h:Q0 w l→K→G:=by
 intro H k;refine Qu rfl rfl rfl ?_;refine Qu rfl rfl rfl ?_;refine Qu rfl rfl rfl ?_;exact k):G:=h H k
theorem A9 (H:Q0 w l) (k:K) (h:Q0 w l→K→G:=by
 intro H k
 repeat refine Q7 ?_
 refine VY rfl (QR ?_)
 repeat refine Q7 ?_
 refine QG ?_;refine Jv ?_;refine Jv ?_;refine Jv ?_;refine Q6 ?_;exact k):G:=h H k
theorem AQ (H:Q0 w l) (k:K) (h:Q0 w l→K→G:=by
 intro H k;refine Jv ?_;refine Q6 ?_
 repeat refine Q7 ?_
 refine VE rfl ?_
 repeat refine Q7 ?_
 refine QG ?_;refine Q5 rfl (Ug rfl rfl ?_);refine Q5 rfl (Zc H rfl rfl inferInstance rfl rfl (Nat.le_of_ble_eq_true rfl) rfl ?_);exact k):G:=h H k
theorem AV (H:Q0 w l) (k:K) (h:Q0 w l→K→G:=by
 intro H k;refine Jv ?_;refine Q6 ?_
 repeat refine Q7 ?_
 refine VY rfl (Qj ?_);exact k):G:=h H k
theorem AY (H:Q0 w l) (k:K) (h:Q0 w l→K→G:=by
 intro H k
 repeat refine Q7 ?_
 refine QG ?_;refine Q5 rfl (VH H rfl (by repeat first|exact .nil _|apply QZ.cons rfl) rfl ?_);refine Jv ?_;exact k):G:=h H k
theorem AZ (H:Q0 w l) (k:K) (h:Q0 w l→K→G:=by
 intro H k
 repeat refine Q7 ?_
 refine QG ?_;refine Jv ?_;refine Jv ?_;refine Jv ?_;refine Q6 ?_
 repeat refine Q7 ?_
 refine VY rfl ?_
 repeat refine Q7 ?_
 refine QG ?_;refine Jv ?_;refine Jv ?_;exact k):G:=h H k
theorem AG (H:Q0 w l) (k:K) (h:Q0 w l→K→G:=by
 intro H k
 repeat refine Q7 ?_
 refine VY rfl (QR ?_)
 repeat refine Q7 ?_
 refine QG ?_;refine Jv ?_;refine Jv ?_;exact k):G:=h H k
theorem AU (H:Q0 w l) (k:K) (h:Q0 w l→K→G:=by
 intro H k;refine Jv ?_;refine Q6 ?_
 repeat refine Q7 ?_
 refine QG ?_;refine Jv ?_;refine Q5 rfl (UQ rfl rfl (.inl rfl) rfl ?_);refine Q6 ?_
 repeat refine Q7 ?_
 refine VY rfl (QR ?_);exact k):G:=h H k
theorem AX (H:Q0 w l) (k:K) (h:Q0 w l→K→G:=by
 intro H k
 repeat refine Q7 ?_
 refine VY rfl ?_;exact k):G:=h H k
theorem AK (H:Q0 w l) (k:K) (h:Q0 w l→K→G:=by
 intro H k;refine Jv ?_;refine Jv ?_;refine Jv ?_;refine Jv ?_;exact k):G:=h H k
theorem AR (H:Q0 w l) (k:K) (h:Q0 w l→K→G:=by
 intro H k;refine Q5 rfl (ZY rfl rfl ?_);refine Jv ?_;refine Q6 ?_
 repeat refine Q7 ?_
 refine QS ?_;exact k):G:=h H k
theorem AW (H:Q0 w l) (k:K) (h:Q0 w l→K→G:=by
 intro H k;refine Ja 6 ?_;refine Ja 7 ?_;refine Jf 8 ?_;exact k):G:=h H k
theorem AA (H:Q0 w l) (k:K) (h:Q0 w l→K→G:=by
 intro H k;refine Ja 13 ?_;refine Ja 14 ?_;refine Jx H ?_;exact k):G:=h H k
theorem AB (H:Q0 w l) (k:K) (h:Q0 w l→K→G:=by
 intro H k;refine Q6 ?_
 repeat refine Q7 ?_
 refine VY rfl (QR ?_);exact k):G:=h H k
theorem AC (H:Q0 w l) (k:K) (h:Q0 w l→K→G:=by
 intro H k
 repeat refine Q7 ?_
 refine QG ?_;refine Jv ?_;refine Jv ?_;refine Q6 ?_
 repeat refine Q7 ?_
 refine VE rfl ?_
 repeat refine Q7 ?_
 refine QG ?_;refine Jv ?_;refine Q6 ?_;exact k):G:=h H k
theorem AD (H:Q0 w l) (k:K) (h:Q0 w l→K→G:=by
 intro H k;refine GY 14 rfl (Q9.none rfl) rfl (by kernel_rfl) ?_;refine Jo 15 H ?_;refine Ws H rfl rfl ?_;exact k):G:=h H k
theorem AE (H:Q0 w l) (k:K) (h:Q0 w l→K→G:=by
 intro H k;refine Jo 16 H ?_;refine Kr H rfl rfl rfl ?_;exact k):G:=h H k
theorem AF (H:Q0 w l) (k:K) (h:Q0 w l→K→G:=by
 intro H k;refine Ja 18 ?_;refine Jf 19 ?_;refine Jo 20 H ?_;refine Yh H rfl rfl inferInstance rfl (Nat.le_of_ble_eq_true rfl) rfl ?_;exact k):G:=h H k
theorem AH (H:Q0 w l) (k:K) (h:Q0 w l→K→G:=by
 intro H k;refine Ja 8 ?_;refine Ja 9 ?_;refine Ja 10 ?_;refine Ja 11 ?_;refine Ja 12 ?_;refine Jx H ?_;exact k):G:=h H k
theorem BW (H:Q0 w l) (k:K) (h:Q0 w l→K→G:=by
 intro H k;refine Jv ?_;refine Jv ?_;refine QT rfl rfl rfl (V7 rfl rfl ?_);refine QT rfl rfl rfl (QW H rfl rfl rfl ?_);refine VZ rfl rfl rfl rfl ?_;exact k):G:=h H k
theorem BA (H:Q0 w l) (k:K) (h:Q0 w l→K→G:=by
 intro H k;refine Jv ?_;refine Jv ?_;refine VZ rfl rfl rfl rfl ?_;exact k):G:=h H k
theorem BB (H:Q0 w l) (k:K) (h:Q0 w l→K→G:=by
 intro H k;refine Jv ?_;refine VZ rfl rfl rfl rfl ?_;exact k):G:=h H k
theorem BC (H:Q0 w l) (k:K) (h:Q0 w l→K→G:=by
 intro H k
 repeat refine Q7 ?_
 refine QS ?_
 repeat refine Q7 ?_
 refine QG ?_;refine Jv ?_;exact k):G:=h H k
theorem BD (H:Q0 w l) (k:K) (h:Q0 w l→K→G:=by
 intro H k;refine Q5 rfl (Ug rfl rfl ?_);refine Q5 rfl (Kr H rfl rfl rfl ?_);exact k):G:=h H k
theorem BE (H:Q0 w l) (k:K) (h:Q0 w l→K→G:=by
 intro H k;refine Ja 12 ?_;refine Ja 13 ?_;refine Ja 14 ?_;refine Ja 15 ?_;refine Jx H ?_;exact k):G:=h H k
theorem BF (H:Q0 w l) (k:K) (h:Q0 w l→K→G:=by
 intro H k
 repeat refine Q7 ?_
 refine QG ?_;refine Q5 rfl (VH H rfl (by repeat first|exact .nil _|apply QZ.cons rfl) rfl ?_);refine Q5 rfl (Ug rfl rfl ?_);refine Q5 rfl (Wv rfl rfl rfl rfl (.inl rfl) rfl ?_);exact k):G:=h H k
theorem BH (H:Q0 w l) (k:K) (h:Q0 w l→K→G:=by
 intro H k;refine Jv ?_;refine Q6 ?_
 repeat refine Q7 ?_
 refine VE rfl ?_
 repeat refine Q7 ?_
 refine QG ?_;refine Jv ?_;refine Jv ?_;refine Q6 ?_;exact k):G:=h H k
theorem BI (H:Q0 w l) (k:K) (h:Q0 w l→K→G:=by
 intro H k;refine Jv ?_;refine Q6 ?_
 repeat refine Q7 ?_
 refine VY rfl ?_;exact k):G:=h H k
theorem BJ (H:Q0 w l) (k:K) (h:Q0 w l→K→G:=by
 intro H k
 repeat refine Q7 ?_
 refine VE rfl ?_
 repeat refine Q7 ?_
 refine QG ?_;refine Q5 rfl (Ug rfl rfl ?_);refine Q5 rfl (Zc H rfl rfl inferInstance rfl rfl (Nat.le_of_ble_eq_true rfl) rfl ?_);exact k):G:=h H k
theorem BL (H:Q0 w l) (k:K) (h:Q0 w l→K→G:=by
 intro H k;refine Jv ?_;refine Q6 ?_
 repeat refine Q7 ?_
 refine QG ?_;refine Jv ?_;refine Q6 ?_
 repeat refine Q7 ?_
 exact k):G:=h H k
theorem BN (H:Q0 w l) (k:K) (h:Q0 w l→K→G:=by
 intro H k;refine QT rfl rfl rfl (V7 rfl rfl ?_);refine QT rfl rfl rfl (QW H rfl rfl rfl ?_);exact k):G:=h H k
theorem BO (H:Q0 w l) (k:K) (h:Q0 w l→K→G:=by
 intro H k;refine Q6 ?_
 repeat refine Q7 ?_
 exact k):G:=h H k
theorem BP (H:Q0 w l) (k:K) (h:Q0 w l→K→G:=by
 intro H k
 repeat refine Q7 ?_
 refine QG ?_;refine Jv ?_;refine Q6 ?_
 repeat refine Q7 ?_
 refine QG ?_;refine Jv ?_;refine Q5 rfl (UQ rfl rfl (.inl rfl) rfl ?_);refine Q6 ?_
 repeat refine Q7 ?_
 refine VY rfl (QR ?_);exact k):G:=h H k
theorem BS (H:Q0 w l) (k:K) (h:Q0 w l→K→G:=by
 intro H k
 repeat refine Q7 ?_
 refine VY rfl (QR ?_)
 repeat refine Q7 ?_
 refine QG ?_;refine Jv ?_;refine Jv ?_;refine Q6 ?_;exact k):G:=h H k
theorem Ba (H:Q0 w l) (k:K) (h:Q0 w l→K→G:=by
 intro H k;refine Jv ?_;refine Jv ?_;refine Jv ?_;refine Jv ?_;refine Jv ?_;exact k):G:=h H k
theorem Bb (H:Q0 w l) (k:K) (h:Q0 w l→K→G:=by
 intro H k;refine Ja 9 ?_;refine Ja 10 ?_;refine Jf 11 ?_;exact k):G:=h H k
theorem Bc (H:Q0 w l) (k:K) (h:Q0 w l→K→G:=by
 intro H k;refine Jx H ?_
 repeat refine Q7 ?_
 refine QG ?_;refine Jv ?_;refine Q6 ?_;exact k):G:=h H k
theorem Bd (H:Q0 w l) (k:K) (h:Q0 w l→K→G:=by
 intro H k
 repeat refine Q7 ?_
 refine QG ?_;refine Jv ?_;refine Jv ?_;refine Q6 ?_
 repeat refine Q7 ?_
 exact k):G:=h H k
theorem Be (H:Q0 w l) (k:K) (h:Q0 w l→K→G:=by
 intro H k;refine Ja 12 ?_;refine Ja 13 ?_;refine Ja 14 ?_;exact k):G:=h H k
theorem Bf (H:Q0 w l) (k:K) (h:Q0 w l→K→G:=by
 intro H k
 first|refine Jv ?_|refine X4 rfl rfl ?_
 refine Jv ?_;refine Jv ?_;refine Jv ?_;refine Jv ?_;refine Q6 ?_
 repeat refine Q7 ?_
 refine QG ?_;refine Jv ?_;refine Jv ?_;refine Q6 ?_;exact k):G:=h H k
theorem Bg (H:Q0 w l) (k:K) (h:Q0 w l→K→G:=by
 intro H k;refine Qu rfl rfl rfl ?_;refine Qu rfl rfl rfl ?_;refine Qu rfl rfl rfl ?_;refine Qu rfl rfl rfl ?_;refine Qu rfl rfl rfl ?_;refine Qu rfl rfl rfl ?_;refine Qu rfl rfl rfl ?_;exact k):G:=h H k
theorem Bh (H:Q0 w l) (k:K) (h:Q0 w l→K→G:=by
 intro H k
 repeat refine Q7 ?_
 refine QG ?_;refine Q5 rfl (V7 rfl rfl ?_);refine Q5 rfl (QW H rfl rfl rfl ?_);refine Q5 rfl (V7 rfl rfl ?_);refine Q5 rfl (QW H rfl rfl rfl ?_);exact k):G:=h H k
theorem Bi (H:Q0 w l) (k:K) (h:Q0 w l→K→G:=by
 intro H k;refine Qu rfl rfl rfl ?_;refine Qu rfl rfl rfl ?_;exact k):G:=h H k
theorem Bj (H:Q0 w l) (k:K) (h:Q0 w l→K→G:=by
 intro H k;refine Jv ?_;refine Qu rfl rfl rfl ?_;refine Qu rfl rfl rfl ?_;refine Qu rfl rfl rfl ?_;refine Qu rfl rfl rfl ?_;refine Qu rfl rfl rfl ?_;refine Qu rfl rfl rfl ?_;refine Qu rfl rfl rfl ?_;exact k):G:=h H k
theorem Bk (H:Q0 w l) (k:K) (h:Q0 w l→K→G:=by
 intro H k;refine Jv ?_;refine VZ rfl rfl rfl rfl ?_;refine VZ rfl rfl rfl rfl ?_;refine VZ rfl rfl rfl rfl ?_;exact k):G:=h H k
theorem Bl (H:Q0 w l) (k:K) (h:Q0 w l→K→G:=by
 intro H k
 repeat refine Q7 ?_
 refine QG ?_;refine Jv ?_;refine Q6 ?_
 repeat refine Q7 ?_
 refine QG ?_;exact k):G:=h H k
theorem Bm (H:Q0 w l) (k:K) (h:Q0 w l→K→G:=by
 intro H k;refine Ja 0 ?_;refine Ja 1 ?_;refine Jf 2 ?_;refine Jl 3 [6] H ?_;exact k):G:=h H k
theorem Bn (H:Q0 w l) (k:K) (h:Q0 w l→K→G:=by
 intro H k;refine VP 5 [6] H rfl (Q9.none rfl) rfl (by repeat first|exact .nil _|apply QZ.cons rfl) (by kernel_rfl) ?_;refine Jo 6 H ?_;exact k):G:=h H k
theorem Bo (H:Q0 w l) (k:K) (h:Q0 w l→K→G:=by
 intro H k;refine Ja 0 ?_;refine Ja 1 ?_;refine Jf 2 ?_;refine Jl 3 [9] H ?_;exact k):G:=h H k
theorem Bp (H:Q0 w l) (k:K) (h:Q0 w l→K→G:=by
 intro H k;refine Jv ?_;refine Jv ?_;refine Q6 ?_
 repeat refine Q7 ?_
 refine QG ?_;refine Jv ?_;refine Jv ?_;refine Q6 ?_
 repeat refine Q7 ?_
 refine VY rfl (QR ?_);exact k):G:=h H k
theorem Bq (H:Q0 w l) (k:K) (h:Q0 w l→K→G:=by
 intro H k
 repeat refine Q7 ?_
 refine QG ?_;refine Jv ?_;refine Jv ?_;refine Jv ?_;refine Q5 rfl (V7 rfl rfl ?_);refine Q5 rfl (QW H rfl rfl rfl ?_);refine Jv ?_;exact k):G:=h H k
theorem Br (H:Q0 w l) (k:K) (h:Q0 w l→K→G:=by
 intro H k;refine Jv ?_;refine Q6 ?_
 repeat refine Q7 ?_
 refine QG ?_;refine Jv ?_;refine Jv ?_;exact k):G:=h H k
theorem Bs (H:Q0 w l) (k:K) (h:Q0 w l→K→G:=by
 intro H k;refine Q5 rfl (ZY rfl rfl ?_);refine Jv ?_;refine Q6 ?_
 repeat refine Q7 ?_
 exact k):G:=h H k
theorem Bt (H:Q0 w l) (k:K) (h:Q0 w l→K→G:=by
 intro H k;refine Q6 ?_
 repeat refine Q7 ?_
 refine QG ?_;refine Jv ?_;exact k):G:=h H k
theorem Bu (H:Q0 w l) (k:K) (h:Q0 w l→K→G:=by
 intro H k;refine Jv ?_;refine Q6 ?_
 repeat refine Q7 ?_
 refine VE rfl (QR ?_);refine QS ?_;exact k):G:=h H k
theorem Bv (H:Q0 w l) (k:K) (h:Q0 w l→K→G:=by
 intro H k
 repeat refine Q7 ?_
 refine QG ?_;refine Jv ?_;refine Jv ?_;refine Jv ?_;refine Qu rfl rfl rfl ?_;refine Qu rfl rfl rfl ?_;refine Qu rfl rfl rfl ?_;exact k):G:=h H k
theorem Bw (H:Q0 w l) (k:K) (h:Q0 w l→K→G:=by
 intro H k
 repeat refine Q7 ?_
 refine VY rfl (QR ?_)
 repeat refine Q7 ?_
 refine Wr H mixed ?_;exact k):G:=h H k
theorem Bx (H:Q0 w l) (k:K) (h:Q0 w l→K→G:=by
 intro H k;refine Jv ?_;refine Q6 ?_
 repeat refine Q7 ?_
 refine QG ?_;refine Jv ?_;refine Jv ?_;refine Q6 ?_
 repeat refine Q7 ?_
 refine VE rfl ?_
 repeat refine Q7 ?_
 refine QG ?_;refine Jv ?_;refine Jv ?_;refine Q6 ?_;exact k):G:=h H k
theorem By (H:Q0 w l) (k:K) (h:Q0 w l→K→G:=by
 intro H k;refine Jo 11 H ?_;refine Vr H rfl ?_;exact k):G:=h H k
theorem Bz (H:Q0 w l) (k:K) (h:Q0 w l→K→G:=by
 intro H k;refine Ja 0 ?_;refine Ja 1 ?_;refine Jf 2 ?_;refine Jl 3 [8] H ?_;exact k):G:=h H k
theorem C0 (H:Q0 w l) (k:K) (h:Q0 w l→K→G:=by
 intro H k
 repeat refine Q7 ?_
 refine QG ?_;refine Q5 rfl (QW H rfl rfl rfl ?_);refine Q5 rfl (QW H rfl rfl rfl ?_);exact k):G:=h H k
theorem C1 (H:Q0 w l) (k:K) (h:Q0 w l→K→G:=by
 intro H k;refine Jv ?_;refine Q6 ?_
 repeat refine Q7 ?_
 refine QG ?_;refine Jv ?_;refine Jv ?_;refine Jv ?_;refine Q6 ?_;exact k):G:=h H k
theorem C2 (H:Q0 w l) (k:K) (h:Q0 w l→K→G:=by
 intro H k
 repeat refine Q7 ?_
 refine QS ?_
 repeat refine Q7 ?_
 refine Wr H mixed ?_;exact k):G:=h H k
theorem C3 (H:Q0 w l) (k:K) (h:Q0 w l→K→G:=by
 intro H k;refine Qu rfl rfl rfl ?_;refine Qu rfl rfl rfl ?_;refine Qu rfl rfl rfl ?_;refine Qu rfl rfl rfl ?_;refine Qu rfl rfl rfl ?_;refine Qu rfl rfl rfl ?_;exact k):G:=h H k
theorem C4 (H:Q0 w l) (k:K) (h:Q0 w l→K→G:=by
 intro H k;refine Jv ?_;refine Q5 rfl (V7 rfl rfl ?_);refine Q5 rfl (QW H rfl rfl rfl ?_);refine Jv ?_;exact k):G:=h H k
theorem C5 (H:Q0 w l) (k:K) (h:Q0 w l→K→G:=by
 intro H k
 repeat refine Q7 ?_
 refine QG ?_;refine Jv ?_;refine Jv ?_;refine Q6 ?_
 repeat refine Q7 ?_
 refine QG ?_;refine Jv ?_;refine Jv ?_;refine Q5 rfl (V7 rfl rfl ?_);refine Q5 rfl (QW H rfl rfl rfl ?_);refine Jv ?_;exact k):G:=h H k
theorem C6 (H:Q0 w l) (k:K) (h:Q0 w l→K→G:=by
 intro H k;refine QT rfl rfl rfl (VH H rfl (by repeat first|exact .nil _|apply QZ.cons rfl) rfl ?_);refine QT rfl rfl rfl (Ug rfl rfl ?_);exact k):G:=h H k
theorem C7 (H:Q0 w l) (k:K) (h:Q0 w l→K→G:=by
 intro H k;refine Jv ?_;refine Q6 ?_
 repeat refine Q7 ?_
 refine VY rfl ?_
 repeat refine Q7 ?_
 refine QG ?_;refine Jv ?_;refine Jv ?_;exact k):G:=h H k
theorem C8 (H:Q0 w l) (k:K) (h:Q0 w l→K→G:=by
 intro H k;refine Ja 0 ?_;refine Ja 1 ?_;refine Jf 2 ?_;refine Jl 3 [7] H ?_;refine Ja 4 ?_;refine Jf 5 ?_;refine Jl 6 [7] H ?_;refine Jo 7 H ?_;exact k):G:=h H k
theorem C9 (H:Q0 w l) (k:K) (h:Q0 w l→K→G:=by
 intro H k;refine Jv ?_;refine Jv ?_;refine QT rfl rfl rfl (V7 rfl rfl ?_);refine QT rfl rfl rfl (QW H rfl rfl rfl ?_);refine QT rfl rfl rfl (ZY rfl rfl ?_);refine VZ rfl rfl rfl rfl ?_;exact k):G:=h H k
theorem CQ (H:Q0 w l) (k:K) (h:Q0 w l→K→G:=by
 intro H k;refine Ja 0 ?_;refine Ja 1 ?_;refine Jf 2 ?_;refine Jl 3 [7] H ?_;refine Jf 4 ?_;refine Jl 5 [7] H ?_;refine Ja 6 ?_;refine Jo 7 H ?_;exact k):G:=h H k
theorem DC (H:Q0 w l) (k:K) (h:Q0 w l→K→G:=by
 intro H k;refine QT rfl rfl rfl (V7 rfl rfl ?_);refine QT rfl rfl rfl (QW H rfl rfl rfl ?_);refine QT rfl rfl rfl (V7 rfl rfl ?_);refine QT rfl rfl rfl (QW H rfl rfl rfl ?_);exact k):G:=h H k
theorem DD (H:Q0 w l) (k:K) (h:Q0 w l→K→G:=by
 intro H k
 repeat refine Q7 ?_
 refine QG ?_;refine Jv ?_;refine Jv ?_;refine Q6 ?_
 repeat refine Q7 ?_
 refine QG ?_;refine Jv ?_;exact k):G:=h H k
theorem DE (H:Q0 w l) (k:K) (h:Q0 w l→K→G:=by
 intro H k;refine Jx H ?_
 repeat refine Q7 ?_
 refine QG ?_;refine Jv ?_;refine Jv ?_;refine Q6 ?_;exact k):G:=h H k
theorem DF (H:Q0 w l) (k:K) (h:Q0 w l→K→G:=by
 intro H k;refine Q5 rfl (ZY rfl rfl ?_);refine Jv ?_;exact k):G:=h H k
theorem DH (H:Q0 w l) (k:K) (h:Q0 w l→K→G:=by
 intro H k;refine Jv ?_;refine Q5 rfl (Zc H rfl rfl inferInstance rfl rfl (Nat.le_of_ble_eq_true rfl) rfl ?_);exact k):G:=h H k
theorem DI (H:Q0 w l) (k:K) (h:Q0 w l→K→G:=by
 intro H k
 repeat refine Q7 ?_
 refine QG ?_;refine Jv ?_;refine Q6 ?_
 repeat refine Q7 ?_
 refine QG ?_;refine Q5 rfl (Ug rfl rfl ?_);exact k):G:=h H k
theorem DJ (H:Q0 w l) (k:K) (h:Q0 w l→K→G:=by
 intro H k;refine Gt 3 rfl (Q9.none rfl) rfl (by kernel_rfl) ?_;exact k):G:=h H k
theorem DL (H:Q0 w l) (k:K) (h:Q0 w l→K→G:=by
 intro H k;refine Jv ?_;refine Q6 ?_
 repeat refine Q7 ?_
 refine QG ?_;refine Jv ?_;exact k):G:=h H k
theorem DM (H:Q0 w l) (k:K) (h:Q0 w l→K→G:=by
 intro H k;refine Jv ?_;refine Jv ?_;refine Jv ?_;refine Jv ?_;refine Jv ?_;refine Q6 ?_
 repeat refine Q7 ?_
 refine Wr H mixed ?_;exact k):G:=h H k
theorem DN (H:Q0 w l) (k:K) (h:Q0 w l→K→G:=by
 intro H k
 repeat refine Q7 ?_
 refine QG ?_;refine Jv ?_;refine Q5 rfl (UQ rfl rfl (.inl rfl) rfl ?_);exact k):G:=h H k
theorem DO (H:Q0 w l) (k:K) (h:Q0 w l→K→G:=by
 intro H k;refine VZ rfl rfl rfl rfl ?_;refine VZ rfl rfl rfl rfl ?_;refine Jv ?_;refine Jv ?_;exact k):G:=h H k
theorem DP (H:Q0 w l) (k:K) (h:Q0 w l→K→G:=by
 intro H k;refine Ja 10 ?_;refine Ja 11 ?_;refine Jx H ?_;exact k):G:=h H k
theorem DS (H:Q0 w l) (k:K) (h:Q0 w l→K→G:=by
 intro H k;refine Ja 5 ?_;refine Ja 6 ?_;refine Jf 7 ?_;exact k):G:=h H k
theorem DT (H:Q0 w l) (k:K) (h:Q0 w l→K→G:=by
 intro H k;refine VZ rfl rfl rfl rfl ?_;refine Jv ?_;refine Q6 ?_;exact k):G:=h H k
theorem Da (H:Q0 w l) (k:K) (h:Q0 w l→K→G:=by
 intro H k
 repeat refine Q7 ?_
 refine QG ?_;refine Jv ?_;refine Jv ?_;refine Q6 ?_
 repeat refine Q7 ?_
 refine QG ?_;refine Jv ?_;refine Q5 rfl (UQ rfl rfl (.inl rfl) rfl ?_);refine Q6 ?_
 repeat refine Q7 ?_
 refine VY rfl (QR ?_);exact k):G:=h H k
theorem Db (H:Q0 w l) (k:K) (h:Q0 w l→K→G:=by
 intro H k
 repeat refine Q7 ?_
 refine QG ?_;refine Jv ?_;refine Q6 ?_
 repeat refine Q7 ?_
 refine QG ?_;refine Jv ?_;refine Q5 rfl (UQ rfl rfl (.inl rfl) rfl ?_);refine Q6 ?_
 repeat refine Q7 ?_
 refine VY rfl (QR ?_)
 repeat refine Q7 ?_
 refine QG ?_;refine Jv ?_;refine Jv ?_;exact k):G:=h H k
theorem Dc (H:Q0 w l) (k:K) (h:Q0 w l→K→G:=by
 intro H k;refine Ja 4 ?_;refine Ja 5 ?_;refine Ja 6 ?_;refine Jf 7 ?_;exact k):G:=h H k
theorem Dd (H:Q0 w l) (k:K) (h:Q0 w l→K→G:=by
 intro H k;refine Jv ?_;refine Qu rfl rfl rfl ?_;refine Qu rfl rfl rfl ?_;refine Qu rfl rfl rfl ?_;exact k):G:=h H k
theorem De (H:Q0 w l) (k:K) (h:Q0 w l→K→G:=by
 intro H k;refine Jv ?_;refine Jv ?_;refine Qu rfl rfl rfl ?_;refine Qu rfl rfl rfl ?_;refine Qu rfl rfl rfl ?_;exact k):G:=h H k
theorem Df (H:Q0 w l) (k:K) (h:Q0 w l→K→G:=by
 intro H k;refine UY rfl rfl ?_;refine UY rfl rfl ?_;refine UY rfl rfl ?_;refine Qu rfl rfl rfl ?_;refine Jv ?_;refine Jv ?_;refine Q6 ?_;exact k):G:=h H k
theorem Dg (H:Q0 w l) (k:K) (h:Q0 w l→K→G:=by
 intro H k;refine Q5 rfl (V7 rfl rfl ?_);refine Q5 rfl (QW H rfl rfl rfl ?_);refine Jv ?_;refine Jv ?_;exact k):G:=h H k
theorem Dh (H:Q0 w l) (k:K) (h:Q0 w l→K→G:=by
 intro H k;refine Jv ?_;refine Q6 ?_
 repeat refine Q7 ?_
 refine QG ?_;refine Jv ?_;refine Q5 rfl (ZY rfl rfl ?_);refine Jv ?_;refine Q6 ?_;exact k):G:=h H k
theorem Di (H:Q0 w l) (k:K) (h:Q0 w l→K→G:=by
 intro H k
 repeat refine Q7 ?_
 refine QG ?_;refine Jv ?_;refine Jv ?_;refine Q5 rfl (V7 rfl rfl ?_);refine Q5 rfl (QW H rfl rfl rfl ?_);refine Q5 rfl (ZY rfl rfl ?_);exact k):G:=h H k
theorem Dj (H:Q0 w l) (k:K) (h:Q0 w l→K→G:=by
 intro H k;refine QS ?_
 repeat refine Q7 ?_
 refine QG ?_;refine Jv ?_;refine Q5 rfl (UQ rfl rfl (.inl rfl) rfl ?_);refine Jv ?_;refine Q6 ?_
 repeat refine Q7 ?_
 refine VY rfl ?_
 repeat refine Q7 ?_
 refine QG ?_;refine Jv ?_;refine Jv ?_;exact k):G:=h H k
theorem Dk (H:Q0 w l) (k:K) (h:Q0 w l→K→G:=by
 intro H k;refine Jv ?_;refine Jv ?_;refine Q6 ?_
 repeat refine Q7 ?_
 refine VE rfl ?_
 repeat refine Q7 ?_
 refine QG ?_;refine Q5 rfl (Ug rfl rfl ?_);refine Q5 rfl (Zc H rfl rfl inferInstance rfl rfl (Nat.le_of_ble_eq_true rfl) rfl ?_);exact k):G:=h H k
theorem Dm (H:Q0 w l) (k:K) (h:Q0 w l→K→G:=by
 intro H k;refine Jv ?_;refine Jv ?_;refine Q6 ?_
 repeat refine Q7 ?_
 refine QG ?_;refine Jv ?_;refine Q5 rfl (UQ rfl rfl (.inl rfl) rfl ?_);refine Q6 ?_
 repeat refine Q7 ?_
 refine VY rfl (QR ?_);exact k):G:=h H k
theorem Dn (H:Q0 w l) (k:K) (h:Q0 w l→K→G:=by
 intro H k;refine Ja 0 ?_;refine Ja 1 ?_;refine Jf 2 ?_;refine Jl 3 [5] H ?_;refine VP 4 [5] H rfl (Q9.none rfl) rfl (by repeat first|exact .nil _|apply QZ.cons rfl) (by kernel_rfl) ?_;refine Jo 5 H ?_;exact k):G:=h H k
theorem Dp (H:Q0 w l) (k:K) (h:Q0 w l→K→G:=by
 intro H k;refine VP 6 [7] H rfl (Q9.none rfl) rfl (by repeat first|exact .nil _|apply QZ.cons rfl) (by kernel_rfl) ?_;refine Jo 7 H ?_;exact k):G:=h H k
theorem Dq (H:Q0 w l) (k:K) (h:Q0 w l→K→G:=by
 intro H k;refine VP 4 [6] H rfl (Q9.none rfl) rfl (by repeat first|exact .nil _|apply QZ.cons rfl) (by kernel_rfl) ?_;exact k):G:=h H k
theorem Dr (H:Q0 w l) (k:K) (h:Q0 w l→K→G:=by
 intro H k;refine Jv ?_;refine Jv ?_;refine Q6 ?_
 repeat refine Q7 ?_
 refine VE rfl ?_
 repeat refine Q7 ?_
 refine QG ?_;refine Jv ?_;refine Q6 ?_;exact k):G:=h H k
theorem Dt (H:Q0 w l) (k:K) (h:Q0 w l→K→G:=by
 intro H k;refine Qu rfl rfl rfl ?_;refine Qu rfl rfl rfl ?_;refine Qu rfl rfl rfl ?_;refine Qu rfl rfl rfl ?_;refine Jv ?_;refine Jv ?_;refine Q6 ?_;exact k):G:=h H k
theorem Du (H:Q0 w l) (k:K) (h:Q0 w l→K→G:=by
 intro H k;refine Ja 4 ?_;refine Ja 5 ?_;refine Jf 6 ?_;exact k):G:=h H k
theorem Dv (H:Q0 w l) (k:K) (h:Q0 w l→K→G:=by
 intro H k;refine Ja 4 ?_;refine Ja 5 ?_;refine Jf 6 ?_;refine Jl 7 [] H ?_;exact k):G:=h H k
theorem Dw (H:Q0 w l) (k:K) (h:Q0 w l→K→G:=by
 intro H k;refine Jv ?_;refine Q6 ?_
 repeat refine Q7 ?_
 refine QG ?_;refine Jv ?_;refine Jv ?_;refine Jv ?_;exact k):G:=h H k
theorem Dx (H:Q0 w l) (k:K) (h:Q0 w l→K→G:=by
 intro H k
 repeat refine Q7 ?_
 refine VE rfl ?_
 repeat refine Q7 ?_
 refine QG ?_;refine Jv ?_;refine Jv ?_;refine Jv ?_;refine Q6 ?_;exact k):G:=h H k
theorem Dy (H:Q0 w l) (k:K) (h:Q0 w l→K→G:=by
 intro H k;refine QT rfl rfl rfl (UQ rfl rfl (.inl rfl) rfl ?_);refine Jv ?_;refine Q6 ?_
 repeat refine Q7 ?_
 refine VY rfl (QR ?_);exact k):G:=h H k
theorem Dz (H:Q0 w l) (k:K) (h:Q0 w l→K→G:=by
 intro H k;refine Ja 0 ?_;refine Ja 1 ?_;refine Jf 2 ?_;refine Jl 3 [6,11] H ?_;refine Jf 4 ?_;exact k):G:=h H k
theorem E0 (H:Q0 w l) (k:K) (h:Q0 w l→K→G:=by
 intro H k;refine Ja 7 ?_;refine Ja 8 ?_;refine Ja 9 ?_;refine Jo 10 H ?_;refine Vr H rfl ?_;exact k):G:=h H k
theorem E1 (H:Q0 w l) (k:K) (h:Q0 w l→K→G:=by
 intro H k;refine Ja 7 ?_;refine Ja 8 ?_;refine Ja 9 ?_;refine Jo 11 H ?_;refine Zc H rfl rfl inferInstance rfl rfl (Nat.le_of_ble_eq_true rfl) rfl ?_;exact k):G:=h H k
theorem E2 (H:Q0 w l) (k:K) (h:Q0 w l→K→G:=by
 intro H k;refine Jv ?_;refine Jv ?_;refine Q5 rfl (Zc H rfl rfl inferInstance rfl rfl (Nat.le_of_ble_eq_true rfl) rfl ?_);exact k):G:=h H k
theorem E3 (H:Q0 w l) (k:K) (h:Q0 w l→K→G:=by
 intro H k;refine Jv ?_;refine Q6 ?_
 repeat refine Q7 ?_
 refine QG ?_;refine Jv ?_;refine Jv ?_;refine Q6 ?_
 repeat refine Q7 ?_
 refine VY rfl (QR ?_)
 repeat refine Q7 ?_
 refine QG ?_;refine Jv ?_;refine Q5 rfl (VH H rfl (by repeat first|exact .nil _|apply QZ.cons rfl) rfl ?_);exact k):G:=h H k
theorem E4 (H:Q0 w l) (k:K) (h:Q0 w l→K→G:=by
 intro H k
 repeat refine Q7 ?_
 refine QG ?_;refine Jv ?_;refine Q6 ?_
 repeat refine Q7 ?_
 refine QG ?_;refine Jv ?_;refine Q5 rfl (ZY rfl rfl ?_);refine Jv ?_;refine Q6 ?_;exact k):G:=h H k
theorem E5 (H:Q0 w l) (k:K) (h:Q0 w l→K→G:=by
 intro H k
 repeat refine Q7 ?_
 refine QG ?_;refine Jv ?_;refine Jv ?_;refine Q5 rfl (Kr H rfl rfl rfl ?_);exact k):G:=h H k
theorem E6 (H:Q0 w l) (k:K) (h:Q0 w l→K→G:=by
 intro H k;refine Jn 9 ?_;refine Jn 10 ?_;refine Jn 11 ?_;exact k):G:=h H k
theorem E7 (H:Q0 w l) (k:K) (h:Q0 w l→K→G:=by
 intro H k;refine Jn 14 ?_;refine Jn 15 ?_;refine Jn 16 ?_;refine Jn 17 ?_;refine Jn 18 ?_;refine Jn 19 ?_;refine Jn 20 ?_;refine Jn 21 ?_;refine Jn 22 ?_;refine Jn 23 ?_;exact k):G:=h H k
theorem E8 (H:Q0 w l) (k:K) (h:Q0 w l→K→G:=by
 intro H k;refine Ja 24 ?_;refine Ja 25 ?_;refine Jn 26 ?_;refine Jn 27 ?_;refine Jn 28 ?_;refine Jn 29 ?_;refine Jn 30 ?_;refine Jn 31 ?_;refine Jn 32 ?_;refine Jn 33 ?_;refine Jn 34 ?_;refine Jn 35 ?_;refine Jn 36 ?_;refine Jn 37 ?_;refine Ja 38 ?_;refine Jx H ?_
 repeat refine Q7 ?_
 refine VE rfl ?_
 repeat refine Q7 ?_
 refine QG ?_;refine Jv ?_;refine Jv ?_;refine Q6 ?_;exact k):G:=h H k
theorem E9 (H:Q0 w l) (k:K) (h:Q0 w l→K→G:=by
 intro H k
 repeat refine Q7 ?_
 refine VE rfl ?_
 repeat refine Q7 ?_
 refine QG ?_;refine Q5 rfl (Ug rfl rfl ?_);refine Jv ?_;refine Q5 rfl (Zc H rfl rfl inferInstance rfl rfl (Nat.le_of_ble_eq_true rfl) rfl ?_);exact k):G:=h H k
theorem EQ (H:Q0 w l) (k:K) (h:Q0 w l→K→G:=by
 intro H k;refine Jv ?_;refine Jv ?_;refine VZ rfl rfl rfl rfl ?_;refine VZ rfl rfl rfl rfl ?_;refine VZ rfl rfl rfl rfl ?_;exact k):G:=h H k
theorem EV (H:Q0 w l) (k:K) (h:Q0 w l→K→G:=by
 intro H k;refine Jv ?_;refine Jv ?_;refine VZ rfl rfl rfl rfl ?_;refine VZ rfl rfl rfl rfl ?_;refine QT rfl rfl rfl (V7 rfl rfl ?_);refine QT rfl rfl rfl (QW H rfl rfl rfl ?_);refine VZ rfl rfl rfl rfl ?_;exact k):G:=h H k
theorem EY (H:Q0 w l) (k:K) (h:Q0 w l→K→G:=by
 intro H k;refine Q6 ?_
 repeat refine Q7 ?_
 refine QG ?_;refine Jv ?_;refine Jv ?_;refine Q5 rfl (V7 rfl rfl ?_);refine Q5 rfl (QW H rfl rfl rfl ?_);refine Jv ?_;exact k):G:=h H k
theorem EZ (H:Q0 w l) (k:K) (h:Q0 w l→K→G:=by
 intro H k;refine Jv ?_;refine Q6 ?_
 repeat refine Q7 ?_
 refine QG ?_;refine Q5 rfl (QW H rfl rfl rfl ?_);refine Q5 rfl (VH H rfl (by repeat first|exact .nil _|apply QZ.cons rfl) rfl ?_);refine Jv ?_;exact k):G:=h H k
theorem EG (H:Q0 w l) (k:K) (h:Q0 w l→K→G:=by
 intro H k;refine Ja 7 ?_;refine Ja 8 ?_;refine Ja 9 ?_;refine Ja 10 ?_;exact k):G:=h H k
theorem EK (H:Q0 w l) (k:K) (h:Q0 w l→K→G:=by
 intro H k
 repeat refine Q7 ?_
 refine QG ?_;refine Jv ?_;refine Jv ?_;refine Q5 rfl (V7 rfl rfl ?_);refine Q5 rfl (QW H rfl rfl rfl ?_);refine Q5 rfl (ZY rfl rfl ?_);refine Jv ?_;refine Q6 ?_
 repeat refine Q7 ?_
 refine QS ?_;exact k):G:=h H k
theorem ER (H:Q0 w l) (k:K) (h:Q0 w l→K→G:=by
 intro H k;refine Q6 ?_
 repeat refine Q7 ?_
 refine QG ?_;refine Q5 rfl (VH H rfl (by repeat first|exact .nil _|apply QZ.cons rfl) rfl ?_);refine Q5 rfl (VH H rfl (by repeat first|exact .nil _|apply QZ.cons rfl) rfl ?_);refine Q5 rfl (Fp rfl rfl (.inl rfl) rfl ?_);exact k):G:=h H k
theorem EW (H:Q0 w l) (k:K) (h:Q0 w l→K→G:=by
 intro H k;refine Ja 8 ?_;refine Ja 9 ?_;refine Jf 10 ?_;exact k):G:=h H k
theorem EA (H:Q0 w l) (k:K) (h:Q0 w l→K→G:=by
 intro H k;refine Ja 10 ?_;refine Ja 11 ?_;refine Jf 12 ?_;exact k):G:=h H k
theorem EB (H:Q0 w l) (k:K) (h:Q0 w l→K→G:=by
 intro H k
 repeat refine Q7 ?_
 refine VE rfl ?_
 repeat refine Q7 ?_
 refine QG ?_;refine Jv ?_;refine Jv ?_;refine Jv ?_;exact k):G:=h H k
theorem EC (H:Q0 w l) (k:K) (h:Q0 w l→K→G:=by
 intro H k;refine Ja 0 ?_;refine Ja 1 ?_;refine Ja 2 ?_;refine Ja 3 ?_;exact k):G:=h H k
theorem ED (H:Q0 w l) (k:K) (h:Q0 w l→K→G:=by
 intro H k
 repeat refine Q7 ?_
 refine QG ?_;refine Jv ?_;refine Q6 ?_
 repeat refine Q7 ?_
 refine QG ?_;refine Jv ?_;refine Q6 ?_
 repeat refine Q7 ?_
 refine QG ?_;refine Jv ?_;refine Q6 ?_
 repeat refine Q7 ?_
 refine QS ?_;exact k):G:=h H k
theorem EE (H:Q0 w l) (k:K) (h:Q0 w l→K→G:=by
 intro H k
 repeat refine Q7 ?_
 refine QG ?_;refine Jv ?_;refine Jv ?_;refine Q5 rfl (Rp rfl rfl (.inr rfl) rfl ?_);refine Q6 ?_;exact k):G:=h H k
theorem EF (H:Q0 w l) (k:K) (h:Q0 w l→K→G:=by
 intro H k;refine Jv ?_;refine Q5 rfl (V7 rfl rfl ?_);refine Q5 rfl (QW H rfl rfl rfl ?_);refine Jv ?_;refine Q5 rfl (Rp rfl rfl (.inl rfl) rfl ?_);exact k):G:=h H k
theorem EH (H:Q0 w l) (k:K) (h:Q0 w l→K→G:=by
 intro H k
 repeat refine Q7 ?_
 refine QG ?_;refine Jv ?_;refine Jv ?_;refine Q5 rfl (V7 rfl rfl ?_);refine Q5 rfl (QW H rfl rfl rfl ?_);refine Jv ?_;refine Q5 rfl (V7 rfl rfl ?_);refine Q5 rfl (QW H rfl rfl rfl ?_);exact k):G:=h H k
theorem EI (H:Q0 w l) (k:K) (h:Q0 w l→K→G:=by
 intro H k;refine Q5 rfl (V7 rfl rfl ?_);refine Q5 rfl (VH H rfl (by repeat first|exact .nil _|apply QZ.cons rfl) rfl ?_);exact k):G:=h H k
theorem EJ (H:Q0 w l) (k:K) (h:Q0 w l→K→G:=by
 intro H k;refine Ja 7 ?_;refine Ja 8 ?_;refine Ja 9 ?_;refine Ja 10 ?_;refine Ja 11 ?_;refine Jx H ?_
 repeat refine Q7 ?_
 refine QG ?_;refine Jv ?_;refine Jv ?_;refine Jv ?_;refine Jv ?_;exact k):G:=h H k
theorem HY (H:Q0 w l) (k:K) (h:Q0 w l→K→G:=by
 intro H k
 first|refine Jv ?_|refine X4 rfl rfl ?_
 refine Jv ?_;refine Jv ?_;refine Jv ?_;refine Jv ?_;refine Q6 ?_;exact k):G:=h H k
theorem HZ (H:Q0 w l) (k:K) (h:Q0 w l→K→G:=by
 intro H k;refine QT rfl rfl rfl (V7 rfl rfl ?_);refine QT rfl rfl rfl (QW H rfl rfl rfl ?_);refine QT rfl rfl rfl (ZY rfl rfl ?_);refine VZ rfl rfl rfl rfl ?_;exact k):G:=h H k
theorem HG (H:Q0 w l) (k:K) (h:Q0 w l→K→G:=by
 intro H k
 repeat refine Q7 ?_
 refine QG ?_;refine Jv ?_;refine Q6 ?_
 repeat refine Q7 ?_
 refine QG ?_;refine Jv ?_;refine Q6 ?_
 repeat refine Q7 ?_
 refine QS ?_;exact k):G:=h H k
theorem HU (H:Q0 w l) (k:K) (h:Q0 w l→K→G:=by
 intro H k
 repeat refine Q7 ?_
 refine QG ?_;refine Q5 rfl (QW H rfl rfl rfl ?_);refine Q5 rfl (VH H rfl (by repeat first|exact .nil _|apply QZ.cons rfl) rfl ?_);refine Jv ?_;exact k):G:=h H k
theorem HX (H:Q0 w l) (k:K) (h:Q0 w l→K→G:=by
 intro H k;refine VP 5 [6,11] H rfl (Q9.none rfl) rfl (by repeat first|exact .nil _|apply QZ.cons rfl) (by kernel_rfl) ?_;exact k):G:=h H k
theorem HK (H:Q0 w l) (k:K) (h:Q0 w l→K→G:=by
 intro H k;refine VP 5 [7] H rfl (Q9.none rfl) rfl (by repeat first|exact .nil _|apply QZ.cons rfl) (by kernel_rfl) ?_;exact k):G:=h H k
theorem HR (H:Q0 w l) (k:K) (h:Q0 w l→K→G:=by
 intro H k;refine Ja 0 ?_;refine Ja 1 ?_;refine Jf 2 ?_;refine Jl 3 [6] H ?_;refine Jf 4 ?_;refine Jl 5 [6] H ?_;exact k):G:=h H k
theorem HW (H:Q0 w l) (k:K) (h:Q0 w l→K→G:=by
 intro H k;refine VP 5 [6,7,10] H rfl (Q9.none rfl) rfl (by repeat first|exact .nil _|apply QZ.cons rfl) (by kernel_rfl) ?_;exact k):G:=h H k
theorem HA (H:Q0 w l) (k:K) (h:Q0 w l→K→G:=by
 intro H k;refine Q5 rfl (Yh H rfl rfl inferInstance rfl (Nat.le_of_ble_eq_true rfl) rfl ?_);exact k):G:=h H k
theorem HB (H:Q0 w l) (k:K) (h:Q0 w l→K→G:=by
 intro H k;refine VP 4 [7,12] H rfl (Q9.none rfl) rfl (by repeat first|exact .nil _|apply QZ.cons rfl) (by kernel_rfl) ?_;exact k):G:=h H k
end
end Go.SL
