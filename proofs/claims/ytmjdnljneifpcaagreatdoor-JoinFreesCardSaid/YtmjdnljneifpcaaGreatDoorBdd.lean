/- Cells: what is proved on the way: every input of the statement; no condition. Texts joined: SlJ SlI SlQ SlO SlR SlZ Dic. -/
import Derived.Test.YtmjdnljneifpcaaGreatDoorBdc
import Derived.Test.YtmjdnljneifpcaaGreatDoorBdb
import Derived.RangeFuncNested
import Derived.WideKeyArgs
import Derived.ChangeOld
import Derived.OpenShut
import Derived.ProofKit
import Derived.Deep.Slices
import Derived.Test.YtmjdnljneifpcaaGreatDoorBda
set_option linter.unusedVariables false
set_option linter.unusedSimpArgs false
set_option linter.unusedSectionVars false
namespace Go.SL
section
variable {P:Program} {n:Nat} {r:Option Nat} {ops:Array Oper} {Q:Y3} {ms:List Nat} {σ:QU} {w:World} {rest:List Oper} {o:Oper} {K:QU→World→Prop} {l l':List Q2}
variable {ivs:List (List Nat×(World→Prop))} {T:QU→World→Prop} {f:Nat} {L:Array Bool}
variable {u t s:TypeId} {p:String} {af:Array Edge} {g:Option (Nat×Bool)} {d:Option Tmp} {x y z:Operand}
theorem SV {e size bytes b o2 len cap i j:Nat} {q q':IntKind} (hT:VX P t e size bytes) (h1:i≤j) (h2:j≤cap) :
  (Instr.sliceAt t (.slice (some ⟨b,o2,none⟩) len cap) none (some (.int q (i:Int))) (some (.int q' (j:Int)))).run P w = .ok (.slice (some ⟨b,o2,none⟩) i j) w:=by
 have hs:(sizeOf e).run P w = .ok size w:=by
  obtain⟨k,hk,e2⟩:=Option.map_eq_some_iff.1 hT.info;simp only[Prod.mk.injEq] at e2;exact Zs (by rw[hk];simp[e2.1])
 have b1:(0:Int)≤i∧(i:Int)≤j:=by omega
 have b2:(0:Int)≤j∧(j:Int)≤cap:=by omega
 simp[Instr.sliceAt,Instr.slice,Vk hT.und,Instr.sliceBounds,Instr.sliceBound,asIntOf,h1,h2,hs,Z8]
theorem SY {e size bytes b o2 len cap i j:Nat} {q q':IntKind} (m:Nat) (hm:ops[m]? = some ⟨d,.slice t x none (some y) (some z),u,p,af,g⟩) (hg:Q8 ops σ ⟨d,.slice t x none (some y) (some z),u,p,af,g⟩ true) [hT:VX P t e size bytes] (hx:ev σ x = .slice (some ⟨b,o2,none⟩) len cap) (hy:ev σ y = .int q (i:Int)) (hz:ev σ z = .int q' (j:Int)) (h1:i≤j) (h2:j≤cap)
  (hb:YQ n ops (ivs.map (·.1)) L m []=true) (k:Any P n r ops ivs T f (L.setIfInBounds m true) (put σ d (.slice (some ⟨b,o2,none⟩) i j)) w):Any P n r ops ivs T (f+1) L σ w:=
 Gq m hm hg (fun c e=>by cases e) (fun w=>by simp only[execOp,hx,hy,hz,Option.map_some,Option.map_none,Sem.run_bind,SV hT h1 h2,Result.andThen_ok,Sem.run_pure]) hb k
theorem SZ {e size bytes b o2 len cap i:Nat} {q:IntKind} (hT:VX P t e size bytes) (h1:i≤len) (h2:len≤cap) :
  (Instr.sliceAt t (.slice (some ⟨b,o2,none⟩) len cap) (some (.int q (i:Int))) none none).run P w = .ok (.slice (some ⟨b,if cap=i then o2 else o2+i*size,none⟩) (len - i) (cap - i)) w:=by
 have hs:(sizeOf e).run P w = .ok size w:=by
  obtain⟨k,hk,e2⟩:=Option.map_eq_some_iff.1 hT.info;simp only[Prod.mk.injEq] at e2;exact Zs (by rw[hk];simp[e2.1])
 have b1:(0:Int)≤i∧(i:Int)≤len:=by omega
 by_cases he:cap=i
 ·simp[Instr.sliceAt,Instr.slice,Vk hT.und,Instr.sliceBounds,Instr.sliceBound,asIntOf,h1,h2,hs,Z8,he]
 ·simp[Instr.sliceAt,Instr.slice,Vk hT.und,Instr.sliceBounds,Instr.sliceBound,asIntOf,h1,h2,hs,Z8,he]
theorem SG {e size bytes b o2 len cap i:Nat} {q:IntKind} (m:Nat) (hm:ops[m]? = some ⟨d,.slice t x (some y) none none,u,p,af,g⟩) (hg:Q8 ops σ ⟨d,.slice t x (some y) none none,u,p,af,g⟩ true) [hT:VX P t e size bytes] (hx:ev σ x = .slice (some ⟨b,o2,none⟩) len cap) (hy:ev σ y = .int q (i:Int)) (h1:i≤len) (h2:len≤cap)
  (hb:YQ n ops (ivs.map (·.1)) L m []=true) (k:Any P n r ops ivs T f (L.setIfInBounds m true) (put σ d (.slice (some ⟨b,if cap=i then o2 else o2+i*size,none⟩) (len - i) (cap - i))) w):Any P n r ops ivs T (f+1) L σ w:=
 Gq m hm hg (fun c e=>by cases e) (fun w=>by simp only[execOp,hx,hy,Option.map_some,Option.map_none,Sem.run_bind,SZ hT h1 h2,Result.andThen_ok,Sem.run_pure]) hb k
theorem SU [Q4] {e size bytes b o' N i m c2:Nat} {zv:Value} {c spare:List Value} [hT:VX P t e size bytes] [hz:V0 P e zv] (H:Q0 w (pts b (row e (c++spare))::l))
  (hx:ev σ x = .slice (some ⟨b,0,none⟩) i i) (hy:ev σ y = .slice (some ⟨b,o',none⟩) m c2) (hc:c.length=N*size) (hi:i < N) (hm:m=N - (i+1)) (ho:0 < m→o'=(i+1)*size) (hN:N≤1000000)
  (hb:c.length*bytes≤140737488355328) (hd:Qd n d=true) (hq:(decide ((Qt zv).length=size) && decide (0 < size) && decide (0 < bytes))=true)
  (k:∀ v' w',Q0 w' (QC e size v' (c.take (i*size)++c.drop ((i+1)*size))::l)→K (put σ d v') w'):St P n r ⟨d,.call { callee := .builtin .append,args:=#[x,y],argTypes:=#[t,t] },u,p,af,g⟩ σ w K:=by
 simp only[Bool.and_eq_true,decide_eq_true_eq] at hq;obtain⟨⟨hzl,hsz⟩,hby⟩:=hq;have hN1:(i+1)*size≤N*size:=Nat.mul_le_mul_right _ hi;have hi1:(i+1)*size=i*size+size:=Nat.succ_mul i size;have htl:(c.take (i*size)).length=i*size:=by rw[List.length_take];omega
 rcases Nat.eq_zero_or_pos m with hm0|hmp
 ·obtain rfl:N=i+1:=by omega
  subst hm0;have hdr:c.drop ((i+1)*size)=[]:=List.drop_eq_nil_of_le (by omega);refine V1 (v := .slice (some ⟨b,0,none⟩) i i) (w':=w) hd (fun c e=>by cases e) ?_ (k _ _ ?_)
  ·simp[execOp,resolve,invoke,builtin,hx,hy,Fb (w:=w) hT u (Nat.le_refl i)]
  ·rw[hdr,List.append_nil];refine Z9 (spare:=c.drop (i*size)++spare) htl ⟨Nat.le_refl _,by omega⟩ (by simp) ?_;rw[← List.append_assoc,List.take_append_drop];exact H
 ·have hbk:=H.pts;obtain⟨j,hj,e2⟩:=Option.map_eq_some_iff.1 hT.info;simp only[Prod.mk.injEq] at e2;obtain⟨i1,i2⟩:=e2;obtain⟨j',hj',hz'⟩:=Option.map_eq_some_iff.1 hz.zero;have:j'=j:=by rw[hj] at hj';cases hj';rfl
  subst this;have hzc:zv.cells.size=size:=by rw[Cs,hzl]
  have hdl:(c.drop ((i+1)*size)).length=m*size:=by rw[List.length_drop,hc,← Nat.sub_mul,hm]
  have him:i+m+1=N:=by omega
  have bb:N≤N*bytes:=Nat.le_mul_of_pos_right N hby;have mb:N≤N*size:=Nat.le_mul_of_pos_right N hsz;have hNb:N*bytes≤c.length*bytes:=Nat.mul_le_mul_right _ (by rw[hc];exact mb);have hib:(i+m)*bytes≤N*bytes:=Nat.mul_le_mul_right _ (by omega)
  have holds:∀ q v,(c.take (i*size))[q]? = some v→w.cell? ((⟨b,0,none⟩:Addr).add q)=some v:=fun q v hv=>by
   rw[Z8,Nat.zero_add];refine Zf hbk ?_;have h1:=(List.getElem?_eq_some_iff.1 hv).1;rw[htl] at h1;rw[List.getElem?_append_left (by omega)];rw[List.getElem?_take_of_lt h1] at hv;exact hv
  have hnews:∀ q v,(c.drop ((i+1)*size))[q]? = some v→w.cell? ((⟨b,o',none⟩:Addr).add q)=some v:=fun q v hv=>by
   rw[Z8,ho hmp];refine Zf hbk ?_;have h1:=(List.getElem?_eq_some_iff.1 hv).1;rw[hdl] at h1;rw[List.getElem?_drop] at hv;rw[List.getElem?_append_left (List.getElem?_eq_some_iff.1 hv).1];exact hv
  have hr:=run_append_grow (P:=P) w t u e j' zv hT.und hj hz' ⟨b,0,none⟩ i i (c.take (i*size)) (by rw[i1];exact htl) holds ⟨b,o',none⟩ m c2 (c.drop ((i+1)*size)) (by rw[i1];exact hdl) hnews (by omega) (by omega)
   (growslice_fits (by omega) (by rw[i2];omega))
  refine V1 (v := .slice (some ⟨w.heap.size,0,none⟩) (i+m) (grownCap w (i+m) i e)) (w':=w.drew.alloc (.cells ((c.take (i*size)).toArray++(c.drop ((i+1)*size)).toArray++Builtin.zeroCells zv.cells (grownCap w (i+m) i e - (i+m))) e)) hd (fun c e=>by cases e) (by simp only[execOp,resolve,invoke,builtin,Sem.run_bind,Sem.run_pure,Result.andThen_ok,List.map_toArray,List.map_cons,List.map_nil,hx,hy,hr]) (k _ _ ?_);have hg:i+m≤grownCap w (i+m) i e∧grownCap w (i+m) i e≤9223372036854775807:=⟨grownCap_ge w (i+m) i e,grownCap_le_maxLen w (i+m) i e (by unfold maxLen;omega)⟩;refine Z9 (spare:=(Builtin.zeroCells zv.cells (grownCap w (i+m) i e - (i+m))).toList) (by rw[List.length_append,htl,hdl,Nat.add_mul]) hg (by simp[size_zeroCells,hzc]) ?_;have H':Q0 w.drew l:=H.drop.heap rfl;have:=H'.new (.cells ((c.take (i*size)).toArray++(c.drop ((i+1)*size)).toArray++Builtin.zeroCells zv.cells (grownCap w (i+m) i e - (i+m))) e (0,0));refine this.head fun h x=>?_;have e3:(c.take (i*size)).toArray++(c.drop ((i+1)*size)).toArray++Builtin.zeroCells zv.cells (grownCap w (i+m) i e - (i+m))=(c.take (i*size)++c.drop ((i+1)*size)++(Builtin.zeroCells zv.cells (grownCap w (i+m) i e - (i+m))).toList).toArray:=by apply Array.ext';simp
  rw[e3] at x;exact x
end
end Go.SL
namespace Go.SL
section
variable {P:Program} {n:Nat} {r:Option Nat} {Q:Y3} {ms:List Nat} {σ:QU} {w:World} {l:List Q2}
theorem SX [Q4] {fn:Func} {R:Value→World→Prop} {e:Exit} {vs:List Value} (l:List Q2) (he:e = .normal∨e = .ret) (H:Q0 w (mk ms::l))
  (hv:∀ w',Q0 w' l→UV P σ w' fn.results.toList vs) (hR:∀ w',Q0 w' l→R (Xw vs) w'):Kg P n fn R e ms σ w:=
 ⟨he,.inl ⟨l,H,fun w' H' a ra=>⟨_,LL ra (hv w' H'),hR w' H'⟩⟩⟩
end
end Go.SL
namespace Go
section
variable {F:Fence} {n:Nat} {P:Program} {Q:Exit→Act→World→Prop} {a:Act} {w:World} {b:Frame} {k:List Item} {cs:List Frame}
theorem Wl {c:Code}:step P (lone (b.atR a (.code (.scope c)::k)) cs w) = .next (lone (b.atR a (.code c :: .inScope c::k)) cs w):=
 step_lone_go (by simp[stepG,stepG.exec,Frame.atR])
theorem SR {c:Code}:step P (lone (b.atR a (.inScope c::k)) cs w) = .next (lone (b.atR a k) cs w):=
 step_lone_go (by simp[stepG,stepG.exec,Frame.atR])
def SW (Q:Exit→Act→World→Prop):Exit→Act→World→Prop
 | .goto _,_,_=>False
 | e,a,w=>Q e a w
theorem SA {c:Code} (h:c.wpIn F n P (SW Q) a w):(Code.scope c).wpIn F n P Q a w:=by
 intro b k cs hro hb hr;have h0:(lone (b.atR a (.code (.scope c)::k)) cs w).fenced P F:=fenced_calm hb hr rfl;obtain⟨e,a₁,w₁,hq,harr⟩:=h b (.inScope c::k) cs hro hb hr;cases e with
 | normal=>exact⟨.normal,a₁,w₁,hq,.head h0 Wl (StepsIn.trans harr (.one (fenced_calm hb hr rfl) SR))⟩
 | exit id=>
  have hx:exitTo id (.inScope c::k)=exitTo id k:=by simp[exitTo]
  exact⟨.exit id,a₁,w₁,hq,fun k' hk => .head h0 Wl (harr.1 k' (by rw[hx];exact hk)),
   fun hr' hk=>let ⟨k₁,h1,h2⟩:=harr.2 hr' (by rw[hx];exact hk);⟨k₁,h1,.head h0 Wl h2⟩⟩
 | goto l=>exact hq.elim
 | ret=>exact⟨_,a₁,w₁,hq,.of_steps (.one h0 Wl) harr⟩
 | panic ch=>exact⟨_,a₁,w₁,hq,.of_steps (.one h0 Wl) harr⟩
 | outgrown=>exact⟨_,a₁,w₁,hq,.of_steps (.one h0 Wl) harr⟩
end
end Go
namespace Go.SL
def SB (Q:Y3):Y3
 | .goto _,_,_,_=>False
 | e,ms,σ,w=>Q e ms σ w
section
variable {P:Program} {n:Nat} {r:Option Nat} {Q:Y3} {ms:List Nat} {σ:QU} {w:World}
theorem SC {c:Code} (h:C P n r c (SB Q) ms σ w):C P n r (.scope c) Q ms σ w:=fun a ra=>
 SA (wpIn_mono (h a ra) fun e a w q=>by
  cases e with
  | outgrown=>exact q
  | normal=>obtain⟨ms,σ,r,q⟩:=q;exact⟨ms,σ,r,q⟩
  | exit id=>obtain⟨ms,σ,r,q⟩:=q;exact⟨ms,σ,r,q⟩
  | goto l=>obtain⟨ms,σ,r,q⟩:=q;exact q.elim
  | ret=>obtain⟨ms,σ,r,q⟩:=q;exact⟨ms,σ,r,q⟩
  | panic c=>obtain⟨ms,σ,r,q⟩:=q;exact⟨ms,σ,r,q⟩)
end
end Go.SL
namespace Go.SL
section
variable {P:Program} {n:Nat} {r:Option Nat} {σ:QU} {w:World} {o:Oper} {K:QU→World→Prop} {l l':List Q2}
variable {u t:TypeId} {p:String} {af:Array Edge} {g:Option (Nat×Bool)} {d:Option Tmp} {x y z:Operand}
variable {A B:Type} [DecidableEq A] {ek:A→Value} {vv:B→Value} {b:Nat} {m:List (A×B)} {kt et:TypeId}
theorem Lh [Q4] (H:Q0 w (mp ek vv b m::l)):∃ es c,Yo ek vv es c m∧Q0 w (pts b (.map es c)::l):=by
 obtain⟨⟨f,g,a,e,d,⟨es,c,h1,h2⟩,y⟩,ok⟩:=H;exact⟨es,c,h2,⟨f,g,a,e,d,h1,y⟩,ok⟩
theorem Li [Q4] {es:Array MapEntry} {c:Nat} (ok:Yo ek vv es c m) (H:Q0 w (pts b (.map es c)::l)):Q0 w (mp ek vv b m::l):=H.head fun h e=>⟨es,c,e,ok⟩
theorem Yo.push {es:Array MapEntry} {c:Nat} (ok:Yo ek vv es c m) {k:A} (hk:k∉m.map (·.1)) (v:B):Yo ek vv (es.push { key:=ek k,val:=vv v,born:=c }) (c+1) (m++[(k,v)]):=by
 refine⟨by simp[ok.ents],?_,?_,?_⟩
 ·have:=Cr (x:=k) (v:=v) ok.nodup;rwa [XE hk] at this
 ·simp only[Array.toList_push,List.map_append,List.map_cons,List.map_nil];refine List.pairwise_append.2 ⟨ok.rise,by simp,fun a ha c' hc=>?_⟩;obtain⟨q,hq,rfl⟩:=List.mem_map.1 ha;simp at hc;subst hc;exact ok.born q hq
 ·intro q hq;simp only[Array.toList_push,List.mem_append,List.mem_singleton] at hq
  rcases hq with hq|rfl
  ·exact Nat.lt_succ_of_lt (ok.born q hq)
  ·exact Nat.lt_succ_self _
theorem Lj [Q4] {ix:Operand} {key:A} {zv:Value} {es:Array MapEntry} {c:Nat} (H:Q0 w (pts b (.map es c)::l)) (ok:Yo ek vv es c m) (hno:key∉m.map (·.1)) (hx:ev σ x = .map (some b)) (hk:ev σ ix=ek key) (TK:G7 P kt ek) [hM:Yg P t kt et] [hz:V0 P et zv] (hd:Qd n d=true)
  (k:∀ w',Q0 w' (pts b (.map (es.push { key:=ek key,val:=zv,born:=c }) (c+1))::l)→K (put σ d (.tuple #[zv,.int .i64 c])) w'):St P n r ⟨d,.mapEntry t x ix,u,p,af,g⟩ σ w K:=by
 have h1:w.heap[b]? = some (.map es c):=H.pts;have hlt:b < w.heap.size:=(Array.getElem?_eq_some_iff.1 h1).1
 have hrun:(Instr.mapEntry t (.map (some b)) (ek key)).run P w = .ok (.tuple #[zv,.int .i64 c]) (w.putObj b (.map (es.push { key:=ek key,val:=zv,born:=c }) (c+1))):=by
  unfold Instr.mapEntry;simp only[Sem.run_bind,Vk hM.und,Result.andThen_ok,Wd h1,Sem.run_pure,TK.check]
  rcases ok.find TK w key with ⟨h3,h4⟩|⟨j,y,v,h3,h4,h5,h6⟩
  ·rw[h3];simp only[Result.andThen_ok,Sem.run_bind,FX hz,We _ h1,Sem.run_pure];rfl
  ·exact absurd (List.mem_map.2 ⟨_,List.mem_of_getElem? h6,rfl⟩) hno
 refine V1 (v := .tuple #[zv,.int .i64 c]) (w':=w.putObj b (.map (es.push { key:=ek key,val:=zv,born:=c }) (c+1))) hd (fun c e=>by cases e) ?_ (k _ (H.set (World.putObj_heap_same hlt) (fun c hc=>World.putObj_heap_other hc) ⟨rfl,rfl⟩));simp only[execOp,hx,hk,Sem.run_bind,hrun,Result.andThen_ok];rfl
theorem find_born {es:Array MapEntry} {e0:MapEntry} (h:∀ e∈es.toList,e.born < e0.born):(es.push e0).findIdx? (fun e=>(e.born:Int) == (e0.born:Int))=some es.size:=by
 rw[Array.findIdx?_push,Array.findIdx?_eq_none_iff.2]
 ·simp
 ·intro e he;have:=h e (by simpa using he);rw[beq_eq_false_iff_ne];omega
theorem Lk [Q4] {st:Operand} {kx zv v:Value} {es:Array MapEntry} {c c2:Nat} (H:Q0 w (pts b (.map (es.push { key:=kx,val:=zv,born:=c }) c2)::l)) (hb:∀ e∈es.toList,e.born < c) (hx:ev σ x = .map (some b)) (hs:ev σ st = .int .i64 c) (hv:ev σ y=v) (hd:Qd n d=true)
  (k:∀ w',Q0 w' (pts b (.map (es.push { key:=kx,val:=v,born:=c }) c2)::l)→K (put σ d undef) w'):St P n r ⟨d,.entryStore t x st y,u,p,af,g⟩ σ w K:=by
 have h1:w.heap[b]? = some (.map (es.push { key:=kx,val:=zv,born:=c }) c2):=H.pts;have hlt:b < w.heap.size:=(Array.getElem?_eq_some_iff.1 h1).1
 have hmod:(es.push { key:=kx,val:=zv,born:=c }).modify es.size (fun e=>{ e with val:=v })=es.push { key:=kx,val:=v,born:=c }:=by
  apply Array.ext_getElem?;intro i;rw[Array.getElem?_modify,Array.getElem?_push,Array.getElem?_push];by_cases hi:es.size=i
  ·subst hi;simp
  ·rw[if_neg hi,if_neg (fun h=>hi h.symm),if_neg (fun h=>hi h.symm)]
 have hf:(es.push { key:=kx,val:=zv,born:=c }).findIdx? (fun e=>(e.born:Int) == (c:Int))=some es.size:=find_born (es:=es) (e0:={ key:=kx,val:=zv,born:=c }) hb
 have hrun:(Instr.entryStore t (.map (some b)) (.int .i64 c) v).run P w = .ok () (w.putObj b (.map (es.push { key:=kx,val:=v,born:=c }) c2)):=by
  unfold Instr.entryStore;simp only[Sem.run_bind,Result.andThen_ok,Wd h1,Sem.run_pure,asInt,asIntOf,hf,hmod];exact We _ h1
 refine Cn (w':=w.putObj b (.map (es.push { key:=kx,val:=v,born:=c }) c2)) hd (fun c e=>by cases e) ?_ (k _ (H.set (World.putObj_heap_same hlt) (fun c hc=>World.putObj_heap_other hc) ⟨rfl,rfl⟩));simp only[execOp,hx,hs,hv,Sem.run_bind,hrun,Result.andThen_ok];rfl
end
end Go.SL
namespace Go.SL
section
variable {P:Program} {n:Nat} {r:Option Nat} {ops:Array Oper} {Q:Y3} {ms:List Nat} {σ:QU} {w:World} {rest:List Oper} {o:Oper} {K:QU→World→Prop} {l l':List Q2}
variable {ivs:List (List Nat×(World→Prop))} {T:QU→World→Prop} {f:Nat} {L:Array Bool}
variable {u t:TypeId} {p:String} {af:Array Edge} {g:Option (Nat×Bool)} {d:Option Tmp} {x y z:Operand}
theorem SD [Q4] {e size bytes:Nat} {zv:Value} (hT:VX P t e size bytes) (hz:V0 P e zv) (hzl:(Qt zv).length=size) (hsz:0 < size) (hby:0 < bytes) {s:Value} {cs new:List Value} {m c:Nat} {a:Addr} {l:List Q2} (H:Q0 w (QC e size s cs::l))
  (ty:TypeId) (hm:0 < m) (hnl:new.length=m*size) (hnews:∀ j v,new[j]? = some v→w.cell? (a.add j)=some v) (h1:∀ v∈new,v.oneCell'=true)
  (hb:∀ n,cs.length=n*size→(n+m)*bytes≤140737488355328) :
  ∃ v' w',(Builtin.append_ #[t,t] ty #[s,.slice (some a) m c]).run P w = .ok v' w'∧Q0 w' (QC e size v' (cs++new)::l):=by
 obtain⟨i,hi,e2⟩:=Option.map_eq_some_iff.1 hT.info;simp only[Prod.mk.injEq] at e2;obtain⟨i1,i2⟩:=e2;obtain⟨i',hi',hz'⟩:=Option.map_eq_some_iff.1 hz.zero;have:i'=i:=by rw[hi] at hi';cases hi';rfl
 subst this;have hzc:zv.cells.size=size:=by rw[Cs,hzl]
 have mb:∀ k,k≤k*size:=fun k=>Nat.le_mul_of_pos_right k hsz;have bb:∀ k,k≤k*bytes:=fun k=>Nat.le_mul_of_pos_right k hby
 rcases G8 H with ⟨rfl,rfl,H2⟩|⟨b,len,cap,spare,rfl,e3,e4,e5,H2⟩
 ·have hb0:=hb 0 (by simp);rw[Nat.zero_add] at hb0;have hr:=run_append_nil (P:=P) w t ty e i' zv hT.und hi hz' a m c new (by rw[i1];exact hnl) hnews hm (by have:=bb m;omega) (by rw[i2];omega);refine⟨_,_,hr,?_⟩;have hg:m≤grownCap w m 0 e∧grownCap w m 0 e≤9223372036854775807:=⟨grownCap_ge w m 0 e,grownCap_le_maxLen w m 0 e (by have:=bb m;unfold maxLen;omega)⟩;refine Z9 (spare:=(Builtin.zeroCells zv.cells (grownCap w m 0 e - m)).toList) (by simpa using hnl) hg (by simp[size_zeroCells,hzc]) ?_;have H':Q0 w.drew l:=H2.heap rfl;have:=H'.new (.cells (new.toArray++Builtin.zeroCells zv.cells (grownCap w m 0 e - m)) e (0,0));refine this.head fun h x=>?_;have e:new.toArray++Builtin.zeroCells zv.cells (grownCap w m 0 e - m)=([]++new++(Builtin.zeroCells zv.cells (grownCap w m 0 e - m)).toList).toArray:=by apply Array.ext';simp
  rw[e] at x;exact x
 ·have hbk:=H2.pts;have hbn:=hb len e3;by_cases hroom:len+m≤cap
  ·have hsp:m*size≤spare.length:=Nat.le_trans (Nat.mul_le_mul_right _ (by omega)) e5
   have hr:=run_append_room (P:=P) w t ty e i' hT.und hi b len cap (cs++spare).toArray hbk a m c new (by rw[i1];exact hnl) hnews h1 hroom (by
    simp only[List.size_toArray,List.length_append,i1,e3,hnl];omega)
   refine⟨_,_,hr,?_⟩;refine Z9 (spare:=spare.drop new.length) (by simp[e3,hnl,Nat.add_mul]) ⟨hroom,e4.2⟩ ?_ ?_
   ·have e6:(cap - (len+m))*size=(cap - len)*size - m*size:=by rw[← Nat.sub_mul,Nat.sub_sub]
    rw[List.length_drop,hnl,e6];omega
   ·have hh:=setRow_heap w b (cs++spare).toArray ((cs++spare).toArray.toList.take (len*i'.size)++new++(cs++spare).toArray.toList.drop (len*i'.size+new.length)).toArray e _ hbk;refine(H2.set hh (fun k hk=>setRow_other w b k _ hk)).head fun h x=>?_
    have e:(cs++spare).toArray.toList.take (len*i'.size)++new++(cs++spare).toArray.toList.drop (len*i'.size+new.length)=cs++new++spare.drop new.length:=by
     rw[i1,← e3];show (cs++spare).take cs.length++new++(cs++spare).drop (cs.length+new.length)=_;rw[List.take_left,← List.drop_drop,List.drop_left]
    rw[e] at x;exact x
  ·have holds:∀ j u,cs[j]? = some u→w.cell? ((⟨b,0,none⟩:Addr).add j)=some u:=fun j u hj=>by
    rw[Z8];refine Zf hbk ?_;rw[Nat.zero_add,List.getElem?_append_left ((List.getElem?_eq_some_iff.1 hj).1)];exact hj
   have hadd:(len+m)*bytes=len*bytes+m*bytes:=Nat.add_mul _ _ _
   have hr:=run_append_grow (P:=P) w t ty e i' zv hT.und hi hz' ⟨b,0,none⟩ len cap cs (by rw[i1];exact e3) holds a m c new (by rw[i1];exact hnl) hnews (by omega) (by have:=bb (len+m);omega)
    (growslice_fits (by omega) (by rw[i2];omega))
   refine⟨_,_,hr,?_⟩;have hg:len+m≤grownCap w (len+m) cap e∧grownCap w (len+m) cap e≤9223372036854775807:=⟨grownCap_ge w (len+m) cap e,grownCap_le_maxLen w (len+m) cap e (by have:=bb (len+m);unfold maxLen;omega)⟩;refine Z9 (spare:=(Builtin.zeroCells zv.cells (grownCap w (len+m) cap e - (len+m))).toList) (by simp[e3,hnl,Nat.add_mul]) hg (by simp[size_zeroCells,hzc]) ?_;have H':Q0 w.drew l:=H2.drop.heap rfl;have:=H'.new (.cells (cs.toArray++new.toArray++Builtin.zeroCells zv.cells (grownCap w (len+m) cap e - (len+m))) e (0,0));refine this.head fun h x=>?_;have e:cs.toArray++new.toArray++Builtin.zeroCells zv.cells (grownCap w (len+m) cap e - (len+m))=(cs++new++(Builtin.zeroCells zv.cells (grownCap w (len+m) cap e - (len+m))).toList).toArray:=by apply Array.ext';simp
   rw[e] at x;exact x
theorem SE [Q4] {e size bytes:Nat} {zv:Value} [hT:VX P t e size bytes] [hz:V0 P e zv] {s:Value} {cs new c2:List Value} {m cap b o E:Nat} {fz:Nat×Nat} (H:Q0 w (QC e size s cs::l))
  (hx:ev σ x=s) (hy:ev σ y = .slice (some ⟨b,o,none⟩) m cap) [ha:At b (.cells c2.toArray E fz) l] (hn:QY c2 o (m*size) new) (h1:new.all (·.oneCell')=true) (hm:0 < m)
  (hb:∀ n,cs.length=n*size→(n+m)*bytes≤140737488355328) (hd:Qd n d=true) (hq:(decide ((Qt zv).length=size) && decide (0 < size) && decide (0 < bytes))=true)
  (k:∀ v' w',Q0 w' (QC e size v' (cs++new)::l)→K (put σ d v') w'):St P n r ⟨d,.call { callee := .builtin .append,args:=#[x,y],argTypes:=#[t,t] },u,p,af,g⟩ σ w K:=by
 simp only[Bool.and_eq_true,decide_eq_true_eq] at hq;have hbk:w.heap[b]? = some (.cells c2.toArray E fz):=ha.get _ H.drop.1;obtain⟨v',w',hr,H'⟩:=SD (w:=w) (c:=cap) (a:=⟨b,o,none⟩) (m:=m) hT hz hq.1.1 hq.1.2 hq.2 H u hm hn.len (fun j v hj=>by rw[Z8];exact Zf hbk (hn.get j v hj)) (List.all_eq_true.1 h1) hb;refine V1 (v:=v') (w':=w') hd (fun c e=>by cases e) ?_ (k v' w' H');simp[execOp,resolve,invoke,builtin,hx,hy,hr]
end
end Go.SL
namespace Go.SL
open Go.ChangeShapes
section
variable {H:Type} {enc:TypeId×Value→H} {P:Program} {W W':World}
theorem Lm (hl:laidOutB P=true):∀ {ts:List TypeId} {vs:List Value} {ds:List (DataW H)} {ps:List MemPlace} {sp:Nat→Bool},(∀ t∈ts,P.readableRec t=true∧t < P.types.size) →
  DataW.TrodAll enc P W 0 (fun _=>true) true ts vs ds ps→(∀ p∈ps,W.sameAt W' p)→(∀ p∈ps,sp p.block=true)→DataW.TrodAll enc P W' 0 sp true ts vs ds ps
 | [],[],[],_,_,_,h,_,_=>h
 | t::ts,v::vs,d::ds,_,sp,hr,⟨p,q,h,hs,e⟩,same,hsp=>by
  subst e;have hr0:=hr t (by simp)
  exact⟨p,q,Go.WideElems.Trod_stays hl hr0.1 hr0.2 h (fun x hx=>same x (List.mem_append_left _ hx)) (fun x hx=>hsp x (List.mem_append_left _ hx)),
   Lm hl (fun t ht=>hr t (by simp[ht])) hs (fun x hx=>same x (List.mem_append_right _ hx)) (fun x hx=>hsp x (List.mem_append_right _ hx)),rfl⟩
theorem Ll {f:Func} {s:ChangeSpec} {args:Array Value} {v:Value} {ds gs:List (DataW H)} {before:List MemPlace} (hl:laidOutB P=true) (hts:∀ t∈f.params.toList,P.readableRec t=true∧t < P.types.size)
  (hv:s.vars=[]) (hW:DataW.Whole enc P f.params.toList s.vars false W args.toList ds gs before) (hh:∀ b,b < W.heap.size→W'.heap[b]? = W.heap[b]?) (hos:W'.os=W.os) (hout:W'.output=W.output)
  (ha:(s.fn H (ds++gs)).args=ds) (hva:(s.fn H (ds++gs)).vars=[])
  (hres:DataW.TrodAll enc P W' W.heap.size (fun _=>false) false f.resultTypes.toList (v.resultList f.resultTypes.size) (s.fn H (ds++gs)).results []):s.post enc P f false true false false W args v W':=by
 have hlt:=hW.lt;have hW':=hW;obtain⟨p,q,h1,h2,rfl,h3,h4⟩:=hW;rw[hv] at h2;obtain⟨rfl,rfl⟩:=trodVars_none h2
 have same:∀ x∈p,W.sameAt W' x:=by
  intro x hx;have hb:=hlt x (by simp[hx]);cases x with
  | cell b off=>show W'.cell? _=W.cell? _;unfold World.cell?;rw[hh b hb]
  | map b=>exact hh b hb
 have hsp:∀ x∈p,(fun b=>decide (b < W.heap.size)) x.block=true:=fun x hx=>by
  have:=hlt x (by simp[hx]);simpa using this
 refine⟨ds,[],p++[],[],p,[],hW',hres,?_,?_,⟨hos,hout,fun i hi=>?_⟩,fun h=>by cases h⟩
 ·rw[ha];exact Lm hl hts h1 same hsp
 ·rw[hva,hv];show ([]:List MemPlace)=[];rfl
 ·rw[hh i hi];cases hx:W.heap[i]? with
  | none=>trivial
  | some o=>cases o <;> simp
end
end Go.SL
namespace Go.SL
section
variable [Q4] {P:Program} {n:Nat} {r:Option Nat} {ops:Array Oper} {Q:Y3} {ms:List Nat} {σ:QU} {w:World} {rest:List Oper} {o:Oper} {l:List Q2} {ivs:List (List Nat×(World→Prop))} {T:QU→World→Prop} {f:Nat} {L:Array Bool} {t u:TypeId} {p:String} {af:Array Edge} {g:Option (Nat×Bool)} {d:Option Tmp} {x:Operand} {G K:Prop}
theorem Jo (j:Nat) (H:Q0 w l) (k:St P n r o σ w (Any P n r ops ivs T f (L.setIfInBounds j true))) (hi:ops[j]? = some o:=by rfl) (hr:Region.ready .any ops L=[j]:=by kernel_rfl)
  (hI:Q0 w l→Va ivs L w:=by intro H;repeat first|exact Va.nil|refine Va.cons (.inr (Q0.at H)) ?_|refine Va.cons (.inr (Q0.mp H)) ?_|refine Va.cons (.inl (by kernel_rfl)) ?_)
  (hg:Q8 ops σ o true:=by first|exact Q8.none rfl|exact Q8.of rfl rfl rfl):Any P n r ops ivs T (f+1) L σ w:=Aw j hi hr (hI H) hg k
theorem Ja {op:Op} {v:Value} (i:Nat) (k:Any P n r ops ivs T f (L.setIfInBounds i true) (put σ d v) w) (hi:ops[i]? = some ⟨d,op,u,p,af,g⟩:=by rfl) (hg:Q8 ops σ ⟨d,op,u,p,af,g⟩ true:=by first|exact Q8.none rfl|exact Q8.of rfl rfl rfl) (hv:pv σ op=some v:=by rfl) (hs:YQ n ops (ivs.map (·.1)) L i []=true:=by kernel_rfl):Any P n r ops ivs T (f+1) L σ w:=Gb i hi hg hv hs k
theorem Jf {s:TypeId} {fi off b i₀:Nat} (i:Nat) (k:Any P n r ops ivs T f (L.setIfInBounds i true) (put σ d (.pointer (some ⟨b,i₀+off,none⟩))) w) (hi:ops[i]? = some ⟨d,.fieldAddr s x fi,u,p,af,g⟩:=by rfl) (hg:Q8 ops σ ⟨d,.fieldAddr s x fi,u,p,af,g⟩ true:=by first|exact Q8.none rfl|exact Q8.of rfl rfl rfl) [hf:QO P s fi off] (hx:ev σ x = .pointer (some ⟨b,i₀,none⟩):=by rfl) (hs:YQ n ops (ivs.map (·.1)) L i []=true:=by kernel_rfl):Any P n r ops ivs T (f+1) L σ w:=Pa i hi hg hx hs k
theorem Jl {b i₀ E:Nat} {fz:Nat×Nat} {c:List Value} {v:Value} (i:Nat) (D:List Nat) (H:Q0 w l) (k:Any P n r ops ((D,fun w=>w.heap[b]? = some (.cells c.toArray E fz))::ivs) T f (L.setIfInBounds i true) (put σ d v) w) (hi:ops[i]? = some ⟨d,.load t x,u,p,af,g⟩:=by rfl) (hg:Q8 ops σ ⟨d,.load t x,u,p,af,g⟩ true:=by first|exact Q8.none rfl|exact Q8.of rfl rfl rfl) (hx:ev σ x = .pointer (some ⟨b,i₀,none⟩):=by rfl) (h1:T1 P t:=by infer_instance) (ha:At b (.cells c.toArray E fz) l:=by infer_instance) (hv:c[i₀]? = some v:=by rfl) (hs:YQ n ops (ivs.map (·.1)) L i D=true:=by kernel_rfl):Any P n r ops ivs T (f+1) L σ w:=Vf i D H hi hg hx hv hs k
theorem Jn {op:Op} (i:Nat) (k:Any P n r ops ivs T f (L.setIfInBounds i true) (put σ d undef) w) (hi:ops[i]? = some ⟨d,op,u,p,af,g⟩:=by rfl) (hg:Q8 ops σ ⟨d,op,u,p,af,g⟩ false:=by first|exact Q8.of rfl rfl rfl|exact Q8.skip rfl rfl) (hf:∀ c,op ≠ .defer c:=by intro c e;cases e) (hs:YQ n ops (ivs.map (·.1)) L i []=true:=by kernel_rfl):Any P n r ops ivs T (f+1) L σ w:=PE i hi hg hf hs k
theorem Ji {e size bytes b o len cap:Nat} {q:IntKind} {i:Int} {ix:Operand} (j:Nat) (k:Any P n r ops ivs T f (L.setIfInBounds j true) (put σ d (.pointer (some ⟨b,o+i.toNat*size,none⟩))) w) (hj:ops[j]? = some ⟨d,.indexAddr t x ix,u,p,af,g⟩:=by rfl) (hg:Q8 ops σ ⟨d,.indexAddr t x ix,u,p,af,g⟩ true:=by first|exact Q8.none rfl|exact Q8.of rfl rfl rfl) [hT:VX P t e size bytes] (hx:ev σ x = .slice (some ⟨b,o,none⟩) len cap:=by rfl) (hi:ev σ ix = .int q i:=by rfl) (h0:0≤i:=by omega) (h1:i < len:=by omega) (hs:YQ n ops (ivs.map (·.1)) L j []=true:=by kernel_rfl):Any P n r ops ivs T (f+1) L σ w:=Kj j hj hg hx hi h0 h1 hs k
theorem Jd {e size bytes b o len cap:Nat} {q:IntKind} {i:Int} {ix:Operand} (k:Lp P n r ops Q rest ms (put σ d (.pointer (some ⟨b,o+i.toNat*size,none⟩))) w) [hT:VX P t e size bytes] (hx:ev σ x = .slice (some ⟨b,o,none⟩) len cap:=by rfl) (hi:ev σ ix = .int q i:=by rfl) (h0:0≤i:=by omega) (h1:i < len:=by omega) (hd:Qd n d=true:=by rfl):Lp P n r ops Q (⟨d,.indexAddr t x ix,u,p,af,none⟩::rest) ms σ w:=Q5 rfl (Gs hx hi h0 h1 hd k)
theorem Jv {op:Op} {v:Value} (k:Lp P n r ops Q rest ms (put σ d v) w) (h:pv σ op=some v:=by rfl) (hd:Qd n d=true:=by rfl):Lp P n r ops Q (⟨d,op,u,p,af,none⟩::rest) ms σ w:=UQ h hd k
theorem Jx (H:Q0 w l) (k:T σ w) (hr:Region.ready .any ops L=[]:=by kernel_rfl) (hI:Q0 w l→Va ivs L w:=by intro H;repeat first|exact Va.nil|refine Va.cons (.inr (Q0.at H)) ?_|refine Va.cons (.inr (Q0.mp H)) ?_|refine Va.cons (.inl (by kernel_rfl)) ?_):Any P n r ops ivs T f L σ w:=FW hr (hI H) k
theorem Jw {o o':Oper} (i j:Nat) (H:Q0 w l) (hi:ops[i]? = some o) (hj:ops[j]? = some o') (k:St P n r o σ w (Any P n r ops ivs T f (L.setIfInBounds i true))) (k':St P n r o' σ w (Any P n r ops ivs T f (L.setIfInBounds j true))) (hr:Region.ready .any ops L=[i,j]:=by kernel_rfl) (hI:Q0 w l→Va ivs L w:=by intro H;repeat first|exact Va.nil|refine Va.cons (.inr (Q0.at H)) ?_|refine Va.cons (.inr (Q0.mp H)) ?_|refine Va.cons (.inl (by kernel_rfl)) ?_) (hg:Q8 ops σ o true:=by first|exact Q8.none rfl|exact Q8.of rfl rfl rfl) (hg':Q8 ops σ o' true:=by first|exact Q8.none rfl|exact Q8.of rfl rfl rfl):Any P n r ops ivs T (f+1) L σ w:=Pv i j hi hj hr (hI H) hg hg' k k'
theorem Jk {f:FuncId} {K:QU→World→Prop} {xs:List Operand} {ts:Array TypeId} {R:Value→World→Prop} (hx:ev σ x = .func (.func f) #[] #[]) [hb:QV P f] (hd:Qd n d=true) (s:Calls P f (xs.map (ev σ)).toArray w (ret R)) (k:∀ v w',R v w'→K (put σ d v) w') :
  St P n r ⟨d,.call { callee := .value x,args:=xs.toArray,argTypes:=ts },u,p,af,g⟩ σ w K:=V2 (a:=[]) (b:=[]) hx hd (by rw[List.nil_append,List.append_nil];exact call s k)
theorem Jc {f:FuncId} {xs:List Operand} {ts:Array TypeId} {R:Value→World→Prop} (hx:ev σ x = .func (.func f) #[] #[]) [hb:QV P f] (hd:Qd n d=true) (s:Calls P f (xs.map (ev σ)).toArray w (ret R)) (k:∀ v w',R v w'→Lp P n r ops Q rest ms (put σ d v) w') :
  Lp P n r ops Q (⟨d,.call { callee := .value x,args:=xs.toArray,argTypes:=ts },u,p,af,none⟩::rest) ms σ w:=Q5 rfl (Jk hx hd s k)
theorem Js {l':List Q2} (is:List Nat) (m:Nat) (H:Q0 w l) (h:Q0 w (sel is m l)→Q0 w l':=by intro H;dsimp only[SL.sel,SL.pull,List.drop] at H;exact H):Q0 w l':=h (H.sel is m)
theorem Jy {fn:Func} {R:Value→World→Prop} {e:Exit} {vs:List Value} (H:Q0 w l) (h:Ur σ fn.results.toList=some vs) (hr:∀ w',Q0 w' l→R (Xw vs) w') (he:e = .normal∨e = .ret:=by first|exact .inr rfl|exact .inl rfl):Kg P n fn R e [] σ w:=Y4 _ he H h hr
theorem Jz {fn:Func} {R:Value→World→Prop} {e:Exit} {vs:List Value} (H:Q0 w l) (h:∀ w',Q0 w' l→UV P σ w' fn.results.toList vs) (hr:∀ w',Q0 w' l→R (Xw vs) w') (he:e = .normal∨e = .ret:=by first|exact .inr rfl|exact .inl rfl):Kg P n fn R e [] σ w:=B1 _ he H h hr
theorem J0 (H:Q0 w l) (k:K) (h:Q0 w l→K→G:=by
 intro H k;refine Jv ?_;refine Q6 ?_;exact k):G:=h H k
theorem J1 (H:Q0 w l) (k:K) (h:Q0 w l→K→G:=by
 intro H k
 repeat refine Q7 ?_
 refine Kn H mixed ?_;exact k):G:=h H k
theorem J2 (H:Q0 w l) (k:K) (h:Q0 w l→K→G:=by
 intro H k;refine Jv ?_;refine Jv ?_;refine Q6 ?_;exact k):G:=h H k
theorem J3 (H:Q0 w l) (k:K) (h:Q0 w l→K→G:=by
 intro H k;refine Q5 rfl (ZN H rfl rfl inferInstance rfl rfl (Nat.le_of_ble_eq_true rfl) rfl ?_);exact k):G:=h H k
theorem J4 (H:Q0 w l) (k:K) (h:Q0 w l→K→G:=by
 intro H k
 repeat refine Q7 ?_
 refine QG ?_;refine Jv ?_;refine Jv ?_;refine Q6 ?_;exact k):G:=h H k
theorem J5 (H:Q0 w l) (k:K) (h:Q0 w l→K→G:=by
 intro H k
 repeat refine Q7 ?_
 refine QG ?_;refine Jv ?_;refine Jv ?_;exact k):G:=h H k
theorem J6 (H:Q0 w l) (k:K) (h:Q0 w l→K→G:=by
 intro H k
 repeat refine Q7 ?_
 refine QG ?_;refine Q5 rfl (Wi H rfl rfl ?_);exact k):G:=h H k
theorem J7 (H:Q0 w l) (k:K) (h:Q0 w l→K→G:=by
 intro H k
 repeat refine Q7 ?_
 refine QG ?_;refine Jv ?_;refine Q6 ?_
 repeat refine Q7 ?_
 exact k):G:=h H k
theorem J8 (H:Q0 w l) (k:K) (h:Q0 w l→K→G:=by
 intro H k
 repeat refine Q7 ?_
 exact k):G:=h H k
theorem J9 (H:Q0 w l) (k:K) (h:Q0 w l→K→G:=by
 intro H k
 repeat refine Q7 ?_
 refine QG ?_;refine Jv ?_;refine Jv ?_;refine Q5 rfl (VK rfl rfl ?_);refine Q5 rfl (QA H rfl rfl rfl ?_);refine Jv ?_;exact k):G:=h H k
theorem V5 (H:Q0 w l) (k:K) (h:Q0 w l→K→G:=by
 intro H k
 repeat refine Q7 ?_
 refine VU rfl (QW ?_);exact k):G:=h H k
theorem V8 (H:Q0 w l) (k:K) (h:Q0 w l→K→G:=by
 intro H k
 repeat refine Q7 ?_
 refine QG ?_;refine Jv ?_;refine Jv ?_;refine Jv ?_;refine Q6 ?_;exact k):G:=h H k
theorem VZ (H:Q0 w l) (k:K) (h:Q0 w l→K→G:=by
 intro H k;refine Q5 rfl (Vu H rfl ?_);exact k):G:=h H k
theorem VC (H:Q0 w l) (k:K) (h:Q0 w l→K→G:=by
 intro H k
 repeat refine Q7 ?_
 refine QG ?_;refine Jv ?_;refine Q6 ?_;exact k):G:=h H k
theorem VD (H:Q0 w l) (k:K) (h:Q0 w l→K→G:=by
 intro H k
 repeat refine Q7 ?_
 refine Vg rfl ?_;exact k):G:=h H k
theorem Vh (H:Q0 w l) (k:K) (h:Q0 w l→K→G:=by
 intro H k
 repeat refine Q7 ?_
 refine QG ?_;refine Jv ?_;refine Jv ?_;refine Jv ?_;exact k):G:=h H k
theorem Vi (H:Q0 w l) (k:K) (h:Q0 w l→K→G:=by
 intro H k;refine Jv ?_;refine Jv ?_;refine Jv ?_;refine Q5 rfl (Vu H rfl ?_);exact k):G:=h H k
theorem Y0 (H:Q0 w l) (k:K) (h:Q0 w l→K→G:=by
 intro H k;refine Jv ?_;refine Q6 ?_
 repeat refine Q7 ?_
 refine VU rfl (QW ?_);exact k):G:=h H k
theorem Y1 (H:Q0 w l) (k:K) (h:Q0 w l→K→G:=by
 intro H k;refine Jv ?_;refine Q6 ?_
 repeat refine Q7 ?_
 exact k):G:=h H k
theorem YY (H:Q0 w l) (k:K) (h:Q0 w l→K→G:=by
 intro H k
 repeat refine Q7 ?_
 refine QS ?_
 repeat refine Q7 ?_
 refine QG ?_;exact k):G:=h H k
theorem YZ (H:Q0 w l) (k:K) (h:Q0 w l→K→G:=by
 intro H k
 repeat refine Q7 ?_
 refine QG ?_;refine Jv ?_;exact k):G:=h H k
theorem YG (H:Q0 w l) (k:K) (h:Q0 w l→K→G:=by
 intro H k
 repeat refine Q7 ?_
 refine Vg rfl ?_
 repeat refine Q7 ?_
 refine QG ?_;refine Jv ?_;refine Q6 ?_;exact k):G:=h H k
theorem YD (H:Q0 w l) (k:K) (h:Q0 w l→K→G:=by
 intro H k;refine Jv ?_;refine Q6 ?_
 repeat refine Q7 ?_
 refine QG ?_;refine Jv ?_;refine Jv ?_;refine Q6 ?_;exact k):G:=h H k
theorem YO (H:Q0 w l) (k:K) (h:Q0 w l→K→G:=by
 intro H k
 repeat refine Q7 ?_
 refine QG ?_;refine Q5 rfl (Vu H rfl ?_);exact k):G:=h H k
theorem YS (H:Q0 w l) (k:K) (h:Q0 w l→K→G:=by
 intro H k;refine Jv ?_;refine Jv ?_;exact k):G:=h H k
theorem YT (H:Q0 w l) (k:K) (h:Q0 w l→K→G:=by
 intro H k;refine Ja 0 ?_;refine Ja 1 ?_;refine Jf 2 ?_;exact k):G:=h H k
theorem Ya (H:Q0 w l) (k:K) (h:Q0 w l→K→G:=by
 intro H k
 repeat refine Q7 ?_
 refine QG ?_;refine Jv ?_;refine Jv ?_;refine Q5 rfl (VK rfl rfl ?_);refine Q5 rfl (QA H rfl rfl rfl ?_);exact k):G:=h H k
theorem Yi (H:Q0 w l) (k:K) (h:Q0 w l→K→G:=by
 intro H k;refine Jv ?_;refine Q6 ?_
 repeat refine Q7 ?_
 refine QG ?_;refine Jv ?_;refine Jv ?_;refine Q6 ?_
 repeat refine Q7 ?_
 refine VU rfl (QW ?_);exact k):G:=h H k
theorem Yj (H:Q0 w l) (k:K) (h:Q0 w l→K→G:=by
 intro H k
 repeat refine Q7 ?_
 refine Vg rfl ?_
 repeat refine Q7 ?_
 refine QG ?_;refine Jv ?_;refine Jv ?_;refine Q6 ?_;exact k):G:=h H k
theorem Yp (H:Q0 w l) (k:K) (h:Q0 w l→K→G:=by
 intro H k;refine VB rfl rfl rfl rfl ?_;exact k):G:=h H k
theorem ZW (H:Q0 w l) (k:K) (h:Q0 w l→K→G:=by
 intro H k
 repeat refine Q7 ?_
 refine QG ?_;refine Q5 rfl (LC H rfl rfl rfl ?_);exact k):G:=h H k
theorem ZS (H:Q0 w l) (k:K) (h:Q0 w l→K→G:=by
 intro H k
 repeat refine Q7 ?_
 refine VU rfl ?_
 repeat refine Q7 ?_
 refine QG ?_;refine Jv ?_;refine Jv ?_;refine Q6 ?_;exact k):G:=h H k
theorem Zg (H:Q0 w l) (k:K) (h:Q0 w l→K→G:=by
 intro H k;refine VB rfl rfl rfl rfl ?_;refine VB rfl rfl rfl rfl ?_;exact k):G:=h H k
theorem Zh (H:Q0 w l) (k:K) (h:Q0 w l→K→G:=by
 intro H k;refine Jv ?_;refine Jv ?_;refine Jv ?_;refine Jv ?_;refine Jv ?_;refine Q6 ?_;exact k):G:=h H k
theorem Zu (H:Q0 w l) (k:K) (h:Q0 w l→K→G:=by
 intro H k;refine Jv ?_;refine Jv ?_;refine Jv ?_;refine Jv ?_;refine Jv ?_;refine Q6 ?_
 repeat refine Q7 ?_
 refine QG ?_;refine Jv ?_;refine Jv ?_;refine Q6 ?_
 repeat refine Q7 ?_
 refine VU rfl (QW ?_);exact k):G:=h H k
theorem GQ (H:Q0 w l) (k:K) (h:Q0 w l→K→G:=by
 intro H k
 repeat refine Q7 ?_
 refine QG ?_;refine Q5 rfl (VH H rfl (by repeat first|exact .nil _|apply QY.cons rfl) rfl ?_);exact k):G:=h H k
theorem GV (H:Q0 w l) (k:K) (h:Q0 w l→K→G:=by
 intro H k
 repeat refine Q7 ?_
 refine QS ?_;exact k):G:=h H k
theorem GY (H:Q0 w l) (k:K) (h:Q0 w l→K→G:=by
 intro H k
 repeat refine Q7 ?_
 refine QG ?_;refine Jv ?_;refine Jv ?_;refine Q5 rfl (VK rfl rfl ?_);refine Q5 rfl (QA H rfl rfl rfl ?_);refine Jv ?_;refine Jv ?_;exact k):G:=h H k
theorem GZ (H:Q0 w l) (k:K) (h:Q0 w l→K→G:=by
 intro H k
 repeat refine Q7 ?_
 refine QG ?_;exact k):G:=h H k
theorem GG (H:Q0 w l) (k:K) (h:Q0 w l→K→G:=by
 intro H k;refine Q5 rfl (Km H rfl rfl rfl ?_);exact k):G:=h H k
theorem GU (H:Q0 w l) (k:K) (h:Q0 w l→K→G:=by
 intro H k;refine Jv ?_;refine Q5 rfl (VK rfl rfl ?_);refine Q5 rfl (Yf H rfl rfl inferInstance rfl (Nat.le_of_ble_eq_true rfl) rfl ?_);exact k):G:=h H k
theorem GX (H:Q0 w l) (k:K) (h:Q0 w l→K→G:=by
 intro H k;refine Ja 11 ?_;refine Jx H ?_;exact k):G:=h H k
theorem Ge (H:Q0 w l) (k:K) (h:Q0 w l→K→G:=by
 intro H k
 repeat refine Q7 ?_
 refine QG ?_;refine Jv ?_;refine Q5 rfl (VH H rfl (by repeat first|exact .nil _|apply QY.cons rfl) rfl ?_);exact k):G:=h H k
theorem Gf (H:Q0 w l) (k:K) (h:Q0 w l→K→G:=by
 intro H k;refine Q5 rfl (VK rfl rfl ?_);refine Q5 rfl (QA H rfl rfl rfl ?_);exact k):G:=h H k
theorem Gu (H:Q0 w l) (k:K) (h:Q0 w l→K→G:=by
 intro H k
 repeat refine Q7 ?_
 refine QG ?_;refine Jv ?_;refine Jv ?_;refine Q6 ?_
 repeat refine Q7 ?_
 refine VU rfl (QW ?_);exact k):G:=h H k
theorem Gv (H:Q0 w l) (k:K) (h:Q0 w l→K→G:=by
 intro H k;refine Q5 rfl (Ud rfl rfl ?_);exact k):G:=h H k
theorem Gw (H:Q0 w l) (k:K) (h:Q0 w l→K→G:=by
 intro H k;refine Qe rfl rfl rfl (VK rfl rfl ?_);refine Qe rfl rfl rfl (QA H rfl rfl rfl ?_);refine VB rfl rfl rfl rfl ?_;exact k):G:=h H k
theorem Gx (H:Q0 w l) (k:K) (h:Q0 w l→K→G:=by
 intro H k;refine ZN H rfl rfl inferInstance rfl rfl (Nat.le_of_ble_eq_true rfl) rfl ?_;exact k):G:=h H k
theorem Gy (H:Q0 w l) (k:K) (h:Q0 w l→K→G:=by
 intro H k
 repeat refine Q7 ?_
 refine QG ?_;refine Jv ?_;refine Q5 rfl (ZO rfl rfl ?_);refine Jv ?_;refine Q6 ?_;exact k):G:=h H k
theorem Gz (H:Q0 w l) (k:K) (h:Q0 w l→K→G:=by
 intro H k
 repeat refine Q7 ?_
 refine QG ?_;refine Q5 rfl (QA H rfl rfl rfl ?_);exact k):G:=h H k
theorem UZ (H:Q0 w l) (k:K) (h:Q0 w l→K→G:=by
 intro H k;refine Ja 7 ?_;refine Ja 8 ?_;refine Ja 9 ?_;refine Ja 10 ?_;refine Ja 11 ?_;refine Jx H ?_;exact k):G:=h H k
theorem UG (H:Q0 w l) (k:K) (h:Q0 w l→K→G:=by
 intro H k;refine VB rfl rfl rfl rfl ?_;refine VB rfl rfl rfl rfl ?_;refine VB rfl rfl rfl rfl ?_;exact k):G:=h H k
theorem UU (H:Q0 w l) (k:K) (h:Q0 w l→K→G:=by
 intro H k;refine Jv ?_;refine Q6 ?_
 repeat refine Q7 ?_
 refine Vg rfl ?_
 repeat refine Q7 ?_
 refine QG ?_;refine Jv ?_;refine Q6 ?_;exact k):G:=h H k
theorem UX (H:Q0 w l) (k:K) (h:Q0 w l→K→G:=by
 intro H k;refine Uc rfl rfl ?_;refine Q6 ?_;exact k):G:=h H k
theorem Uf (H:Q0 w l) (k:K) (h:Q0 w l→K→G:=by
 intro H k;refine Qe rfl rfl rfl (VK rfl rfl ?_);refine Qe rfl rfl rfl (QA H rfl rfl rfl ?_);exact k):G:=h H k
theorem Ug (H:Q0 w l) (k:K) (h:Q0 w l→K→G:=by
 intro H k;refine Ja 4 ?_;refine Ja 5 ?_;exact k):G:=h H k
theorem Uh (H:Q0 w l) (k:K) (h:Q0 w l→K→G:=by
 intro H k;refine Yf H rfl rfl inferInstance rfl (Nat.le_of_ble_eq_true rfl) rfl ?_;exact k):G:=h H k
theorem Ui (H:Q0 w l) (k:K) (h:Q0 w l→K→G:=by
 intro H k;refine Q5 rfl (VK rfl rfl ?_);refine Q5 rfl (Yf H rfl rfl inferInstance rfl (Nat.le_of_ble_eq_true rfl) rfl ?_);exact k):G:=h H k
theorem Uj (H:Q0 w l) (k:K) (h:Q0 w l→K→G:=by
 intro H k
 repeat refine Q7 ?_
 refine QG ?_;refine Jv ?_;refine Q6 ?_
 repeat refine Q7 ?_
 refine QG ?_;refine Jv ?_;refine Jv ?_;exact k):G:=h H k
theorem Uv (H:Q0 w l) (k:K) (h:Q0 w l→K→G:=by
 intro H k;refine Q5 rfl (Ud rfl rfl ?_);refine Q5 rfl (Wi H rfl rfl ?_);exact k):G:=h H k
theorem UK (H:Q0 w l) (k:K) (h:Q0 w l→K→G:=by
 intro H k;refine Q5 rfl (ZO rfl rfl ?_);refine Jv ?_;refine Q6 ?_;exact k):G:=h H k
theorem Uw (H:Q0 w l) (k:K) (h:Q0 w l→K→G:=by
 intro H k;refine Ja 0 ?_;refine Ja 1 ?_;refine Jf 2 ?_;refine Jl 3 [] H ?_;exact k):G:=h H k
theorem Ux (H:Q0 w l) (k:K) (h:Q0 w l→K→G:=by
 intro H k;refine Q6 ?_
 repeat refine Q7 ?_
 refine QG ?_;refine Jv ?_;refine Jv ?_;refine Q6 ?_;exact k):G:=h H k
theorem Uy (H:Q0 w l) (k:K) (h:Q0 w l→K→G:=by
 intro H k;refine Q5 rfl (Wi H rfl rfl ?_);exact k):G:=h H k
theorem Uz (H:Q0 w l) (k:K) (h:Q0 w l→K→G:=by
 intro H k;refine Jv ?_;refine Jv ?_;refine Qu rfl rfl rfl ?_;refine Qu rfl rfl rfl ?_;refine Qu rfl rfl rfl ?_;refine Qu rfl rfl rfl ?_;exact k):G:=h H k
theorem X0 (H:Q0 w l) (k:K) (h:Q0 w l→K→G:=by
 intro H k;refine Jv ?_;refine Jv ?_;refine Jv ?_;refine Jv ?_;refine Jv ?_;refine Q6 ?_
 repeat refine Q7 ?_
 refine QG ?_;refine Jv ?_;refine Jv ?_;refine Q6 ?_;exact k):G:=h H k
theorem X4 (H:Q0 w l) (k:K) (h:Q0 w l→K→G:=by
 intro H k;refine Jv ?_;refine Q6 ?_
 repeat refine Q7 ?_
 refine Vg rfl ?_;exact k):G:=h H k
theorem X5 (H:Q0 w l) (k:K) (h:Q0 w l→K→G:=by
 intro H k
 repeat refine Q7 ?_
 refine QG ?_;refine Jv ?_;refine Jv ?_;refine Q6 ?_
 repeat refine Q7 ?_
 refine QG ?_;refine Jv ?_;refine Jv ?_;exact k):G:=h H k
theorem X6 (H:Q0 w l) (k:K) (h:Q0 w l→K→G:=by
 intro H k;refine Ja 8 ?_;refine Jx H ?_;exact k):G:=h H k
theorem X7 (H:Q0 w l) (k:K) (h:Q0 w l→K→G:=by
 intro H k;refine Ja 1 ?_;refine Jf 2 ?_;exact k):G:=h H k
theorem XO (H:Q0 w l) (k:K) (h:Q0 w l→K→G:=by
 intro H k;refine VB rfl rfl rfl rfl ?_;refine Jv ?_;refine Jv ?_;refine Q6 ?_;exact k):G:=h H k
theorem XP (H:Q0 w l) (k:K) (h:Q0 w l→K→G:=by
 intro H k;refine Jv ?_;refine VB rfl rfl rfl rfl ?_;refine VB rfl rfl rfl rfl ?_;exact k):G:=h H k
theorem XS (H:Q0 w l) (k:K) (h:Q0 w l→K→G:=by
 intro H k
 repeat refine Q7 ?_
 refine QG ?_;refine Jv ?_;refine Jv ?_;refine Jv ?_;refine Jv ?_;exact k):G:=h H k
theorem XT (H:Q0 w l) (k:K) (h:Q0 w l→K→G:=by
 intro H k;refine Vg rfl (QW ?_);exact k):G:=h H k
theorem Xa (H:Q0 w l) (k:K) (h:Q0 w l→K→G:=by
 intro H k;refine Ja 6 ?_;refine Ja 7 ?_;exact k):G:=h H k
theorem Xb (H:Q0 w l) (k:K) (h:Q0 w l→K→G:=by
 intro H k;refine Ja 12 ?_;refine Jx H ?_;exact k):G:=h H k
theorem Xc (H:Q0 w l) (k:K) (h:Q0 w l→K→G:=by
 intro H k;refine Ja 12 ?_;refine Ja 13 ?_;exact k):G:=h H k
theorem Xd (H:Q0 w l) (k:K) (h:Q0 w l→K→G:=by
 intro H k;refine Jo 12 H ?_;refine ZN H rfl rfl inferInstance rfl rfl (Nat.le_of_ble_eq_true rfl) rfl ?_;exact k):G:=h H k
theorem Xe (H:Q0 w l) (k:K) (h:Q0 w l→K→G:=by
 intro H k
 repeat refine Q7 ?_
 refine QG ?_;refine Q5 rfl (QA H rfl rfl rfl ?_);refine Jv ?_;exact k):G:=h H k
theorem Xf (H:Q0 w l) (k:K) (h:Q0 w l→K→G:=by
 intro H k;refine Ja 0 ?_;refine Ja 1 ?_;refine Jf 2 ?_;refine Jl 3 [6] H ?_;refine Jf 4 ?_;refine Jl 5 [6] H ?_;refine Jo 6 H ?_;exact k):G:=h H k
theorem Xg (H:Q0 w l) (k:K) (h:Q0 w l→K→G:=by
 intro H k
 repeat refine Q7 ?_
 refine QG ?_;refine Q5 rfl (QA H rfl rfl rfl ?_);refine Jv ?_;refine Q5 rfl (VK rfl rfl ?_);refine Q5 rfl (QA H rfl rfl rfl ?_);refine Jv ?_;exact k):G:=h H k
theorem K2 (H:Q0 w l) (k:K) (h:Q0 w l→K→G:=by
 intro H k;refine Jv ?_;refine Jv ?_;refine Q6 ?_
 repeat refine Q7 ?_
 exact k):G:=h H k
theorem K3 (H:Q0 w l) (k:K) (h:Q0 w l→K→G:=by
 intro H k;refine Jv ?_;refine Jv ?_;refine Q6 ?_
 repeat refine Q7 ?_
 refine VU rfl ?_;exact k):G:=h H k
theorem K4 (H:Q0 w l) (k:K) (h:Q0 w l→K→G:=by
 intro H k;refine Q5 rfl (QA H rfl rfl rfl ?_);exact k):G:=h H k
theorem K5 (H:Q0 w l) (k:K) (h:Q0 w l→K→G:=by
 intro H k
 repeat refine Q7 ?_
 refine QG ?_;refine Q5 rfl (VH H rfl (by repeat first|exact .nil _|apply QY.cons rfl) rfl ?_);refine Q5 rfl (ZN H rfl rfl inferInstance rfl rfl (Nat.le_of_ble_eq_true rfl) rfl ?_);exact k):G:=h H k
theorem K6 (H:Q0 w l) (k:K) (h:Q0 w l→K→G:=by
 intro H k
 repeat refine Q7 ?_
 refine QG ?_;refine Q5 rfl (VK rfl rfl ?_);refine Q5 rfl (QA H rfl rfl rfl ?_);exact k):G:=h H k
theorem K7 (H:Q0 w l) (k:K) (h:Q0 w l→K→G:=by
 intro H k
 repeat refine Q7 ?_
 refine QG ?_;refine Jv ?_;refine Q6 ?_
 repeat refine Q7 ?_
 refine QG ?_;refine Jv ?_;refine Q5 rfl (Gc rfl rfl (.inl rfl) rfl ?_);refine Q6 ?_
 repeat refine Q7 ?_
 refine VU rfl (QW ?_)
 repeat refine Q7 ?_
 refine QG ?_;refine Jv ?_;refine Jv ?_;refine Q5 rfl (VK rfl rfl ?_);refine Q5 rfl (QA H rfl rfl rfl ?_);exact k):G:=h H k
theorem K8 (H:Q0 w l) (k:K) (h:Q0 w l→K→G:=by
 intro H k
 repeat refine Q7 ?_
 refine QG ?_;refine Jv ?_;refine Jv ?_;refine Jv ?_;refine Jv ?_;refine Jv ?_;refine Q6 ?_;exact k):G:=h H k
theorem K9 (H:Q0 w l) (k:K) (h:Q0 w l→K→G:=by
 intro H k
 repeat refine Q7 ?_
 refine QS ?_
 repeat refine Q7 ?_
 refine QG ?_;refine Jv ?_;refine Jv ?_;exact k):G:=h H k
theorem KQ (H:Q0 w l) (k:K) (h:Q0 w l→K→G:=by
 intro H k;refine VU rfl (Qp ?_);exact k):G:=h H k
theorem KV (H:Q0 w l) (k:K) (h:Q0 w l→K→G:=by
 intro H k;refine Jv ?_;refine Q6 ?_
 repeat refine Q7 ?_
 refine VU rfl (QW ?_)
 repeat refine Q7 ?_
 refine QG ?_;refine Jv ?_;refine Jv ?_;refine Q6 ?_;exact k):G:=h H k
theorem KY (H:Q0 w l) (k:K) (h:Q0 w l→K→G:=by
 intro H k;refine Jv ?_;refine VB rfl rfl rfl rfl ?_;refine VB rfl rfl rfl rfl ?_;refine VB rfl rfl rfl rfl ?_;refine Qe rfl rfl rfl (VK rfl rfl ?_);refine Qe rfl rfl rfl (QA H rfl rfl rfl ?_);refine Qe rfl rfl rfl (ZO rfl rfl ?_);refine VB rfl rfl rfl rfl ?_;exact k):G:=h H k
theorem KZ (H:Q0 w l) (k:K) (h:Q0 w l→K→G:=by
 intro H k
 repeat refine Q7 ?_
 refine QG ?_;refine Jv ?_;refine Jv ?_;refine Q5 rfl (ZO rfl rfl ?_);refine Jv ?_;refine Q6 ?_
 repeat refine Q7 ?_
 exact k):G:=h H k
theorem KG (H:Q0 w l) (k:K) (h:Q0 w l→K→G:=by
 intro H k;refine Ja 8 ?_;refine Ja 9 ?_;refine Ja 10 ?_;exact k):G:=h H k
theorem KU (H:Q0 w l) (k:K) (h:Q0 w l→K→G:=by
 intro H k
 repeat refine Q7 ?_
 refine QG ?_;refine Q5 rfl (VH H rfl (by repeat first|exact .nil _|apply QY.cons rfl) rfl ?_);refine Jv ?_;refine Q5 rfl (ZN H rfl rfl inferInstance rfl rfl (Nat.le_of_ble_eq_true rfl) rfl ?_);exact k):G:=h H k
theorem KX (H:Q0 w l) (k:K) (h:Q0 w l→K→G:=by
 intro H k;refine Q5 rfl (ZO rfl rfl ?_);refine Jv ?_;refine Q6 ?_
 repeat refine Q7 ?_
 refine QS ?_;exact k):G:=h H k
theorem KK (H:Q0 w l) (k:K) (h:Q0 w l→K→G:=by
 intro H k
 repeat refine Q7 ?_
 refine VU rfl (QW ?_)
 repeat refine Q7 ?_
 refine QG ?_;refine Jv ?_;refine Q6 ?_;exact k):G:=h H k
theorem KR (H:Q0 w l) (k:K) (h:Q0 w l→K→G:=by
 intro H k
 repeat refine Q7 ?_
 refine QG ?_;refine Jv ?_;refine Jv ?_;refine Jv ?_;refine Q5 rfl (VK rfl rfl ?_);refine Q5 rfl (QA H rfl rfl rfl ?_);refine Q5 rfl (ZO rfl rfl ?_);refine Jv ?_;refine Q6 ?_
 repeat refine Q7 ?_
 exact k):G:=h H k
theorem KW (H:Q0 w l) (k:K) (h:Q0 w l→K→G:=by
 intro H k;refine Q5 rfl (VK rfl rfl ?_);exact k):G:=h H k
theorem KA (H:Q0 w l) (k:K) (h:Q0 w l→K→G:=by
 intro H k;refine Q5 rfl (LC H rfl rfl rfl ?_);exact k):G:=h H k
theorem Kr (H:Q0 w l) (k:K) (h:Q0 w l→K→G:=by
 intro H k
 repeat refine Q7 ?_
 refine QG ?_;refine Q5 rfl (VK rfl rfl ?_);refine Q5 rfl (QA H rfl rfl rfl ?_);refine Jv ?_;exact k):G:=h H k
theorem Ks (H:Q0 w l) (k:K) (h:Q0 w l→K→G:=by
 intro H k;refine Jf 0 ?_;refine Jl 1 [] H ?_;refine Ja 2 ?_;exact k):G:=h H k
theorem Kt (H:Q0 w l) (k:K) (h:Q0 w l→K→G:=by
 intro H k;refine Jf 4 ?_;refine Jl 5 [] H ?_;exact k):G:=h H k
theorem Ku (H:Q0 w l) (k:K) (h:Q0 w l→K→G:=by
 intro H k;refine QS ?_
 repeat refine Q7 ?_
 refine QG ?_;refine Jv ?_;refine Q5 rfl (Gc rfl rfl (.inl rfl) rfl ?_);refine Jv ?_;refine Q6 ?_
 repeat refine Q7 ?_
 refine VU rfl ?_;exact k):G:=h H k
theorem Kv (H:Q0 w l) (k:K) (h:Q0 w l→K→G:=by
 intro H k;refine XM rfl rfl ?_;refine XM rfl rfl ?_;exact k):G:=h H k
theorem Kw (H:Q0 w l) (k:K) (h:Q0 w l→K→G:=by
 intro H k;refine Qu rfl rfl rfl ?_;refine Qu rfl rfl rfl ?_;exact k):G:=h H k
theorem Kx (H:Q0 w l) (k:K) (h:Q0 w l→K→G:=by
 intro H k;refine Qu rfl rfl rfl ?_;refine Qu rfl rfl rfl ?_;refine Qu rfl rfl rfl ?_;exact k):G:=h H k
theorem Ky (H:Q0 w l) (k:K) (h:Q0 w l→K→G:=by
 intro H k
 repeat refine Q7 ?_
 refine QG ?_;refine Jv ?_;refine Q6 ?_
 repeat refine Q7 ?_
 refine QG ?_;refine Jv ?_;exact k):G:=h H k
theorem Kz (H:Q0 w l) (k:K) (h:Q0 w l→K→G:=by
 intro H k;refine Q5 rfl (VH H rfl (by repeat first|exact .nil _|apply QY.cons rfl) rfl ?_);exact k):G:=h H k
theorem R3 (H:Q0 w l) (k:K) (h:Q0 w l→K→G:=by
 intro H k;refine Jv ?_;refine Q6 ?_
 repeat refine Q7 ?_
 refine QG ?_;refine Jv ?_;refine Q5 rfl (VH H rfl (by repeat first|exact .nil _|apply QY.cons rfl) rfl ?_);exact k):G:=h H k
theorem R4 (H:Q0 w l) (k:K) (h:Q0 w l→K→G:=by
 intro H k
 repeat refine Q7 ?_
 refine QS ?_
 repeat refine Q7 ?_
 refine QG ?_;refine Jv ?_;refine Jv ?_;refine Q6 ?_;exact k):G:=h H k
theorem R5 (H:Q0 w l) (k:K) (h:Q0 w l→K→G:=by
 intro H k;refine Ja 13 ?_;refine Jx H ?_;exact k):G:=h H k
theorem R6 (H:Q0 w l) (k:K) (h:Q0 w l→K→G:=by
 intro H k;refine Ja 0 ?_;refine Ja 1 ?_;refine Jf 2 ?_;refine Jl 3 [5,10] H ?_;refine VM 4 [5,10] H rfl (Q8.none rfl) rfl (by repeat first|exact .nil _|apply QY.cons rfl) (by kernel_rfl) ?_;exact k):G:=h H k
theorem R7 (H:Q0 w l) (k:K) (h:Q0 w l→K→G:=by
 intro H k;refine Ja 6 ?_;refine Ja 7 ?_;refine Ja 8 ?_;refine Jo 9 H ?_;refine Vu H rfl ?_;exact k):G:=h H k
theorem R8 (H:Q0 w l) (k:K) (h:Q0 w l→K→G:=by
 intro H k;refine Jo 10 H ?_;refine ZN H rfl rfl inferInstance rfl rfl (Nat.le_of_ble_eq_true rfl) rfl ?_;exact k):G:=h H k
theorem R9 (H:Q0 w l) (k:K) (h:Q0 w l→K→G:=by
 intro H k;refine Ja 6 ?_;refine Ja 7 ?_;refine Ja 8 ?_;refine Jo 10 H ?_;refine ZN H rfl rfl inferInstance rfl rfl (Nat.le_of_ble_eq_true rfl) rfl ?_;exact k):G:=h H k
theorem Rs (H:Q0 w l) (k:K) (h:Q0 w l→K→G:=by
 intro H k;refine Qe rfl rfl rfl (VH H rfl (by repeat first|exact .nil _|apply QY.cons rfl) rfl ?_);exact k):G:=h H k
theorem Rt (H:Q0 w l) (k:K) (h:Q0 w l→K→G:=by
 intro H k;refine Km H rfl rfl rfl ?_;exact k):G:=h H k
theorem Ru (H:Q0 w l) (k:K) (h:Q0 w l→K→G:=by
 intro H k;refine Jv ?_;refine Q6 ?_
 repeat refine Q7 ?_
 refine QG ?_;refine Q5 rfl (VK rfl rfl ?_);refine Q5 rfl (QA H rfl rfl rfl ?_);exact k):G:=h H k
theorem Rv (H:Q0 w l) (k:K) (h:Q0 w l→K→G:=by
 intro H k
 repeat refine Q7 ?_
 refine QG ?_;refine Jv ?_;refine Q6 ?_
 repeat refine Q7 ?_
 refine QG ?_;refine Jv ?_;refine Jv ?_;refine Jv ?_;exact k):G:=h H k
theorem Rw (H:Q0 w l) (k:K) (h:Q0 w l→K→G:=by
 intro H k;refine Q6 ?_
 repeat refine Q7 ?_
 refine QG ?_;refine Jv ?_;refine Q6 ?_;exact k):G:=h H k
theorem Rx (H:Q0 w l) (k:K) (h:Q0 w l→K→G:=by
 intro H k
 repeat refine Q7 ?_
 refine QS ?_
 repeat refine Q7 ?_
 refine QG ?_;refine Jv ?_;refine Jv ?_;refine Jv ?_;exact k):G:=h H k
theorem Ry (H:Q0 w l) (k:K) (h:Q0 w l→K→G:=by
 intro H k;refine Q6 ?_
 repeat refine Q7 ?_
 refine QG ?_;refine Jv ?_;refine Jv ?_;refine Jv ?_;refine Q6 ?_;exact k):G:=h H k
theorem Rz (H:Q0 w l) (k:K) (h:Q0 w l→K→G:=by
 intro H k;refine Jv ?_;refine Jv ?_;refine Jv ?_;refine Jv ?_;refine Jv ?_;refine Q6 ?_
 repeat refine Q7 ?_
 exact k):G:=h H k
theorem W0 (H:Q0 w l) (k:K) (h:Q0 w l→K→G:=by
 intro H k;refine Jv ?_;refine Jv ?_;refine Jv ?_;exact k):G:=h H k
theorem W1 (H:Q0 w l) (k:K) (h:Q0 w l→K→G:=by
 intro H k
 repeat refine Q7 ?_
 refine QG ?_;refine Jv ?_;refine Jv ?_;refine Jv ?_;refine VB rfl rfl rfl rfl ?_;refine VB rfl rfl rfl rfl ?_;exact k):G:=h H k
theorem W2 (H:Q0 w l) (k:K) (h:Q0 w l→K→G:=by
 intro H k;refine Jv ?_;refine Jv ?_;refine Q6 ?_
 repeat refine Q7 ?_
 refine VU rfl (QW ?_);exact k):G:=h H k
theorem W3 (H:Q0 w l) (k:K) (h:Q0 w l→K→G:=by
 intro H k;refine Ja 0 ?_;refine Ja 1 ?_;refine Ja 2 ?_;refine Jf 3 ?_;exact k):G:=h H k
theorem W4 (H:Q0 w l) (k:K) (h:Q0 w l→K→G:=by
 intro H k
 repeat refine Q7 ?_
 refine QG ?_;refine Jv ?_;refine Q5 rfl (VK rfl rfl ?_);refine Q5 rfl (QA H rfl rfl rfl ?_);exact k):G:=h H k
theorem W5 (H:Q0 w l) (k:K) (h:Q0 w l→K→G:=by
 intro H k;refine Q6 ?_
 repeat refine Q7 ?_
 refine QG ?_;refine Jv ?_;refine Jv ?_;exact k):G:=h H k
theorem W6 (H:Q0 w l) (k:K) (h:Q0 w l→K→G:=by
 intro H k
 repeat refine Q7 ?_
 refine QG ?_;refine Jv ?_;refine Jv ?_;refine Jv ?_;refine Jv ?_;refine Q6 ?_;exact k):G:=h H k
theorem W7 (H:Q0 w l) (k:K) (h:Q0 w l→K→G:=by
 intro H k
 repeat refine Q7 ?_
 refine QG ?_;refine Jv ?_;refine Q6 ?_
 repeat refine Q7 ?_
 refine QG ?_;refine Jv ?_;refine Q5 rfl (Gc rfl rfl (.inl rfl) rfl ?_);refine Q6 ?_
 repeat refine Q7 ?_
 refine VU rfl (QW ?_)
 repeat refine Q7 ?_
 refine QG ?_;refine Jv ?_;refine Jv ?_;refine Q5 rfl (VK rfl rfl ?_);refine Q5 rfl (QA H rfl rfl rfl ?_);refine Jv ?_;exact k):G:=h H k
theorem Wm (H:Q0 w l) (k:K) (h:Q0 w l→K→G:=by
 intro H k;refine Jv ?_;refine Qe rfl rfl rfl (VK rfl rfl ?_);refine Qe rfl rfl rfl (QA H rfl rfl rfl ?_);refine VB rfl rfl rfl rfl ?_;exact k):G:=h H k
theorem Wn (H:Q0 w l) (k:K) (h:Q0 w l→K→G:=by
 intro H k
 repeat refine Q7 ?_
 refine QG ?_;refine Jv ?_;refine Q6 ?_
 repeat refine Q7 ?_
 refine QG ?_;refine Jv ?_;refine Q5 rfl (ZO rfl rfl ?_);refine Jv ?_;refine Q6 ?_
 repeat refine Q7 ?_
 refine QS ?_;exact k):G:=h H k
theorem Wo (H:Q0 w l) (k:K) (h:Q0 w l→K→G:=by
 intro H k;refine VB rfl rfl rfl rfl ?_;refine Jv ?_;refine Q6 ?_
 repeat refine Q7 ?_
 refine VU rfl (QW ?_);exact k):G:=h H k
theorem Wp (H:Q0 w l) (k:K) (h:Q0 w l→K→G:=by
 intro H k;refine Jv ?_;refine VB rfl rfl rfl rfl ?_;exact k):G:=h H k
theorem Wq (H:Q0 w l) (k:K) (h:Q0 w l→K→G:=by
 intro H k;refine Jv ?_;refine Qe rfl rfl rfl (VK rfl rfl ?_);refine Qe rfl rfl rfl (QA H rfl rfl rfl ?_);refine VB rfl rfl rfl rfl ?_;refine Jv ?_;exact k):G:=h H k
theorem Wr (H:Q0 w l) (k:K) (h:Q0 w l→K→G:=by
 intro H k
 repeat refine Q7 ?_
 refine QG ?_;refine Jv ?_;refine Q6 ?_
 repeat refine Q7 ?_
 refine QS ?_;exact k):G:=h H k
theorem Ws (H:Q0 w l) (k:K) (h:Q0 w l→K→G:=by
 intro H k;refine Jo 11 H ?_;refine ZN H rfl rfl inferInstance rfl rfl (Nat.le_of_ble_eq_true rfl) rfl ?_;exact k):G:=h H k
theorem Wt (H:Q0 w l) (k:K) (h:Q0 w l→K→G:=by
 intro H k;refine Q5 rfl (Fg rfl rfl rfl ?_);exact k):G:=h H k
theorem Wu (H:Q0 w l) (k:K) (h:Q0 w l→K→G:=by
 intro H k
 repeat refine Q7 ?_
 refine QG ?_;refine Jv ?_;refine Jv ?_;refine Jv ?_;refine Q5 rfl (VK rfl rfl ?_);refine Q5 rfl (QA H rfl rfl rfl ?_);exact k):G:=h H k
theorem Wv (H:Q0 w l) (k:K) (h:Q0 w l→K→G:=by
 intro H k
 repeat refine Q7 ?_
 refine VU rfl (QW ?_)
 repeat refine Q7 ?_
 refine QG ?_;refine Jv ?_;exact k):G:=h H k
theorem Ww (H:Q0 w l) (k:K) (h:Q0 w l→K→G:=by
 intro H k;refine Ja 5 ?_;refine Ja 6 ?_;refine Jf 7 ?_;exact k):G:=h H k
theorem Wx (H:Q0 w l) (k:K) (h:Q0 w l→K→G:=by
 intro H k
 repeat refine Q7 ?_
 refine QS ?_
 repeat refine Q7 ?_
 refine QG ?_;refine Jv ?_;refine Jv ?_;refine Q5 rfl (VK rfl rfl ?_);refine Q5 rfl (QA H rfl rfl rfl ?_);refine Jv ?_;exact k):G:=h H k
theorem Wy (H:Q0 w l) (k:K) (h:Q0 w l→K→G:=by
 intro H k;refine Jv ?_;refine Jv ?_;refine Jv ?_;refine Q6 ?_;exact k):G:=h H k
theorem Wz (H:Q0 w l) (k:K) (h:Q0 w l→K→G:=by
 intro H k;refine Qu rfl rfl rfl ?_;refine Qu rfl rfl rfl ?_;refine Qu rfl rfl rfl ?_;refine Qu rfl rfl rfl ?_;exact k):G:=h H k
theorem A0 (H:Q0 w l) (k:K) (h:Q0 w l→K→G:=by
 intro H k
 repeat refine Q7 ?_
 refine VU rfl (QW ?_)
 repeat refine Q7 ?_
 refine QG ?_;refine Jv ?_;refine Jv ?_;refine Jv ?_;refine Q6 ?_;exact k):G:=h H k
theorem A1 (H:Q0 w l) (k:K) (h:Q0 w l→K→G:=by
 intro H k;refine Jv ?_;refine Q6 ?_
 repeat refine Q7 ?_
 refine Vg rfl ?_
 repeat refine Q7 ?_
 refine QG ?_;refine Q5 rfl (Ud rfl rfl ?_);refine Q5 rfl (ZN H rfl rfl inferInstance rfl rfl (Nat.le_of_ble_eq_true rfl) rfl ?_);exact k):G:=h H k
theorem A2 (H:Q0 w l) (k:K) (h:Q0 w l→K→G:=by
 intro H k
 repeat refine Q7 ?_
 refine QG ?_;refine Q5 rfl (VH H rfl (by repeat first|exact .nil _|apply QY.cons rfl) rfl ?_);refine Jv ?_;exact k):G:=h H k
theorem A3 (H:Q0 w l) (k:K) (h:Q0 w l→K→G:=by
 intro H k
 repeat refine Q7 ?_
 refine QG ?_;refine Jv ?_;refine Jv ?_;refine Jv ?_;refine Q6 ?_
 repeat refine Q7 ?_
 refine VU rfl ?_
 repeat refine Q7 ?_
 refine QG ?_;refine Jv ?_;refine Jv ?_;exact k):G:=h H k
theorem A4 (H:Q0 w l) (k:K) (h:Q0 w l→K→G:=by
 intro H k
 repeat refine Q7 ?_
 refine VU rfl (QW ?_)
 repeat refine Q7 ?_
 refine QG ?_;refine Jv ?_;refine Jv ?_;exact k):G:=h H k
theorem A5 (H:Q0 w l) (k:K) (h:Q0 w l→K→G:=by
 intro H k;refine Jv ?_;refine Jv ?_;refine Jv ?_;refine Jv ?_;refine Q6 ?_;exact k):G:=h H k
theorem A6 (H:Q0 w l) (k:K) (h:Q0 w l→K→G:=by
 intro H k;refine Jv ?_;refine Q6 ?_
 repeat refine Q7 ?_
 refine QG ?_;refine Jv ?_;refine Q5 rfl (Gc rfl rfl (.inl rfl) rfl ?_);refine Q6 ?_
 repeat refine Q7 ?_
 refine VU rfl (QW ?_);exact k):G:=h H k
theorem A7 (H:Q0 w l) (k:K) (h:Q0 w l→K→G:=by
 intro H k;refine Jv ?_;refine Jv ?_;refine Jv ?_;refine Jv ?_;exact k):G:=h H k
theorem A8 (H:Q0 w l) (k:K) (h:Q0 w l→K→G:=by
 intro H k
 repeat refine Q7 ?_
 refine QG ?_;refine Jv ?_;refine Jv ?_;refine Q6 ?_
 repeat refine Q7 ?_
 refine Vg rfl ?_
 repeat refine Q7 ?_
 refine QG ?_;refine Jv ?_;refine Q6 ?_;exact k):G:=h H k
theorem A9 (H:Q0 w l) (k:K) (h:Q0 w l→K→G:=by
 intro H k;refine Q6 ?_
 repeat refine Q7 ?_
 refine VU rfl (QW ?_);exact k):G:=h H k
theorem AQ (H:Q0 w l) (k:K) (h:Q0 w l→K→G:=by
 intro H k;refine G9 14 rfl (Q8.none rfl) rfl (by kernel_rfl) ?_;refine Jo 15 H ?_;refine Wi H rfl rfl ?_;exact k):G:=h H k
theorem AV (H:Q0 w l) (k:K) (h:Q0 w l→K→G:=by
 intro H k;refine Jo 16 H ?_;refine Km H rfl rfl rfl ?_;exact k):G:=h H k
theorem AY (H:Q0 w l) (k:K) (h:Q0 w l→K→G:=by
 intro H k;refine Ja 18 ?_;refine Jf 19 ?_;refine Jo 20 H ?_;refine Yf H rfl rfl inferInstance rfl (Nat.le_of_ble_eq_true rfl) rfl ?_;exact k):G:=h H k
theorem AZ (H:Q0 w l) (k:K) (h:Q0 w l→K→G:=by
 intro H k;refine Ja 6 ?_;refine Ja 7 ?_;refine Jf 8 ?_;exact k):G:=h H k
theorem AG (H:Q0 w l) (k:K) (h:Q0 w l→K→G:=by
 intro H k;refine Ja 13 ?_;refine Ja 14 ?_;refine Jx H ?_;exact k):G:=h H k
theorem AU (H:Q0 w l) (k:K) (h:Q0 w l→K→G:=by
 intro H k
 repeat refine Q7 ?_
 refine QG ?_;refine Q5 rfl (VK rfl rfl ?_);refine Q5 rfl (QA H rfl rfl rfl ?_);refine Jv ?_;refine Q6 ?_;exact k):G:=h H k
theorem AX (H:Q0 w l) (k:K) (h:Q0 w l→K→G:=by
 intro H k;refine Jv ?_;refine Q6 ?_
 repeat refine Q7 ?_
 refine QG ?_;refine Jv ?_;refine Jv ?_;refine Q6 ?_
 repeat refine Q7 ?_
 refine Vg rfl ?_
 repeat refine Q7 ?_
 refine QG ?_;refine Jv ?_;refine Jv ?_;refine Jv ?_;refine Q6 ?_;exact k):G:=h H k
theorem AK (H:Q0 w l) (k:K) (h:Q0 w l→K→G:=by
 intro H k;refine Ja 8 ?_;refine Ja 9 ?_;refine Ja 10 ?_;refine Ja 11 ?_;refine Ja 12 ?_;refine Jx H ?_;exact k):G:=h H k
theorem B9 (H:Q0 w l) (k:K) (h:Q0 w l→K→G:=by
 intro H k;refine Jv ?_;refine Jv ?_;refine Qe rfl rfl rfl (VK rfl rfl ?_);refine Qe rfl rfl rfl (QA H rfl rfl rfl ?_);refine VB rfl rfl rfl rfl ?_;exact k):G:=h H k
theorem BQ (H:Q0 w l) (k:K) (h:Q0 w l→K→G:=by
 intro H k;refine Jv ?_;refine Jv ?_;refine VB rfl rfl rfl rfl ?_;exact k):G:=h H k
theorem BV (H:Q0 w l) (k:K) (h:Q0 w l→K→G:=by
 intro H k
 repeat refine Q7 ?_
 refine QS ?_
 repeat refine Q7 ?_
 refine QG ?_;refine Jv ?_;exact k):G:=h H k
theorem BY (H:Q0 w l) (k:K) (h:Q0 w l→K→G:=by
 intro H k;refine Q5 rfl (Ud rfl rfl ?_);refine Q5 rfl (Km H rfl rfl rfl ?_);exact k):G:=h H k
theorem BZ (H:Q0 w l) (k:K) (h:Q0 w l→K→G:=by
 intro H k;refine Ja 12 ?_;refine Ja 13 ?_;refine Ja 14 ?_;refine Ja 15 ?_;refine Jx H ?_;exact k):G:=h H k
theorem BG (H:Q0 w l) (k:K) (h:Q0 w l→K→G:=by
 intro H k
 repeat refine Q7 ?_
 refine QG ?_;refine Q5 rfl (VH H rfl (by repeat first|exact .nil _|apply QY.cons rfl) rfl ?_);refine Q5 rfl (Ud rfl rfl ?_);refine Q5 rfl (B6 rfl rfl rfl rfl (.inl rfl) rfl ?_);exact k):G:=h H k
theorem BU (H:Q0 w l) (k:K) (h:Q0 w l→K→G:=by
 intro H k;refine Jv ?_;refine Q6 ?_
 repeat refine Q7 ?_
 refine Vg rfl ?_
 repeat refine Q7 ?_
 refine QG ?_;refine Jv ?_;refine Jv ?_;refine Q6 ?_;exact k):G:=h H k
theorem BX (H:Q0 w l) (k:K) (h:Q0 w l→K→G:=by
 intro H k;refine Jv ?_;refine Q6 ?_
 repeat refine Q7 ?_
 refine VU rfl ?_;exact k):G:=h H k
theorem BK (H:Q0 w l) (k:K) (h:Q0 w l→K→G:=by
 intro H k
 repeat refine Q7 ?_
 refine Vg rfl ?_
 repeat refine Q7 ?_
 refine QG ?_;refine Q5 rfl (Ud rfl rfl ?_);refine Q5 rfl (ZN H rfl rfl inferInstance rfl rfl (Nat.le_of_ble_eq_true rfl) rfl ?_);exact k):G:=h H k
theorem BR (H:Q0 w l) (k:K) (h:Q0 w l→K→G:=by
 intro H k;refine Jv ?_;refine Q6 ?_
 repeat refine Q7 ?_
 refine QG ?_;refine Jv ?_;refine Q6 ?_
 repeat refine Q7 ?_
 exact k):G:=h H k
theorem BW (H:Q0 w l) (k:K) (h:Q0 w l→K→G:=by
 intro H k;refine Q6 ?_
 repeat refine Q7 ?_
 exact k):G:=h H k
theorem BA (H:Q0 w l) (k:K) (h:Q0 w l→K→G:=by
 intro H k
 repeat refine Q7 ?_
 refine VU rfl (QW ?_)
 repeat refine Q7 ?_
 refine QG ?_;refine Jv ?_;refine Jv ?_;refine Q6 ?_;exact k):G:=h H k
theorem BB (H:Q0 w l) (k:K) (h:Q0 w l→K→G:=by
 intro H k;refine Jv ?_;refine Jv ?_;refine Jv ?_;refine Jv ?_;refine Jv ?_;exact k):G:=h H k
theorem BC (H:Q0 w l) (k:K) (h:Q0 w l→K→G:=by
 intro H k;refine Ja 9 ?_;refine Ja 10 ?_;refine Jf 11 ?_;exact k):G:=h H k
theorem BD (H:Q0 w l) (k:K) (h:Q0 w l→K→G:=by
 intro H k;refine Jx H ?_
 repeat refine Q7 ?_
 refine QG ?_;refine Jv ?_;refine Q6 ?_;exact k):G:=h H k
theorem BE (H:Q0 w l) (k:K) (h:Q0 w l→K→G:=by
 intro H k
 repeat refine Q7 ?_
 refine QG ?_;refine Jv ?_;refine Jv ?_;refine Q6 ?_
 repeat refine Q7 ?_
 exact k):G:=h H k
theorem BF (H:Q0 w l) (k:K) (h:Q0 w l→K→G:=by
 intro H k
 first|refine Jv ?_|refine Uc rfl rfl ?_
 refine Jv ?_;refine Jv ?_;refine Jv ?_;refine Jv ?_;refine Q6 ?_
 repeat refine Q7 ?_
 refine QG ?_;refine Jv ?_;refine Jv ?_;refine Q6 ?_;exact k):G:=h H k
theorem BH (H:Q0 w l) (k:K) (h:Q0 w l→K→G:=by
 intro H k;refine Qu rfl rfl rfl ?_;refine Qu rfl rfl rfl ?_;refine Qu rfl rfl rfl ?_;refine Qu rfl rfl rfl ?_;refine Qu rfl rfl rfl ?_;refine Qu rfl rfl rfl ?_;refine Qu rfl rfl rfl ?_;exact k):G:=h H k
theorem BI (H:Q0 w l) (k:K) (h:Q0 w l→K→G:=by
 intro H k
 repeat refine Q7 ?_
 refine QG ?_;refine Q5 rfl (VK rfl rfl ?_);refine Q5 rfl (QA H rfl rfl rfl ?_);refine Q5 rfl (VK rfl rfl ?_);refine Q5 rfl (QA H rfl rfl rfl ?_);exact k):G:=h H k
theorem BJ (H:Q0 w l) (k:K) (h:Q0 w l→K→G:=by
 intro H k;refine Jv ?_;refine Qu rfl rfl rfl ?_;refine Qu rfl rfl rfl ?_;refine Qu rfl rfl rfl ?_;refine Qu rfl rfl rfl ?_;refine Qu rfl rfl rfl ?_;refine Qu rfl rfl rfl ?_;refine Qu rfl rfl rfl ?_;exact k):G:=h H k
theorem BL (H:Q0 w l) (k:K) (h:Q0 w l→K→G:=by
 intro H k
 repeat refine Q7 ?_
 refine QG ?_;refine Jv ?_;refine Jv ?_;refine Jv ?_;refine Q6 ?_
 repeat refine Q7 ?_
 exact k):G:=h H k
theorem BN (H:Q0 w l) (k:K) (h:Q0 w l→K→G:=by
 intro H k;refine Jv ?_;refine VB rfl rfl rfl rfl ?_;refine VB rfl rfl rfl rfl ?_;refine VB rfl rfl rfl rfl ?_;exact k):G:=h H k
theorem BO (H:Q0 w l) (k:K) (h:Q0 w l→K→G:=by
 intro H k;refine Jv ?_;refine Q6 ?_
 repeat refine Q7 ?_
 refine QG ?_;refine Jv ?_;refine Jv ?_;refine Jv ?_;refine Q6 ?_;exact k):G:=h H k
theorem BP (H:Q0 w l) (k:K) (h:Q0 w l→K→G:=by
 intro H k
 repeat refine Q7 ?_
 refine VU rfl (QW ?_)
 repeat refine Q7 ?_
 refine Kn H mixed ?_;exact k):G:=h H k
theorem BS (H:Q0 w l) (k:K) (h:Q0 w l→K→G:=by
 intro H k
 repeat refine Q7 ?_
 refine QG ?_;refine Jv ?_;refine Q6 ?_
 repeat refine Q7 ?_
 refine QG ?_;exact k):G:=h H k
theorem BT (H:Q0 w l) (k:K) (h:Q0 w l→K→G:=by
 intro H k;refine Ja 0 ?_;refine Ja 1 ?_;refine Jf 2 ?_;refine Jl 3 [6] H ?_;exact k):G:=h H k
theorem Ba (H:Q0 w l) (k:K) (h:Q0 w l→K→G:=by
 intro H k;refine VM 5 [6] H rfl (Q8.none rfl) rfl (by repeat first|exact .nil _|apply QY.cons rfl) (by kernel_rfl) ?_;refine Jo 6 H ?_;exact k):G:=h H k
theorem Bb (H:Q0 w l) (k:K) (h:Q0 w l→K→G:=by
 intro H k
 repeat refine Q7 ?_
 refine VU rfl ?_;exact k):G:=h H k
theorem Bc (H:Q0 w l) (k:K) (h:Q0 w l→K→G:=by
 intro H k;refine Jv ?_;refine Jv ?_;refine Q6 ?_
 repeat refine Q7 ?_
 refine QG ?_;refine Jv ?_;refine Jv ?_;refine Q6 ?_
 repeat refine Q7 ?_
 refine VU rfl (QW ?_);exact k):G:=h H k
theorem Bd (H:Q0 w l) (k:K) (h:Q0 w l→K→G:=by
 intro H k;refine Q5 rfl (VK rfl rfl ?_);refine Q5 rfl (QA H rfl rfl rfl ?_);refine Jv ?_;exact k):G:=h H k
theorem Be (H:Q0 w l) (k:K) (h:Q0 w l→K→G:=by
 intro H k
 repeat refine Q7 ?_
 refine QG ?_;refine Jv ?_;refine Jv ?_;refine Jv ?_;refine Q5 rfl (VK rfl rfl ?_);refine Q5 rfl (QA H rfl rfl rfl ?_);refine Jv ?_;exact k):G:=h H k
theorem Bf (H:Q0 w l) (k:K) (h:Q0 w l→K→G:=by
 intro H k;refine Q6 ?_
 repeat refine Q7 ?_
 refine QG ?_;refine Jv ?_;exact k):G:=h H k
theorem Bg (H:Q0 w l) (k:K) (h:Q0 w l→K→G:=by
 intro H k;refine Q5 rfl (ZO rfl rfl ?_);refine Jv ?_;refine Q6 ?_
 repeat refine Q7 ?_
 exact k):G:=h H k
theorem Bh (H:Q0 w l) (k:K) (h:Q0 w l→K→G:=by
 intro H k
 repeat refine Q7 ?_
 refine QS ?_
 repeat refine Q7 ?_
 refine Kn H mixed ?_;exact k):G:=h H k
theorem Bi (H:Q0 w l) (k:K) (h:Q0 w l→K→G:=by
 intro H k;refine Jv ?_;refine Q5 rfl (VK rfl rfl ?_);refine Q5 rfl (QA H rfl rfl rfl ?_);refine Jv ?_;exact k):G:=h H k
theorem Bj (H:Q0 w l) (k:K) (h:Q0 w l→K→G:=by
 intro H k
 repeat refine Q7 ?_
 refine QG ?_;refine Jv ?_;refine Jv ?_;refine Q6 ?_
 repeat refine Q7 ?_
 refine QG ?_;refine Jv ?_;refine Jv ?_;refine Q5 rfl (VK rfl rfl ?_);refine Q5 rfl (QA H rfl rfl rfl ?_);refine Jv ?_;exact k):G:=h H k
theorem Bk (H:Q0 w l) (k:K) (h:Q0 w l→K→G:=by
 intro H k;refine Jv ?_;refine Q6 ?_
 repeat refine Q7 ?_
 refine QG ?_;refine Jv ?_;refine Jv ?_;refine Q6 ?_
 repeat refine Q7 ?_
 refine Vg rfl ?_
 repeat refine Q7 ?_
 refine QG ?_;refine Jv ?_;refine Jv ?_;refine Q6 ?_;exact k):G:=h H k
theorem Bl (H:Q0 w l) (k:K) (h:Q0 w l→K→G:=by
 intro H k;refine Jo 11 H ?_;refine Vu H rfl ?_;exact k):G:=h H k
theorem Bm (H:Q0 w l) (k:K) (h:Q0 w l→K→G:=by
 intro H k;refine Ja 0 ?_;refine Ja 1 ?_;refine Jf 2 ?_;refine Jl 3 [8] H ?_;exact k):G:=h H k
theorem Bn (H:Q0 w l) (k:K) (h:Q0 w l→K→G:=by
 intro H k;refine Qe rfl rfl rfl (VH H rfl (by repeat first|exact .nil _|apply QY.cons rfl) rfl ?_);refine Qe rfl rfl rfl (Ud rfl rfl ?_);exact k):G:=h H k
theorem Bo (H:Q0 w l) (k:K) (h:Q0 w l→K→G:=by
 intro H k;refine Ja 8 ?_;refine Ja 9 ?_;refine Jf 10 ?_;exact k):G:=h H k
theorem Bp (H:Q0 w l) (k:K) (h:Q0 w l→K→G:=by
 intro H k
 repeat refine Q7 ?_
 refine QG ?_;refine Q5 rfl (QA H rfl rfl rfl ?_);refine Q5 rfl (QA H rfl rfl rfl ?_);exact k):G:=h H k
theorem Bq (H:Q0 w l) (k:K) (h:Q0 w l→K→G:=by
 intro H k;refine Jv ?_;refine Q6 ?_
 repeat refine Q7 ?_
 refine VU rfl ?_
 repeat refine Q7 ?_
 refine QG ?_;refine Jv ?_;refine Jv ?_;exact k):G:=h H k
theorem Br (H:Q0 w l) (k:K) (h:Q0 w l→K→G:=by
 intro H k;refine Ja 0 ?_;refine Ja 1 ?_;refine Jf 2 ?_;refine Jl 3 [7] H ?_;refine Ja 4 ?_;refine Jf 5 ?_;refine Jl 6 [7] H ?_;refine Jo 7 H ?_;exact k):G:=h H k
theorem D5 (H:Q0 w l) (k:K) (h:Q0 w l→K→G:=by
 intro H k
 repeat refine Q7 ?_
 refine QG ?_;refine Jv ?_;refine Jv ?_;refine Q6 ?_
 repeat refine Q7 ?_
 refine QG ?_;refine Jv ?_;exact k):G:=h H k
theorem D6 (H:Q0 w l) (k:K) (h:Q0 w l→K→G:=by
 intro H k;refine Jx H ?_
 repeat refine Q7 ?_
 refine QG ?_;refine Jv ?_;refine Jv ?_;refine Q6 ?_;exact k):G:=h H k
theorem D7 (H:Q0 w l) (k:K) (h:Q0 w l→K→G:=by
 intro H k;refine Q5 rfl (ZO rfl rfl ?_);refine Jv ?_;exact k):G:=h H k
theorem D8 (H:Q0 w l) (k:K) (h:Q0 w l→K→G:=by
 intro H k;refine Jv ?_;refine Q5 rfl (ZN H rfl rfl inferInstance rfl rfl (Nat.le_of_ble_eq_true rfl) rfl ?_);exact k):G:=h H k
theorem D9 (H:Q0 w l) (k:K) (h:Q0 w l→K→G:=by
 intro H k
 repeat refine Q7 ?_
 refine QG ?_;refine Jv ?_;refine Q6 ?_
 repeat refine Q7 ?_
 refine QG ?_;refine Q5 rfl (Ud rfl rfl ?_);exact k):G:=h H k
theorem DQ (H:Q0 w l) (k:K) (h:Q0 w l→K→G:=by
 intro H k;refine Gt 3 rfl (Q8.none rfl) rfl (by kernel_rfl) ?_;exact k):G:=h H k
theorem DV (H:Q0 w l) (k:K) (h:Q0 w l→K→G:=by
 intro H k;refine Jv ?_;refine Q6 ?_
 repeat refine Q7 ?_
 refine QG ?_;refine Jv ?_;exact k):G:=h H k
theorem DY (H:Q0 w l) (k:K) (h:Q0 w l→K→G:=by
 intro H k;refine Jv ?_;refine Jv ?_;refine Jv ?_;refine Jv ?_;refine Jv ?_;refine Q6 ?_
 repeat refine Q7 ?_
 refine Kn H mixed ?_;exact k):G:=h H k
theorem DZ (H:Q0 w l) (k:K) (h:Q0 w l→K→G:=by
 intro H k
 repeat refine Q7 ?_
 refine QG ?_;refine Jv ?_;refine Q5 rfl (Gc rfl rfl (.inl rfl) rfl ?_);exact k):G:=h H k
theorem DG (H:Q0 w l) (k:K) (h:Q0 w l→K→G:=by
 intro H k;refine VB rfl rfl rfl rfl ?_;refine VB rfl rfl rfl rfl ?_;refine Jv ?_;refine Jv ?_;exact k):G:=h H k
theorem DU (H:Q0 w l) (k:K) (h:Q0 w l→K→G:=by
 intro H k;refine Ja 10 ?_;refine Ja 11 ?_;refine Jx H ?_;exact k):G:=h H k
theorem DX (H:Q0 w l) (k:K) (h:Q0 w l→K→G:=by
 intro H k
 repeat refine Q7 ?_
 refine QG ?_;refine Jv ?_;refine Q6 ?_
 repeat refine Q7 ?_
 refine QG ?_;refine Jv ?_;refine Q5 rfl (Gc rfl rfl (.inl rfl) rfl ?_);refine Q6 ?_
 repeat refine Q7 ?_
 refine VU rfl (QW ?_)
 repeat refine Q7 ?_
 refine Kn H mixed ?_;exact k):G:=h H k
theorem DR (H:Q0 w l) (k:K) (h:Q0 w l→K→G:=by
 intro H k;refine VB rfl rfl rfl rfl ?_;refine Jv ?_;refine Q6 ?_;exact k):G:=h H k
theorem DW (H:Q0 w l) (k:K) (h:Q0 w l→K→G:=by
 intro H k
 repeat refine Q7 ?_
 refine QG ?_;refine Jv ?_;refine Jv ?_;refine Q6 ?_
 repeat refine Q7 ?_
 refine QG ?_;refine Jv ?_;refine Q5 rfl (Gc rfl rfl (.inl rfl) rfl ?_);refine Q6 ?_
 repeat refine Q7 ?_
 refine VU rfl (QW ?_);exact k):G:=h H k
theorem DA (H:Q0 w l) (k:K) (h:Q0 w l→K→G:=by
 intro H k
 repeat refine Q7 ?_
 refine QG ?_;refine Jv ?_;refine Q6 ?_
 repeat refine Q7 ?_
 refine QG ?_;refine Jv ?_;refine Q5 rfl (Gc rfl rfl (.inl rfl) rfl ?_);refine Q6 ?_
 repeat refine Q7 ?_
 refine VU rfl (QW ?_)
 repeat refine Q7 ?_
 refine QG ?_;refine Jv ?_;refine Jv ?_;exact k):G:=h H k
theorem DB (H:Q0 w l) (k:K) (h:Q0 w l→K→G:=by
 intro H k;refine Ja 4 ?_;refine Ja 5 ?_;refine Ja 6 ?_;refine Jf 7 ?_;exact k):G:=h H k
theorem DC (H:Q0 w l) (k:K) (h:Q0 w l→K→G:=by
 intro H k;refine Ja 12 ?_;refine Ja 13 ?_;refine Ja 14 ?_;exact k):G:=h H k
theorem DD (H:Q0 w l) (k:K) (h:Q0 w l→K→G:=by
 intro H k;refine Jv ?_;refine Qu rfl rfl rfl ?_;refine Qu rfl rfl rfl ?_;refine Qu rfl rfl rfl ?_;exact k):G:=h H k
theorem DE (H:Q0 w l) (k:K) (h:Q0 w l→K→G:=by
 intro H k;refine XM rfl rfl ?_;refine XM rfl rfl ?_;refine XM rfl rfl ?_;refine Qu rfl rfl rfl ?_;exact k):G:=h H k
theorem DF (H:Q0 w l) (k:K) (h:Q0 w l→K→G:=by
 intro H k;refine Jv ?_;refine Jv ?_;refine Qu rfl rfl rfl ?_;refine Qu rfl rfl rfl ?_;refine Qu rfl rfl rfl ?_;exact k):G:=h H k
theorem DH (H:Q0 w l) (k:K) (h:Q0 w l→K→G:=by
 intro H k;refine XM rfl rfl ?_;refine XM rfl rfl ?_;refine XM rfl rfl ?_;refine Qu rfl rfl rfl ?_;refine Jv ?_;refine Jv ?_;refine Q6 ?_;exact k):G:=h H k
theorem DI (H:Q0 w l) (k:K) (h:Q0 w l→K→G:=by
 intro H k;refine VB rfl rfl rfl rfl ?_;refine Qe rfl rfl rfl (VK rfl rfl ?_);refine Qe rfl rfl rfl (QA H rfl rfl rfl ?_);refine VB rfl rfl rfl rfl ?_;exact k):G:=h H k
theorem DJ (H:Q0 w l) (k:K) (h:Q0 w l→K→G:=by
 intro H k;refine Q5 rfl (VK rfl rfl ?_);refine Q5 rfl (QA H rfl rfl rfl ?_);refine Jv ?_;refine Jv ?_;exact k):G:=h H k
theorem DL (H:Q0 w l) (k:K) (h:Q0 w l→K→G:=by
 intro H k;refine Jv ?_;refine Q6 ?_
 repeat refine Q7 ?_
 refine QG ?_;refine Jv ?_;refine Q5 rfl (ZO rfl rfl ?_);refine Jv ?_;refine Q6 ?_;exact k):G:=h H k
theorem DM (H:Q0 w l) (k:K) (h:Q0 w l→K→G:=by
 intro H k;refine Ja 8 ?_;refine Ja 9 ?_;refine Jx H ?_;exact k):G:=h H k
theorem DN (H:Q0 w l) (k:K) (h:Q0 w l→K→G:=by
 intro H k
 repeat refine Q7 ?_
 refine QG ?_;refine Jv ?_;refine Jv ?_;refine Q5 rfl (VK rfl rfl ?_);refine Q5 rfl (QA H rfl rfl rfl ?_);refine Q5 rfl (ZO rfl rfl ?_);exact k):G:=h H k
theorem DO (H:Q0 w l) (k:K) (h:Q0 w l→K→G:=by
 intro H k;refine QS ?_
 repeat refine Q7 ?_
 refine QG ?_;refine Jv ?_;refine Q5 rfl (Gc rfl rfl (.inl rfl) rfl ?_);refine Jv ?_;refine Q6 ?_
 repeat refine Q7 ?_
 refine VU rfl ?_
 repeat refine Q7 ?_
 refine QG ?_;refine Jv ?_;refine Jv ?_;exact k):G:=h H k
theorem DP (H:Q0 w l) (k:K) (h:Q0 w l→K→G:=by
 intro H k;refine Jv ?_;refine Jv ?_;refine Q6 ?_
 repeat refine Q7 ?_
 refine Vg rfl ?_
 repeat refine Q7 ?_
 refine QG ?_;refine Q5 rfl (Ud rfl rfl ?_);refine Q5 rfl (ZN H rfl rfl inferInstance rfl rfl (Nat.le_of_ble_eq_true rfl) rfl ?_);exact k):G:=h H k
theorem DS (H:Q0 w l) (k:K) (h:Q0 w l→K→G:=by
 intro H k
 repeat refine Q7 ?_
 refine QG ?_;refine Jv ?_;refine Q6 ?_
 repeat refine Q7 ?_
 refine QG ?_;refine Jv ?_;refine Q6 ?_
 repeat refine Q7 ?_
 refine QG ?_;refine Jv ?_;refine Q6 ?_
 repeat refine Q7 ?_
 refine QS ?_;exact k):G:=h H k
theorem DT (H:Q0 w l) (k:K) (h:Q0 w l→K→G:=by
 intro H k;refine Jv ?_;refine Qu rfl rfl rfl ?_;refine Qu rfl rfl rfl ?_;refine Qu rfl rfl rfl ?_;refine Qu rfl rfl rfl ?_;exact k):G:=h H k
theorem Da (H:Q0 w l) (k:K) (h:Q0 w l→K→G:=by
 intro H k
 repeat refine Q7 ?_
 refine QG ?_;refine Jv ?_;refine Jv ?_;refine Q5 rfl (Km H rfl rfl rfl ?_);exact k):G:=h H k
theorem Db (H:Q0 w l) (k:K) (h:Q0 w l→K→G:=by
 intro H k;refine Jv ?_;refine Jv ?_;refine Q6 ?_
 repeat refine Q7 ?_
 refine QG ?_;refine Jv ?_;refine Q5 rfl (Gc rfl rfl (.inl rfl) rfl ?_);refine Q6 ?_
 repeat refine Q7 ?_
 refine VU rfl (QW ?_);exact k):G:=h H k
theorem Dc (H:Q0 w l) (k:K) (h:Q0 w l→K→G:=by
 intro H k;refine Ja 0 ?_;refine Ja 1 ?_;refine Jf 2 ?_;refine Jl 3 [5] H ?_;refine VM 4 [5] H rfl (Q8.none rfl) rfl (by repeat first|exact .nil _|apply QY.cons rfl) (by kernel_rfl) ?_;refine Jo 5 H ?_;exact k):G:=h H k
theorem Dd (H:Q0 w l) (k:K) (h:Q0 w l→K→G:=by
 intro H k;refine VM 6 [7] H rfl (Q8.none rfl) rfl (by repeat first|exact .nil _|apply QY.cons rfl) (by kernel_rfl) ?_;refine Jo 7 H ?_;exact k):G:=h H k
theorem De (H:Q0 w l) (k:K) (h:Q0 w l→K→G:=by
 intro H k;refine VM 4 [6] H rfl (Q8.none rfl) rfl (by repeat first|exact .nil _|apply QY.cons rfl) (by kernel_rfl) ?_;exact k):G:=h H k
theorem Df (H:Q0 w l) (k:K) (h:Q0 w l→K→G:=by
 intro H k;refine Jv ?_;refine Jv ?_;refine Q6 ?_
 repeat refine Q7 ?_
 refine Vg rfl ?_
 repeat refine Q7 ?_
 refine QG ?_;refine Jv ?_;refine Q6 ?_;exact k):G:=h H k
theorem Dg (H:Q0 w l) (k:K) (h:Q0 w l→K→G:=by
 intro H k;refine Ja 0 ?_;refine Ja 1 ?_;refine Jf 2 ?_;refine Jl 3 [9] H ?_;exact k):G:=h H k
theorem Dh (H:Q0 w l) (k:K) (h:Q0 w l→K→G:=by
 intro H k;refine Ja 4 ?_;refine Ja 5 ?_;refine Jf 6 ?_;exact k):G:=h H k
theorem Di (H:Q0 w l) (k:K) (h:Q0 w l→K→G:=by
 intro H k;refine Ja 4 ?_;refine Ja 5 ?_;refine Jf 6 ?_;refine Jl 7 [] H ?_;exact k):G:=h H k
theorem Dj (H:Q0 w l) (k:K) (h:Q0 w l→K→G:=by
 intro H k;refine Jv ?_;refine Q6 ?_
 repeat refine Q7 ?_
 refine QG ?_;refine Jv ?_;refine Jv ?_;refine Jv ?_;exact k):G:=h H k
theorem Dk (H:Q0 w l) (k:K) (h:Q0 w l→K→G:=by
 intro H k
 repeat refine Q7 ?_
 refine Vg rfl ?_
 repeat refine Q7 ?_
 refine QG ?_;refine Jv ?_;refine Jv ?_;refine Jv ?_;refine Q6 ?_;exact k):G:=h H k
theorem Dm (H:Q0 w l) (k:K) (h:Q0 w l→K→G:=by
 intro H k;refine Qe rfl rfl rfl (Gc rfl rfl (.inl rfl) rfl ?_);refine Jv ?_;refine Q6 ?_
 repeat refine Q7 ?_
 refine VU rfl (QW ?_);exact k):G:=h H k
theorem Dn (H:Q0 w l) (k:K) (h:Q0 w l→K→G:=by
 intro H k;refine Ja 0 ?_;refine Ja 1 ?_;refine Jf 2 ?_;refine Jl 3 [6,11] H ?_;refine Jf 4 ?_;exact k):G:=h H k
theorem Dp (H:Q0 w l) (k:K) (h:Q0 w l→K→G:=by
 intro H k;refine Ja 7 ?_;refine Ja 8 ?_;refine Ja 9 ?_;refine Jo 10 H ?_;refine Vu H rfl ?_;exact k):G:=h H k
theorem Dq (H:Q0 w l) (k:K) (h:Q0 w l→K→G:=by
 intro H k;refine Ja 7 ?_;refine Ja 8 ?_;refine Ja 9 ?_;refine Jo 11 H ?_;refine ZN H rfl rfl inferInstance rfl rfl (Nat.le_of_ble_eq_true rfl) rfl ?_;exact k):G:=h H k
theorem Dr (H:Q0 w l) (k:K) (h:Q0 w l→K→G:=by
 intro H k;refine Jv ?_;refine Jv ?_;refine Q5 rfl (ZN H rfl rfl inferInstance rfl rfl (Nat.le_of_ble_eq_true rfl) rfl ?_);exact k):G:=h H k
theorem Dt (H:Q0 w l) (k:K) (h:Q0 w l→K→G:=by
 intro H k;refine Jv ?_;refine Q6 ?_
 repeat refine Q7 ?_
 refine QG ?_;refine Jv ?_;refine Jv ?_;refine Q6 ?_
 repeat refine Q7 ?_
 refine VU rfl (QW ?_)
 repeat refine Q7 ?_
 refine QG ?_;refine Jv ?_;refine Q5 rfl (VH H rfl (by repeat first|exact .nil _|apply QY.cons rfl) rfl ?_);exact k):G:=h H k
theorem Du (H:Q0 w l) (k:K) (h:Q0 w l→K→G:=by
 intro H k;refine Jv ?_;refine Jv ?_;refine VB rfl rfl rfl rfl ?_;refine VB rfl rfl rfl rfl ?_;refine Qe rfl rfl rfl (VK rfl rfl ?_);refine Qe rfl rfl rfl (QA H rfl rfl rfl ?_);refine VB rfl rfl rfl rfl ?_;exact k):G:=h H k
theorem Dv (H:Q0 w l) (k:K) (h:Q0 w l→K→G:=by
 intro H k;refine Jv ?_;refine Jv ?_;refine Qu rfl rfl rfl ?_;refine Qu rfl rfl rfl ?_;refine Qu rfl rfl rfl ?_;refine Qu rfl rfl rfl ?_;refine Qu rfl rfl rfl ?_;refine Qu rfl rfl rfl ?_;refine Qu rfl rfl rfl ?_;refine Qu rfl rfl rfl ?_;exact k):G:=h H k
theorem Dw (H:Q0 w l) (k:K) (h:Q0 w l→K→G:=by
 intro H k
 repeat refine Q7 ?_
 refine QG ?_;refine Jv ?_;refine Jv ?_;refine Q5 rfl (Az rfl rfl (.inr rfl) rfl ?_);refine Q6 ?_;exact k):G:=h H k
theorem Dx (H:Q0 w l) (k:K) (h:Q0 w l→K→G:=by
 intro H k;refine Jv ?_;refine Q5 rfl (VK rfl rfl ?_);refine Q5 rfl (QA H rfl rfl rfl ?_);refine Jv ?_;refine Q5 rfl (Az rfl rfl (.inl rfl) rfl ?_);exact k):G:=h H k
theorem Dy (H:Q0 w l) (k:K) (h:Q0 w l→K→G:=by
 intro H k;refine Q6 ?_
 repeat refine Q7 ?_
 refine QG ?_;refine Jv ?_;refine Jv ?_;refine Q5 rfl (VK rfl rfl ?_);refine Q5 rfl (QA H rfl rfl rfl ?_);refine Jv ?_;exact k):G:=h H k
theorem Dz (H:Q0 w l) (k:K) (h:Q0 w l→K→G:=by
 intro H k;refine Jn 9 ?_;refine Jn 10 ?_;refine Jn 11 ?_;exact k):G:=h H k
theorem E0 (H:Q0 w l) (k:K) (h:Q0 w l→K→G:=by
 intro H k;refine Jn 14 ?_;refine Jn 15 ?_;refine Jn 16 ?_;refine Jn 17 ?_;refine Jn 18 ?_;refine Jn 19 ?_;refine Jn 20 ?_;refine Jn 21 ?_;refine Jn 22 ?_;refine Jn 23 ?_;exact k):G:=h H k
theorem E1 (H:Q0 w l) (k:K) (h:Q0 w l→K→G:=by
 intro H k;refine Ja 24 ?_;refine Ja 25 ?_;refine Jn 26 ?_;refine Jn 27 ?_;refine Jn 28 ?_;refine Jn 29 ?_;refine Jn 30 ?_;refine Jn 31 ?_;refine Jn 32 ?_;refine Jn 33 ?_;refine Jn 34 ?_;refine Jn 35 ?_;refine Jn 36 ?_;refine Jn 37 ?_;refine Ja 38 ?_;refine Jx H ?_
 repeat refine Q7 ?_
 refine Vg rfl ?_
 repeat refine Q7 ?_
 refine QG ?_;refine Jv ?_;refine Jv ?_;refine Q6 ?_;exact k):G:=h H k
theorem E2 (H:Q0 w l) (k:K) (h:Q0 w l→K→G:=by
 intro H k
 repeat refine Q7 ?_
 refine Vg rfl ?_
 repeat refine Q7 ?_
 refine QG ?_;refine Q5 rfl (Ud rfl rfl ?_);refine Jv ?_;refine Q5 rfl (ZN H rfl rfl inferInstance rfl rfl (Nat.le_of_ble_eq_true rfl) rfl ?_);exact k):G:=h H k
theorem E3 (H:Q0 w l) (k:K) (h:Q0 w l→K→G:=by
 intro H k;refine Jv ?_;refine Q6 ?_
 repeat refine Q7 ?_
 refine QG ?_;refine Q5 rfl (QA H rfl rfl rfl ?_);refine Q5 rfl (VH H rfl (by repeat first|exact .nil _|apply QY.cons rfl) rfl ?_);refine Jv ?_;exact k):G:=h H k
theorem E4 (H:Q0 w l) (k:K) (h:Q0 w l→K→G:=by
 intro H k;refine Ja 7 ?_;refine Ja 8 ?_;refine Ja 9 ?_;refine Ja 10 ?_;exact k):G:=h H k
theorem E5 (H:Q0 w l) (k:K) (h:Q0 w l→K→G:=by
 intro H k;refine Q6 ?_
 repeat refine Q7 ?_
 refine QG ?_;refine Q5 rfl (VH H rfl (by repeat first|exact .nil _|apply QY.cons rfl) rfl ?_);refine Q5 rfl (VH H rfl (by repeat first|exact .nil _|apply QY.cons rfl) rfl ?_);refine Q5 rfl (FF rfl rfl (.inl rfl) rfl ?_);exact k):G:=h H k
theorem E6 (H:Q0 w l) (k:K) (h:Q0 w l→K→G:=by
 intro H k
 repeat refine Q7 ?_
 refine QG ?_;refine Jv ?_;refine Jv ?_;refine Q5 rfl (VK rfl rfl ?_);refine Q5 rfl (QA H rfl rfl rfl ?_);refine Jv ?_;refine Q5 rfl (VK rfl rfl ?_);refine Q5 rfl (QA H rfl rfl rfl ?_);exact k):G:=h H k
theorem E7 (H:Q0 w l) (k:K) (h:Q0 w l→K→G:=by
 intro H k
 repeat refine Q7 ?_
 refine Vg rfl ?_
 repeat refine Q7 ?_
 refine QG ?_;refine Jv ?_;refine Jv ?_;refine Jv ?_;exact k):G:=h H k
theorem E8 (H:Q0 w l) (k:K) (h:Q0 w l→K→G:=by
 intro H k;refine Q5 rfl (VK rfl rfl ?_);refine Q5 rfl (VH H rfl (by repeat first|exact .nil _|apply QY.cons rfl) rfl ?_);exact k):G:=h H k
theorem E9 (H:Q0 w l) (k:K) (h:Q0 w l→K→G:=by
 intro H k;refine Ja 7 ?_;refine Ja 8 ?_;refine Ja 9 ?_;refine Ja 10 ?_;refine Ja 11 ?_;refine Jx H ?_
 repeat refine Q7 ?_
 refine QG ?_;refine Jv ?_;refine Jv ?_;refine Jv ?_;refine Jv ?_;exact k):G:=h H k
theorem EQ (H:Q0 w l) (k:K) (h:Q0 w l→K→G:=by
 intro H k;refine Ja 0 ?_;refine Ja 1 ?_;refine Ja 2 ?_;refine Ja 3 ?_;exact k):G:=h H k
theorem EV (H:Q0 w l) (k:K) (h:Q0 w l→K→G:=by
 intro H k;refine Ja 10 ?_;refine Ja 11 ?_;refine Jf 12 ?_;exact k):G:=h H k
theorem EY (H:Q0 w l) (k:K) (h:Q0 w l→K→G:=by
 intro H k;refine Jv ?_;refine Jv ?_;refine Qe rfl rfl rfl (VK rfl rfl ?_);refine Qe rfl rfl rfl (QA H rfl rfl rfl ?_);refine Qe rfl rfl rfl (ZO rfl rfl ?_);refine VB rfl rfl rfl rfl ?_;exact k):G:=h H k
theorem EZ (H:Q0 w l) (k:K) (h:Q0 w l→K→G:=by
 intro H k;refine Ja 0 ?_;refine Ja 1 ?_;refine Jf 2 ?_;refine Jl 3 [7] H ?_;refine Jf 4 ?_;refine Jl 5 [7] H ?_;refine Ja 6 ?_;refine Jo 7 H ?_;exact k):G:=h H k
theorem Fj (H:Q0 w l) (k:K) (h:Q0 w l→K→G:=by
 intro H k
 first|refine Jv ?_|refine Uc rfl rfl ?_
 refine Jv ?_;refine Jv ?_;refine Jv ?_;refine Jv ?_;refine Q6 ?_;exact k):G:=h H k
theorem Fk (H:Q0 w l) (k:K) (h:Q0 w l→K→G:=by
 intro H k;refine Qe rfl rfl rfl (VK rfl rfl ?_);refine Qe rfl rfl rfl (QA H rfl rfl rfl ?_);refine Qe rfl rfl rfl (ZO rfl rfl ?_);refine VB rfl rfl rfl rfl ?_;exact k):G:=h H k
theorem Fm (H:Q0 w l) (k:K) (h:Q0 w l→K→G:=by
 intro H k
 repeat refine Q7 ?_
 refine QG ?_;refine Jv ?_;refine Q6 ?_
 repeat refine Q7 ?_
 refine QG ?_;refine Jv ?_;refine Q6 ?_
 repeat refine Q7 ?_
 refine QS ?_;exact k):G:=h H k
theorem Fo (H:Q0 w l) (k:K) (h:Q0 w l→K→G:=by
 intro H k;refine VM 5 [6,7,10] H rfl (Q8.none rfl) rfl (by repeat first|exact .nil _|apply QY.cons rfl) (by kernel_rfl) ?_;exact k):G:=h H k
theorem Fp (H:Q0 w l) (k:K) (h:Q0 w l→K→G:=by
 intro H k
 repeat refine Q7 ?_
 refine QG ?_;refine Q5 rfl (QA H rfl rfl rfl ?_);refine Q5 rfl (VH H rfl (by repeat first|exact .nil _|apply QY.cons rfl) rfl ?_);refine Jv ?_;exact k):G:=h H k
theorem Fq (H:Q0 w l) (k:K) (h:Q0 w l→K→G:=by
 intro H k;refine VM 5 [6,11] H rfl (Q8.none rfl) rfl (by repeat first|exact .nil _|apply QY.cons rfl) (by kernel_rfl) ?_;exact k):G:=h H k
theorem Fr (H:Q0 w l) (k:K) (h:Q0 w l→K→G:=by
 intro H k;refine VM 5 [7] H rfl (Q8.none rfl) rfl (by repeat first|exact .nil _|apply QY.cons rfl) (by kernel_rfl) ?_;exact k):G:=h H k
theorem Fs (H:Q0 w l) (k:K) (h:Q0 w l→K→G:=by
 intro H k;refine VM 4 [7,12] H rfl (Q8.none rfl) rfl (by repeat first|exact .nil _|apply QY.cons rfl) (by kernel_rfl) ?_;exact k):G:=h H k
theorem Ft (H:Q0 w l) (k:K) (h:Q0 w l→K→G:=by
 intro H k;refine Ja 0 ?_;refine Ja 1 ?_;refine Jf 2 ?_;refine Jl 3 [6] H ?_;refine Jf 4 ?_;refine Jl 5 [6] H ?_;exact k):G:=h H k
theorem Fu (H:Q0 w l) (k:K) (h:Q0 w l→K→G:=by
 intro H k;refine Q5 rfl (Yf H rfl rfl inferInstance rfl (Nat.le_of_ble_eq_true rfl) rfl ?_);exact k):G:=h H k
theorem Ln (H:Q0 w l) (k:K) (h:Q0 w l→K→G:=by
 intro H k
 repeat refine Q7 ?_
 refine QG ?_;refine Jv ?_;refine Q6 ?_
 repeat refine Q7 ?_
 refine QG ?_;refine Jv ?_;refine Q5 rfl (Gc rfl rfl (.inl rfl) rfl ?_);refine Q6 ?_
 repeat refine Q7 ?_
 refine VU rfl (QW ?_);exact k):G:=h H k
end
end Go.SL
