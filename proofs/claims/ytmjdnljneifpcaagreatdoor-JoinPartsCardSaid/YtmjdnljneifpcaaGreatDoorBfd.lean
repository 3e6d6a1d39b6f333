/- Cells: what is proved on the way: every input of the statement; no condition. Texts joined: SlJ SlI SlQ SlO SlR SlZ. -/
import Derived.Test.YtmjdnljneifpcaaGreatDoorBfc
import Derived.Test.YtmjdnljneifpcaaGreatDoorBfb
import Derived.RangeFuncNested
import Derived.WideKeyArgs
import Derived.ChangeOld
import Derived.OpenShut
import Derived.ProofKit
import Derived.Deep.Slices
set_option linter.unusedVariables false
set_option linter.unusedSimpArgs false
set_option linter.unusedSectionVars false
namespace Go.SL
open List
section
variable {P:Program} {n:Nat} {r:Option Nat} {ops:Array Oper} {Q:Z7} {ms:List Nat} {σ:QB} {w:World} {rest:List Oper} {o:Oper} {K:QB→World→Prop} {l l':List Q2}
variable {ivs:List (List Nat×(World→Prop))} {T:QB→World→Prop} {f:Nat} {L:Array Bool}
variable {u t s:TypeId} {p:String} {af:Array Edge} {g:Option (Nat×Bool)} {d:Option Tmp} {x y z:Operand}
theorem oa {e size bytes b o2 len cap i j:Nat} {q q':IntKind} (hT:Vx P t e size bytes) (h1:i≤j) (h2:j≤cap) :
  (Instr.sliceAt t (.slice (some ⟨b,o2,none⟩) len cap) none (some (.int q (i:Int))) (some (.int q' (j:Int)))).run P w = .ok (.slice (some ⟨b,o2,none⟩) i j) w:=by
 have hs:(sizeOf e).run P w = .ok size w:=by
  obtain⟨k,hk,e2⟩:=Option.map_eq_some_iff.1 hT.info;simp only[Prod.mk.injEq] at e2;exact Uz (by rw[hk];simp[e2.1])
 have b1:(0:Int)≤i∧(i:Int)≤j:=by omega
 have b2:(0:Int)≤j∧(j:Int)≤cap:=by omega
 simp[Instr.sliceAt,Instr.slice,YS hT.und,Instr.sliceBounds,Instr.sliceBound,asIntOf,h1,h2,hs,Gl]
theorem od {e size bytes b o2 len cap i j:Nat} {q q':IntKind} (m:Nat) (hm:ops[m]? = some ⟨d,.slice t x none (some y) (some z),u,p,af,g⟩) (hg:Q8 ops σ ⟨d,.slice t x none (some y) (some z),u,p,af,g⟩ true) [hT:Vx P t e size bytes] (hx:ev σ x = .slice (some ⟨b,o2,none⟩) len cap) (hy:ev σ y = .int q (i:Int)) (hz:ev σ z = .int q' (j:Int)) (h1:i≤j) (h2:j≤cap)
  (hb:ZW n ops (ivs.map (·.1)) L m []=true) (k:Any P n r ops ivs T f (L.setIfInBounds m true) (put σ d (.slice (some ⟨b,o2,none⟩) i j)) w):Any P n r ops ivs T (f+1) L σ w:=
 KC m hm hg (fun c e=>by cases e) (fun w=>by simp only[execOp,hx,hy,hz,Option.map_some,Option.map_none,Sem.run_bind,oa hT h1 h2,Result.andThen_ok,Sem.run_pure]) hb k
theorem oe {e size bytes b o2 len cap i:Nat} {q:IntKind} (hT:Vx P t e size bytes) (h1:i≤len) (h2:len≤cap) :
  (Instr.sliceAt t (.slice (some ⟨b,o2,none⟩) len cap) (some (.int q (i:Int))) none none).run P w = .ok (.slice (some ⟨b,if cap=i then o2 else o2+i*size,none⟩) (len - i) (cap - i)) w:=by
 have hs:(sizeOf e).run P w = .ok size w:=by
  obtain⟨k,hk,e2⟩:=Option.map_eq_some_iff.1 hT.info;simp only[Prod.mk.injEq] at e2;exact Uz (by rw[hk];simp[e2.1])
 have b1:(0:Int)≤i∧(i:Int)≤len:=by omega
 by_cases he:cap=i
 ·simp[Instr.sliceAt,Instr.slice,YS hT.und,Instr.sliceBounds,Instr.sliceBound,asIntOf,h1,h2,hs,Gl,he]
 ·simp[Instr.sliceAt,Instr.slice,YS hT.und,Instr.sliceBounds,Instr.sliceBound,asIntOf,h1,h2,hs,Gl,he]
theorem oh {e size bytes b o2 len cap i:Nat} {q:IntKind} (m:Nat) (hm:ops[m]? = some ⟨d,.slice t x (some y) none none,u,p,af,g⟩) (hg:Q8 ops σ ⟨d,.slice t x (some y) none none,u,p,af,g⟩ true) [hT:Vx P t e size bytes] (hx:ev σ x = .slice (some ⟨b,o2,none⟩) len cap) (hy:ev σ y = .int q (i:Int)) (h1:i≤len) (h2:len≤cap)
  (hb:ZW n ops (ivs.map (·.1)) L m []=true) (k:Any P n r ops ivs T f (L.setIfInBounds m true) (put σ d (.slice (some ⟨b,if cap=i then o2 else o2+i*size,none⟩) (len - i) (cap - i))) w):Any P n r ops ivs T (f+1) L σ w:=
 KC m hm hg (fun c e=>by cases e) (fun w=>by simp only[execOp,hx,hy,Option.map_some,Option.map_none,Sem.run_bind,oe hT h1 h2,Result.andThen_ok,Sem.run_pure]) hb k
theorem om [Q4] {e size bytes b o' N i m c2:Nat} {zv:Value} {c spare:List Value} [hT:Vx P t e size bytes] [hz:VI P e zv] (H:Q0 w (pts b (row e (c++spare))::l))
  (hx:ev σ x = .slice (some ⟨b,0,none⟩) i i) (hy:ev σ y = .slice (some ⟨b,o',none⟩) m c2) (hc:c.length=N*size) (hi:i < N) (hm:m=N - (i+1)) (ho:0 < m→o'=(i+1)*size) (hN:N≤1000000)
  (hb:c.length*bytes≤140737488355328) (hd:Qs n d=true) (hq:(decide ((VA zv).length=size) && decide (0 < size) && decide (0 < bytes))=true)
  (k:∀ v' w',Q0 w' (QF e size v' (c.take (i*size)++c.drop ((i+1)*size))::l)→K (put σ d v') w'):St P n r ⟨d,.call { callee := .builtin .append,args:=#[x,y],argTypes:=#[t,t] },u,p,af,g⟩ σ w K:=by
 simp only[Bool.and_eq_true,decide_eq_true_eq] at hq;obtain⟨⟨DZ,Va⟩,Hz⟩:=hq;have Re:(i+1)*size≤N*size:=Nat.mul_le_mul_right _ hi;have Rg:(i+1)*size=i*size+size:=Nat.succ_mul i size;have X5:(c.take (i*size)).length=i*size:=by rw[length_take];omega
 rcases Nat.eq_zero_or_pos m with Et|S3
 ·obtain rfl:N=i+1:=by omega
  subst Et;have G5:c.drop ((i+1)*size)=[]:=drop_eq_nil_of_le (by omega);refine VT (v := .slice (some ⟨b,0,none⟩) i i) (w':=w) hd (fun c e=>by cases e) ?_ (k _ _ ?_)
  ·simp[execOp,resolve,invoke,builtin,hx,hy,Pt (w:=w) hT u (Nat.le_refl i)]
  ·rw[G5,append_nil];refine Gn (spare:=c.drop (i*size)++spare) X5 ⟨Nat.le_refl _,by omega⟩ (by simp) ?_;rw[← append_assoc,take_append_drop];exact H
 ·have GR:=H.pts;obtain⟨j,hj,e2⟩:=Option.map_eq_some_iff.1 hT.info;simp only[Prod.mk.injEq] at e2;obtain⟨i1,i2⟩:=e2;obtain⟨j',G4,UD⟩:=Option.map_eq_some_iff.1 hz.zero;have:j'=j:=by rw[hj] at G4;cases G4;rfl
  subst this;have W8:zv.cells.size=size:=by rw[ME,DZ]
  have Eu:(c.drop ((i+1)*size)).length=m*size:=by rw[length_drop,hc,← Nat.sub_mul,hm]
  have him:i+m+1=N:=by omega
  have bb:N≤N*bytes:=Nat.le_mul_of_pos_right N Hz;have mb:N≤N*size:=Nat.le_mul_of_pos_right N Va;have hNb:N*bytes≤c.length*bytes:=Nat.mul_le_mul_right _ (by rw[hc];exact mb);have S4:(i+m)*bytes≤N*bytes:=Nat.mul_le_mul_right _ (by omega)
  have I0:∀ q v,(c.take (i*size))[q]? = some v→w.cell? ((⟨b,0,none⟩:Addr).add q)=some v:=fun q v hv=>by
   rw[Gl,Nat.zero_add];refine Ud GR ?_;have h1:=(List.getElem?_eq_some_iff.1 hv).1;rw[X5] at h1;rw[getElem?_append_left (by omega)];rw[getElem?_take_of_lt h1] at hv;exact hv
  have Aq:∀ q v,(c.drop ((i+1)*size))[q]? = some v→w.cell? ((⟨b,o',none⟩:Addr).add q)=some v:=fun q v hv=>by
   rw[Gl,ho S3];refine Ud GR ?_;have h1:=(List.getElem?_eq_some_iff.1 hv).1;rw[Eu] at h1;rw[getElem?_drop] at hv;rw[getElem?_append_left (List.getElem?_eq_some_iff.1 hv).1];exact hv
  have hr:=run_append_grow (P:=P) w t u e j' zv hT.und hj UD ⟨b,0,none⟩ i i (c.take (i*size)) (by rw[i1];exact X5) I0 ⟨b,o',none⟩ m c2 (c.drop ((i+1)*size)) (by rw[i1];exact Eu) Aq (by omega) (by omega)
   (growslice_fits (by omega) (by rw[i2];omega))
  refine VT (v := .slice (some ⟨w.heap.size,0,none⟩) (i+m) (grownCap w (i+m) i e)) (w':=w.drew.alloc (.cells ((c.take (i*size)).toArray++(c.drop ((i+1)*size)).toArray++Builtin.zeroCells zv.cells (grownCap w (i+m) i e - (i+m))) e)) hd (fun c e=>by cases e) (by simp only[execOp,resolve,invoke,builtin,Sem.run_bind,Sem.run_pure,Result.andThen_ok,map_toArray,map_cons,map_nil,hx,hy,hr]) (k _ _ ?_);have hg:i+m≤grownCap w (i+m) i e∧grownCap w (i+m) i e≤9223372036854775807:=⟨grownCap_ge w (i+m) i e,grownCap_le_maxLen w (i+m) i e (by unfold maxLen;omega)⟩;refine Gn (spare:=(Builtin.zeroCells zv.cells (grownCap w (i+m) i e - (i+m))).toList) (by rw[length_append,X5,Eu,Nat.add_mul]) hg (by simp[size_zeroCells,W8]) ?_;have H':Q0 w.drew l:=H.drop.heap rfl;have:=H'.new (.cells ((c.take (i*size)).toArray++(c.drop ((i+1)*size)).toArray++Builtin.zeroCells zv.cells (grownCap w (i+m) i e - (i+m))) e (0,0));refine this.head fun h x=>?_;have e3:(c.take (i*size)).toArray++(c.drop ((i+1)*size)).toArray++Builtin.zeroCells zv.cells (grownCap w (i+m) i e - (i+m))=(c.take (i*size)++c.drop ((i+1)*size)++(Builtin.zeroCells zv.cells (grownCap w (i+m) i e - (i+m))).toList).toArray:=by apply Array.ext';simp
  rw[e3] at x;exact x
end
end Go.SL
namespace Go.SL
open List
section
variable {P:Program} {n:Nat} {r:Option Nat} {Q:Z7} {ms:List Nat} {σ:QB} {w:World} {l:List Q2}
theorem oo [Q4] {m0 l0 D:Nat} {ps0:List Tmp} {assign0 body0:Code} {σ0:QB} {g:Operand} {ps:List Tmp} {assign body:Code} {f:FuncId} {a b:List Value} (H:Q0 w (LR m0 l0 ps0 assign0 body0 σ0 D .busy::l)) (hg:ev σ g = .func (.func f) a.toArray b.toArray) [hB:QZ P f]
  (k : ∀ yl w1, Q0 w1 (LR n yl ps assign body σ D .ready :: LR m0 l0 ps0 assign0 body0 σ0 D .busy :: l) →
   Calls P f ((a++[Value.func (.yield yl) #[] #[]])++b).toArray w1 (ret fun _ w2=>∃ l2,Q0 w2 (LR n yl ps assign body σ D .ready::l2)∧∀ w3,Q0 w3 l2→Q .normal ms σ w3)) :
  C P n (some l0) (.rangeFunc g ps.toArray assign body) Q ms σ w:=by
 intro act ra;refine wpIn_rangeFunc ?_;intro fn _;obtain⟨fn0,tmps0,a1,a2,H1⟩:=Eo H;have H2:=H1.new (.loop { state := .ready,pending:=none,fn,tmps:=act.tmps,params:=ps.toArray,assign,body,defers:=D });have H3:=I3 (m:=n) ra.size ra.val H2;have hc:=k _ _ (I3 (m:=m0) a1 a2 H3.swap).swap
 refine⟨w.heap.size,[],w.alloc (.loop { state := .ready,pending:=none,fn,tmps:=act.tmps,params:=ps.toArray,assign,body,defers:=D }),
  { target := .fn (.func f) b.toArray,args:=(a++[Value.func (.yield w.heap.size) #[] #[]]).toArray },w.alloc (.loop { state := .ready,pending:=none,fn,tmps:=act.tmps,params:=ps.toArray,assign,body,defers:=D }),f,
  ((a++[Value.func (.yield w.heap.size) #[] #[]])++b).toArray,w.alloc (.loop { state := .ready,pending:=none,fn,tmps:=act.tmps,params:=ps.toArray,assign,body,defers:=D }),run_enterLoop_inner H1.pts fn act.tmps ps.toArray assign body,?_,fun _ _=>trivial,?_,fun hs=>by simp[F] at hs,PJ (r:=some l0) ?_⟩
 ·rw[ra.eval];simp only[rangeCall,resolve,hg,Deferred.ofValue,Sem.run_bind,Sem.run_pure,Result.andThen_ok];simp[ev]
 ·simp only[invoke];rw[MX hB];simp
 ·refine hc.mono fun e w2 q=>?_;cases e with
  | panicked c=>exact q.elim
  | outgrown=>exact q.elim
  | returned v=>
   obtain⟨l2,H4,kq⟩:=q;obtain⟨fn3,tmps3,KH,Pk,H5⟩:=Eo H4;refine⟨none,_,run_endLoop H5.pts (by simp),?_⟩;have H6:=(H5.set (w':=w2.putObj w.heap.size (.loop { state := .exhausted,pending:=none,fn:=fn3,tmps:=tmps3,params:=ps.toArray,assign,body,defers:=D })) (World.putObj_heap_same H5.fresh) (fun c hc=>World.putObj_heap_other hc)).drop;refine⟨ms,σ,⟨ra.size,?_,ra.val⟩,kq _ H6⟩;show []++act.defers=_;rw[nil_append,ra.defs]
theorem S5 [Q4] {fn:Func} {R:Value→World→Prop} {e:Exit} {vs:List Value} (l:List Q2) (he:e = .normal∨e = .ret) (H:Q0 w (mk ms::l))
  (hv:∀ w',Q0 w' l→XJ P σ w' fn.results.toList vs) (hR:∀ w',Q0 w' l→R (Aj vs) w'):Bw P n fn R e ms σ w:=
 ⟨he,.inl ⟨l,H,fun w' H' a ra=>⟨_,ef ra (hv w' H'),hR w' H'⟩⟩⟩
end
end Go.SL
namespace Go
section
variable {F:Fence} {n:Nat} {P:Program} {Q:Exit→Act→World→Prop} {a:Act} {w:World} {b:Frame} {k:List Item} {cs:List Frame}
theorem Ev {c:Code}:step P (lone (b.atR a (.code (.scope c)::k)) cs w) = .next (lone (b.atR a (.code c :: .inScope c::k)) cs w):=
 step_lone_go (by simp[stepG,stepG.exec,Frame.atR])
theorem oq {c:Code}:step P (lone (b.atR a (.inScope c::k)) cs w) = .next (lone (b.atR a k) cs w):=
 step_lone_go (by simp[stepG,stepG.exec,Frame.atR])
def ot (Q:Exit→Act→World→Prop):Exit→Act→World→Prop
 | .goto _,_,_=>False
 | e,a,w=>Q e a w
theorem ou {c:Code} (h:c.wpIn F n P (ot Q) a w):(Code.scope c).wpIn F n P Q a w:=by
 intro b k cs ov hb hr;have h0:(lone (b.atR a (.code (.scope c)::k)) cs w).fenced P F:=fenced_calm hb hr rfl;obtain⟨e,a₁,w₁,hq,Ew⟩:=h b (.inScope c::k) cs ov hb hr;cases e with
 | normal=>exact⟨.normal,a₁,w₁,hq,.head h0 Ev (StepsIn.trans Ew (.one (fenced_calm hb hr rfl) oq))⟩
 | exit id=>
  have hx:exitTo id (.inScope c::k)=exitTo id k:=by simp[exitTo]
  exact⟨.exit id,a₁,w₁,hq,fun k' hk => .head h0 Ev (Ew.1 k' (by rw[hx];exact hk)),
   fun Ym hk=>let ⟨k₁,h1,h2⟩:=Ew.2 Ym (by rw[hx];exact hk);⟨k₁,h1,.head h0 Ev h2⟩⟩
 | goto l=>exact hq.elim
 | ret=>exact⟨_,a₁,w₁,hq,.of_steps (.one h0 Ev) Ew⟩
 | panic ch=>exact⟨_,a₁,w₁,hq,.of_steps (.one h0 Ev) Ew⟩
 | outgrown=>exact⟨_,a₁,w₁,hq,.of_steps (.one h0 Ev) Ew⟩
end
end Go
namespace Go.SL
def ow (Q:Z7):Z7
 | .goto _,_,_,_=>False
 | e,ms,σ,w=>Q e ms σ w
section
variable {P:Program} {n:Nat} {r:Option Nat} {Q:Z7} {ms:List Nat} {σ:QB} {w:World}
theorem ox {c:Code} (h:C P n r c (ow Q) ms σ w):C P n r (.scope c) Q ms σ w:=fun a ra=>
 ou (wpIn_mono (h a ra) fun e a w q=>by
  cases e with
  | outgrown=>exact q
  | normal=>obtain⟨ms,σ,r,q⟩:=q;exact⟨ms,σ,r,q⟩
  | exit id=>obtain⟨ms,σ,r,q⟩:=q;exact⟨ms,σ,r,q⟩
  | goto l=>obtain⟨ms,σ,r,q⟩:=q;exact q.elim
  | ret=>obtain⟨ms,σ,r,q⟩:=q;exact⟨ms,σ,r,q⟩
  | panic c=>obtain⟨ms,σ,r,q⟩:=q;exact⟨ms,σ,r,q⟩)
end
end Go.SL
namespace Go.SL
open List
section
variable {P:Program} {n:Nat} {r:Option Nat} {σ:QB} {w:World} {o:Oper} {K:QB→World→Prop} {l l':List Q2}
variable {u t:TypeId} {p:String} {af:Array Edge} {g:Option (Nat×Bool)} {d:Option Tmp} {x y z:Operand}
variable {A B:Type} [DecidableEq A] {ek:A→Value} {vv:B→Value} {b:Nat} {m:List (A×B)} {kt et:TypeId}
theorem fG [Q4] (H:Q0 w (mp ek vv b m::l)):∃ es c,GX ek vv es c m∧Q0 w (pts b (.map es c)::l):=by
 obtain⟨⟨f,g,a,e,d,⟨es,c,h1,h2⟩,y⟩,ok⟩:=H;exact⟨es,c,h2,⟨f,g,a,e,d,h1,y⟩,ok⟩
theorem fU [Q4] {es:Array MapEntry} {c:Nat} (ok:GX ek vv es c m) (H:Q0 w (pts b (.map es c)::l)):Q0 w (mp ek vv b m::l):=H.head fun h e=>⟨es,c,e,ok⟩
theorem GX.push {es:Array MapEntry} {c:Nat} (ok:GX ek vv es c m) {k:A} (hk:k∉m.map (·.1)) (v:B):GX ek vv (es.push { key:=ek k,val:=vv v,born:=c }) (c+1) (m++[(k,v)]):=by
 refine⟨by simp[ok.ents],?_,?_,?_⟩
 ·have:=MC (x:=k) (v:=v) ok.nodup;rwa [Wp hk] at this
 ·simp only[Array.toList_push,map_append,map_cons,map_nil];refine pairwise_append.2 ⟨ok.rise,by simp,fun a ha c' hc=>?_⟩;obtain⟨q,hq,rfl⟩:=mem_map.1 ha;simp at hc;subst hc;exact ok.born q hq
 ·intro q hq;simp only[Array.toList_push,mem_append,mem_singleton] at hq
  rcases hq with hq|rfl
  ·exact Nat.lt_succ_of_lt (ok.born q hq)
  ·exact Nat.lt_succ_self _
theorem fX [Q4] {ix:Operand} {key:A} {zv:Value} {es:Array MapEntry} {c:Nat} (H:Q0 w (pts b (.map es c)::l)) (ok:GX ek vv es c m) (VK:key∉m.map (·.1)) (hx:ev σ x = .map (some b)) (hk:ev σ ix=ek key) (TK:XH P kt ek) [hM:G3 P t kt et] [hz:VI P et zv] (hd:Qs n d=true)
  (k:∀ w',Q0 w' (pts b (.map (es.push { key:=ek key,val:=zv,born:=c }) (c+1))::l)→K (put σ d (.tuple #[zv,.int .i64 c])) w'):St P n r ⟨d,.mapEntry t x ix,u,p,af,g⟩ σ w K:=by
 have h1:w.heap[b]? = some (.map es c):=H.pts;have Q6:b < w.heap.size:=(Array.getElem?_eq_some_iff.1 h1).1
 have X0:(Instr.mapEntry t (.map (some b)) (ek key)).run P w = .ok (.tuple #[zv,.int .i64 c]) (w.putObj b (.map (es.push { key:=ek key,val:=zv,born:=c }) (c+1))):=by
  unfold Instr.mapEntry;simp only[Sem.run_bind,YS hM.und,Result.andThen_ok,Ei h1,Sem.run_pure,TK.check]
  rcases ok.find TK w key with ⟨h3,h4⟩|⟨j,y,v,h3,h4,h5,h6⟩
  ·rw[h3];simp only[Result.andThen_ok,Sem.run_bind,PP hz,Ej _ h1,Sem.run_pure];rfl
  ·exact absurd (mem_map.2 ⟨_,mem_of_getElem? h6,rfl⟩) VK
 refine VT (v := .tuple #[zv,.int .i64 c]) (w':=w.putObj b (.map (es.push { key:=ek key,val:=zv,born:=c }) (c+1))) hd (fun c e=>by cases e) ?_ (k _ (H.set (World.putObj_heap_same Q6) (fun c hc=>World.putObj_heap_other hc) ⟨rfl,rfl⟩));simp only[execOp,hx,hk,Sem.run_bind,X0,Result.andThen_ok];rfl
theorem find_born {es:Array MapEntry} {e0:MapEntry} (h:∀ e∈es.toList,e.born < e0.born):(es.push e0).findIdx? (fun e=>(e.born:Int) == (e0.born:Int))=some es.size:=by
 rw[Array.findIdx?_push,Array.findIdx?_eq_none_iff.2]
 ·simp
 ·intro e he;have:=h e (by simpa using he);rw[beq_eq_false_iff_ne];omega
theorem fK [Q4] {st:Operand} {kx zv v:Value} {es:Array MapEntry} {c c2:Nat} (H:Q0 w (pts b (.map (es.push { key:=kx,val:=zv,born:=c }) c2)::l)) (hb:∀ e∈es.toList,e.born < c) (hx:ev σ x = .map (some b)) (hs:ev σ st = .int .i64 c) (hv:ev σ y=v) (hd:Qs n d=true)
  (k:∀ w',Q0 w' (pts b (.map (es.push { key:=kx,val:=v,born:=c }) c2)::l)→K (put σ d undef) w'):St P n r ⟨d,.entryStore t x st y,u,p,af,g⟩ σ w K:=by
 have h1:w.heap[b]? = some (.map (es.push { key:=kx,val:=zv,born:=c }) c2):=H.pts;have Q6:b < w.heap.size:=(Array.getElem?_eq_some_iff.1 h1).1
 have DW:(es.push { key:=kx,val:=zv,born:=c }).modify es.size (fun e=>{ e with val:=v })=es.push { key:=kx,val:=v,born:=c }:=by
  apply Array.ext_getElem?;intro i;rw[Array.getElem?_modify,Array.getElem?_push,Array.getElem?_push];by_cases hi:es.size=i
  ·subst hi;simp
  ·rw[if_neg hi,if_neg (fun h=>hi h.symm),if_neg (fun h=>hi h.symm)]
 have hf:(es.push { key:=kx,val:=zv,born:=c }).findIdx? (fun e=>(e.born:Int) == (c:Int))=some es.size:=find_born (es:=es) (e0:={ key:=kx,val:=zv,born:=c }) hb
 have X0:(Instr.entryStore t (.map (some b)) (.int .i64 c) v).run P w = .ok () (w.putObj b (.map (es.push { key:=kx,val:=v,born:=c }) c2)):=by
  unfold Instr.entryStore;simp only[Sem.run_bind,Result.andThen_ok,Ei h1,Sem.run_pure,asInt,asIntOf,hf,DW];exact Ej _ h1
 refine MU (w':=w.putObj b (.map (es.push { key:=kx,val:=v,born:=c }) c2)) hd (fun c e=>by cases e) ?_ (k _ (H.set (World.putObj_heap_same Q6) (fun c hc=>World.putObj_heap_other hc) ⟨rfl,rfl⟩));simp only[execOp,hx,hs,hv,Sem.run_bind,X0,Result.andThen_ok];rfl
end
end Go.SL
namespace Go.SL
open List
section
variable {P:Program} {n:Nat} {r:Option Nat} {ops:Array Oper} {Q:Z7} {ms:List Nat} {σ:QB} {w:World} {rest:List Oper} {o:Oper} {K:QB→World→Prop} {l l':List Q2}
variable {ivs:List (List Nat×(World→Prop))} {T:QB→World→Prop} {f:Nat} {L:Array Bool}
variable {u t:TypeId} {p:String} {af:Array Edge} {g:Option (Nat×Bool)} {d:Option Tmp} {x y z:Operand}
theorem oy [Q4] {e size bytes:Nat} {zv:Value} (hT:Vx P t e size bytes) (hz:VI P e zv) (DZ:(VA zv).length=size) (Va:0 < size) (Hz:0 < bytes) {s:Value} {cs new:List Value} {m c:Nat} {a:Addr} {l:List Q2} (H:Q0 w (QF e size s cs::l))
  (ty:TypeId) (hm:0 < m) (Z4:new.length=m*size) (Aq:∀ j v,new[j]? = some v→w.cell? (a.add j)=some v) (h1:∀ v∈new,v.oneCell'=true)
  (hb:∀ n,cs.length=n*size→(n+m)*bytes≤140737488355328) :
  ∃ v' w',(Builtin.append_ #[t,t] ty #[s,.slice (some a) m c]).run P w = .ok v' w'∧Q0 w' (QF e size v' (cs++new)::l):=by
 obtain⟨i,hi,e2⟩:=Option.map_eq_some_iff.1 hT.info;simp only[Prod.mk.injEq] at e2;obtain⟨i1,i2⟩:=e2;obtain⟨i',Ue,UD⟩:=Option.map_eq_some_iff.1 hz.zero;have:i'=i:=by rw[hi] at Ue;cases Ue;rfl
 subst this;have W8:zv.cells.size=size:=by rw[ME,DZ]
 have mb:∀ k,k≤k*size:=fun k=>Nat.le_mul_of_pos_right k Va;have bb:∀ k,k≤k*bytes:=fun k=>Nat.le_mul_of_pos_right k Hz
 rcases XI H with ⟨rfl,rfl,H2⟩|⟨b,len,cap,spare,rfl,e3,e4,e5,H2⟩
 ·have fR:=hb 0 (by simp);rw[Nat.zero_add] at fR;have hr:=run_append_nil (P:=P) w t ty e i' zv hT.und hi UD a m c new (by rw[i1];exact Z4) Aq hm (by have:=bb m;omega) (by rw[i2];omega);refine⟨_,_,hr,?_⟩;have hg:m≤grownCap w m 0 e∧grownCap w m 0 e≤9223372036854775807:=⟨grownCap_ge w m 0 e,grownCap_le_maxLen w m 0 e (by have:=bb m;unfold maxLen;omega)⟩;refine Gn (spare:=(Builtin.zeroCells zv.cells (grownCap w m 0 e - m)).toList) (by simpa using Z4) hg (by simp[size_zeroCells,W8]) ?_;have H':Q0 w.drew l:=H2.heap rfl;have:=H'.new (.cells (new.toArray++Builtin.zeroCells zv.cells (grownCap w m 0 e - m)) e (0,0));refine this.head fun h x=>?_;have e:new.toArray++Builtin.zeroCells zv.cells (grownCap w m 0 e - m)=([]++new++(Builtin.zeroCells zv.cells (grownCap w m 0 e - m)).toList).toArray:=by apply Array.ext';simp
  rw[e] at x;exact x
 ·have GR:=H2.pts;have oz:=hb len e3;by_cases Wt:len+m≤cap
  ·have Yz:m*size≤spare.length:=Nat.le_trans (Nat.mul_le_mul_right _ (by omega)) e5
   have hr:=run_append_room (P:=P) w t ty e i' hT.und hi b len cap (cs++spare).toArray GR a m c new (by rw[i1];exact Z4) Aq h1 Wt (by
    simp only[size_toArray,length_append,i1,e3,Z4];omega)
   refine⟨_,_,hr,?_⟩;refine Gn (spare:=spare.drop new.length) (by simp[e3,Z4,Nat.add_mul]) ⟨Wt,e4.2⟩ ?_ ?_
   ·have e6:(cap - (len+m))*size=(cap - len)*size - m*size:=by rw[← Nat.sub_mul,Nat.sub_sub]
    rw[length_drop,Z4,e6];omega
   ·have hh:=setRow_heap w b (cs++spare).toArray ((cs++spare).toArray.toList.take (len*i'.size)++new++(cs++spare).toArray.toList.drop (len*i'.size+new.length)).toArray e _ GR;refine(H2.set hh (fun k hk=>setRow_other w b k _ hk)).head fun h x=>?_
    have e:(cs++spare).toArray.toList.take (len*i'.size)++new++(cs++spare).toArray.toList.drop (len*i'.size+new.length)=cs++new++spare.drop new.length:=by
     rw[i1,← e3];show (cs++spare).take cs.length++new++(cs++spare).drop (cs.length+new.length)=_;rw[take_left,← drop_drop,drop_left]
    rw[e] at x;exact x
  ·have I0:∀ j u,cs[j]? = some u→w.cell? ((⟨b,0,none⟩:Addr).add j)=some u:=fun j u hj=>by
    rw[Gl];refine Ud GR ?_;rw[Nat.zero_add,getElem?_append_left ((List.getElem?_eq_some_iff.1 hj).1)];exact hj
   have Pg:(len+m)*bytes=len*bytes+m*bytes:=Nat.add_mul _ _ _
   have hr:=run_append_grow (P:=P) w t ty e i' zv hT.und hi UD ⟨b,0,none⟩ len cap cs (by rw[i1];exact e3) I0 a m c new (by rw[i1];exact Z4) Aq (by omega) (by have:=bb (len+m);omega)
    (growslice_fits (by omega) (by rw[i2];omega))
   refine⟨_,_,hr,?_⟩;have hg:len+m≤grownCap w (len+m) cap e∧grownCap w (len+m) cap e≤9223372036854775807:=⟨grownCap_ge w (len+m) cap e,grownCap_le_maxLen w (len+m) cap e (by have:=bb (len+m);unfold maxLen;omega)⟩;refine Gn (spare:=(Builtin.zeroCells zv.cells (grownCap w (len+m) cap e - (len+m))).toList) (by simp[e3,Z4,Nat.add_mul]) hg (by simp[size_zeroCells,W8]) ?_;have H':Q0 w.drew l:=H2.drop.heap rfl;have:=H'.new (.cells (cs.toArray++new.toArray++Builtin.zeroCells zv.cells (grownCap w (len+m) cap e - (len+m))) e (0,0));refine this.head fun h x=>?_;have e:cs.toArray++new.toArray++Builtin.zeroCells zv.cells (grownCap w (len+m) cap e - (len+m))=(cs++new++(Builtin.zeroCells zv.cells (grownCap w (len+m) cap e - (len+m))).toList).toArray:=by apply Array.ext';simp
   rw[e] at x;exact x
theorem p3 [Q4] {e size bytes:Nat} {zv:Value} [hT:Vx P t e size bytes] [hz:VI P e zv] {s:Value} {cs new c2:List Value} {m cap b o E:Nat} {fz:Nat×Nat} (H:Q0 w (QF e size s cs::l))
  (hx:ev σ x=s) (hy:ev σ y = .slice (some ⟨b,o,none⟩) m cap) [ha:At b (.cells c2.toArray E fz) l] (hn:QY c2 o (m*size) new) (h1:new.all (·.oneCell')=true) (hm:0 < m)
  (hb:∀ n,cs.length=n*size→(n+m)*bytes≤140737488355328) (hd:Qs n d=true) (hq:(decide ((VA zv).length=size) && decide (0 < size) && decide (0 < bytes))=true)
  (k:∀ v' w',Q0 w' (QF e size v' (cs++new)::l)→K (put σ d v') w'):St P n r ⟨d,.call { callee := .builtin .append,args:=#[x,y],argTypes:=#[t,t] },u,p,af,g⟩ σ w K:=by
 simp only[Bool.and_eq_true,decide_eq_true_eq] at hq;have GR:w.heap[b]? = some (.cells c2.toArray E fz):=ha.get _ H.drop.1;obtain⟨v',w',hr,H'⟩:=oy (w:=w) (c:=cap) (a:=⟨b,o,none⟩) (m:=m) hT hz hq.1.1 hq.1.2 hq.2 H u hm hn.len (fun j v hj=>by rw[Gl];exact Ud GR (hn.get j v hj)) (all_eq_true.1 h1) hb;refine VT (v:=v') (w':=w') hd (fun c e=>by cases e) ?_ (k v' w' H');simp[execOp,resolve,invoke,builtin,hx,hy,hr]
end
end Go.SL
namespace Go.SL
open List
open Go.ChangeShapes
section
variable {H:Type} {enc:TypeId×Value→H} {P:Program} {W W':World}
theorem fA (hl:laidOutB P=true):∀ {ts:List TypeId} {vs:List Value} {ds:List (DataW H)} {ps:List MemPlace} {sp:Nat→Bool},(∀ t∈ts,P.readableRec t=true∧t < P.types.size) →
  DataW.TrodAll enc P W 0 (fun _=>true) true ts vs ds ps→(∀ p∈ps,W.sameAt W' p)→(∀ p∈ps,sp p.block=true)→DataW.TrodAll enc P W' 0 sp true ts vs ds ps
 | [],[],[],_,_,_,h,_,_=>h
 | t::ts,v::vs,d::ds,_,sp,hr,⟨p,q,h,hs,e⟩,same,Yz=>by
  subst e;have Mb:=hr t (by simp)
  exact⟨p,q,Go.WideElems.Trod_stays hl Mb.1 Mb.2 h (fun x hx=>same x (mem_append_left _ hx)) (fun x hx=>Yz x (mem_append_left _ hx)),
   fA hl (fun t ht=>hr t (by simp[ht])) hs (fun x hx=>same x (mem_append_right _ hx)) (fun x hx=>Yz x (mem_append_right _ hx)),rfl⟩
theorem fW {f:Func} {s:ChangeSpec} {args:Array Value} {v:Value} {ds gs:List (DataW H)} {before:List MemPlace} (hl:laidOutB P=true) (p4:∀ t∈f.params.toList,P.readableRec t=true∧t < P.types.size)
  (hv:s.vars=[]) (hW:DataW.Whole enc P f.params.toList s.vars false W args.toList ds gs before) (hh:∀ b,b < W.heap.size→W'.heap[b]? = W.heap[b]?) (Au:W'.os=W.os) (YB:W'.output=W.output)
  (ha:(s.fn H (ds++gs)).args=ds) (p5:(s.fn H (ds++gs)).vars=[])
  (p6:DataW.TrodAll enc P W' W.heap.size (fun _=>false) false f.resultTypes.toList (v.resultList f.resultTypes.size) (s.fn H (ds++gs)).results []):s.post enc P f false true false false W args v W':=by
 have Q6:=hW.lt;have S6:=hW;obtain⟨p,q,h1,h2,rfl,h3,h4⟩:=hW;rw[hv] at h2;obtain⟨rfl,rfl⟩:=trodVars_none h2
 have same:∀ x∈p,W.sameAt W' x:=by
  intro x hx;have hb:=Q6 x (by simp[hx]);cases x with
  | cell b off=>show W'.cell? _=W.cell? _;unfold World.cell?;rw[hh b hb]
  | map b=>exact hh b hb
 have Yz:∀ x∈p,(fun b=>decide (b < W.heap.size)) x.block=true:=fun x hx=>by
  have:=Q6 x (by simp[hx]);simpa using this
 refine⟨ds,[],p++[],[],p,[],S6,p6,?_,?_,⟨Au,YB,fun i hi=>?_⟩,fun h=>by cases h⟩
 ·rw[ha];exact fA hl p4 h1 same Yz
 ·rw[p5,hv];show ([]:List MemPlace)=[];rfl
 ·rw[hh i hi];cases hx:W.heap[i]? with
  | none=>trivial
  | some o=>cases o <;> simp
end
end Go.SL
