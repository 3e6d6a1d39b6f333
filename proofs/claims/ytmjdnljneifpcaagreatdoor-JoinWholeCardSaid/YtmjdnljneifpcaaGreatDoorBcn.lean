/- Cells: what is proved on the way: every input of the statement; no condition. Texts joined: JoiP StoD BumF BumG TreC TreD MovP MovQ SplP SplH. -/
import Derived.Test.YtmjdnljneifpcaaGreatDoorBcm
import Derived.Test.YtmjdnljneifpcaaGreatDoorBce
import Derived.LaidEqlPtr
import Derived.Test.YtmjdnljneifpcaaGreatDoorBcl
set_option linter.unusedVariables false
set_option linter.unusedSimpArgs false
set_option linter.unusedSectionVars false
namespace Go.Proofs.YtmjdnljneifpcaaGreatDoor
open List
open Go.SL
theorem Oq {A B:List Int} {x:Int} (h:(A++x::B).Nodup):(A++x::B).filter (·≠x)=A++B:=by
 rw[nodup_append] at h;obtain⟨h1,h2,h3⟩:=h;rw[nodup_cons] at h2
 rw[filter_append,filter_cons,if_neg (by simp),filter_eq_self.2 (fun a ha=>by
  have:=h3 a ha x mem_cons_self;simpa using this),filter_eq_self.2 (fun a ha=>by
  have:a≠x:=fun h4=>h2.1 (h4▸ha);simpa using this)]
theorem fH {par:List (Int×Int)} (hnd:(par.map (·.1)).Nodup) {x:Int} (hx:x∈par.map (·.1)):(QD par x).map (·.1)=(par.map (·.1)).filter (·≠x)∧∀ r q,(r,q)∈QD par x↔(r,q)∈par∧r≠x:=by
 obtain⟨⟨x',y⟩,h1,h2⟩:=mem_map.1 hx;have h2:x'=x:=h2;subst h2;obtain⟨a1,a2,h3⟩:=append_of_mem h1;subst h3;have he:QD (a1++(x',y)::a2) x'=a1++a2:=Wb (p:=(x',y)) hnd;refine⟨?_,fun r q=>?_⟩
 ·rw[he,map_append,map_append,map_cons];rw[map_append,map_cons] at hnd;exact(Oq hnd).symm
 ·rw[← Yl (XK hnd),Xm hnd,← Yl hnd];by_cases h:x'=r
  ·subst h;rw[if_pos rfl];exact⟨fun h=>(by cases h),fun h=>absurd rfl h.2⟩
  ·rw[if_neg h];exact⟨fun h1=>⟨h1,fun h2=>h h2.symm⟩,fun h1=>h1.1⟩
theorem UA {α:Type} {f:α→Int} {l l1 l2:List α} {a:α} (h:l=l1++a::l2) (hnd:(l.map f).Nodup):(l1++l2).map f=(l.map f).filter (·≠f a)∧∀ y∈l1++l2,y∈l∧f y≠f a:=by
 subst h;have hnd':=hnd;rw[map_append,map_cons] at hnd;refine⟨by rw[map_append,map_append,map_cons];exact(Oq hnd).symm,fun y hy=>?_⟩;rw[nodup_append] at hnd;obtain⟨h1,h2,h3⟩:=hnd;rw[nodup_cons] at h2
 rcases mem_append.1 hy with hy|hy
 ·exact⟨mem_append.2 (.inl hy),h3 _ (mem_map.2 ⟨y,hy,rfl⟩) _ mem_cons_self⟩
 ·exact⟨mem_append.2 (.inr (mem_cons_of_mem _ hy)),fun h=>h2.1 (h▸mem_map.2 ⟨y,hy,rfl⟩)⟩
def JY (C own own':List Nat):Prop:=own'.length=own.length∧∀ j,own'.getD j 0=if j∈C then 0 else own.getD j 0
theorem JY.get {C own own':List Nat} (h:JY C own own') {c r:Nat} (hr:r≠0):own'[c]? = some r↔own[c]? = some r∧c∉C:=by
 have h1:=h.2 c;rw[getD_eq_getElem?_getD,getD_eq_getElem?_getD] at h1;have hl:=h.1
 rcases Nat.lt_or_ge c own.length with hc|hc
 ·rw[getElem?_eq_getElem hc,getElem?_eq_getElem (show c < own'.length by omega)] at h1 ⊢;simp only[Option.getD_some,Option.some.injEq] at h1 ⊢;rw[h1];by_cases h2:c∈C
  ·rw[if_pos h2];exact⟨fun h=>absurd h.symm hr,fun h=>absurd h2 h.2⟩
  ·rw[if_neg h2];exact⟨fun h=>⟨h,h2⟩,fun h=>h.1⟩
 ·rw[getElem?_eq_none hc,getElem?_eq_none (by omega)];exact⟨fun h=>(by cases h),fun h=>(by cases h.1)⟩
theorem fI {s:CS} (h:WF s) (hnd:(s.par.map (·.1)).Nodup) {x:Int} (hx:∀ (k g:Nat) (e:Q7),s.tab[k]? = some ⟨g,some e⟩→e.region≠x) {b0:Nat} {SP:QE} {p1 p2:List (Int×Nat×QE)} (hsps:s.sps=p1++(x,b0,SP)::p2)
  {b1:Nat} {M:List Nat} {m1 m2:List (Int×Nat×List Nat)} (hmns:s.mns=m1++(x,b1,M)::m2) {own':List Nat} (hF:JY (QU SP.parts) s.own own'):WF { s with own:=own',par:=QD s.par x,sps:=p1++p2,mns:=m1++m2 }:=by
 have hS:=h.spc (x,b0,SP) (by rw[hsps];simp);have hxk:x∈s.par.map (·.1):=by rw[← h.skeys,hsps];simp
 obtain⟨e1,e2⟩:=fH hnd hxk;obtain⟨s1,s2⟩:=UA (f:=fun y:Int×Nat×QE=>y.1) hsps (by rw[h.skeys];exact hnd);obtain⟨t1,t2⟩:=UA (f:=fun y:Int×Nat×List Nat=>y.1) hmns (by rw[h.mkeys];exact hnd)
 have hown:∀ (c r:Nat),r≠0→(own'[c]? = some r↔s.own[c]? = some r∧(r:Int)≠x):=by
  intro c r hr;rw[hF.get hr];constructor
  ·rintro⟨h1,h2⟩;exact⟨h1,fun h3=>h2 ((hS.owned c).2 ⟨r,h1,h3,hr⟩)⟩
  ·rintro⟨h1,h2⟩;refine⟨h1,fun h3=>?_⟩;obtain⟨q,h4,h5,h6⟩:=(hS.owned c).1 h3;rw[h1] at h4;injection h4 with h4
   subst h4;exact h2 h5
 have hl:=hF.1;refine⟨h.size,by show 1≤own'.length∧own'.length≤63;rw[hl];exact h.own,h.slots,h.lays,h.gen,fun i g e hi=>?_,h.apart,⟨?_,h.par.2.1,fun r q hr=>h.par.2.2 r q ((e2 r q).1 hr).1⟩,?_,?_,fun y hy=>?_,fun y hy=>h.free y (s2 y hy).1,fun c r hc hr=>?_,fun y hy=>h.mine y (t2 y hy).1⟩
 ·obtain⟨h1,⟨h2,h3⟩,q,h4⟩:=h.obj i g e hi;have hne:=hx i g e hi;refine⟨h1,⟨by show QJ e≤own'.length*s.size;rw[hl];exact h2,fun c hc1 hc2=>?_⟩,q,(e2 _ _).2 ⟨h4,hne⟩⟩;obtain⟨r,h5,h6,h7⟩:=h3 c hc1 hc2;exact⟨r,(hown c r (by omega)).2 ⟨h5,by rw[h6];exact hne⟩,h6,h7⟩
 ·have h1:=congrArg List.length e1;rw[length_map] at h1;have h2:=length_filter_le (·≠x) (s.par.map (·.1));rw[length_map] at h2;have:=h.par.1;show (QD s.par x).length≤64;omega
 ·show (p1++p2).map (fun y=>y.1)=(QD s.par x).map (·.1);rw[s1,e1,h.skeys]
 ·show (m1++m2).map (fun y=>y.1)=(QD s.par x).map (·.1);rw[t1,e1,h.mkeys]
 ·obtain⟨hy1,hy2⟩:=s2 y hy;have hy2:y.1≠x:=hy2;obtain⟨a,b,c,d,e⟩:=h.spc y hy1;refine⟨a,b,fun z hz=>by rw[hl];exact c z hz,d,fun z=>?_⟩;rw[e];constructor
  ·rintro⟨q,h1,h2,h3⟩;exact⟨q,(hown z q h3).2 ⟨h1,by rw[h2];exact hy2⟩,h2,h3⟩
  ·rintro⟨q,h1,h2,h3⟩;exact⟨q,((hown z q h3).1 h1).1,h2,h3⟩
 ·obtain⟨h1,h2⟩:=(hown c r hr).1 hc;obtain⟨q,hq⟩:=h.live c r h1 hr;exact⟨q,(e2 _ _).2 ⟨hq,h2⟩⟩
theorem BQ {s:CS} (hw:WF s) {x:Int×Nat×QE} (hx:x∈s.sps):x.2.2.parts.length≤63∧(∀ p∈x.2.2.parts,1≤p.2∧p.1+p.2≤s.own.length)∧(QU x.2.2.parts).length≤63∧(QU x.2.2.parts).Nodup∧(∀ c∈QU x.2.2.parts,s.own.getD c 0≠0)∧x.2.2.fin≤1000000:=by
 have h:=hw.spc x hx;have ho:=hw.own.2;refine⟨Nat.le_trans (Ib h) ho,h.parts,?_,h.nodup,fun c hc=>?_,?_⟩
 ·have h3:=ZS h.nodup (l₂:=List.range s.own.length) (fun c hc=>by
   obtain⟨q,hq,_,_⟩:=(h.owned c).1 hc;exact mem_range.2 (List.getElem?_eq_some_iff.1 hq).1)
  rw[length_range] at h3;omega
 ·obtain⟨q,h1,h2,h3⟩:=(h.owned c).1 hc;rw[getD_eq_getElem?_getD,h1,Option.getD_some];exact h3
 ·by_cases hf:x.2.2.fin=0
  ·omega
  ·obtain⟨c,h1,_,h2⟩:=h.fin hf;have h4:=(h.parts _ h2).2;have h4:c+1≤s.own.length:=h4;have:=Nat.mul_le_mul (show c+1≤63 by omega) hw.size.2;omega
theorem fJ {s s':CS} {mem:List Nat} (m:Va s mem) (h1:s'.own.length=s.own.length) (h2:s'.size=s.size) (h3:s'.tab=s.tab):Va s' mem:=
 ⟨by rw[h1,h2];exact m.len,fun i g e hi=>m.head i g e (by rw[← h3];exact hi),fun i g e hi=>m.words i g e (by rw[← h3];exact hi)⟩
theorem fL [Q4] (p size:Nat) (mem own:List Nat) (c o:Nat) (ho:1≤o) (h63:own.length≤63) (hc:c < own.length) (h0:own.getD c 0≠0) {w:World} {fr:List Q2} (H:Q0 w (ST p size mem own::fr)) :
  Calls Tryz.prog 214 #[pp p,.int .i64 c,.int .i64 o] w (ret fun v w'=>v = .int .i64 0∧Q0 w' (ST p size mem (own.set c o)::fr)):=by
 refine Q9 Tryz.func214 rfl (by kernel_rfl) ?_;refine J7 H ?_;refine Y6 (fun ms σ w=>ms=[]∧σ 0=pp p∧σ 1 = .int .i64 c∧σ 2 = .int .i64 o∧Q0 w (ST p size mem own::fr)) ?_ ?_
 ·refine Dz H ?_;rw[show decide ((o:Int) < 1)=false from decide_eq_false (by omega)];refine Y7 H ?_;exact .inl ⟨rfl,rfl,rfl,rfl,rfl,H⟩
 clear H;rintro ms σ w ⟨rfl,g0,g1,g2,H⟩;rw[Q1 g0,Q1 g1,Q1 g2];refine J9 H ?_;refine Jc rfl rfl (Oi p size mem own c hc h0 H) ?_;clear H;rintro v w ⟨rfl,H⟩;refine YA H ?_;obtain⟨v,v2,u,ws,many,hok,H⟩:=UZ H;obtain⟨x,rfl,hb,rfl,hx⟩:=I0 hok h63;obtain⟨a2,c2,rfl⟩:=QF (H.drop.drop) (QH own) (by decide);have hcl:=hok.c2;replace H:=Js [2,0,0] 0 H;obtain⟨b,s,rfl,H,_,_,hclose⟩:=Z3 H (by omega);refine J6 H ?_;refine Qo (fun ms σ w=>ms=[]∧σ 7 = .int .i64 0∧Q0 w (NL (.slice (some ⟨b,0,none⟩) own.length c2) (own.set c o)::pts p (row 141 [v,.int .i64 size,.slice (some ⟨b,0,none⟩) own.length c2,pp u])::UL v mem::BM u own.length [x] (Ye own.length x)::fr)) ?_ ?_
 ·refine Vh rfl ?_;refine GM H ?_;refine Jd ?_;refine Q5 rfl (Yj H rfl rfl inferInstance rfl (by simp only[length_append,QH];omega) rfl ?_);clear H;intro w H;have e0:(QW own++s).set (0+((c:Nat):Int).toNat*1) (.int .i64 o)=QW (own.set c o)++s:=Er (by omega);rw[e0] at H;replace H:=hclose _ _ _ (by rw[QH,QH,length_set]) H;refine J2 H ?_;exact⟨rfl,rfl,rfl,H⟩
 ·clear H;rintro ms σ w ⟨rfl,g7,H⟩;rw[Q1 g7];refine J5 H ?_;replace H:=Js [1,1,0,0] 0 H
  have hx':∀ i,i < (own.set c o).length→x.testBit i=decide ((own.set c o).getD i 0≠0):=by
   intro i hi;rw[length_set] at hi;rw[getD_eq_getElem?_getD,getElem?_set];by_cases hic:c=i
   ·subst hic;rw[if_pos rfl,if_pos hc,hx c hi,decide_eq_true h0]
    symm
    show decide (o≠0)=true;exact decide_eq_true (by omega)
   ·rw[if_neg hic,hx i hi,getD_eq_getElem?_getD]
  refine Q3 (Jy (Gb (own:=own.set c o) (ws:=[x]) (many:=Ye own.length x) ⟨hok.s1,hok.s2,by rw[length_set];exact hok.c1,by rw[length_set];exact hok.c2,by rw[length_set];exact hok.len,by have:=Es _ _ hx';rw[length_set] at this;exact this,fun _=>⟨_,rfl,by rw[length_set];exact hb.lt,hx'⟩⟩ (by rw[length_set];exact H)) rfl fun w' H'=>⟨rfl,H'⟩)
set_option maxRecDepth 10000 in
theorem Ot [Q4] (p sp owner:Nat) (S:QE) (size:Nat) (mem own:List Nat) (c n:Nat) (ho:1≤owner) (hp:S.parts.length≤100000) (h63:own.length≤63)
  (hown:∀ j,j < n→c+j < own.length∧own.getD (c+j) 0≠0) (hc:c < 64) (hn:n < 64) {w:World} {fr:List Q2} (H:Q0 w (Qn p sp owner S::ST sp size mem own::fr)) :
  Calls Tryz.prog 136 #[pp p,.agg #[.int .i64 c,.int .i64 n]] w (ret fun v w'=>v = .tuple #[]∧Q0 w' (Qn p sp owner { S with parts:=S.parts++[(c,n)] }::ST sp size mem (VV own c n owner)::fr)):=by
 refine Q9 Tryz.func136 rfl (by kernel_rfl) ?_;refine J8 H ?_;clear H;intro b3 w H;refine J2 H ?_;refine Ag H ?_;replace H:=Js [2,1,0] 0 H;refine J6 H ?_;refine Qo (fun ms σ w=>ms=[]∧σ 0=pp p∧σ 3=pp b3∧Q0 w (ST sp size mem (VV own c n owner)::Qn p sp owner S::pts b3 (row 208 [.int .i64 c,.int .i64 n])::fr)) ?_ ?_
 ·refine QP ?_;refine Ql (fun ms σ w z=>ms=[]∧∃ j:Nat,j≤n∧z=n - j∧σ 0=pp p∧σ 3=pp b3∧σ 6 = .int .i64 n∧σ 7 = .int .i64 j∧Q0 w (ST sp size mem (VV own c j owner)::Qn p sp owner S::pts b3 (row 208 [.int .i64 c,.int .i64 n])::fr)) (m:=n) ⟨rfl,0,by omega,rfl,rfl,rfl,rfl,rfl,by rw[Eu];exact H⟩ ?_;clear H;rintro ms σ w z ⟨rfl,j,hj,rfl,g0,g3,g6,g7,H⟩;rw[Q1 g0,Q1 g3,Q1 g6,Q1 g7];refine J7 H ?_;refine Qk rfl (fun h=>QB ?_) (fun h=>Qq ?_)
  ·have hlt:j < n:=by omega
   obtain⟨ho1,ho2⟩:=hown j hlt;have hsl:(VV own c j owner).length=own.length:=Vz (by omega);obtain⟨a,cc,H⟩:=GQ H.swap;replace H:=Js [2,0,1,0] 0 H;refine KT H ?_;refine J1 H ?_;clear H;intro w H;refine XF H ?_;refine RK H ?_;refine Ja 6 ?_;refine Ja 7 ?_;rw[show IntKind.i64.wrap ((c:Int)+(j:Int))=((c+j:Nat):Int) by rw[Qb (by omega) (by omega)];omega];refine EO H ?_;refine Jl 11 [] H ?_;refine Jo 12 H ?_;refine Jk rfl rfl (fL sp size mem (VV own c j owner) (c+j) owner ho (by omega) (by omega) (by rw[Rk (by omega),if_neg (by omega)];exact ho2) H) ?_;clear H;rintro v w ⟨rfl,H⟩;rw[On (by omega)] at H;refine Jx H ?_;replace H:=Js [1,2,0,0] 0 H;replace H:=(ZQ (S:=S) H).swap;refine J5 H ?_;exact⟨_,⟨rfl,j+1,hlt,rfl,rfl,rfl,rfl,Qc (by omega),H⟩,by omega⟩
  ·have hge:j=n:=by omega
   subst hge;exact⟨rfl,rfl,rfl,rfl,H⟩
 clear H;rintro ms σ w ⟨rfl,g0,g3,H⟩;rw[Q1 g0,Q1 g3];obtain⟨a,cc,H⟩:=GQ H.swap;replace H:=Js [0,2,0,0] 0 H;refine J1 H ?_;clear H;intro w H;refine RJ H ?_;refine Jl 4 [7,10] H ?_;refine HN H ?_;refine Jo 6 H ?_;refine WU H ?_;clear H;intro b30 w H;replace H:=Js [3,0,0,0] 0 H;refine Jo 7 H ?_;refine YO H rfl rfl (by repeat first|exact .nil _|apply QV.cons rfl) rfl (by decide) (by rw[Gu XS];simp only[length_cons,length_nil];omega) rfl rfl ?_;clear H;intro v31 w H;obtain⟨a31,m31,c31,rfl⟩:=Qw H;have e1:S.parts.flatMap Vk++[.int .i64 c,.int .i64 n]=(S.parts++[(c,n)]).flatMap Vk:=by simp
 rw[e1] at H;refine Ja 8 ?_;refine Jf 9 ?_;refine Jo 10 H ?_;refine UQ H ?_;clear H;intro w H;refine Jx H ?_;replace H:=Js [2,0,2] 2 H;exact YV _ (.inl rfl) (ZQ (S:={ S with parts:=S.parts++[(c,n)] }) H) rfl fun w' H'=>⟨rfl,H'⟩
end Go.Proofs.YtmjdnljneifpcaaGreatDoor
namespace Go.SL
open List
open Go.Op
section
variable {P:Program} {w:World}
theorem fM {t te:TypeId} {j:TypeInfo} {a b:Addr} {ca cb:Array Value} {ta tb:TypeId} (X Y:Operand) (hp:P.underlying t=some (.pointer te)) (hte:P.info? te=some j) (hsz:j.size≠0) (hne:a≠b) (ha:w.heap[a.block]? = some (.cells ca ta (0,0))) (hb:w.heap[b.block]? = some (.cells cb tb (0,0))) :
  (do eqGuard .eql t X Y (.pointer (some a)) (.pointer (some b));binOp .eql t (.pointer (some a)) (.pointer (some b)):Sem Value).run P w = .ok (.bool false) w:=by
 have h:=run_eql_ptr_other w hp hte hsz hne ha hb;simp[eqGuard,h]
theorem fN {t te:TypeId} {j:TypeInfo} (a:Addr) (X Y:Operand) (hp:P.underlying t=some (.pointer te)) (hte:P.info? te=some j) :
  (do eqGuard .neq t X Y (.pointer (some a)) (.pointer (some a));binOp .neq t (.pointer (some a)) (.pointer (some a)):Sem Value).run P w = .ok (.bool false) w:=by
 have h:∀ d:Nat,(Op.equalIn (d+1) t (.pointer (some a)) (.pointer (some a))).run P w = .ok true w:=fun d=>by
  simp[Op.equalIn,run_underlying hp,sizeOf,typeInfo,hte,run_sameAddr_same]
 simp[eqGuard,binOp,Op.equal,Op.maxDepth,h 9999]
end
section
variable {P:Program} {n:Nat} {r:Option Nat} {ops:Array Oper} {σ:QK} {w:World}
variable {ivs:List (List Nat×(World→Prop))} {T:QK→World→Prop} {f:Nat} {L:Array Bool}
variable {u t yt:TypeId} {p:String} {af:Array Edge} {g:Option (Nat×Bool)} {d:Option Tmp} {x y:Operand}
theorem fO [Q4] {l:List Q2} {te:TypeId} {a b E F k:Nat} {ca cb:List Value} (i:Nat) (D:List Nat) (H:Q0 w l) (hi:ops[i]? = some ⟨d,.binOp .eql t x y yt,u,p,af,g⟩) (hg:Q8 ops σ ⟨d,.binOp .eql t x y yt,u,p,af,g⟩ true) (hp:P.underlying t=some (.pointer te)) (hte:(P.info? te).map (·.size)=some (k+1))
  (hx:ev σ x = .pointer (some ⟨a,0,none⟩)) (hy:ev σ y = .pointer (some ⟨b,0,none⟩)) (hne:a≠b) [ha:At a (row E ca) l] [hb:At b (row F cb) l]
  (hs:YB n ops (ivs.map (·.1)) L i D=true) (h:Any P n r ops ((D,fun w=>w.heap[a]? = some (row E ca)∧w.heap[b]? = some (row F cb))::ivs) T f (L.setIfInBounds i true) (put σ d (.bool false)) w):Any P n r ops ivs T (f+1) L σ w:=by
 obtain⟨j,hj,hk⟩:=Option.map_eq_some_iff.1 hte
 exact BC i D hi ⟨_,hi,fun c e=>(by cases e),.inl ⟨hg,fun w hw=>by
  simp only[execOp,hx,hy,Sem.run_bind];rw[← Sem.run_bind,fM x y hp hj (by omega) (fun e=>hne (by injection e)) hw.1 hw.2];rfl⟩⟩ hs h
theorem fP {te:TypeId} {a:Addr} {k:Nat} (i:Nat) (hi:ops[i]? = some ⟨d,.binOp .neq t x y yt,u,p,af,g⟩) (hg:Q8 ops σ ⟨d,.binOp .neq t x y yt,u,p,af,g⟩ true) (hp:P.underlying t=some (.pointer te)) (hte:(P.info? te).map (·.size)=some k)
  (hx:ev σ x = .pointer (some a)) (hy:ev σ y = .pointer (some a))
  (hs:YB n ops (ivs.map (·.1)) L i []=true) (h:Any P n r ops ivs T f (L.setIfInBounds i true) (put σ d (.bool false)) w):Any P n r ops ivs T (f+1) L σ w:=by
 obtain⟨j,hj,hk⟩:=Option.map_eq_some_iff.1 hte
 exact U4 i hi hg (fun c e=>by cases e) (fun w=>by
  simp only[execOp,hx,hy,Sem.run_bind];rw[← Sem.run_bind,fN a x y hp hj];rfl) hs h
end
end Go.SL
namespace Go.Proofs.YtmjdnljneifpcaaGreatDoor
open List
open Go.SL
theorem fS [Q4] {w:World} {p o sp owner sp2 owner2:Nat} {S T:QE} {l:List Q2} (H:Q0 w (Qn p sp owner S::Qn o sp2 owner2 T::l)):p≠o:=by
 obtain⟨a,c,H⟩:=GQ H;replace H:=Js [2,0,0] 0 H;obtain⟨a2,c2,H⟩:=GQ H;replace H:=Js [2,0,0,0] 0 H;exact Q0.ne H
theorem Ou [Q4] (p o sp owner owner2:Nat) (S T:QE) {w:World} {fr:List Q2} (H:Q0 w (Qn p sp owner S::Qn o sp owner2 T::fr)) :
  Calls Tryz.prog 135 #[pp p,pp o] w (ret fun v w'=>v = .int .i64 0∧Q0 w' (Qn p sp owner S::Qn o sp owner2 T::fr)):=by
 have hne:=fS H;obtain⟨a,c,H⟩:=GQ H;replace H:=Js [2,0,0] 0 H;obtain⟨a2,c2,H⟩:=GQ H;refine Q9 Tryz.func135 rfl (by kernel_rfl) ?_;refine J7 H ?_;refine Y6 (fun ms σ w=>ms=[]∧Q0 w (pts o (row 206 [pp sp,.int .i64 owner2,.slice a2 T.parts.length c2,.int .i64 T.at',.int .i64 T.fin])::QC 208 2 (.slice a2 T.parts.length c2) (T.parts.flatMap Vk)::pts p (row 206 [pp sp,.int .i64 owner,.slice a S.parts.length c,.int .i64 S.at',.int .i64 S.fin])::QC 208 2 (.slice a S.parts.length c) (S.parts.flatMap Vk)::fr)) ?_ ?_
 ·refine RW H ?_;refine J1 H ?_;clear H;intro w H;refine Ja 0 ?_;refine Sh 1 rfl (Q8.none rfl) rfl rfl (.inl rfl) (by kernel_rfl) ?_;refine Ja 2 ?_;refine Ja 3 ?_;refine Ja 4 ?_;refine fO (k:=4) 5 [] H rfl (Q8.of rfl rfl rfl) Tryz.underlying119 (by kernel_rfl) rfl rfl (Ne.symm hne) (by kernel_rfl) ?_;refine Bw H ?_;refine Jf 10 ?_;refine Jl 11 [] H ?_;refine Kd H ?_;refine Jf 14 ?_;refine Jl 15 [] H ?_;refine fP (k:=4) 16 rfl (Q8.of rfl rfl rfl) Tryz.underlying34 (by kernel_rfl) rfl rfl (by kernel_rfl) ?_;refine Ja 17 ?_;refine Ja 18 ?_;refine Fz (by kernel_rfl) (by repeat (first|exact Vi.nil|refine Vi.cons (.inr ⟨Q0.at H,Q0.at H⟩) ?_|refine Vi.cons (.inr (Q0.at H)) ?_|refine Vi.cons (.inl (by kernel_rfl)) ?_)) ?_;refine V6 H ?_;exact .inl ⟨rfl,rfl,H⟩
 clear H;rintro ms σ w ⟨rfl,H⟩;refine VB H ?_;replace H:=Js [2,2,0,0] 0 H;replace H:=ZQ (S:=S) H;replace H:=Js [1,1,0] 0 H;replace H:=ZQ (S:=T) H;exact Q3 (Jy H.swap rfl fun w' H'=>⟨rfl,H'⟩)
def ZG (S T:QE):QE:=⟨S.parts++T.parts,if T.fin=0 then S.at' else T.at',if T.fin=0 then S.fin else T.fin⟩
set_option maxRecDepth 10000 in
theorem Ov [Q4] (p o sp owner owner2:Nat) (S T:QE) (size:Nat) (mem own:List Nat) (ho:1≤owner) (hS:S.parts.length≤1000) (hT:T.parts.length≤1000) (h63:own.length≤63)
  (hn:∀ x∈T.parts,1≤x.2∧x.1+x.2≤own.length) (hown:∀ c∈QU T.parts,own.getD c 0≠0) {w:World} {fr:List Q2} (H:Q0 w (Qn p sp owner S::Qn o sp owner2 T::ST sp size mem own::fr)) :
  Calls Tryz.prog 72 #[pp p,pp o] w (ret fun v w'=>v = .int .i64 0∧∃ own':List Nat,own'.length=own.length∧(∀ j,own'.getD j 0=if j∈QU T.parts then owner else own.getD j 0)∧Q0 w' (Qn p sp owner (ZG S T)::Qn o sp owner2 ⟨[],0,0⟩::ST sp size mem own'::fr)):=by
 refine Q9 Tryz.func72 rfl (by kernel_rfl) ?_;refine Uy H ?_;refine Jc rfl rfl (Ou p o sp owner owner2 S T H) ?_;clear H;rintro v w ⟨rfl,H⟩;refine Yv H ?_;replace H:=Js [1,0,0] 0 H;obtain⟨a2,c2,H⟩:=GQ H;refine Yd H ?_;refine C9 H ?_;refine Qo (fun ms σ w=>ms=[]∧σ 0=pp p∧σ 1=pp o∧∃ own':List Nat,own'.length=own.length∧(∀ j,own'.getD j 0=if j∈QU T.parts then owner else own.getD j 0)∧Q0 w (Qn p sp owner { S with parts:=S.parts++T.parts }::ST sp size mem own'::pts o (row 206 [pp sp,.int .i64 owner2,.slice a2 T.parts.length c2,.int .i64 T.at',.int .i64 T.fin])::QC 208 2 (.slice a2 T.parts.length c2) (T.parts.flatMap Vk)::fr)) ?_ ?_
 ·refine QP ?_;replace H:=Js [2,2,0,0] 0 H;refine Ql (fun ms σ w z=>ms=[]∧∃ (i:Nat) (own':List Nat),i≤T.parts.length∧z=T.parts.length - i∧own'.length=own.length∧(∀ j,own'.getD j 0=if j∈QU (T.parts.take i) then owner else own.getD j 0)∧σ 0=pp p∧σ 1=pp o∧σ 17 = .slice a2 T.parts.length c2∧σ 18 = .int .i64 T.parts.length∧σ 19 = .int .i64 i∧Q0 w (Qn p sp owner { S with parts:=S.parts++T.parts.take i }::ST sp size mem own'::pts o (row 206 [pp sp,.int .i64 owner2,.slice a2 T.parts.length c2,.int .i64 T.at',.int .i64 T.fin])::QC 208 2 (.slice a2 T.parts.length c2) (T.parts.flatMap Vk)::fr)) (m:=T.parts.length) ⟨rfl,0,own,by omega,rfl,rfl,(fun j=>by rw[if_neg (by simp[QU])]),rfl,rfl,rfl,rfl,rfl,by rw[take_zero,append_nil];exact H⟩ ?_;clear H;rintro ms σ w z ⟨rfl,i,own',hi,rfl,hol,hog,g0,g1,g17,g18,g19,H⟩;rw[Q1 g0,Q1 g1,Q1 g17,Q1 g18,Q1 g19];refine J7 H ?_;refine Qk rfl (fun h=>QB ?_) (fun h=>Qq ?_)
  ·have hlt:i < T.parts.length:=by omega
   have hx:=getElem?_eq_getElem hlt;have htk:T.parts.take (i+1)=T.parts.take i++[T.parts[i]]:=by rw[take_add_one,hx];rfl
   have hmem:=getElem_mem hlt;generalize T.parts[i]=x at hx htk hmem;obtain⟨c,n⟩:=x;obtain⟨hn1,hn2⟩:=hn _ hmem;have hn1:1≤n:=hn1;have hn2:c+n≤own.length:=hn2;replace H:=Js [3,0,0,0] 0 H;obtain⟨bT,sT,rfl,H,hcl⟩:=V5 H (by omega);have hrd:QV (T.parts.flatMap Vk++sT) (i*2+0) 2 (Vk (c,n)):=RU (vs:=Vk (c,n)) XS hx (by repeat first|exact .nil _|apply QV.cons rfl);have ei:0+((i:Nat):Int).toNat*2=i*2:=by simp
   refine YW H ?_;refine Jd ?_;rw[ei];refine Q5 rfl (VN H rfl hrd rfl ?_);refine VZ H ?_;clear H;intro b7 w H;refine J4 H ?_;clear H;intro w H;refine J2 H ?_;replace H:=Js [1,0,0] 0 H;replace H:=hcl _ _ H;replace H:=Js [2,2,1,0] 0 H;refine Gv H ?_
   have hg:=Ot p sp owner { S with parts:=S.parts++T.parts.take i } size mem own' c n ho (by show (S.parts++T.parts.take i).length≤100000;rw[length_append,length_take];omega) (by omega) (fun j hj=>⟨by omega,by
    rw[hog];split
    ·omega
    ·exact hown _ (mem_flatMap.2 ⟨(c,n),hmem,mem_map.2 ⟨j,mem_range.2 hj,rfl⟩⟩)⟩) (by omega) (by omega) H
   refine Jc rfl rfl (hg) ?_;clear H hg;rintro v w ⟨rfl,H⟩;refine Uv H ?_;replace H:=Js [0,0,2,1] 1 H;have hpe:(S.parts++T.parts.take i)++[(c,n)]=S.parts++T.parts.take (i+1):=by rw[htk,append_assoc]
   rw[hpe] at H;have hch:QU (T.parts.take (i+1))=QU (T.parts.take i)++(List.range n).map (c+·):=by rw[htk,Gd,K2]
   refine⟨_,⟨rfl,i+1,VV own' c n owner,hlt,rfl,by rw[Vz (by omega)];exact hol,(fun j=>?_),rfl,rfl,rfl,rfl,Qc (by omega),H⟩,by omega⟩;rw[Rk (by omega),hch,hog];by_cases h1:c≤j∧j < c+n
   ·rw[if_pos h1,if_pos (mem_append.2 (.inr (Ge.2 h1)))]
   ·rw[if_neg h1];by_cases h2:j∈QU (T.parts.take i)
    ·rw[if_pos h2,if_pos (mem_append.2 (.inl h2))]
    ·rw[if_neg h2,if_neg];intro h3
     rcases mem_append.1 h3 with h3|h3
     ·exact h2 h3
     ·exact h1 (Ge.1 h3)
  ·have hge:i=T.parts.length:=by omega
   subst hge;rw[take_length] at hog H;exact⟨rfl,rfl,rfl,rfl,own',hol,hog,H⟩
 clear H;rintro ms σ w ⟨rfl,g0,g1,own',hol,hog,H⟩;rw[Q1 g0,Q1 g1];obtain⟨a,c,H⟩:=GQ H;replace H:=Js [3,0,0,0] 0 H;refine Yd H ?_;refine YZ H ?_;refine Qo (fun ms σ w=>ms=[]∧σ 1=pp o∧Q0 w (pts o (row 206 [pp sp,.int .i64 owner2,.slice a2 T.parts.length c2,.int .i64 T.at',.int .i64 T.fin])::pts p (row 206 [pp sp,.int .i64 owner,.slice a (S.parts++T.parts).length c,.int .i64 (ZG S T).at',.int .i64 (ZG S T).fin])::QC 208 2 (.slice a (S.parts++T.parts).length c) ((S.parts++T.parts).flatMap Vk)::ST sp size mem own'::QC 208 2 (.slice a2 T.parts.length c2) (T.parts.flatMap Vk)::fr)) ?_ ?_
 ·by_cases hf:T.fin=0
  ·rw[show decide (((T.fin:Nat):Int) > 0)=false from decide_eq_false (by omega)];refine VF rfl (QB ?_);refine⟨rfl,rfl,rfl,?_⟩;unfold ZG;rw[if_pos hf,if_pos hf];exact H
  ·rw[show decide (((T.fin:Nat):Int) > 0)=true from decide_eq_true (by omega)];refine Vh rfl ?_;refine J1 H ?_;clear H;intro w H;refine Ec H ?_;refine Jf 4 ?_;refine Jl 5 [12,15] H ?_;refine Ad H ?_;refine Jl 9 [12,15] H ?_;refine Ja 10 ?_;refine Jf 11 ?_;refine Jo 12 H ?_;refine UQ H ?_;clear H;intro w H;refine Ja 13 ?_;refine Jf 14 ?_;refine Jo 15 H ?_;refine UQ H ?_;clear H;intro w H;refine Jx H ?_;refine⟨rfl,rfl,rfl,?_⟩;unfold ZG;rw[if_neg hf,if_neg hf];exact H
 clear H;rintro ms σ w ⟨rfl,g1,H⟩;rw[Q1 g1];refine Xu H ?_;refine UY H ?_;clear H;intro w H;refine GO H ?_;clear H;intro w H;refine GO H ?_;clear H;intro w H;refine WW H ?_;replace H:=Z2 (E:=208) (k:=2) H;replace H:=Js [1,0,0,0,0] 0 H;replace H:=ZQ (S:=⟨[],0,0⟩) H;replace H:=Js [1,1,0,0] 0 H;replace H:=ZQ (S:=ZG S T) H;replace H:=Js [0,0,0] 1 H;refine Q3 (Jy H rfl fun w' H'=>⟨rfl,own',hol,hog,H'⟩)
theorem fT [Q4] (x:Option Nat) (m:List (Int×Int)) {w:World} {fr:List Q2} (H:Q0 w (Yb (ki .i64) v1 (.map x) m::fr)) :
  Calls Tryz.prog 143 #[.map x] w
   (ret fun v w'=>∃ b,v = .func (.func 216) #[] #[pp b]∧Q0 w' (pts b (row 108 [.map x])::Yb (ki .i64) v1 (.map x) m::fr)):=by
 refine Q9 Tryz.func143 rfl (by kernel_rfl) ?_;refine Yw H ?_;clear H;intro b1 w H;refine YA H ?_;refine Q3 (Jy H rfl fun w' H'=>⟨b1,rfl,H'⟩)
theorem fa [Q4] (yl b:Nat) (x:Option Nat) (m:List (Int×Int)) (J:List Int→Q2)
  (hy:∀ ks r rest w,ks.length < m.length→Q0 w (J ks::rest)→SL.Yields Tryz.prog yl #[(.int .i64 r)] w (fun v w'=>v = .bool true∧Q0 w' (J (ks++[r])::rest)))
  {w:World} {fr:List Q2} (H:Q0 w (J []::pts b (row 108 [.map x])::Yb (ki .i64) v1 (.map x) m::fr)) :
  Calls Tryz.prog 216 #[.func (.yield yl) #[] #[],pp b] w
   (ret fun _ w'=>∃ ks,ks.Perm (m.map (·.1))∧Q0 w' (J ks::Yb (ki .i64) v1 (.map x) m::fr)):=by
 refine Q9 Tryz.func216 rfl (by kernel_rfl) ?_;refine Zl H ?_;replace H:=Js [2,0,0] 0 H;refine Q5 rfl (HZ (ki .i64) v1 H rfl rfl ?_);clear H;intro bi w H;refine J2 H ?_;refine QP ?_;refine Ql (fun ms σ w n=>ms=[]∧∃ ks:List Int,σ 0 = .func (.yield yl) #[] #[]∧σ 5=pp bi∧n=m.length - ks.length∧Q0 w (KB (ki .i64) v1 (.map x) m bi ks::J ks::pts b (row 108 [.map x])::fr)) (m:=m.length) ⟨rfl,[],rfl,rfl,rfl,H⟩ ?_;clear H w;rintro ms σ w n ⟨rfl,ks,h0,h5,rfl,H⟩;rw[Q1 h0,Q1 h5];refine G5 H ?_;refine Q5 rfl (HG H VC.inj rfl rfl (fun hp w H=>?_) (fun q hq hn hnd hsub w H=>?_))
 ·refine YZ H ?_;refine KJ H ?_;replace H:=HY H;replace H:=Js [1,0] 1 H;exact YV _ (.inl rfl) H rfl fun w' H'=>⟨ks,hp,H'⟩
 ·have hlt:ks.length < m.length:=by
   have h1:(ks++[q.1]).Nodup:=by
    rw[nodup_append];exact⟨hnd,by simp,fun c hc c' hc' e0=>by simp at hc';subst hc';subst e0;exact hn hc⟩
   have h2:=ZS h1 (l₂:=m.map (·.1)) (fun z hz=>by
    rcases mem_append.1 hz with hz|hz
    ·exact hsub z hz
    ·simp at hz;subst hz;exact mem_map_of_mem hq)
   simp at h2;omega
  refine YZ H ?_;refine Xv H ?_;refine QP ?_;refine G5 H ?_;refine Q5 rfl (HU H VC.inj hq rfl rfl ?_);refine J3 H ?_;refine J9 H ?_;replace H:=Js [1,0,0] 0 H;refine Q5 rfl (R6 rfl rfl (SL.Yields.mono (hy ks q.1 _ _ hlt H) ?_));clear H;rintro v w ⟨rfl,H⟩;refine Y7 H ?_;replace H:=Js [1,0,0] 0 H;exact⟨_,⟨rfl,ks++[q.1],rfl,rfl,rfl,H⟩,by simp;omega⟩
def JZ (L:Q2) (b2:Nat) (ks:List Int):Q2:=ex fun v:Value=>star [QC 3 1 v (Qg ks),L,pts b2 (row 31 [v])]
theorem Ow [Q4] {w:World} {L:Q2} {b2:Nat} {ks:List Int} {l:List Q2} (H:Q0 w (JZ L b2 ks::l)):∃ v,Q0 w (QC 3 1 v (Qg ks)::L::pts b2 (row 31 [v])::l):=by
 obtain⟨v,H⟩:=Q0.ex.1 H;exact⟨v,Q0.star.1 H⟩
theorem Ox [Q4] {w:World} {L:Q2} {b2:Nat} {ks:List Int} {l:List Q2} {v:Value} (H:Q0 w (QC 3 1 v (Qg ks)::L::pts b2 (row 31 [v])::l)):Q0 w (JZ L b2 ks::l):=
 Q0.ex.2 ⟨v,Q0.star.2 H⟩
theorem fb [Q4] (b:Nat) (x:Option Nat) (m:List (Int×Int)) (hm:m.length≤1000000) {w:World} {fr:List Q2} (H:Q0 w (pts b (row 108 [.map x])::Yb (ki .i64) v1 (.map x) m::fr)) :
  Calls Tryz.prog 215 #[.slice none 0 0,.func (.func 216) #[] #[pp b]] w
   (ret fun v w'=>∃ ks,ks.Perm (m.map (·.1))∧Q0 w' (QC 3 1 v (Qg ks)::Yb (ki .i64) v1 (.map x) m::fr)):=by
 refine Q9 Tryz.func215 rfl (by kernel_rfl) ?_;refine Yw H ?_;clear H;intro b2 w H;refine Df H ?_;refine QP (XA (a:=[]) (b:=[pp b]) H rfl (fun yl D w H=>?_));generalize hL:LR _ yl _ _ _ _ D .ready=L at H ⊢;replace H:=Z2 (E:=3) (k:=1) H;replace H:=Js [0,0,1,1,1,0] 0 H;refine call (fa yl b x m (JZ L b2) ?_ (Ox (ks:=[]) H)) ?_
 ·intro ks r rest w hlt H;obtain⟨v,H⟩:=Ow H;have h1:=Aw H;subst hL;replace H:=Js [1,0,0] 0 H;refine UF (args:=[.int .i64 r]) H rfl rfl ?_;refine VB H ?_;refine⟨rfl,_,H,fun w H=>QP ?_⟩;refine GS H ?_;refine GN H ?_;clear H;intro b10 w H;replace H:=Js [2,0,0,0] 0 H;refine Q5 rfl (YO H rfl rfl (by repeat first|exact .nil _|apply QV.cons rfl) rfl (by decide) (by simp only[Vn,length_cons,length_nil];omega) rfl rfl ?_);clear H;intro v11 w H;obtain⟨a11,c11,rfl⟩:=QF (m:=ks.length+1) H (by simp[Vn]) (by decide);refine Q5 rfl (Yj H rfl rfl inferInstance (Aw H) (Nat.le_of_ble_eq_true rfl) rfl ?_);clear H;intro w H;refine J2 H ?_;replace H:=Js [2,0,1] 1 H;refine⟨rfl,_,H,fun w H=>⟨rfl,Ox (v := .slice a11 (ks.length+1) c11) ?_⟩⟩;replace H:=Js [1,0,0] 0 H;rw[Au];exact H
 ·rintro v w' ⟨ks,hp,H⟩;obtain⟨v2,H⟩:=Ow H;have h1:=Aw H;subst hL;replace H:=Js [1,0,0,0,0] 0 H;refine⟨_,H,fun w H=>?_⟩;refine Zl H ?_;refine UP H ?_;replace H:=Js [3,0,1] 1 H;exact Q3 (R5 (ms:=[D]) _ (.inr rfl) ((Q0.star (k:=[pts D (.deferred (some []))])).2 H) rfl fun w' H'=>⟨ks,hp,H'⟩)
theorem fe [Q4] (b:Nat) (x:Option Nat) (m:List (Int×Int)) (hm:m.length≤1000000) {w:World} {fr:List Q2} (H:Q0 w (pts b (row 108 [.map x])::Yb (ki .i64) v1 (.map x) m::fr)) :
  Calls Tryz.prog 142 #[.func (.func 216) #[] #[pp b]] w
   (ret fun v w'=>∃ ks,ks.Perm (m.map (·.1))∧Q0 w' (QC 3 1 v (Qg ks)::Yb (ki .i64) v1 (.map x) m::fr)):=by
 refine Q9 Tryz.func142 rfl (by kernel_rfl) ?_;refine RI H ?_;refine Jc rfl rfl (fb b x m hm H) ?_;rintro v w ⟨ks,hp,H⟩;refine UP H ?_;exact Q3 (Jy H rfl fun w' H'=>⟨ks,hp,H'⟩)
theorem ff [Q4] {K V:Type} [DecidableEq K] {ek:K→Value} {vv:V→Value} {b:Nat} {m:List (K×V)} {w:World} {l:List Q2} (H:Q0 w (Yb ek vv (.map (some b)) m::l)):Q0 w (mp ek vv b m::l):=H.head fun h hm=>by
 rcases hm with ⟨h1,_⟩|⟨b',h1,h2⟩
 ·cases h1
 ·injection h1 with h1
  injection h1 with h1
  subst h1;exact h2
theorem fg {K V:Type} [DecidableEq K] {m:List (K×V)} {x:K} {v:V} (h:x∈m.map (·.1)):(Vy m x v).map (·.1)=m.map (·.1):=by
 induction m with
 | nil=>cases h
 | cons p l ih=>
  unfold Vy;split
  ·rename_i h1;rw[map_cons,map_cons,← h1]
  ·rename_i h1;rw[map_cons,mem_cons] at h;rw[map_cons,map_cons,ih (h.resolve_left fun h2=>h1 h2.symm)]
theorem fh [Q4] (p last:Nat) (par:List (Int×Int)) (id:Int) {w:World} {fr:List Q2} (H:Q0 w (Qf p last par::fr)) :
  Calls Tryz.prog 22 #[pp p,.int .i64 id] w (ret fun v w'=>v = .tuple #[.int .i64 ((QY par id).getD 0),.int .i64 (if (QY par id).isSome then 0 else 6)]∧Q0 w' (Qf p last par::fr)):=by
 refine Q9 Tryz.func22 rfl (by kernel_rfl) ?_;refine XL H ?_;refine Jc rfl rfl (I8 p last par id H) ?_;clear H;rintro v w ⟨rfl,H⟩;cases hf:QY par id with
 | none=>
  refine Ai H ?_;exact Q3 (Jy H rfl fun w' H'=>⟨rfl,H'⟩)
 | some x=>
  refine Yv H ?_;obtain⟨b,H⟩:=Kk H;refine VQ H ?_;refine Q5 rfl (ZR (key:=id) H rfl rfl VC rfl ?_);rw[hf];refine J3 H ?_;exact Q3 (Jy (K1 H) rfl fun w' H'=>⟨rfl,H'⟩)
def FO (par:List (Int×Int)) (id q:Int) (par':List (Int×Int)):Prop:=par'.map (·.1)=(par.map (·.1)).filter (·≠id)∧∀ r,QY par' r=if r=id then none else if QY par r=some id then some q else QY par r
theorem fj [Q4] (p last:Nat) (par:List (Int×Int)) (id:Int) (hnd:(par.map (·.1)).Nodup) (hl:par.length≤1000) {w:World} {fr:List Q2} (H:Q0 w (Qf p last par::fr)) :
  Calls Tryz.prog 79 #[pp p,.int .i64 id] w (ret fun v w'=>
   (QY par id=none∧v = .tuple #[.int .i64 0,.int .i64 6]∧Q0 w' (Qf p last par::fr)) ∨
   (QY par id=some 0∧v = .tuple #[.int .i64 0,.int .i64 16]∧Q0 w' (Qf p last par::fr)) ∨
   ∃ q par',QY par id=some q∧q≠0∧FO par id q par'∧v = .tuple #[.int .i64 q,.int .i64 0]∧Q0 w' (Qf p last par'::fr)):=by
 refine Q9 Tryz.func79 rfl (by kernel_rfl) ?_;refine XL H ?_;refine Jc rfl rfl (fh p last par id H) ?_;clear H;rintro v w ⟨rfl,H⟩;refine WC H ?_;refine Y6 (fun ms σ w=>ms=[]∧σ 0=pp p∧σ 1 = .int .i64 id∧∃ q,QY par id=some q∧q≠0∧σ 6 = .int .i64 q∧Q0 w (Qf p last par::fr)) ?_ ?_
 ·refine QP ?_;cases hf:QY par id with
  | none=>
   refine J9 H ?_;refine XJ H ?_;refine VX H ?_;exact Q3 (.inr ⟨by simp,Jy H rfl fun w' H' => .inl ⟨rfl,rfl,H'⟩⟩)
  | some q=>
   refine J9 H ?_;refine Bk H ?_;by_cases hq:q=0
   ·subst hq;refine J9 H ?_;refine Bj H ?_;exact Q3 (.inr ⟨by simp,Jy H rfl fun w' H' => .inr (.inl ⟨rfl,rfl,H'⟩)⟩)
   ·refine J9 H ?_;rw[show (((some q).getD 0:Int) == 0)=false from by simpa using hq];refine Y7 H ?_;exact .inl ⟨rfl,rfl,rfl,rfl,q,rfl,hq,rfl,H⟩
 clear H;rintro ms σ w ⟨rfl,g0,g1,q,hf,hq,g6,H⟩;rw[Q1 g0,Q1 g1,Q1 g6];obtain⟨b,H⟩:=Kk H;refine Yd H ?_;replace H:=Js [1,0] 0 H;replace H:=DL H;refine Jc rfl rfl (fT (some b) par H) ?_;clear H;rintro v w ⟨bk,rfl,H⟩
 refine Jc rfl rfl (fe bk (some b) par (by omega) H) ?_;clear H;rintro v w ⟨ks,hks,H⟩;obtain⟨ak,ck,rfl⟩:=QF H (Vn ks) (by decide);refine UN H ?_;have hkl:ks.length≤1000:=by rw[hks.length_eq,length_map];exact hl
 have hkn:ks.Nodup:=hks.nodup_iff.2 hnd;replace H:=Js [1,0] 0 H;replace H:=ff H;replace H:=Js [2,0,0] 0 H;refine J6 H ?_;refine Qo (fun ms σ w=>ms=[]∧σ 0=pp p∧σ 1 = .int .i64 id∧σ 6 = .int .i64 q∧∃ par1,par1.map (·.1)=par.map (·.1)∧(∀ r,QY par1 r=if QY par r=some id then some q else QY par r)∧Q0 w (pts p (row 122 [.map (some b),.int .i64 last])::mp (ki .i64) v1 b par1::fr)) ?_ ?_
 ·refine QP ?_;refine Ql (fun ms σ w n=>ms=[]∧∃ (i:Nat) (par1:List (Int×Int)),i≤ks.length∧n=ks.length - i∧par1.map (·.1)=par.map (·.1)∧(∀ r,QY par1 r=if r∈ks.take i∧QY par r=some id then some q else QY par r)∧σ 0=pp p∧σ 1 = .int .i64 id∧σ 6 = .int .i64 q∧σ 28 = .slice ak ks.length ck∧σ 29 = .int .i64 ks.length∧σ 30 = .int .i64 i∧Q0 w (pts p (row 122 [.map (some b),.int .i64 last])::mp (ki .i64) v1 b par1::IL (.slice ak ks.length ck) ks::fr)) (m:=ks.length) ⟨rfl,0,par,by omega,rfl,rfl,(fun r=>by rw[if_neg (by simp)]),rfl,rfl,rfl,rfl,rfl,rfl,H⟩ ?_;clear H;rintro ms σ w n ⟨rfl,i,par1,hi,rfl,hp1,hp2,g0,g1,g6,g28,g29,g30,H⟩;rw[Q1 g0,Q1 g1,Q1 g6,Q1 g28,Q1 g29,Q1 g30];refine J7 H ?_;refine Qk rfl (fun h=>QB ?_) (fun h=>Qq ?_)
  ·have hlt:i < ks.length:=by omega
   have hx:=getElem?_eq_getElem hlt;have htk:ks.take (i+1)=ks.take i++[ks[i]]:=by rw[take_add_one,hx];rfl
   have hnt:ks[i]∉ks.take i:=fun hh=>by
    obtain⟨j,hj⟩:=getElem?_of_mem hh;rw[getElem?_take] at hj;split at hj
    ·rename_i hji;obtain⟨hj1,hj2⟩:=List.getElem?_eq_some_iff.1 hj;exact(pairwise_iff_getElem.1 hkn) j i hj1 hlt hji hj2
    ·cases hj
   have hxm:ks[i]∈par.map (·.1):=hks.mem_iff.1 (getElem_mem hlt);generalize ks[i]=x at hx htk hnt hxm
   obtain⟨y,hy⟩:∃ y,QY par x=some y:=by
    cases hf:QY par x with
    | some y=>exact⟨y,rfl⟩
    | none=>exact absurd hxm (W7.1 hf)
   have hy1:QY par1 x=some y:=by rw[hp2,if_neg (fun h=>hnt h.1),hy]
   replace H:=Js [2,0,0] 0 H;obtain⟨bT,sT,rfl,H,hcl⟩:=V5 H (by omega);refine YW H ?_;refine Jd ?_;refine Q5 rfl (QR H rfl (by simpa using Uk hx) rfl ?_);refine J0 H ?_;replace H:=hcl _ _ H;replace H:=Js [1,1,0] 0 H;refine VQ H ?_;refine Q5 rfl (ZR (key:=x) H rfl rfl VC rfl ?_);rw[hy1];refine J3 H ?_;by_cases hyi:y=id
   ·subst hyi;rw[show (y == y)=true from beq_self_eq_true y];refine VM H ?_;refine GM H ?_;refine Q5 rfl (XW (key:=x) (v:=q) H rfl rfl rfl VC rfl ?_);clear H;intro w H;refine Uv H ?_;refine⟨_,⟨rfl,i+1,Vy par1 x q,hlt,rfl,?_,fun r=>?_,rfl,rfl,rfl,rfl,rfl,Qc (by omega),H⟩,by omega⟩
    ·rw[fg (by rw[hp1];exact hxm),hp1]
    ·rw[U5,hp2,htk];by_cases hxr:x=r
     ·subst hxr;rw[if_pos rfl,if_pos ⟨by simp,hy⟩]
     ·rw[if_neg hxr]
      have h1:r∈ks.take i++[x]↔r∈ks.take i:=by
       rw[mem_append,mem_singleton];exact⟨fun h=>h.elim (fun h=>h) fun h=>absurd h.symm hxr,.inl⟩
      simp only[h1]
   ·rw[show (y == id)=false from by simpa using hyi];refine WD H ?_;refine⟨_,⟨rfl,i+1,par1,hlt,rfl,hp1,fun r=>?_,rfl,rfl,rfl,rfl,rfl,Qc (by omega),H⟩,by omega⟩;rw[hp2,htk];by_cases hxr:x=r
    ·subst hxr;have h2:¬ QY par x=some id:=by rw[hy];intro h2;injection h2 with h2;exact hyi h2
     rw[if_neg (fun h=>h2 h.2),if_neg (fun h=>h2 h.2)]
    ·have h1:r∈ks.take i++[x]↔r∈ks.take i:=by
      rw[mem_append,mem_singleton];exact⟨fun h=>h.elim (fun h=>h) fun h=>absurd h.symm hxr,.inl⟩
     simp only[h1]
  ·have hge:i=ks.length:=by omega
   subst hge;rw[take_length] at hp2;refine⟨rfl,rfl,rfl,rfl,rfl,par1,hp1,fun r=>?_,?_⟩
   ·rw[hp2];by_cases h1:QY par r=some id
    ·rw[if_pos h1,if_pos ⟨hks.mem_iff.2 (mem_map.2 ⟨(r,id),UC h1,rfl⟩),h1⟩]
    ·rw[if_neg h1,if_neg (fun h=>h1 h.2)]
   ·replace H:=Js [0,0] 1 H;exact H
 clear H;rintro ms σ w ⟨rfl,g0,g1,g6,par1,hp1,hp2,H⟩;rw[Q1 g0,Q1 g1,Q1 g6];refine VQ H ?_;refine Q5 rfl (Xo (key:=id) H rfl rfl VC rfl ?_);clear H;intro w H;refine WB H ?_;have hnd1:(par1.map (·.1)).Nodup:=by rw[hp1];exact hnd
 refine Q3 (Jy (K1 H) rfl fun w' H' => .inr (.inr ⟨q,QD par1 id,hf,hq,⟨?_,fun r=>?_⟩,rfl,H'⟩))
 ·have hid:id∈par1.map (·.1):=by rw[hp1];exact mem_map.2 ⟨(id,q),UC hf,rfl⟩
  obtain⟨⟨x',y⟩,h1,h2⟩:=mem_map.1 hid;have h2:x'=id:=h2;subst h2;obtain⟨a1,a2,h3⟩:=append_of_mem h1;have hnd2:=hnd1;rw[← hp1];rw[h3] at hnd1 ⊢;rw[Wb (p:=(x',y)) hnd1,map_append,map_append,map_cons];rw[map_append,map_cons] at hnd1;rw[nodup_append] at hnd1;obtain⟨n1,n2,n3⟩:=hnd1;rw[nodup_cons] at n2
  rw[filter_append,filter_cons,if_neg (by simp),filter_eq_self.2 (fun a ha=>by
   have:=n3 a ha x' mem_cons_self;simpa using this),filter_eq_self.2 (fun a ha=>by
   have:a≠x':=fun h4=>n2.1 (h4▸ha);simpa using this)]
 ·rw[Xm hnd1,hp2];by_cases h1:id=r
  ·rw[if_pos h1,if_pos h1.symm]
  ·rw[if_neg h1,if_neg (show ¬ r=id from fun h=>h1 h.symm)]
structure ZL (s:CS) (R0:List (Rf×Int)) (D:List Rf) (R:List (Rf×Int)):Prop where
 nd:(R.map (·.1)).Nodup
 on:∀ r∈D,∀ t,QY R r=some t↔Cq s r t
 off:∀ r,r∉D→QY R r=QY R0 r
theorem ZL.start {s:CS} {R0:List (Rf×Int)} (h:(R0.map (·.1)).Nodup):ZL s R0 [] R0:=⟨h,fun r hr=>(by cases hr),fun _ _=>rfl⟩
theorem ZL.step {s:CS} {R0 R:List (Rf×Int)} {D:List Rf} (h:ZL s R0 D R) {k g p:Nat} {e:Q7} (hk:s.tab[k]? = some ⟨g,some e⟩) (hp:p < e.ws.length) (hr:VU (QN s e) p=true) :
  ZL s R0 (D++[((k:Int),(p:Int))]) (Yh { s with rem:=R } k e p (Vb e p)):=by
 have hnd:(({ s with rem:=R }:CS).rem.map (·.1)).Nodup:=h.nd;refine⟨O7 hnd k e p _,fun r hrD t=>?_,fun r hrD=>?_⟩
 ·by_cases h1:r=((k:Int),(p:Int))
  ·subst h1;rw[O8 hnd];constructor
   ·rintro⟨a,b,f,h1,h2,h3,h4⟩;obtain⟨h5,h6⟩:=Gl (c:=a) h2;exact⟨k,p,g,e,a,b,f,rfl,hk,hp,hr,h1,h2,h3,h4⟩
   ·rintro⟨k',p',g',e',a,b,f,h1,h2,h3,h4,h5,h6,h7,h8⟩;injection h1 with h1 h9
    obtain rfl:k=k':=by omega
    obtain rfl:p=p':=by omega
    rw[hk] at h2;injection h2 with h2
    injection h2 with h2 h2'
    injection h2' with h2'
    subst h2';exact⟨a,b,f,h5,h6,h7,h8⟩
  ·rw[Is hnd h1]
   rcases mem_append.1 hrD with h2|h2
   ·exact h.on r h2 t
   ·rw[mem_singleton] at h2;exact absurd h2 h1
 ·have h1:r≠((k:Int),(p:Int)):=fun h2=>hrD (mem_append.2 (.inr (mem_singleton.2 h2)));rw[Is hnd h1];exact h.off r fun h2=>hrD (mem_append.2 (.inl h2))
def Wm (s:CS) (k:Nat) (e:Q7):List Rf:=(XQ (QN s e) e.ws.length).map fun p:Nat=>((k:Int),(p:Int))
def Oy (s:CS) (K:Nat→Prop) (D:List Rf):Prop:=∀ r,r∈D↔∃ (k g:Nat) (e:Q7),K k∧s.tab[k]? = some ⟨g,some e⟩∧r∈Wm s k e
theorem Oz {s:CS} {k:Nat} {e:Q7} {r:Rf}:r∈Wm s k e↔∃ p:Nat,r=((k:Int),(p:Int))∧p < e.ws.length∧VU (QN s e) p=true:=by
 unfold Wm XQ;rw[mem_map];constructor
 ·rintro⟨p,h1,rfl⟩;rw[mem_filter,mem_range] at h1;exact⟨p,rfl,h1.1,h1.2⟩
 ·rintro⟨p,rfl,h1,h2⟩;exact⟨p,by rw[mem_filter,mem_range];exact⟨h1,h2⟩,rfl⟩
structure Ul (s s':CS) (mv:Nat→Q7→Q7):Prop where
 lays:s'.lays=s.lays
 tabl:s'.tab.length=s.tab.length
 tab:∀ (k:Nat) (t:QX),s.tab[k]? = some t→s'.tab[k]? = some ⟨t.gen,t.ent.map (mv k)⟩
 same:∀ k e,(mv k e).lay=e.lay∧(mv k e).count=e.count∧(mv k e).ws=e.ws∧(mv k e).held=e.held∧(mv k e).pinned=e.pinned
theorem Ul.at {s s':CS} {mv:Nat→Q7→Q7} (h:Ul s s' mv) {k g:Nat} {e:Q7} (hk:s.tab[k]? = some ⟨g,some e⟩):s'.tab[k]? = some ⟨g,some (mv k e)⟩:=h.tab k _ hk
theorem Ul.from {s s':CS} {mv:Nat→Q7→Q7} (h:Ul s s' mv) {k g:Nat} {e':Q7} (hk:s'.tab[k]? = some ⟨g,some e'⟩):∃ e,s.tab[k]? = some ⟨g,some e⟩∧e'=mv k e:=by
 have hlt:k < s.tab.length:=by
  have:=(List.getElem?_eq_some_iff.1 hk).1;rw[h.tabl] at this;exact this
 have h1:=getElem?_eq_getElem hlt;generalize s.tab[k]=t at h1;have h2:=h.tab k t h1;rw[hk] at h2;obtain⟨g0,e0⟩:=t;injection h2 with h2
 injection h2 with h3 h4
 subst h3;cases e0 with
 | none=>cases h4
 | some e=>
  injection h4 with h4
  exact⟨e,h1,h4⟩
theorem Ul.lay {s s':CS} {mv:Nat→Q7→Q7} (h:Ul s s' mv) (k:Nat) (e:Q7):QN s' (mv k e)=QN s e:=by
 unfold QN;rw[h.lays,(h.same k e).1]
theorem Ul.lk {s s':CS} {mv:Nat→Q7→Q7} (h:Ul s s' mv) (k:Nat) (e:Q7) (p:Nat):Vb (mv k e) p=Vb e p:=by
 unfold Vb;rw[(h.same k e).2.2.1]
theorem JG {ts:List QX} {a b:Nat} {f:Q7} (h:ts[a]? = some ⟨b,some f⟩):Qd ts a b=some (a,f):=Y8.2 ⟨b,rfl,rfl,h⟩
theorem P2 {s s':CS} {mv:Nat→Q7→Q7} (h:Ul s s' mv) (hI:Inv s) {D:List Rf} (hN:ZL s' s.rem D s'.rem)
  (hoff:∀ (k g p a b:Nat) (e f:Q7),((k:Int),(p:Int))∉D→s.tab[k]? = some ⟨g,some e⟩→p < e.ws.length→VU (QN s e) p=true→s.tab[a]? = some ⟨b,some f⟩→((mv a f).region≠(mv k e).region↔f.region≠e.region)):Inv s':=by
 refine⟨hN.nd,fun r t=>?_,fun k g e' p a b hk hp hr hl=>?_⟩
 ·by_cases hD:r∈D
  ·exact hN.on r hD t
  ·rw[hN.off r hD,hI.rem];constructor
   ·rintro⟨k,p,g,e,a,b,f,rfl,hk,hp,hrf,hl,hlo,hfar,rfl⟩;obtain⟨_,ha⟩:=Gl hlo;exact⟨k,p,g,mv k e,a,b,mv a f,rfl,h.at hk,by rw[(h.same k e).2.2.1];exact hp,by rw[h.lay];exact hrf,by rw[h.lk];exact hl,JG (h.at ha),(hoff k g p a b e f hD hk hp hrf ha).2 hfar,rfl⟩
   ·rintro⟨k,p,g,e',a,b,f',rfl,hk,hp,hrf,hl,hlo,hfar,rfl⟩;obtain⟨e,hk0,rfl⟩:=h.from hk;obtain⟨_,ha⟩:=Gl hlo;obtain⟨f,ha0,rfl⟩:=h.from ha;rw[(h.same k e).2.2.1] at hp;rw[h.lay] at hrf;rw[h.lk] at hl;exact⟨k,p,g,e,a,b,f,rfl,hk0,hp,hrf,hl,JG ha0,(hoff k g p a b e f hD hk0 hp hrf ha0).1 hfar,rfl⟩
 ·obtain⟨e,hk0,rfl⟩:=h.from hk;rw[(h.same k e).2.2.1] at hp;rw[h.lay] at hr;rw[h.lk] at hl;obtain⟨f,hf⟩:=hI.link k g e p a b hk0 hp hr hl;obtain⟨_,ha⟩:=Gl hf;exact⟨_,JG (h.at ha)⟩
theorem P3 {lays:List QM} {i:Nat} {e e':Q7} (h:X4 lays i e) (h1:e'.lay=e.lay) (h2:e'.count=e.count) (h3:e'.ws=e.ws):X4 lays i e':=by
 obtain⟨m,l,a1,a2,a3,a4⟩:=h;exact⟨by rw[h1,h2];exact m,l,by rw[h1];exact a1,a2,by rw[h2,h3];exact a3,by rw[h3];exact a4⟩
def Yt (id q:Int) (e:Q7):Q7:=if e.region=id then { e with region:=q } else e
def Zz (id q:Int) (t:QX):QX:=⟨t.gen,t.ent.map (Yt id q)⟩
theorem BV (id q:Int) (e:Q7):(Yt id q e).lay=e.lay∧(Yt id q e).count=e.count∧(Yt id q e).ws=e.ws∧(Yt id q e).held=e.held∧(Yt id q e).pinned=e.pinned:=by
 unfold Yt;split <;> exact⟨rfl,rfl,rfl,rfl,rfl⟩
theorem Xg (id q:Int) (e:Q7):(Yt id q e).addr=e.addr∧QJ (Yt id q e)=QJ e:=by
 unfold Yt;split <;> exact⟨rfl,rfl⟩
theorem XY (id q:Int) (e:Q7):(Yt id q e).region=if e.region=id then q else e.region:=by
 unfold Yt;split <;> rfl
theorem Kw {ts:List QX} {id q:Int} {k g:Nat} {e':Q7} (h:(ts.map (Zz id q))[k]? = some ⟨g,some e'⟩):∃ e,ts[k]? = some ⟨g,some e⟩∧e'=Yt id q e:=by
 rw[getElem?_map] at h;cases ht:ts[k]? with
 | none=>rw[ht] at h;cases h
 | some t=>
  rw[ht] at h;obtain⟨g0,e0⟩:=t;injection h with h
  injection h with h1 h2
  have h1:g0=g:=h1;subst h1;cases e0 with
  | none=>cases h2
  | some e=>
   injection h2 with h2
   exact⟨e,rfl,h2.symm⟩
theorem JU {ts:List QX} {id q:Int} {k g:Nat} {e:Q7} (h:ts[k]? = some ⟨g,some e⟩):(ts.map (Zz id q))[k]? = some ⟨g,some (Yt id q e)⟩:=by
 rw[getElem?_map,h];rfl
theorem Kx {l:List (Nat×Nat)} {x:Nat×Nat} (hx:x∈l) {c:Nat} (h1:x.1≤c) (h2:c < x.1+x.2):c∈QU l:=mem_flatMap.2 ⟨x,hx,Ge.2 ⟨h1,h2⟩⟩
theorem fk {s:CS} (h:WF s) (hnd:(s.par.map (·.1)).Nodup) {id q:Int} (hne:id≠q) {par':List (Int×Int)} (hp:FO s.par id q par')
  {bi bq:Nat} {S T:QE} {a1 a2 c1 c2:List (Int×Nat×QE)} (hs1:s.sps=a1++(id,bi,T)::a2) (hs2:a1++a2=c1++(q,bq,S)::c2)
  {gi gq:Nat} {M N N':List Nat} {d1 d2 e1 e2:List (Int×Nat×List Nat)} (hm1:s.mns=d1++(id,gi,M)::d2) (hm2:d1++d2=e1++(q,gq,N)::e2)
  {own':List Nat} (hol:own'.length=s.own.length) (hog:∀ j,own'.getD j 0=if j∈QU T.parts then q.toNat else s.own.getD j 0)
  (hN:N'.Pairwise (· < ·)) (hN':∀ j,j∈N'↔j∈M∨j∈N) (R:List ((Int×Int)×Int)) :
  WF { s with own:=own',tab:=s.tab.map (Zz id q),par:=par',rem:=R,sps:=c1++(q,bq,ZG S T)::c2,mns:=e1++(q,gq,N')::e2 }:=by
 have hTm:(id,bi,T)∈s.sps:=by rw[hs1];simp
 have hT:=h.spc _ hTm;obtain⟨s1,s2⟩:=UA (f:=fun y:Int×Nat×QE=>y.1) hs1 (by rw[h.skeys];exact hnd);obtain⟨t1,t2⟩:=UA (f:=fun y:Int×Nat×List Nat=>y.1) hm1 (by rw[h.mkeys];exact hnd);have hSm:(q,bq,S)∈s.sps:=(s2 _ (by rw[hs2];simp)).1;have hNm:(q,gq,N)∈s.mns:=(t2 _ (by rw[hm2];simp)).1;have hMm:(id,gi,M)∈s.mns:=by rw[hm1];simp
 have hS:=h.spc _ hSm;have hidk:id∈s.par.map (·.1):=by rw[← h.skeys];exact mem_map.2 ⟨_,hTm,rfl⟩
 have hqk:q∈s.par.map (·.1):=by rw[← h.skeys];exact mem_map.2 ⟨_,hSm,rfl⟩
 have hpos:∀ r:Int,r∈s.par.map (·.1)→1≤r∧r≤s.last:=fun r hr=>by
  obtain⟨⟨r',z⟩,h1,h2⟩:=mem_map.1 hr;have h2:r'=r:=h2;subst h2;exact h.par.2.2 _ _ h1
 have hq1:=(hpos q hqk).1
 have hk':∀ r:Int,r∈par'.map (·.1)↔r∈s.par.map (·.1)∧r≠id:=fun r=>by
  rw[hp.1,mem_filter];simp
 have hown:∀ (c r:Nat),own'[c]? = some r→r≠0→∃ r0:Nat,s.own[c]? = some r0∧r0≠0∧(r:Int)=if (r0:Int)=id then q else r0:=by
  intro c r h1 h2;have h3:=hog c;have hcl:c < s.own.length:=by rw[← hol];exact(List.getElem?_eq_some_iff.1 h1).1
  have h0:=getElem?_eq_getElem hcl;rw[getD_eq_getElem?_getD,getD_eq_getElem?_getD,h1,h0] at h3;generalize s.own[c]=r0 at h0 h3;simp only[Option.getD_some] at h3;by_cases hc:c∈QU T.parts
  ·rw[if_pos hc] at h3;obtain⟨y,h4,h5,h6⟩:=(hT.owned c).1 hc;rw[h0] at h4;injection h4 with h4
   subst h4;have h5:(r0:Int)=id:=h5;exact⟨r0,h0,h6,by rw[if_pos h5];omega⟩
  ·rw[if_neg hc] at h3;subst h3;refine⟨r,h0,h2,?_⟩;rw[if_neg];intro h5;exact hc ((hT.owned c).2 ⟨r,h0,h5,h2⟩)
 have hown2:∀ (c r0:Nat),s.own[c]? = some r0→r0≠0→∃ r:Nat,own'[c]? = some r∧r≠0∧(r:Int)=if (r0:Int)=id then q else r0:=by
  intro c r0 h0 h2;have h3:=hog c;have hcl:c < own'.length:=by rw[hol];exact(List.getElem?_eq_some_iff.1 h0).1
  have h1:=getElem?_eq_getElem hcl;rw[getD_eq_getElem?_getD,getD_eq_getElem?_getD,h1,h0] at h3;generalize own'[c]=r at h1 h3;simp only[Option.getD_some] at h3;by_cases hc:c∈QU T.parts
  ·rw[if_pos hc] at h3;obtain⟨y,h4,h5,h6⟩:=(hT.owned c).1 hc;rw[h0] at h4;injection h4 with h4
   subst h4;have h5:(r0:Int)=id:=h5;exact⟨r,h1,by omega,by rw[if_pos h5];omega⟩
  ·rw[if_neg hc] at h3;subst h3;refine⟨r,h1,h2,?_⟩;rw[if_neg];intro h5;exact hc ((hT.owned c).2 ⟨r,h0,h5,h2⟩)
 have hoth:∀ x∈c1++c2,x∈s.sps∧x.1≠id∧x.1≠q:=by
  intro x hx;obtain⟨h1,h2⟩:=s2 x (by rw[hs2];exact X5 hx);obtain⟨u1,u2⟩:=UA (f:=fun y:Int×Nat×QE=>y.1) hs2 (by rw[s1];exact(by rw[h.skeys];exact hnd:(s.sps.map fun y=>y.1).Nodup).filter _);exact⟨h1,h2,(u2 x hx).2⟩
 have hothM:∀ x∈e1++e2,x∈s.mns∧x.1≠id∧x.1≠q:=by
  intro x hx;obtain⟨h1,h2⟩:=t2 x (by rw[hm2];exact X5 hx);obtain⟨u1,u2⟩:=UA (f:=fun y:Int×Nat×List Nat=>y.1) hm2 (by rw[t1];exact(by rw[h.mkeys];exact hnd:(s.mns.map fun y=>y.1).Nodup).filter _);exact⟨h1,h2,(u2 x hx).2⟩
 have hone:∀ (c:Nat) (r:Int),r≠id→r≠q→((∃ y:Nat,own'[c]? = some y∧(y:Int)=r∧y≠0)↔∃ y:Nat,s.own[c]? = some y∧(y:Int)=r∧y≠0):=by
  intro c r h1 h2;constructor
  ·rintro⟨y,h3,h4,h5⟩;obtain⟨r0,h6,h7,h8⟩:=hown c y h3 h5;split at h8
   ·omega
   ·exact⟨r0,h6,by omega,h7⟩
  ·rintro⟨y,h3,h4,h5⟩;obtain⟨r,h6,h7,h8⟩:=hown2 c y h3 h5;rw[if_neg (by omega)] at h8;exact⟨r,h6,by omega,h7⟩
 refine⟨h.size,by show 1≤own'.length∧own'.length≤63;rw[hol];exact h.own,by show 1≤(s.tab.map _).length∧(s.tab.map _).length≤63;rw[length_map];exact h.slots,h.lays,fun i t hi=>?_,fun i g e hi=>?_,fun i j g g' e f hij hi hj=>?_,⟨?_,h.par.2.1,fun r z hr=>?_⟩,?_,?_,fun x hx=>?_,fun x hx i g e hi=>?_,fun c r hc hr=>?_,fun x hx=>?_⟩
 ·have hi:(s.tab.map (Zz id q))[i]? = some t:=hi;rw[getElem?_map] at hi;cases ht:s.tab[i]? with
  | none=>rw[ht] at hi;cases hi
  | some t0=>
   rw[ht] at hi;injection hi with hi
   subst hi;obtain⟨h1,h2⟩:=h.gen i t0 ht;refine⟨h1,fun h3=>h2 ?_⟩;have h3:(t0.ent.map (Yt id q)).isSome=true:=h3
   rwa [Option.isSome_map] at h3
 ·obtain⟨e,hiZ,heZ⟩:=Kw hi;subst heZ;replace hi:=hiZ;obtain⟨h1,⟨h2,h3⟩,z,h4⟩:=h.obj i g e hi;obtain⟨u1,u2,u3,_,_⟩:=BV id q e;refine⟨P3 h1 u1 u2 u3,⟨?_,fun c hc1 hc2=>?_⟩,?_⟩
  ·rw[(Xg id q e).2];show _≤own'.length*s.size;rw[hol];exact h2
  ·rw[(Xg id q e).1] at hc1 hc2;rw[u3] at hc2;obtain⟨r,h5,h6,h7⟩:=h3 c hc1 hc2;obtain⟨r',h8,h9,h10⟩:=hown2 c r h5 (by omega);refine⟨r',h8,?_,by omega⟩;rw[XY,h10,h6]
  ·have:(Yt id q e).region∈par'.map (·.1):=by
    rw[hk',XY];by_cases h5:e.region=id
    ·rw[if_pos h5];exact⟨hqk,hne.symm⟩
    ·rw[if_neg h5];exact⟨mem_map.2 ⟨_,h4,rfl⟩,h5⟩
   obtain⟨⟨r,z'⟩,h5,h6⟩:=mem_map.1 this;exact⟨z',by rw[← h6];exact h5⟩
 ·obtain⟨e,hiZ,heZ⟩:=Kw hi;subst heZ;replace hi:=hiZ;obtain⟨f,hjZ,heZ⟩:=Kw hj;subst heZ;replace hj:=hjZ;rw[(Xg id q e).1,(Xg id q e).2,(Xg id q f).1,(Xg id q f).2];exact h.apart i j _ _ e f hij hi hj
 ·have h1:=congrArg List.length hp.1;rw[length_map] at h1;have h2:=length_filter_le (·≠id) (s.par.map (·.1));rw[length_map] at h2;have:=h.par.1;show par'.length≤64;omega
 ·have h1:r∈par'.map (·.1):=mem_map.2 ⟨_,hr,rfl⟩;exact hpos r ((hk' r).1 h1).1
 ·show (c1++(q,bq,ZG S T)::c2).map (·.1)=par'.map (·.1);rw[CM (x':=(q,bq,ZG S T)) (x:=(q,bq,S)) rfl,← hs2,hp.1,← h.skeys];exact s1
 ·show (e1++(q,gq,N')::e2).map (·.1)=par'.map (·.1);rw[CM (x':=(q,gq,N')) (x:=(q,gq,N)) rfl,← hm2,hp.1,← h.mkeys];exact t1
 ·rcases G9 hx with rfl|hx
  ·refine⟨?_,fun hf=>?_,fun y hy=>?_,?_,fun c=>?_⟩
   ·show (if T.fin=0 then S.at' else T.at')≤(if T.fin=0 then S.fin else T.fin);split
    ·exact hS.at1
    ·exact hT.at1
   ·have hf:(if T.fin=0 then S.fin else T.fin)≠0:=hf;show ∃ c,(if T.fin=0 then S.fin else T.fin)=(c+1)*s.size∧c*s.size < (if T.fin=0 then S.at' else T.at')∧(c,1)∈S.parts++T.parts;by_cases h0:T.fin=0
    ·rw[if_pos h0] at hf;rw[if_pos h0,if_pos h0];obtain⟨c,u1,u2,u3⟩:=hS.fin hf;exact⟨c,u1,u2,mem_append.2 (.inl u3)⟩
    ·rw[if_neg h0,if_neg h0];obtain⟨c,u1,u2,u3⟩:=hT.fin h0;exact⟨c,u1,u2,mem_append.2 (.inr u3)⟩
   ·have hy:y∈S.parts++T.parts:=hy;rw[hol]
    rcases mem_append.1 hy with hy|hy
    ·exact hS.parts y hy
    ·exact hT.parts y hy
   ·show (QU (S.parts++T.parts)).Nodup;rw[Gd,nodup_append];refine⟨hS.nodup,hT.nodup,fun a ha b hb hab=>?_⟩;subst hab;obtain⟨y,u1,u2,_⟩:=(hS.owned a).1 ha;obtain⟨z,v1,v2,_⟩:=(hT.owned a).1 hb;rw[u1] at v1;injection v1 with v1
    subst v1;exact hne (v2.symm.trans u2)
   ·show c∈QU (S.parts++T.parts)↔∃ y:Nat,own'[c]? = some y∧(y:Int)=q∧y≠0;rw[Gd,mem_append,hS.owned,hT.owned];constructor
    ·rintro(⟨y,u1,u2,u3⟩|⟨y,u1,u2,u3⟩)
     ·obtain⟨r,v1,v2,v3⟩:=hown2 c y u1 u3;have u2:(y:Int)=q:=u2;rw[if_neg (by omega)] at v3;exact⟨r,v1,by omega,v2⟩
     ·obtain⟨r,v1,v2,v3⟩:=hown2 c y u1 u3;rw[if_pos u2] at v3;exact⟨r,v1,v3,v2⟩
    ·rintro⟨y,u1,u2,u3⟩;obtain⟨r,v1,v2,v3⟩:=hown c y u1 u3;by_cases h5:(r:Int)=id
     ·exact .inr ⟨r,v1,h5,v2⟩
     ·rw[if_neg h5] at v3;exact .inl ⟨r,v1,by show (r:Int)=q;omega,v2⟩
  ·obtain⟨h1,h2,h3⟩:=hoth x hx;obtain⟨a,b,c,d,e⟩:=h.spc x h1;exact⟨a,b,fun z hz=>by rw[hol];exact c z hz,d,fun z=>by rw[e,← hone z x.1 h2 h3]⟩
 ·obtain⟨e,hiZ,heZ⟩:=Kw hi;subst heZ;replace hi:=hiZ;rw[(Xg id q e).1,(Xg id q e).2]
  rcases G9 hx with rfl|hx
  ·show QJ e≤(if T.fin=0 then S.at' else T.at')∨(if T.fin=0 then S.fin else T.fin)≤e.addr;split
   ·exact h.free _ hSm i g e hi
   ·exact h.free _ hTm i g e hi
  ·exact h.free x (hoth x hx).1 i g e hi
 ·obtain⟨r0,h1,h2,h3⟩:=hown c r hc hr
  have:(r:Int)∈par'.map (·.1):=by
   rw[hk'];by_cases h5:(r0:Int)=id
   ·rw[if_pos h5] at h3;rw[h3];exact⟨hqk,hne.symm⟩
   ·rw[if_neg h5] at h3;obtain⟨z,hz⟩:=h.live c r0 h1 h2;rw[h3];exact⟨mem_map.2 ⟨_,hz,rfl⟩,h5⟩
  obtain⟨⟨r,z'⟩,h5,h6⟩:=mem_map.1 this;exact⟨z',by rw[← h6];exact h5⟩
 ·rcases G9 hx with rfl|hx
  ·refine⟨hN,fun i=>?_⟩;show i∈N'↔∃ g e,(s.tab.map (Zz id q))[i]? = some ⟨g,some e⟩∧e.region=q;rw[hN',(h.mine _ hMm).2,(h.mine _ hNm).2];constructor
   ·rintro(⟨g,e,u1,u2⟩|⟨g,e,u1,u2⟩)
    ·exact⟨g,_,JU u1,by rw[XY,if_pos u2]⟩
    ·have u2:e.region=q:=u2;exact⟨g,_,JU u1,by rw[XY,if_neg (by rw[u2];exact hne.symm),u2]⟩
   ·rintro⟨g,e',u1,u2⟩;obtain⟨e,u1Z,heZ⟩:=Kw u1;subst heZ;replace u1:=u1Z;rw[XY] at u2;split at u2
    ·rename_i u3;exact .inl ⟨g,e,u1,u3⟩
    ·exact .inr ⟨g,e,u1,u2⟩
  ·obtain⟨h1,h2,h3⟩:=hothM x hx;obtain⟨u1,u2⟩:=h.mine x h1;refine⟨u1,fun i=>?_⟩;show i∈x.2.2↔∃ g e,(s.tab.map (Zz id q))[i]? = some ⟨g,some e⟩∧e.region=x.1;rw[u2];constructor
   ·rintro⟨g,e,u3,u4⟩;exact⟨g,_,JU u3,by rw[XY,if_neg (by rw[u4];exact h2),u4]⟩
   ·rintro⟨g,e',u3,u4⟩;obtain⟨e,u3Z,heZ⟩:=Kw u3;subst heZ;replace u3:=u3Z;rw[XY] at u4;split at u4
    ·exact absurd u4.symm h3
    ·exact⟨g,e,u3,u4⟩
theorem fl {s s':CS} {mem:List Nat} (m:Va s mem) {id q:Int} (h1:s'.own.length=s.own.length) (h2:s'.size=s.size) (h3:s'.tab=s.tab.map (Zz id q)):Va s' mem:=by
 refine⟨by rw[h1,h2];exact m.len,fun i g e' hi=>?_,fun i g e' hi p w hp=>?_⟩
 ·rw[h3] at hi;obtain⟨e,hiZ,heZ⟩:=Kw hi;subst heZ;replace hi:=hiZ;obtain⟨u1,u2,u3,_,_⟩:=BV id q e;rw[(Xg id q e).1,u1,u2];exact m.head i g e hi
 ·rw[h3] at hi;obtain⟨e,hiZ,heZ⟩:=Kw hi;subst heZ;replace hi:=hiZ;obtain⟨u1,u2,u3,_,_⟩:=BV id q e;rw[(Xg id q e).1];rw[u3] at hp;exact m.words i g e hi p w hp
theorem fm {s s':CS} (hP:Y1 s) (hnd:(s.sps.map (·.1)).Nodup) {id q:Int} {bi bq:Nat} {S T:QE} {a1 a2 c1 c2:List (Int×Nat×QE)} (hs1:s.sps=a1++(id,bi,T)::a2) (hs2:a1++a2=c1++(q,bq,S)::c2)
  (h1:s'.size=s.size) (h2:s'.tab=s.tab.map (Zz id q)) (h3:s'.sps=c1++(q,bq,ZG S T)::c2):Y1 s':=by
 intro k g e' hk;rw[h2] at hk;obtain⟨e,hkZ,heZ⟩:=Kw hk;subst heZ;replace hk:=hkZ;obtain⟨x,x1,x2,y,y1,y2⟩:=hP k g e hk;have y2':GG s'.size y (Yt id q e):=by rw[h1];exact y2.alike (Xg id q e).1 (by rw[(BV id q e).2.2.1])
 rw[h3,XY];rw[hs1] at x1
 rcases G9 x1 with rfl|x1
 ·have x2:id=e.region:=x2;rw[if_pos x2.symm];exact⟨(q,bq,ZG S T),by simp,rfl,y,mem_append.2 (.inr y1),y2'⟩
 ·have hxi:x.1≠id:=by
   rw[hs1] at hnd;exact((UA (f:=fun y:Int×Nat×QE=>y.1) rfl hnd).2 x x1).2
  rw[if_neg (by rw[← x2];exact hxi)];rw[hs2] at x1
  rcases G9 x1 with rfl|x1
  ·exact⟨(q,bq,ZG S T),by simp,x2,y,mem_append.2 (.inl y1),y2'⟩
  ·exact⟨x,X5 x1,x2,y,y1,y2'⟩
theorem fp {par par':List (Int×Int)} (h:Z0 par) {id q:Int} (hid:QY par id=some q) (hq:q≠0) (hp:FO par id q par'):Z0 par':=by
 refine⟨by rw[hp.1];exact h.nd.filter _,fun r z hr=>?_⟩;obtain⟨q1,q2,q3⟩:=h.up id q hid;have hqs:(QY par q).isSome=true:=q3.elim (fun h=>absurd h hq) (fun h=>h)
 have hlive:∀ x:Int,x≠id→(QY par x).isSome=true→(QY par' x).isSome=true:=fun x h1 h2=>by
  rw[hp.2,if_neg h1];split
  ·rfl
  ·exact h2
 rw[hp.2] at hr;split at hr
 ·cases hr
 ·rename_i h1;split at hr
  ·rename_i h2;injection hr with hr
   subst hr;have:=(h.up r id h2).2.1;exact⟨q1,by omega,.inr (hlive _ (by omega) hqs)⟩
  ·rename_i h2;obtain⟨z1,z2,z3⟩:=h.up r z hr;exact⟨z1,z2,z3.imp (fun h=>h) fun h3=>hlive z (fun h4=>h2 (by rw[hr,h4])) h3⟩
structure BY (s:CS) (id q:Int) (s':CS):Prop where
 size:s'.size=s.size
 own:s'.own.length=s.own.length
 lays:s'.lays=s.lays
 last:s'.last=s.last
 par:FO s.par id q s'.par
 tab:s'.tab=s.tab.map (Zz id q)
 rem:∃ D,Oy s' (fun k=>∃ g e,s'.tab[k]? = some ⟨g,some e⟩∧e.region=q) D∧ZL s' s.rem D s'.rem
 part:Y1 s→Y1 s'
theorem BY.mv {s s':CS} {id q:Int} (h:BY s id q s'):Ul s s' (fun _=>Yt id q):=by
 refine⟨h.lays,by rw[h.tab,length_map],fun k t hk=>?_,fun _ e=>BV id q e⟩;rw[h.tab,getElem?_map,hk];rfl
theorem fq {s s':CS} {id q:Int} (h:BY s id q s') (hne:id≠q) (hI:Inv s):Inv s':=by
 obtain⟨D,hD,hN⟩:=h.rem;refine P2 h.mv hI hN fun k g p a b e f hnD hk hp hr ha=>?_;have hrq:(Yt id q e).region≠q:=fun h1=>hnD ((hD _).2 ⟨k,g,Yt id q e,⟨g,_,h.mv.at hk,h1⟩,h.mv.at hk,Oz.2 ⟨p,rfl,by rw[(BV id q e).2.2.1];exact hp,by rw[h.mv.lay k e];exact hr⟩⟩);show (Yt id q f).region≠(Yt id q e).region↔_;rw[XY] at hrq;rw[XY,XY];by_cases h1:e.region=id
 ·rw[if_pos h1] at hrq;exact absurd rfl hrq
 ·rw[if_neg h1] at hrq ⊢;by_cases h2:f.region=id
  ·rw[if_pos h2,h2];exact⟨fun _ h3=>h1 h3.symm,fun _ h3=>hrq h3.symm⟩
  ·rw[if_neg h2]
def Ky (size:Nat) (T:QE) (a n:Nat):Prop:=∃ c,(c,1)∈T.parts∧c*size≤a∧a+n≤(c+1)*size∧(a+n≤T.at'∨T.fin≤a)
theorem P4 {size:Nat} (hs:1≤size) {own:List Nat} {x:Int} {S:QE} (h:Gc size own x S) {e:Q7} (hl:Zv size own e) (hne:e.region≠x):QJ e≤S.at'∨S.fin≤e.addr:=by
 by_cases h0:S.fin=0
 ·right;omega
 obtain⟨c,hc1,hc2,hc3⟩:=h.fin h0;have hcm:c∈QU S.parts:=Kx hc3 (Nat.le_refl _) (Nat.lt_succ_self _);obtain⟨y,hy1,hy2,hy3⟩:=(h.owned c).1 hcm;have hat:=h.at1
 rcases hl.chunk hs c with (h1|h1)|⟨z,hz1,hz2,hz3⟩
 ·left;omega
 ·right;omega
 ·rw[hy1] at hz1;injection hz1 with hz1
  subst hz1;exact absurd (hz2.symm.trans hy2) hne
theorem P5 {s:CS} (h:WF s) {k g:Nat} {e:Q7} (hk:s.tab[k]? = some ⟨g,some e⟩) {r id:Int} (hr:e.region=r) (hne:id≠r) (hnd:(s.par.map (·.1)).Nodup)
  {p1 p2:List (Int×Nat×QE)} {b0 bs:Nat} {S T S' T':QE} (hsps:s.sps=p1++(r,b0,S)::(p2++[(id,bs,T)]))
  {m1 m2:List (Int×Nat×List Nat)} {c0 bm:Nat} {M N:List Nat} (hmns:s.mns=m1++(r,c0,M)::(m2++[(id,bm,N)])) {own':List Nat} {a:Nat} {e':Q7} (he:e'={ e with region:=id,addr:=a })
  (hol:own'.length=s.own.length) (hE:Zv s.size own' e') (hL:∀ (j n:Nat) (f:Q7),j≠k→s.tab[j]? = some ⟨n,some f⟩→Zv s.size own' f)
  (hap:∀ (j n:Nat) (f:Q7),j≠k→s.tab[j]? = some ⟨n,some f⟩→QJ f≤e'.addr∨QJ e'≤f.addr)
  (hS:Gc s.size own' r S') (hT:Gc s.size own' id T') (ho:∀ x∈p1++p2,Gc s.size own' x.1 x.2.2)
  (hfS:∀ (j n:Nat) (f:Q7),(s.tab.set k ⟨g,some e'⟩)[j]? = some ⟨n,some f⟩→QJ f≤S'.at'∨S'.fin≤f.addr) (hfT:∀ (j n:Nat) (f:Q7),(s.tab.set k ⟨g,some e'⟩)[j]? = some ⟨n,some f⟩→QJ f≤T'.at'∨T'.fin≤f.addr)
  (hlive:∀ (c x:Nat),own'[c]? = some x→x≠0→(x:Int)=id∨s.own[c]? = some x) {b0' bs':Nat} :
  WF { s with own:=own',tab:=s.tab.set k ⟨g,some e'⟩,sps:=p1++(r,b0,S')::(p2++[(id,bs,T')]),mns:=m1++(r,c0,M.filter (·≠k))::(m2++[(id,bm,YS N k)]) }:=by
 have hkl:=(List.getElem?_eq_some_iff.1 hk).1;have hidk:id∈s.par.map (·.1):=by rw[← h.skeys,hsps];simp
 obtain⟨z,hz⟩:∃ z,(id,z)∈s.par:=by
  obtain⟨⟨x,z⟩,h1,h2⟩:=mem_map.1 hidk;exact⟨z,by rw[← h2];exact h1⟩
 have hlive':∀ (c x:Nat),own'[c]? = some x→x≠0→∃ q,((x:Int),q)∈s.par:=fun c x h1 h2=>by
  rcases hlive c x h1 h2 with h3|h3
  ·exact⟨z,by rw[h3];exact hz⟩
  ·exact h.live c x h3 h2
 have heg:e'.region=id:=by rw[he]
 have hoth:∀ x∈p1++p2,x∈s.sps∧x.1≠r∧x.1≠id:=by
  intro x hx;have hnk:(s.sps.map fun y=>y.1).Nodup:=by rw[h.skeys];exact hnd
  obtain⟨u1,u2⟩:=UA (f:=fun y:Int×Nat×QE=>y.1) hsps hnk
  have hx1:x∈p1++(p2++[(id,bs,T)]):=by
   rcases mem_append.1 hx with hx|hx
   ·exact mem_append.2 (.inl hx)
   ·exact mem_append.2 (.inr (mem_append.2 (.inl hx)))
  obtain⟨v1,v2⟩:=UA (f:=fun y:Int×Nat×QE=>y.1) (l:=p1++(p2++[(id,bs,T)])) (l1:=p1++p2) (l2:=[]) (a:=(id,bs,T)) (by simp) (by rw[u1];exact hnk.filter _);exact⟨(u2 x hx1).1,(u2 x hx1).2,(v2 x (by simpa using hx)).2⟩
 have hothM:∀ x∈m1++m2,x∈s.mns∧x.1≠r∧x.1≠id:=by
  intro x hx;have hnk:(s.mns.map fun y=>y.1).Nodup:=by rw[h.mkeys];exact hnd
  obtain⟨u1,u2⟩:=UA (f:=fun y:Int×Nat×List Nat=>y.1) hmns hnk
  have hx1:x∈m1++(m2++[(id,bm,N)]):=by
   rcases mem_append.1 hx with hx|hx
   ·exact mem_append.2 (.inl hx)
   ·exact mem_append.2 (.inr (mem_append.2 (.inl hx)))
  obtain⟨v1,v2⟩:=UA (f:=fun y:Int×Nat×List Nat=>y.1) (l:=m1++(m2++[(id,bm,N)])) (l1:=m1++m2) (l2:=[]) (a:=(id,bm,N)) (by simp) (by rw[u1];exact hnk.filter _);exact⟨(u2 x hx1).1,(u2 x hx1).2,(v2 x (by simpa using hx)).2⟩
 have hin:∀ {α:Type} {l1 l2:List α} {u v x:α},x∈l1++u::(l2++[v])→x=u∨x=v∨x∈l1++l2:=by
  intro α l1 l2 u v x hx
  rcases mem_append.1 hx with hx|hx
  ·exact .inr (.inr (mem_append.2 (.inl hx)))
  ·rcases mem_cons.1 hx with hx|hx
   ·exact .inl hx
   ·rcases mem_append.1 hx with hx|hx
    ·exact .inr (.inr (mem_append.2 (.inr hx)))
    ·exact .inr (.inl (mem_singleton.1 hx))
 have hMm:(r,c0,M)∈s.mns:=by rw[hmns];simp
 have hNm:(id,bm,N)∈s.mns:=by rw[hmns];simp
 have hM:=h.mine _ hMm;have hN:=h.mine _ hNm;refine⟨h.size,by show 1≤own'.length∧own'.length≤63;rw[hol];exact h.own,by show 1≤(s.tab.set _ _).length∧(s.tab.set _ _).length≤63;rw[length_set];exact h.slots,h.lays,fun i t hi=>?_,fun i n f hi=>?_,fun i j n n' f f' hij hi hj=>?_,h.par,?_,?_,fun x hx=>?_,fun x hx j n f hj=>?_,hlive',fun x hx=>?_⟩
 ·rcases V3 hi with ⟨rfl,rfl,_⟩|⟨_,hi⟩
  ·exact⟨(h.gen _ _ hk).1,fun _=>(h.gen _ _ hk).2 rfl⟩
  ·exact h.gen i t hi
 ·rcases V3 hi with ⟨rfl,h1,_⟩|⟨h0,hi⟩
  ·injection h1 with h1 h2
   injection h2 with h2
   subst h1 h2;exact⟨P3 (h.obj _ _ _ hk).1 (by rw[he]) (by rw[he]) (by rw[he]),hE,z,by rw[heg];exact hz⟩
  ·obtain⟨o1,_,o3⟩:=h.obj i n f hi;exact⟨o1,hL i n f h0 hi,o3⟩
 ·rcases V3 hi with ⟨rfl,h1,_⟩|⟨h0,hi2⟩ <;> rcases V3 hj with ⟨rfl,h2,_⟩|⟨h0',hj2⟩
  ·exact absurd rfl hij
  ·injection h1 with _ h1
   injection h1 with h1
   subst h1;exact(hap j n' f' h0' hj2).symm
  ·injection h2 with _ h2
   injection h2 with h2
   subst h2;exact hap i n f h0 hi2
  ·exact h.apart i j n n' f f' hij hi2 hj2
 ·rw[← h.skeys,hsps];simp
 ·rw[← h.mkeys,hmns];simp
 ·rcases hin hx with rfl|rfl|hx
  ·exact hS
  ·exact hT
  ·exact ho x hx
 ·rcases hin hx with rfl|rfl|hx2
  ·exact hfS j n f hj
  ·exact hfT j n f hj
  ·rcases V3 hj with ⟨rfl,h1,_⟩|⟨h0,hj2⟩
   ·injection h1 with _ h1
    injection h1 with h1
    subst h1;exact P4 h.size.1 (ho x hx2) hE (by rw[heg];exact(hoth x hx2).2.2.symm)
   ·exact h.free x (hoth x hx2).1 j n f hj2
 ·rcases hin hx with rfl|rfl|hx
  ·refine⟨hM.1.filter _,fun i=>?_⟩;show i∈M.filter (·≠k)↔∃ n f,(s.tab.set k ⟨g,some e'⟩)[i]? = some ⟨n,some f⟩∧f.region=r;rw[mem_filter,hM.2];constructor
   ·rintro⟨⟨n,f,h1,h2⟩,h3⟩;have h3:i≠k:=by simpa using h3
    exact⟨n,f,by rw[getElem?_set_ne (fun h=>h3 h.symm)];exact h1,h2⟩
   ·rintro⟨n,f,h1,h2⟩
    rcases V3 h1 with ⟨rfl,h3,_⟩|⟨h0,h1⟩
    ·injection h3 with _ h3
     injection h3 with h3
     subst h3;exact absurd (heg.symm.trans h2) hne
    ·exact⟨⟨n,f,h1,h2⟩,by simpa using h0⟩
  ·have hkN:k∉N:=fun h1=>by
    obtain⟨n,f,h2,h3⟩:=(hN.2 k).1 h1;rw[hk] at h2;injection h2 with h2
    injection h2 with _ h2
    injection h2 with h2
    subst h2;exact hne (h3.symm.trans hr)
   refine⟨FK hN.1 hkN,fun i=>?_⟩;show i∈YS N k↔∃ n f,(s.tab.set k ⟨g,some e'⟩)[i]? = some ⟨n,some f⟩∧f.region=id;rw[FX,hN.2];constructor
   ·rintro(rfl|⟨n,f,h1,h2⟩)
    ·exact⟨g,e',getElem?_set_self hkl,heg⟩
    ·refine⟨n,f,?_,h2⟩;rw[getElem?_set_ne]
     ·exact h1
     ·intro h3;subst h3;exact hkN ((hN.2 _).2 ⟨n,f,h1,h2⟩)
   ·rintro⟨n,f,h1,h2⟩
    rcases V3 h1 with ⟨rfl,h3,_⟩|⟨h0,h1⟩
    ·exact .inl rfl
    ·exact .inr ⟨n,f,h1,h2⟩
  ·obtain⟨u1,u2,u3⟩:=hothM x hx;obtain⟨v1,v2⟩:=h.mine x u1;refine⟨v1,fun i=>?_⟩;show i∈x.2.2↔∃ n f,(s.tab.set k ⟨g,some e'⟩)[i]? = some ⟨n,some f⟩∧f.region=x.1;rw[v2];constructor
   ·rintro⟨n,f,h1,h2⟩;refine⟨n,f,?_,h2⟩;rw[getElem?_set_ne]
    ·exact h1
    ·intro h3;subst h3;rw[hk] at h1;injection h1 with h1
     injection h1 with _ h1
     injection h1 with h1
     subst h1;exact u2 (h2.symm.trans hr)
   ·rintro⟨n,f,h1,h2⟩
    rcases V3 h1 with ⟨rfl,h3,_⟩|⟨h0,h1⟩
    ·injection h3 with _ h3
     injection h3 with h3
     subst h3;exact absurd (h2.symm.trans heg) u3
    ·exact⟨n,f,h1,h2⟩
theorem ft {s:CS} (h:WF s) {k g:Nat} {e:Q7} (hk:s.tab[k]? = some ⟨g,some e⟩) {r id:Int} (hr:e.region=r) (hne:id≠r) (hnd:(s.par.map (·.1)).Nodup)
  {p1 p2:List (Int×Nat×QE)} {b0 bs:Nat} {S T:QE} (hsps:s.sps=p1++(r,b0,S)::(p2++[(id,bs,T)]))
  {m1 m2:List (Int×Nat×List Nat)} {c0 bm:Nat} {M N:List Nat} (hmns:s.mns=m1++(r,c0,M)::(m2++[(id,bm,N)])) {a:Nat}
  (hs:Ky s.size T a (e.ws.length+1)) (hfree:∀ (j n:Nat) (f:Q7),j≠k→s.tab[j]? = some ⟨n,some f⟩→QJ f≤a∨a+(e.ws.length+1)≤f.addr) :
  WF { s with tab:=s.tab.set k ⟨g,some { e with region:=id,addr:=a }⟩,mns:=m1++(r,c0,M.filter (·≠k))::(m2++[(id,bm,YS N k)]) }:=by
 obtain⟨c,c1,c2,c3,c4⟩:=hs;have hTm:(id,bs,T)∈s.sps:=by rw[hsps];simp
 have hSm:(r,b0,S)∈s.sps:=by rw[hsps];simp
 have hT:=h.spc _ hTm;obtain⟨y,hy1,hy2,hy3⟩:=(hT.owned c).1 (Kx c1 (Nat.le_refl _) (Nat.lt_succ_self _));have hcl:=(List.getElem?_eq_some_iff.1 hy1).1;have hle:(c+1)*s.size≤s.own.length*s.size:=Nat.mul_le_mul_right _ hcl;have hs1:=h.size.1
 have hE:Zv s.size s.own { e with region:=id,addr:=a }:=by
  refine⟨by show a+1+e.ws.length≤_;omega,fun d h1 h2=>?_⟩;have h1:a / s.size≤d:=h1;have h2:d≤(a+e.ws.length) / s.size:=h2;have e1:a / s.size=c:=Nat.div_eq_of_lt_le (by omega) (by omega);have e2:(a+e.ws.length) / s.size=c:=Nat.div_eq_of_lt_le (by omega) (by omega);obtain rfl:d=c:=by omega
  exact⟨y,hy1,hy2,by omega⟩
 have hw:=P5 (S':=S) (T':=T) (own':=s.own) (b0':=0) (bs':=0) h hk hr hne hnd hsps hmns (a:=a) rfl rfl hE (fun j n f _ hj=>(h.obj j n f hj).2.1) (fun j n f h0 hj=>by
   have:=hfree j n f h0 hj;show QJ f≤a∨a+1+e.ws.length≤f.addr;omega) (h.spc _ hSm) hT (fun x hx=>h.spc x (by
   rw[hsps]
   rcases mem_append.1 hx with hx|hx
   ·exact mem_append.2 (.inl hx)
   ·exact mem_append.2 (.inr (mem_cons_of_mem _ (mem_append.2 (.inl hx)))))) (fun j n f hj=>?_) (fun j n f hj=>?_) (fun _ _ h1 _ => .inr h1)
 ·rw[← hsps] at hw;exact hw
 ·rcases V3 hj with ⟨rfl,h1,_⟩|⟨h0,hj⟩
  ·injection h1 with _ h1
   injection h1 with h1
   subst h1;exact P4 hs1 (h.spc _ hSm) hE hne
  ·exact h.free _ hSm j n f hj
 ·rcases V3 hj with ⟨rfl,h1,_⟩|⟨h0,hj⟩
  ·injection h1 with _ h1
   injection h1 with h1
   subst h1;show a+1+e.ws.length≤T.at'∨T.fin≤a;omega
  ·exact h.free _ hTm j n f hj
theorem P6 {s s':CS} (h:WF s) {mem mem':List Nat} (m:Va s mem) {k g:Nat} {e:Q7} (hk:s.tab[k]? = some ⟨g,some e⟩) {id:Int} {a:Nat} (hfree:∀ (j n:Nat) (f:Q7),j≠k→s.tab[j]? = some ⟨n,some f⟩→QJ f≤a∨a+(e.ws.length+1)≤f.addr)
  (hl:mem'.length=mem.length) (hin:∀ i,i < e.ws.length+1→mem'[a+i]? = mem[e.addr+i]?) (hout:∀ j,j < a∨a+(e.ws.length+1)≤j→mem'[j]? = mem[j]?)
  (h1:s'.own.length=s.own.length) (h2:s'.size=s.size) (h3:s'.tab=s.tab.set k ⟨g,some { e with region:=id,addr:=a }⟩):Va s' mem':=by
 refine⟨by rw[h1,h2,hl];exact m.len,fun i n f hi=>?_,fun i n f hi p w hp=>?_⟩
 ·rw[h3] at hi
  rcases V3 hi with ⟨rfl,u1,_⟩|⟨h0,hi⟩
  ·injection u1 with _ u1
   injection u1 with u1
   subst u1;have:=hin 0 (by omega);show mem'[a]? = _;rw[Nat.add_zero,Nat.add_zero] at this;rw[this];exact m.head _ _ _ hk
  ·rw[hout f.addr (by have:=hfree i n f h0 hi;unfold QJ at this;omega)];exact m.head i n f hi
 ·rw[h3] at hi
  rcases V3 hi with ⟨rfl,u1,_⟩|⟨h0,hi⟩
  ·injection u1 with _ u1
   injection u1 with u1
   subst u1;have hp:e.ws[p]? = some w:=hp;have hpl:=(List.getElem?_eq_some_iff.1 hp).1;have:=hin (1+p) (by omega);show mem'[a+1+p]? = _;rw[Nat.add_assoc,this,← Nat.add_assoc];exact m.words _ _ _ hk p w hp
  ·have hpl:=(List.getElem?_eq_some_iff.1 hp).1;rw[hout (f.addr+1+p) (by have:=hfree i n f h0 hi;unfold QJ at this;omega)];exact m.words i n f hi p w hp
theorem fw {s s':CS} (hP:Y1 s) {k g:Nat} {e:Q7} {id:Int} {a:Nat} {bs:Nat} {T:QE} (hT:(id,bs,T)∈s'.sps) (hs:Ky s.size T a (e.ws.length+1)) (h1:s'.size=s.size) (h2:s'.tab=s.tab.set k ⟨g,some { e with region:=id,addr:=a }⟩) (h3:s'.sps=s.sps):Y1 s':=by
 intro j n f hj;rw[h2] at hj
 rcases V3 hj with ⟨rfl,u1,_⟩|⟨h0,hj⟩
 ·injection u1 with _ u1
  injection u1 with u1
  subst u1;obtain⟨c,c1,c2,c3,_⟩:=hs;refine⟨_,hT,rfl,(c,1),c1,.inl ⟨rfl,?_,?_⟩⟩
  ·rw[h1];exact c2
  ·rw[h1];show a+1+e.ws.length≤(c+1)*s.size;omega
 ·rw[h3,h1];exact hP j n f hj
theorem Cx {l:List (Nat×Nat)} {c:Nat}:c∈QU l↔∃ y∈l,y.1≤c∧c < y.1+y.2:=by
 unfold QU;rw[mem_flatMap];constructor
 ·rintro⟨y,h1,h2⟩;exact⟨y,h1,Ge.1 h2⟩
 ·rintro⟨y,h1,h2⟩;exact⟨y,h1,Ge.2 h2⟩
theorem FP {A B:List (Nat×Nat)} {x:Nat×Nat} (h:(QU (A++x::B)).Nodup):(QU (A++B)).Nodup∧∀ c,x.1≤c→c < x.1+x.2→c∉QU (A++B):=by
 have e1:QU (A++x::B)=QU A++((List.range x.2).map (x.1+·)++QU B):=by
  rw[Gd];rfl
 rw[e1,nodup_append] at h;obtain⟨h1,h2,h3⟩:=h;rw[nodup_append] at h2;obtain⟨h4,h5,h6⟩:=h2;rw[Gd];refine⟨nodup_append.2 ⟨h1,h5,fun a ha b hb=>h3 a ha b (mem_append.2 (.inr hb))⟩,fun c hc1 hc2 hc=>?_⟩;have hr:c∈(List.range x.2).map (x.1+·):=Ge.2 ⟨hc1,hc2⟩
 rcases mem_append.1 hc with hc|hc
 ·exact h3 c hc c (mem_append.2 (.inl hr)) rfl
 ·exact h6 c hr c hc rfl
theorem P7 {α:Type} {l:List (Int×α)} (h:(l.map (·.1)).Nodup) {x y:Int×α} (hx:x∈l) (hy:y∈l) (he:x.1=y.1):x=y:=by
 obtain⟨a1,a2,h1⟩:=append_of_mem hx;obtain⟨_,h2⟩:=UA (f:=fun z:Int×α=>z.1) h1 h;rw[h1] at hy
 rcases G9 hy with rfl|hy
 ·rfl
 ·exact absurd he.symm (h2 y hy).2
theorem GG.chunk {size:Nat} (hs:1≤size) {x:Nat×Nat} {e:Q7} (h:GG size x e) {d:Nat} (h1:e.addr / size≤d) (h2:d≤(e.addr+e.ws.length) / size):x.1≤d∧d < x.1+x.2:=by
 obtain⟨h3,h4⟩:=d9 hs h;have h5:x.1≤e.addr / size:=(Nat.le_div_iff_mul_le (by omega)).2 h3;have h6:(e.addr+e.ws.length) / size < x.1+x.2:=(Nat.div_lt_iff_lt_mul (by omega)).2 (by unfold QJ at h4;omega);omega
theorem JX {s:CS} (h:WF s) (hP:Y1 s) (hnd:(s.par.map (·.1)).Nodup) {k g:Nat} {e:Q7} (hk:s.tab[k]? = some ⟨g,some e⟩) {b0 c n:Nat} {S:QE} (hSm:(e.region,b0,S)∈s.sps) {A B:List (Nat×Nat)} (hp:S.parts=A++(c,n)::B) (hn:2≤n) (hin:GG s.size (c,n) e)
  {j n':Nat} {f:Q7} (hjk:j≠k) (hj:s.tab[j]? = some ⟨n',some f⟩) {d:Nat} (h1:f.addr / s.size≤d) (h2:d≤(f.addr+f.ws.length) / s.size):¬ (c≤d∧d < c+n):=by
 rintro⟨h3,h4⟩;have hS:=h.spc _ hSm;obtain⟨y,y1,y2,_⟩:=(hS.owned d).1 (Kx (x:=(c,n)) (by rw[hp];simp) h3 h4);obtain⟨z,z1,z2,_⟩:=(h.obj j n' f hj).2.1.2 d h1 h2;rw[y1] at z1;injection z1 with z1
 subst z1;obtain⟨x,x1,x2,w,w1,w2⟩:=hP j n' f hj;obtain rfl:x=(e.region,b0,S):=P7 (by rw[h.skeys];exact hnd) x1 hSm (by rw[x2,← z2,y2]);have w1:w∈S.parts:=w1;obtain⟨w3,w4⟩:=w2.chunk h.size.1 h1 h2;rw[hp] at w1
 rcases G9 w1 with rfl|w1
 ·rcases w2 with ⟨w5,_⟩|⟨_,w5,_⟩
  ·have w5:n=1:=w5;omega
  ·rcases hin with ⟨w6,_⟩|⟨_,w6,_⟩
   ·have w6:n=1:=w6;omega
   ·rcases h.apart k j g n' e f (fun h=>hjk h.symm) hk hj with w7|w7 <;> unfold QJ at w7 <;> omega
 ·have hnd':=hS.nodup;have hnd':(QU S.parts).Nodup:=hnd';rw[hp] at hnd';exact(FP hnd').2 d h3 h4 (Kx w1 w3 w4)
theorem gQ {s:CS} (h:WF s) (hP:Y1 s) {k g:Nat} {e:Q7} (hk:s.tab[k]? = some ⟨g,some e⟩) {r:Int} {id:Nat} (hr:e.region=r) (hne:(id:Int)≠r) (hnd:(s.par.map (·.1)).Nodup)
  {p1 p2:List (Int×Nat×QE)} {b0 bs:Nat} {S T:QE} (hsps:s.sps=p1++(r,b0,S)::(p2++[((id:Int),bs,T)]))
  {m1 m2:List (Int×Nat×List Nat)} {c0 bm:Nat} {M N:List Nat} (hmns:s.mns=m1++(r,c0,M)::(m2++[((id:Int),bm,N)]))
  {A B:List (Nat×Nat)} {c n:Nat} (hp:S.parts=A++(c,n)::B) (hn:2≤n) (hin:GG s.size (c,n) e) :
  WF { s with own:=VV s.own c n id,tab:=s.tab.set k ⟨g,some { e with region:=id,addr:=e.addr }⟩,sps:=p1++(r,b0,{ S with parts:=A++B })::(p2++[((id:Int),bs,{ T with parts:=T.parts++[(c,n)] })]),mns:=m1++(r,c0,M.filter (·≠k))::(m2++[((id:Int),bm,YS N k)]) }:=by
 have hTm:((id:Int),bs,T)∈s.sps:=by rw[hsps];simp
 have hSm:(r,b0,S)∈s.sps:=by rw[hsps];simp
 have hT:=h.spc _ hTm;have hS:=h.spc _ hSm;have hcn:c+n≤s.own.length:=(hS.parts (c,n) (by show _∈S.parts;rw[hp];simp)).2;have hget:=fun i=>Zt (v:=id) hcn i;have hs1:=h.size.1
 have hid1:1≤id:=by
  have:(id:Int)∈s.par.map (·.1):=by rw[← h.skeys,hsps];simp
  obtain⟨⟨x,z⟩,h1,h2⟩:=mem_map.1 this;have h2:x=(id:Int):=h2;have:=(h.par.2.2 x z h1).1;omega
 have hrun:∀ d,c≤d→d < c+n→∃ y:Nat,s.own[d]? = some y∧(y:Int)=r∧y≠0:=fun d h1 h2=>(hS.owned d).1 (Kx (x:=(c,n)) (by show _∈S.parts;rw[hp];simp) h1 h2);have hSnd:(QU (A++(c,n)::B)).Nodup:=by rw[← hp];exact hS.nodup
 obtain⟨hn1,hn2⟩:=FP hSnd;have halone:=fun {j n':Nat} {f:Q7} (hjk:j≠k) (hj:s.tab[j]? = some ⟨n',some f⟩) {d:Nat}=>JX h hP hnd hk (S:=S) (b0:=b0) (by rw[hr];exact hSm) hp hn hin hjk hj (d:=d)
 have hfe:∀ x∈s.sps,∀ (j n':Nat) (f:Q7),(s.tab.set k ⟨g,some { e with region:=(id:Int),addr:=e.addr }⟩)[j]? = some ⟨n',some f⟩→QJ f≤x.2.2.at'∨x.2.2.fin≤f.addr:=by
  intro x hx j n' f hj
  rcases V3 hj with ⟨rfl,h1,_⟩|⟨h0,hj⟩
  ·injection h1 with _ h1
   injection h1 with h1
   subst h1;exact(h.free x hx _ g e hk:QJ e≤x.2.2.at'∨x.2.2.fin≤e.addr)
  ·exact h.free x hx j n' f hj
 refine P5 (b0':=0) (bs':=0) h hk hr hne hnd hsps hmns (e':={ e with region:=(id:Int),addr:=e.addr }) rfl (Vz hcn) ?_ (fun j n' f h0 hj=>?_) (fun j n' f h0 hj=>(h.apart j k n' g f e h0 hj hk:QJ f≤e.addr∨QJ e≤f.addr)) ⟨hS.at1,fun hf=>?_,fun y hy=>?_,hn1,fun d=>?_⟩ ⟨hT.at1,fun hf=>?_,fun y hy=>?_,?_,fun d=>?_⟩ (fun x hx=>?_) (hfe _ hSm) (hfe _ hTm) (fun d x h1 h2=>?_)
 ·obtain⟨u1,u2⟩:=(h.obj _ _ _ hk).2.1;refine⟨by rw[Vz hcn];exact u1,fun d h1 h2=>?_⟩;obtain⟨v1,v2⟩:=hin.chunk hs1 h1 h2;exact⟨id,by rw[hget,if_pos ⟨v1,v2⟩],rfl,hid1⟩
 ·obtain⟨u1,u2⟩:=(h.obj j n' f hj).2.1;refine⟨by rw[Vz hcn];exact u1,fun d h1 h2=>?_⟩;rw[hget,if_neg (halone h0 hj h1 h2)];exact u2 d h1 h2
 ·obtain⟨d,d1,d2,d3⟩:=hS.fin hf;refine⟨d,d1,d2,?_⟩;have d3:(d,1)∈S.parts:=d3;rw[hp] at d3
  rcases G9 d3 with d3|d3
  ·injection d3 with _ d3
   omega
  ·exact d3
 ·rw[Vz hcn];exact hS.parts y (by show y∈S.parts;rw[hp];exact X5 hy)
 ·show d∈QU (A++B)↔_;constructor
  ·intro hd
   have hd0:d∈QU S.parts:=by
    obtain⟨y,y1,y2⟩:=Cx.1 hd;rw[hp];exact Cx.2 ⟨y,X5 y1,y2⟩
   obtain⟨y,y1,y2,y3⟩:=(hS.owned d).1 hd0;refine⟨y,?_,y2,y3⟩;rw[hget,if_neg (fun h1=>hn2 d h1.1 h1.2 hd)];exact y1
  ·rintro⟨y,y1,y2,y3⟩;rw[hget] at y1;split at y1
   ·injection y1 with y1
    subst y1;exact absurd y2 hne
   ·rename_i h1;have hd0:=(hS.owned d).2 ⟨y,y1,y2,y3⟩;have hd0:d∈QU S.parts:=hd0;rw[hp] at hd0;obtain⟨z,z1,z2⟩:=Cx.1 hd0
    rcases G9 z1 with rfl|z1
    ·exact absurd z2 h1
    ·exact Cx.2 ⟨z,z1,z2⟩
 ·obtain⟨d,d1,d2,d3⟩:=hT.fin hf;exact⟨d,d1,d2,mem_append.2 (.inl d3)⟩
 ·rw[Vz hcn];have hy:y∈T.parts++[(c,n)]:=hy
  rcases mem_append.1 hy with hy|hy
  ·exact hT.parts y hy
  ·rw[mem_singleton] at hy;subst hy;exact⟨by show 1≤n;omega,hcn⟩
 ·show (QU (T.parts++[(c,n)])).Nodup;rw[Gd,K2,nodup_append];refine⟨hT.nodup,IV c n,fun x hx y hy hxy=>?_⟩;subst hxy;obtain⟨h1,h2⟩:=Ge.1 hy;obtain⟨y,y1,y2,_⟩:=hrun x h1 h2;obtain⟨z,z1,z2,_⟩:=(hT.owned x).1 hx;rw[y1] at z1;injection z1 with z1
  subst z1;exact hne (z2.symm.trans y2)
 ·show d∈QU (T.parts++[(c,n)])↔_;rw[Gd,K2,mem_append,Ge,hget];constructor
  ·rintro(h1|h1)
   ·obtain⟨y,y1,y2,y3⟩:=(hT.owned d).1 h1;refine⟨y,?_,y2,y3⟩;rw[if_neg]
    ·exact y1
    ·rintro⟨h2,h3⟩;obtain⟨z,z1,z2,_⟩:=hrun d h2 h3;rw[y1] at z1;injection z1 with z1
     subst z1;exact hne (y2.symm.trans z2)
   ·exact⟨id,by rw[if_pos h1],rfl,by omega⟩
  ·rintro⟨y,y1,y2,y3⟩;by_cases h1:c≤d∧d < c+n
   ·exact .inr h1
   ·rw[if_neg h1] at y1;exact .inl ((hT.owned d).2 ⟨y,y1,y2,y3⟩)
 ·have hxs:x∈s.sps:=by
   rw[hsps]
   rcases mem_append.1 hx with hx|hx
   ·exact mem_append.2 (.inl hx)
   ·exact mem_append.2 (.inr (mem_cons_of_mem _ (mem_append.2 (.inl hx))))
  have hnk:(s.sps.map fun y=>y.1).Nodup:=by rw[h.skeys];exact hnd
  have hxr:x.1≠r:=by
   refine((UA (f:=fun y:Int×Nat×QE=>y.1) hsps hnk).2 x ?_).2
   rcases mem_append.1 hx with hx|hx
   ·exact mem_append.2 (.inl hx)
   ·exact mem_append.2 (.inr (mem_append.2 (.inl hx)))
  have hxi:x.1≠(id:Int):=by
   have e1:s.sps=(p1++(r,b0,S)::p2)++((id:Int),bs,T)::[]:=by rw[hsps];simp
   refine((UA (f:=fun y:Int×Nat×QE=>y.1) e1 hnk).2 x ?_).2;rw[append_nil];exact X5 hx
  obtain⟨a1,a2,a3,a4,a5⟩:=h.spc x hxs;refine⟨a1,a2,fun y hy=>by rw[Vz hcn];exact a3 y hy,a4,fun d=>?_⟩;rw[a5,hget];by_cases h1:c≤d∧d < c+n
  ·rw[if_pos h1];obtain⟨y,y1,y2,y3⟩:=hrun d h1.1 h1.2;constructor
   ·rintro⟨z,z1,z2,z3⟩;rw[y1] at z1;injection z1 with z1
    subst z1;exact absurd (z2.symm.trans y2) hxr
   ·rintro⟨z,z1,z2,z3⟩;injection z1 with z1
    subst z1;exact absurd z2.symm hxi
  ·rw[if_neg h1]
 ·rw[hget] at h1;split at h1
  ·injection h1 with h1
   subst h1;exact .inl rfl
  ·exact .inr h1
theorem gV {s s':CS} (h:WF s) (hP:Y1 s) {k g:Nat} {e:Q7} (hk:s.tab[k]? = some ⟨g,some e⟩) {r id:Int} (hr:e.region=r) (hnd:(s.par.map (·.1)).Nodup)
  {p1 p2:List (Int×Nat×QE)} {b0 bs:Nat} {S T:QE} (hsps:s.sps=p1++(r,b0,S)::(p2++[(id,bs,T)])) {A B:List (Nat×Nat)} {c n:Nat} (hp:S.parts=A++(c,n)::B) (hn:2≤n) (hin:GG s.size (c,n) e)
  (h1:s'.size=s.size) (h2:s'.tab=s.tab.set k ⟨g,some { e with region:=id,addr:=e.addr }⟩) (h3:s'.sps=p1++(r,b0,{ S with parts:=A++B })::(p2++[(id,bs,{ T with parts:=T.parts++[(c,n)] })])):Y1 s':=by
 have hSm:(r,b0,S)∈s.sps:=by rw[hsps];simp
 intro j n' f hj;rw[h2] at hj;rw[h3,h1]
 rcases V3 hj with ⟨rfl,u1,_⟩|⟨h0,hj⟩
 ·injection u1 with _ u1
  injection u1 with u1
  subst u1;exact⟨(id,bs,{ T with parts:=T.parts++[(c,n)] }),by simp,rfl,(c,n),mem_append.2 (.inr (by simp)),hin.alike rfl rfl⟩
 ·obtain⟨x,x1,x2,y,y1,y2⟩:=hP j n' f hj;have x1':=x1;rw[hsps] at x1
  rcases mem_append.1 x1 with x1|x1
  ·exact⟨x,mem_append.2 (.inl x1),x2,y,y1,y2⟩
  ·rcases mem_cons.1 x1 with rfl|x1
   ·refine⟨(r,b0,{ S with parts:=A++B }),by simp,x2,y,?_,y2⟩;have y1:y∈S.parts:=y1;rw[hp] at y1
    rcases G9 y1 with rfl|y1
    ·exfalso;have hd1:f.addr / s.size≤f.addr / s.size:=Nat.le_refl _;have hd2:f.addr / s.size≤(f.addr+f.ws.length) / s.size:=Nat.div_le_div_right (by omega);exact JX h hP hnd hk (S:=S) (b0:=b0) (by rw[hr];exact hSm) hp hn hin h0 hj hd1 hd2 (y2.chunk h.size.1 hd1 hd2)
    ·exact y1
   ·rcases mem_append.1 x1 with x1|x1
    ·exact⟨x,mem_append.2 (.inr (mem_cons_of_mem _ (mem_append.2 (.inl x1)))),x2,y,y1,y2⟩
    ·rw[mem_singleton] at x1;subst x1;exact⟨(id,bs,{ T with parts:=T.parts++[(c,n)] }),by simp,x2,y,mem_append.2 (.inl y1),y2⟩
end Go.Proofs.YtmjdnljneifpcaaGreatDoor
