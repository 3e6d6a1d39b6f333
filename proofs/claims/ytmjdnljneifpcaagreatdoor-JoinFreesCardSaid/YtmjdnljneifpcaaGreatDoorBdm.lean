/- Cells: what is proved on the way: every input of the statement; no condition. Texts joined: JoiC JoiP StoD BumF BumG TreC TreD MovP MovQ SplP SplH. -/
import Derived.Test.YtmjdnljneifpcaaGreatDoorBdl
import Derived.Test.YtmjdnljneifpcaaGreatDoorBdd
import Derived.LaidEqlPtr
import Derived.Test.YtmjdnljneifpcaaGreatDoorBdk
set_option linter.unusedVariables false
set_option linter.unusedSimpArgs false
set_option linter.unusedSectionVars false
namespace Go.Proofs.YtmjdnljneifpcaaGreatDoor
open Go.SL
theorem di {l:QJ} {n p:Nat} (h1:p < n) (h2:VV l p=true):QL l n p true=0:=by
 unfold QL;rw[if_neg (by omega),Int.toNat_natCast,if_neg (by rw[h2];simp)]
def VA (D:List Rf) (k:Nat) (e:Q9):Q9:={ e with ws:=e.ws.mapIdx fun p w=>if ((k:Int),(p:Int))∈D then 1 else w }
theorem Rd (D:List Rf) (k:Nat) (e:Q9):(VA D k e).ws.length=e.ws.length:=by simp[VA]
theorem dj (k:Nat) (e:Q9):VA [] k e=e:=by
 have:e.ws.mapIdx (fun p w=>if ((k:Int),(p:Int))∈([]:List Rf) then 1 else w)=e.ws:=by
  apply List.ext_getElem?;intro i;rw[List.getElem?_mapIdx];cases e.ws[i]? <;> simp
 unfold VA;rw[this]
theorem IK (D:List Rf) (k:Nat) (e:Q9) (p:Nat):(VA D k e).ws[p]? = (e.ws[p]?).map fun w=>if ((k:Int),(p:Int))∈D then 1 else w:=by
 unfold VA;rw[List.getElem?_mapIdx]
theorem dl (D:List Rf) (k p:Nat) (e:Q9):{ VA D k e with ws:=(VA D k e).ws.set p 1 }=VA (D++[((k:Int),(p:Int))]) k e:=by
 have:(VA D k e).ws.set p 1=(VA (D++[((k:Int),(p:Int))]) k e).ws:=by
  apply List.ext_getElem?;intro i;rw[List.getElem?_set,IK,IK,Rd];by_cases h:p=i
  ·subst h;rw[if_pos rfl];by_cases hl:p < e.ws.length
   ·rw[if_pos hl,List.getElem?_eq_getElem hl];simp
   ·rw[if_neg hl,List.getElem?_eq_none (by omega)];rfl
  ·rw[if_neg h];cases e.ws[i]? with
   | none=>rfl
   | some w=>
    have hne:(((k:Int),(i:Int)):Rf)≠((k:Int),(p:Int)):=fun h1=>by
     injection h1 with _ h1
     omega
    simp[List.mem_append,hne]
 rw[this];rfl
theorem dm (D:List Rf) {k j:Nat} (p:Nat) (e:Q9) (h:j≠k):VA (D++[((k:Int),(p:Int))]) j e=VA D j e:=by
 have:∀ i:Nat,(((j:Int),(i:Int)):Rf)≠((k:Int),(p:Int)):=fun i h1=>by
  injection h1 with h1 _
  omega
 unfold VA;congr 1;apply List.ext_getElem?;intro i;rw[List.getElem?_mapIdx,List.getElem?_mapIdx];cases e.ws[i]? with
 | none=>rfl
 | some w=>simp[List.mem_append,this i]
structure GP (s:CS) (D:List Rf) (s':CS):Prop where
 size:s'.size=s.size
 own:s'.own=s.own
 lays:s'.lays=s.lays
 last:s'.last=s.last
 par:s'.par=s.par
 sps:s'.sps=s.sps
 mns:s'.mns=s.mns
 tabl:s'.tab.length=s.tab.length
 tab:∀ (k:Nat) (t:QH),s.tab[k]? = some t→s'.tab[k]? = some ⟨t.gen,t.ent.map (VA D k)⟩
 nd:(s'.rem.map (·.1)).Nodup
 rem:∀ r,QZ s'.rem r=if r∈D then none else QZ s.rem r
theorem GP.start {s:CS} (h:(s.rem.map (·.1)).Nodup):GP s [] s:=by
 refine⟨rfl,rfl,rfl,rfl,rfl,rfl,rfl,rfl,fun k t hk=>?_,h,fun r=>by rw[if_neg (by simp)]⟩;obtain⟨g,e⟩:=t;rw[hk];cases e with
 | none=>rfl
 | some e=>show _=some (QH.mk g (some (VA [] k e)));rw[dj]
theorem GP.lay {s s':CS} {D:List Rf} (h:GP s D s') (k:Nat) (e:Q9):QN s' (VA D k e)=QN s e:=by
 unfold QN;rw[h.lays];rfl
def CI (s:CS) (k g p:Nat) (e:Q9):CS:={ VF s k g { e with ws:=e.ws.set p 1 } with rem:=QB s.rem ((k:Int),(p:Int)) }
theorem GP.step {s s':CS} {D:List Rf} (h:GP s D s') {k g p:Nat} {e:Q9} (hk:s.tab[k]? = some ⟨g,some e⟩):GP s (D++[((k:Int),(p:Int))]) (CI s' k g p (VA D k e)):=by
 have hk':=h.tab k _ hk;have hkl:=(List.getElem?_eq_some_iff.1 hk').1;refine⟨h.size,h.own,h.lays,h.last,h.par,h.sps,h.mns,by show (s'.tab.set _ _).length=_;rw[List.length_set];exact h.tabl,fun j t hj=>?_,Uu h.nd,fun r=>?_⟩
 ·show (s'.tab.set k ⟨g,some { VA D k e with ws:=(VA D k e).ws.set p 1 }⟩)[j]? = _;rw[dl];by_cases hjk:k=j
  ·subst hjk;rw[hk] at hj;injection hj with hj
   subst hj;rw[List.getElem?_set_self hkl];rfl
  ·rw[List.getElem?_set_ne hjk,h.tab j t hj];obtain⟨g',e'⟩:=t;cases e' with
   | none=>rfl
   | some e'=>show some (QH.mk g' (some (VA D j e')))=some (QH.mk g' (some (VA _ j e')));rw[dm D p e' (fun h=>hjk h.symm)]
 ·show QZ (QB s'.rem ((k:Int),(p:Int))) r=_;rw[XF h.nd,h.rem];by_cases h1:(((k:Int),(p:Int)):Rf)=r
  ·subst h1;rw[if_pos rfl,if_pos (List.mem_append.2 (.inr (List.mem_singleton.2 rfl)))]
  ·rw[if_neg h1];by_cases h2:r∈D
   ·rw[if_pos h2,if_pos (List.mem_append.2 (.inl h2))]
   ·rw[if_neg h2,if_neg];intro h3
    rcases List.mem_append.1 h3 with h3|h3
    ·exact h2 h3
    ·exact h1 (List.mem_singleton.1 h3).symm
theorem dn {s:CS} (h:WF s) {k g p:Nat} {e:Q9} (hk:s.tab[k]? = some ⟨g,some e⟩):WF (CI s k g p e):=
 AF (ES (e':={ e with ws:=e.ws.set p 1 }) h hk ⟨rfl,rfl,rfl,rfl,by show (e.ws.set p 1).length=_;simp⟩ (HL (h.obj _ _ _ hk).1 (Hm h hk) (by decide) (fun _=>⟨.grave,trivial,rfl⟩))) _
theorem dp {s:CS} (h:WF s) {mem:List Nat} (m:VI s mem) {k g p:Nat} {e:Q9} (hk:s.tab[k]? = some ⟨g,some e⟩) (hp:p < e.ws.length):VI (CI s k g p e) (mem.set (e.addr+1+p) 1):=by
 obtain⟨a,b,c⟩:=HJ h m hk hp (x:=1);exact⟨a,b,c⟩
end Go.Proofs.YtmjdnljneifpcaaGreatDoor
namespace Go.Proofs.YtmjdnljneifpcaaGreatDoor
open Go.SL
theorem O1 {A B:List Int} {x:Int} (h:(A++x::B).Nodup):(A++x::B).filter (·≠x)=A++B:=by
 rw[List.nodup_append] at h;obtain⟨h1,h2,h3⟩:=h;rw[List.nodup_cons] at h2
 rw[List.filter_append,List.filter_cons,if_neg (by simp),List.filter_eq_self.2 (fun a ha=>by
  have:=h3 a ha x List.mem_cons_self;simpa using this),List.filter_eq_self.2 (fun a ha=>by
  have:a≠x:=fun h4=>h2.1 (h4▸ha);simpa using this)]
theorem dq {par:List (Int×Int)} (hnd:(par.map (·.1)).Nodup) {x:Int} (hx:x∈par.map (·.1)):(QB par x).map (·.1)=(par.map (·.1)).filter (·≠x)∧∀ r q,(r,q)∈QB par x↔(r,q)∈par∧r≠x:=by
 obtain⟨⟨x',y⟩,h1,h2⟩:=List.mem_map.1 hx;have h2:x'=x:=h2;subst h2;obtain⟨a1,a2,h3⟩:=List.append_of_mem h1;subst h3;have he:QB (a1++(x',y)::a2) x'=a1++a2:=WY (p:=(x',y)) hnd;refine⟨?_,fun r q=>?_⟩
 ·rw[he,List.map_append,List.map_append,List.map_cons];rw[List.map_append,List.map_cons] at hnd;exact(O1 hnd).symm
 ·rw[← Yh (Uu hnd),XF hnd,← Yh hnd];by_cases h:x'=r
  ·subst h;rw[if_pos rfl];exact⟨fun h=>(by cases h),fun h=>absurd rfl h.2⟩
  ·rw[if_neg h];exact⟨fun h1=>⟨h1,fun h2=>h h2.symm⟩,fun h1=>h1.1⟩
theorem U7 {α:Type} {f:α→Int} {l l1 l2:List α} {a:α} (h:l=l1++a::l2) (hnd:(l.map f).Nodup):(l1++l2).map f=(l.map f).filter (·≠f a)∧∀ y∈l1++l2,y∈l∧f y≠f a:=by
 subst h;have hnd':=hnd;rw[List.map_append,List.map_cons] at hnd;refine⟨by rw[List.map_append,List.map_append,List.map_cons];exact(O1 hnd).symm,fun y hy=>?_⟩;rw[List.nodup_append] at hnd;obtain⟨h1,h2,h3⟩:=hnd;rw[List.nodup_cons] at h2
 rcases List.mem_append.1 hy with hy|hy
 ·exact⟨List.mem_append.2 (.inl hy),h3 _ (List.mem_map.2 ⟨y,hy,rfl⟩) _ List.mem_cons_self⟩
 ·exact⟨List.mem_append.2 (.inr (List.mem_cons_of_mem _ hy)),fun h=>h2.1 (h▸List.mem_map.2 ⟨y,hy,rfl⟩)⟩
def IR (C own own':List Nat):Prop:=own'.length=own.length∧∀ j,own'.getD j 0=if j∈C then 0 else own.getD j 0
theorem IR.get {C own own':List Nat} (h:IR C own own') {c r:Nat} (hr:r≠0):own'[c]? = some r↔own[c]? = some r∧c∉C:=by
 have h1:=h.2 c;rw[List.getD_eq_getElem?_getD,List.getD_eq_getElem?_getD] at h1;have hl:=h.1
 rcases Nat.lt_or_ge c own.length with hc|hc
 ·rw[List.getElem?_eq_getElem hc,List.getElem?_eq_getElem (show c < own'.length by omega)] at h1 ⊢;simp only[Option.getD_some,Option.some.injEq] at h1 ⊢;rw[h1];by_cases h2:c∈C
  ·rw[if_pos h2];exact⟨fun h=>absurd h.symm hr,fun h=>absurd h2 h.2⟩
  ·rw[if_neg h2];exact⟨fun h=>⟨h,h2⟩,fun h=>h.1⟩
 ·rw[List.getElem?_eq_none hc,List.getElem?_eq_none (by omega)];exact⟨fun h=>(by cases h),fun h=>(by cases h.1)⟩
theorem dr {s:CS} (h:WF s) (hnd:(s.par.map (·.1)).Nodup) {x:Int} (hx:∀ (k g:Nat) (e:Q9),s.tab[k]? = some ⟨g,some e⟩→e.region≠x) {b0:Nat} {SP:QE} {p1 p2:List (Int×Nat×QE)} (hsps:s.sps=p1++(x,b0,SP)::p2)
  {b1:Nat} {M:List Nat} {m1 m2:List (Int×Nat×List Nat)} (hmns:s.mns=m1++(x,b1,M)::m2) {own':List Nat} (hF:IR (QX SP.parts) s.own own'):WF { s with own:=own',par:=QB s.par x,sps:=p1++p2,mns:=m1++m2 }:=by
 have hS:=h.spc (x,b0,SP) (by rw[hsps];simp);have hxk:x∈s.par.map (·.1):=by rw[← h.skeys,hsps];simp
 obtain⟨e1,e2⟩:=dq hnd hxk;obtain⟨s1,s2⟩:=U7 (f:=fun y:Int×Nat×QE=>y.1) hsps (by rw[h.skeys];exact hnd);obtain⟨t1,t2⟩:=U7 (f:=fun y:Int×Nat×List Nat=>y.1) hmns (by rw[h.mkeys];exact hnd)
 have hown:∀ (c r:Nat),r≠0→(own'[c]? = some r↔s.own[c]? = some r∧(r:Int)≠x):=by
  intro c r hr;rw[hF.get hr];constructor
  ·rintro⟨h1,h2⟩;exact⟨h1,fun h3=>h2 ((hS.owned c).2 ⟨r,h1,h3,hr⟩)⟩
  ·rintro⟨h1,h2⟩;refine⟨h1,fun h3=>?_⟩;obtain⟨q,h4,h5,h6⟩:=(hS.owned c).1 h3;rw[h1] at h4;injection h4 with h4
   subst h4;exact h2 h5
 have hl:=hF.1;refine⟨h.size,by show 1≤own'.length∧own'.length≤63;rw[hl];exact h.own,h.slots,h.lays,h.gen,fun i g e hi=>?_,h.apart,⟨?_,h.par.2.1,fun r q hr=>h.par.2.2 r q ((e2 r q).1 hr).1⟩,?_,?_,fun y hy=>?_,fun y hy=>h.free y (s2 y hy).1,fun c r hc hr=>?_,fun y hy=>h.mine y (t2 y hy).1⟩
 ·obtain⟨h1,⟨h2,h3⟩,q,h4⟩:=h.obj i g e hi;have hne:=hx i g e hi;refine⟨h1,⟨by show QM e≤own'.length*s.size;rw[hl];exact h2,fun c hc1 hc2=>?_⟩,q,(e2 _ _).2 ⟨h4,hne⟩⟩;obtain⟨r,h5,h6,h7⟩:=h3 c hc1 hc2;exact⟨r,(hown c r (by omega)).2 ⟨h5,by rw[h6];exact hne⟩,h6,h7⟩
 ·have h1:=congrArg List.length e1;rw[List.length_map] at h1;have h2:=List.length_filter_le (·≠x) (s.par.map (·.1));rw[List.length_map] at h2;have:=h.par.1;show (QB s.par x).length≤64;omega
 ·show (p1++p2).map (fun y=>y.1)=(QB s.par x).map (·.1);rw[s1,e1,h.skeys]
 ·show (m1++m2).map (fun y=>y.1)=(QB s.par x).map (·.1);rw[t1,e1,h.mkeys]
 ·obtain⟨hy1,hy2⟩:=s2 y hy;have hy2:y.1≠x:=hy2;obtain⟨a,b,c,d,e⟩:=h.spc y hy1;refine⟨a,b,fun z hz=>by rw[hl];exact c z hz,d,fun z=>?_⟩;rw[e];constructor
  ·rintro⟨q,h1,h2,h3⟩;exact⟨q,(hown z q h3).2 ⟨h1,by rw[h2];exact hy2⟩,h2,h3⟩
  ·rintro⟨q,h1,h2,h3⟩;exact⟨q,((hown z q h3).1 h1).1,h2,h3⟩
 ·obtain⟨h1,h2⟩:=(hown c r hr).1 hc;obtain⟨q,hq⟩:=h.live c r h1 hr;exact⟨q,(e2 _ _).2 ⟨hq,h2⟩⟩
theorem Ag {s:CS} (hw:WF s) {x:Int×Nat×QE} (hx:x∈s.sps):x.2.2.parts.length≤63∧(∀ p∈x.2.2.parts,1≤p.2∧p.1+p.2≤s.own.length)∧(QX x.2.2.parts).length≤63∧(QX x.2.2.parts).Nodup∧(∀ c∈QX x.2.2.parts,s.own.getD c 0≠0)∧x.2.2.fin≤1000000:=by
 have h:=hw.spc x hx;have ho:=hw.own.2;refine⟨Nat.le_trans (N4 h) ho,h.parts,?_,h.nodup,fun c hc=>?_,?_⟩
 ·have h3:=GC h.nodup (l₂:=List.range s.own.length) (fun c hc=>by
   obtain⟨q,hq,_,_⟩:=(h.owned c).1 hc;exact List.mem_range.2 (List.getElem?_eq_some_iff.1 hq).1)
  rw[List.length_range] at h3;omega
 ·obtain⟨q,h1,h2,h3⟩:=(h.owned c).1 hc;rw[List.getD_eq_getElem?_getD,h1,Option.getD_some];exact h3
 ·by_cases hf:x.2.2.fin=0
  ·omega
  ·obtain⟨c,h1,_,h2⟩:=h.fin hf;have h4:=(h.parts _ h2).2;have h4:c+1≤s.own.length:=h4;have:=Nat.mul_le_mul (show c+1≤63 by omega) hw.size.2;omega
theorem dt {s s':CS} {mem:List Nat} (m:VI s mem) (h1:s'.own.length=s.own.length) (h2:s'.size=s.size) (h3:s'.tab=s.tab):VI s' mem:=
 ⟨by rw[h1,h2];exact m.len,fun i g e hi=>m.head i g e (by rw[← h3];exact hi),fun i g e hi=>m.words i g e (by rw[← h3];exact hi)⟩
end Go.Proofs.YtmjdnljneifpcaaGreatDoor
namespace Go.Proofs.YtmjdnljneifpcaaGreatDoor
open Go.SL
theorem du [Q4] (p size:Nat) (mem own:List Nat) (c o:Nat) (ho:1≤o) (h63:own.length≤63) (hc:c < own.length) (h0:own.getD c 0≠0) {w:World} {fr:List Q2} (H:Q0 w (ST p size mem own::fr)) :
  Calls Tryz.prog 214 #[pp p,.int .i64 c,.int .i64 o] w (ret fun v w'=>v = .int .i64 0∧Q0 w' (ST p size mem (own.set c o)::fr)):=by
 refine QQ Tryz.func214 rfl (by kernel_rfl) ?_;refine J7 H ?_;refine Vy (fun ms σ w=>ms=[]∧σ 0=pp p∧σ 1 = .int .i64 c∧σ 2 = .int .i64 o∧Q0 w (ST p size mem own::fr)) ?_ ?_
 ·refine DO H ?_;rw[show decide ((o:Int) < 1)=false from decide_eq_false (by omega)];refine Y0 H ?_;exact .inl ⟨rfl,rfl,rfl,rfl,rfl,H⟩
 clear H;rintro ms σ w ⟨rfl,g0,g1,g2,H⟩;rw[Q1 g0,Q1 g1,Q1 g2];refine J5 H ?_;refine Jc rfl rfl (Nv p size mem own c hc h0 H) ?_;clear H;rintro v w ⟨rfl,H⟩;refine YD H ?_;obtain⟨v,v2,u,ws,many,hok,H⟩:=U0 H;obtain⟨x,rfl,hb,rfl,hx⟩:=HA hok h63;obtain⟨a2,c2,rfl⟩:=QD (H.drop.drop) (QF own) (by decide);have hcl:=hok.c2;replace H:=Js [2,0,0] 0 H;obtain⟨b,s,rfl,H,_,_,hclose⟩:=Yv H (by omega);refine J8 H ?_;refine Qn (fun ms σ w=>ms=[]∧σ 7 = .int .i64 0∧Q0 w (NL (.slice (some ⟨b,0,none⟩) own.length c2) (own.set c o)::pts p (row 141 [v,.int .i64 size,.slice (some ⟨b,0,none⟩) own.length c2,pp u])::UL v mem::BM u own.length [x] (YP own.length x)::fr)) ?_ ?_
 ·refine Vg rfl ?_;refine GY H ?_;refine Jd ?_;refine Q5 rfl (Yf H rfl rfl inferInstance rfl (by simp only[List.length_append,QF];omega) rfl ?_);clear H;intro w H;have e0:(QK own++s).set (0+((c:Nat):Int).toNat*1) (.int .i64 o)=QK (own.set c o)++s:=ED (by omega);rw[e0] at H;replace H:=hclose _ _ _ (by rw[QF,QF,List.length_set]) H;refine Q6 ?_;exact⟨rfl,rfl,rfl,H⟩
 ·clear H;rintro ms σ w ⟨rfl,g7,H⟩;rw[Q1 g7];refine J4 H ?_;replace H:=Js [1,1,0,0] 0 H
  have hx':∀ i,i < (own.set c o).length→x.testBit i=decide ((own.set c o).getD i 0≠0):=by
   intro i hi;rw[List.length_set] at hi;rw[List.getD_eq_getElem?_getD,List.getElem?_set];by_cases hic:c=i
   ·subst hic;rw[if_pos rfl,if_pos hc,hx c hi,decide_eq_true h0]
    symm
    show decide (o≠0)=true;exact decide_eq_true (by omega)
   ·rw[if_neg hic,hx i hi,List.getD_eq_getElem?_getD]
  refine Q3 (Jy (GR (own:=own.set c o) (ws:=[x]) (many:=YP own.length x) ⟨hok.s1,hok.s2,by rw[List.length_set];exact hok.c1,by rw[List.length_set];exact hok.c2,by rw[List.length_set];exact hok.len,by have:=EE _ _ hx';rw[List.length_set] at this;exact this,fun _=>⟨_,rfl,by rw[List.length_set];exact hb.lt,hx'⟩⟩ (by rw[List.length_set];exact H)) rfl fun w' H'=>⟨rfl,H'⟩)
end Go.Proofs.YtmjdnljneifpcaaGreatDoor
namespace Go.Proofs.YtmjdnljneifpcaaGreatDoor
open Go.SL
set_option maxRecDepth 10000 in
theorem O2 [Q4] (p sp owner:Nat) (S:QE) (size:Nat) (mem own:List Nat) (c n:Nat) (ho:1≤owner) (hp:S.parts.length≤100000) (h63:own.length≤63)
  (hown:∀ j,j < n→c+j < own.length∧own.getD (c+j) 0≠0) (hc:c < 64) (hn:n < 64) {w:World} {fr:List Q2} (H:Q0 w (Qi p sp owner S::ST sp size mem own::fr)) :
  Calls Tryz.prog 136 #[pp p,.agg #[.int .i64 c,.int .i64 n]] w (ret fun v w'=>v = .tuple #[]∧Q0 w' (Qi p sp owner { S with parts:=S.parts++[(c,n)] }::ST sp size mem (V3 own c n owner)::fr)):=by
 refine QQ Tryz.func136 rfl (by kernel_rfl) ?_;refine J6 H ?_;clear H;intro b3 w H;refine Q6 ?_;refine AU H ?_;replace H:=Js [2,1,0] 0 H;refine J8 H ?_;refine Qn (fun ms σ w=>ms=[]∧σ 0=pp p∧σ 3=pp b3∧Q0 w (ST sp size mem (V3 own c n owner)::Qi p sp owner S::pts b3 (row 208 [.int .i64 c,.int .i64 n])::fr)) ?_ ?_
 ·refine QS ?_;refine Qj (fun ms σ w z=>ms=[]∧∃ j:Nat,j≤n∧z=n - j∧σ 0=pp p∧σ 3=pp b3∧σ 6 = .int .i64 n∧σ 7 = .int .i64 j∧Q0 w (ST sp size mem (V3 own c j owner)::Qi p sp owner S::pts b3 (row 208 [.int .i64 c,.int .i64 n])::fr)) (m:=n) ⟨rfl,0,by omega,rfl,rfl,rfl,rfl,rfl,by rw[EI];exact H⟩ ?_;clear H;rintro ms σ w z ⟨rfl,j,hj,rfl,g0,g3,g6,g7,H⟩;rw[Q1 g0,Q1 g3,Q1 g6,Q1 g7];refine J7 H ?_;refine Qf rfl (fun h=>QW ?_) (fun h=>Qp ?_)
  ·have hlt:j < n:=by omega
   obtain⟨ho1,ho2⟩:=hown j hlt;have hsl:(V3 own c j owner).length=own.length:=Vq (by omega);obtain⟨a,cc,H⟩:=Zy H.swap;replace H:=Js [2,0,1,0] 0 H;refine R4 H ?_;refine J1 H ?_;clear H;intro w H;refine Uw H ?_;refine Kt H ?_;refine Xa H ?_;rw[show IntKind.i64.wrap ((c:Int)+(j:Int))=((c+j:Nat):Int) by rw[QT (by omega) (by omega)];omega];refine Bo H ?_;refine Jl 11 [] H ?_;refine Jo 12 H ?_;refine Jk rfl rfl (du sp size mem (V3 own c j owner) (c+j) owner ho (by omega) (by omega) (by rw[RU (by omega),if_neg (by omega)];exact ho2) H) ?_;clear H;rintro v w ⟨rfl,H⟩;rw[Nz (by omega)] at H;refine Jx H ?_;replace H:=Js [1,2,0,0] 0 H;replace H:=(Z0 (S:=S) H).swap;refine J4 H ?_;exact⟨_,⟨rfl,j+1,hlt,rfl,rfl,rfl,rfl,Qb (by omega),H⟩,by omega⟩
  ·have hge:j=n:=by omega
   subst hge;exact⟨rfl,rfl,rfl,rfl,H⟩
 clear H;rintro ms σ w ⟨rfl,g0,g3,H⟩;rw[Q1 g0,Q1 g3];obtain⟨a,cc,H⟩:=Zy H.swap;replace H:=Js [0,2,0,0] 0 H;refine J1 H ?_;clear H;intro w H;refine W3 H ?_;refine Jl 4 [7,10] H ?_;refine Fo H ?_;refine Jo 6 H ?_;refine Rt H ?_;clear H;intro b30 w H;replace H:=Js [3,0,0,0] 0 H;refine Jo 7 H ?_;refine YC H rfl rfl (by repeat first|exact .nil _|apply QY.cons rfl) rfl (by decide) (by rw[Gd XV];simp only[List.length_cons,List.length_nil];omega) rfl rfl ?_;clear H;intro v31 w H;obtain⟨a31,m31,c31,rfl⟩:=Qq H;have e1:S.parts.flatMap Vb++[.int .i64 c,.int .i64 n]=(S.parts++[(c,n)]).flatMap Vb:=by simp
 rw[e1] at H;refine Ja 8 ?_;refine Jf 9 ?_;refine Jo 10 H ?_;refine Uh H ?_;clear H;intro w H;refine Jx H ?_;replace H:=Js [2,0,2] 2 H;exact Y4 _ (.inl rfl) (Z0 (S:={ S with parts:=S.parts++[(c,n)] }) H) rfl fun w' H'=>⟨rfl,H'⟩
end Go.Proofs.YtmjdnljneifpcaaGreatDoor
namespace Go.SL
open Go.Op
section
variable {P:Program} {w:World}
theorem dv {t te:TypeId} {j:TypeInfo} {a b:Addr} {ca cb:Array Value} {ta tb:TypeId} (X Y:Operand) (hp:P.underlying t=some (.pointer te)) (hte:P.info? te=some j) (hsz:j.size≠0) (hne:a≠b) (ha:w.heap[a.block]? = some (.cells ca ta (0,0))) (hb:w.heap[b.block]? = some (.cells cb tb (0,0))) :
  (do eqGuard .eql t X Y (.pointer (some a)) (.pointer (some b));binOp .eql t (.pointer (some a)) (.pointer (some b)):Sem Value).run P w = .ok (.bool false) w:=by
 have h:=run_eql_ptr_other w hp hte hsz hne ha hb;simp[eqGuard,h]
theorem dw {t te:TypeId} {j:TypeInfo} (a:Addr) (X Y:Operand) (hp:P.underlying t=some (.pointer te)) (hte:P.info? te=some j) :
  (do eqGuard .neq t X Y (.pointer (some a)) (.pointer (some a));binOp .neq t (.pointer (some a)) (.pointer (some a)):Sem Value).run P w = .ok (.bool false) w:=by
 have h:∀ d:Nat,(Op.equalIn (d+1) t (.pointer (some a)) (.pointer (some a))).run P w = .ok true w:=fun d=>by
  simp[Op.equalIn,run_underlying hp,sizeOf,typeInfo,hte,run_sameAddr_same]
 simp[eqGuard,binOp,Op.equal,Op.maxDepth,h 9999]
end
section
variable {P:Program} {n:Nat} {r:Option Nat} {ops:Array Oper} {σ:QU} {w:World}
variable {ivs:List (List Nat×(World→Prop))} {T:QU→World→Prop} {f:Nat} {L:Array Bool}
variable {u t yt:TypeId} {p:String} {af:Array Edge} {g:Option (Nat×Bool)} {d:Option Tmp} {x y:Operand}
theorem dx [Q4] {l:List Q2} {te:TypeId} {a b E F k:Nat} {ca cb:List Value} (i:Nat) (D:List Nat) (H:Q0 w l) (hi:ops[i]? = some ⟨d,.binOp .eql t x y yt,u,p,af,g⟩) (hg:Q8 ops σ ⟨d,.binOp .eql t x y yt,u,p,af,g⟩ true) (hp:P.underlying t=some (.pointer te)) (hte:(P.info? te).map (·.size)=some (k+1))
  (hx:ev σ x = .pointer (some ⟨a,0,none⟩)) (hy:ev σ y = .pointer (some ⟨b,0,none⟩)) (hne:a≠b) [ha:At a (row E ca) l] [hb:At b (row F cb) l]
  (hs:YQ n ops (ivs.map (·.1)) L i D=true) (h:Any P n r ops ((D,fun w=>w.heap[a]? = some (row E ca)∧w.heap[b]? = some (row F cb))::ivs) T f (L.setIfInBounds i true) (put σ d (.bool false)) w):Any P n r ops ivs T (f+1) L σ w:=by
 obtain⟨j,hj,hk⟩:=Option.map_eq_some_iff.1 hte
 exact Av i D hi ⟨_,hi,fun c e=>(by cases e),.inl ⟨hg,fun w hw=>by
  simp only[execOp,hx,hy,Sem.run_bind];rw[← Sem.run_bind,dv x y hp hj (by omega) (fun e=>hne (by injection e)) hw.1 hw.2];rfl⟩⟩ hs h
theorem dy {te:TypeId} {a:Addr} {k:Nat} (i:Nat) (hi:ops[i]? = some ⟨d,.binOp .neq t x y yt,u,p,af,g⟩) (hg:Q8 ops σ ⟨d,.binOp .neq t x y yt,u,p,af,g⟩ true) (hp:P.underlying t=some (.pointer te)) (hte:(P.info? te).map (·.size)=some k)
  (hx:ev σ x = .pointer (some a)) (hy:ev σ y = .pointer (some a))
  (hs:YQ n ops (ivs.map (·.1)) L i []=true) (h:Any P n r ops ivs T f (L.setIfInBounds i true) (put σ d (.bool false)) w):Any P n r ops ivs T (f+1) L σ w:=by
 obtain⟨j,hj,hk⟩:=Option.map_eq_some_iff.1 hte
 exact Gq i hi hg (fun c e=>by cases e) (fun w=>by
  simp only[execOp,hx,hy,Sem.run_bind];rw[← Sem.run_bind,dw a x y hp hj];rfl) hs h
end
end Go.SL
namespace Go.Proofs.YtmjdnljneifpcaaGreatDoor
open Go.SL
theorem dz [Q4] {w:World} {p o sp owner sp2 owner2:Nat} {S T:QE} {l:List Q2} (H:Q0 w (Qi p sp owner S::Qi o sp2 owner2 T::l)):p≠o:=by
 obtain⟨a,c,H⟩:=Zy H;replace H:=Js [2,0,0] 0 H;obtain⟨a2,c2,H⟩:=Zy H;replace H:=Js [2,0,0,0] 0 H;exact Q0.ne H
theorem O3 [Q4] (p o sp owner owner2:Nat) (S T:QE) {w:World} {fr:List Q2} (H:Q0 w (Qi p sp owner S::Qi o sp owner2 T::fr)) :
  Calls Tryz.prog 135 #[pp p,pp o] w (ret fun v w'=>v = .int .i64 0∧Q0 w' (Qi p sp owner S::Qi o sp owner2 T::fr)):=by
 have hne:=dz H;obtain⟨a,c,H⟩:=Zy H;replace H:=Js [2,0,0] 0 H;obtain⟨a2,c2,H⟩:=Zy H;refine QQ Tryz.func135 rfl (by kernel_rfl) ?_;refine J7 H ?_;refine Vy (fun ms σ w=>ms=[]∧Q0 w (pts o (row 206 [pp sp,.int .i64 owner2,.slice a2 T.parts.length c2,.int .i64 T.at',.int .i64 T.fin])::QC 208 2 (.slice a2 T.parts.length c2) (T.parts.flatMap Vb)::pts p (row 206 [pp sp,.int .i64 owner,.slice a S.parts.length c,.int .i64 S.at',.int .i64 S.fin])::QC 208 2 (.slice a S.parts.length c) (S.parts.flatMap Vb)::fr)) ?_ ?_
 ·refine Ku H ?_;refine J1 H ?_;clear H;intro w H;refine Ja 0 ?_;refine Pd 1 rfl (Q8.none rfl) rfl rfl (.inl rfl) (by kernel_rfl) ?_;refine Ja 2 ?_;refine Ja 3 ?_;refine Ja 4 ?_;refine dx (k:=4) 5 [] H rfl (Q8.of rfl rfl rfl) Tryz.underlying119 (by kernel_rfl) rfl rfl (Ne.symm hne) (by kernel_rfl) ?_;refine Xa H ?_;refine Bo H ?_;refine Jl 11 [] H ?_;refine Xc H ?_;refine Jf 14 ?_;refine Jl 15 [] H ?_;refine dy (k:=4) 16 rfl (Q8.of rfl rfl rfl) Tryz.underlying34 (by kernel_rfl) rfl rfl (by kernel_rfl) ?_;refine Ja 17 ?_;refine Ja 18 ?_;refine FW (by kernel_rfl) (by repeat (first|exact Va.nil|refine Va.cons (.inr ⟨Q0.at H,Q0.at H⟩) ?_|refine Va.cons (.inr (Q0.at H)) ?_|refine Va.cons (.inl (by kernel_rfl)) ?_)) ?_;refine V5 H ?_;exact .inl ⟨rfl,rfl,H⟩
 clear H;rintro ms σ w ⟨rfl,H⟩;refine VC H ?_;replace H:=Js [2,2,0,0] 0 H;replace H:=Z0 (S:=S) H;replace H:=Js [1,1,0] 0 H;replace H:=Z0 (S:=T) H;exact Q3 (Jy H.swap rfl fun w' H'=>⟨rfl,H'⟩)
def Z5 (S T:QE):QE:=⟨S.parts++T.parts,if T.fin=0 then S.at' else T.at',if T.fin=0 then S.fin else T.fin⟩
set_option maxRecDepth 10000 in
theorem O4 [Q4] (p o sp owner owner2:Nat) (S T:QE) (size:Nat) (mem own:List Nat) (ho:1≤owner) (hS:S.parts.length≤1000) (hT:T.parts.length≤1000) (h63:own.length≤63)
  (hn:∀ x∈T.parts,1≤x.2∧x.1+x.2≤own.length) (hown:∀ c∈QX T.parts,own.getD c 0≠0) {w:World} {fr:List Q2} (H:Q0 w (Qi p sp owner S::Qi o sp owner2 T::ST sp size mem own::fr)) :
  Calls Tryz.prog 72 #[pp p,pp o] w (ret fun v w'=>v = .int .i64 0∧∃ own':List Nat,own'.length=own.length∧(∀ j,own'.getD j 0=if j∈QX T.parts then owner else own.getD j 0)∧Q0 w' (Qi p sp owner (Z5 S T)::Qi o sp owner2 ⟨[],0,0⟩::ST sp size mem own'::fr)):=by
 refine QQ Tryz.func72 rfl (by kernel_rfl) ?_;refine Uj H ?_;refine Jc rfl rfl (O3 p o sp owner owner2 S T H) ?_;clear H;rintro v w ⟨rfl,H⟩;refine Yi H ?_;replace H:=Js [1,0,0] 0 H;obtain⟨a2,c2,H⟩:=Zy H;refine Ya H ?_;refine Bg H ?_;refine Qn (fun ms σ w=>ms=[]∧σ 0=pp p∧σ 1=pp o∧∃ own':List Nat,own'.length=own.length∧(∀ j,own'.getD j 0=if j∈QX T.parts then owner else own.getD j 0)∧Q0 w (Qi p sp owner { S with parts:=S.parts++T.parts }::ST sp size mem own'::pts o (row 206 [pp sp,.int .i64 owner2,.slice a2 T.parts.length c2,.int .i64 T.at',.int .i64 T.fin])::QC 208 2 (.slice a2 T.parts.length c2) (T.parts.flatMap Vb)::fr)) ?_ ?_
 ·refine QS ?_;replace H:=Js [2,2,0,0] 0 H;refine Qj (fun ms σ w z=>ms=[]∧∃ (i:Nat) (own':List Nat),i≤T.parts.length∧z=T.parts.length - i∧own'.length=own.length∧(∀ j,own'.getD j 0=if j∈QX (T.parts.take i) then owner else own.getD j 0)∧σ 0=pp p∧σ 1=pp o∧σ 17 = .slice a2 T.parts.length c2∧σ 18 = .int .i64 T.parts.length∧σ 19 = .int .i64 i∧Q0 w (Qi p sp owner { S with parts:=S.parts++T.parts.take i }::ST sp size mem own'::pts o (row 206 [pp sp,.int .i64 owner2,.slice a2 T.parts.length c2,.int .i64 T.at',.int .i64 T.fin])::QC 208 2 (.slice a2 T.parts.length c2) (T.parts.flatMap Vb)::fr)) (m:=T.parts.length) ⟨rfl,0,own,by omega,rfl,rfl,(fun j=>by rw[if_neg (by simp[QX])]),rfl,rfl,rfl,rfl,rfl,by rw[List.take_zero,List.append_nil];exact H⟩ ?_;clear H;rintro ms σ w z ⟨rfl,i,own',hi,rfl,hol,hog,g0,g1,g17,g18,g19,H⟩;rw[Q1 g0,Q1 g1,Q1 g17,Q1 g18,Q1 g19];refine J7 H ?_;refine Qf rfl (fun h=>QW ?_) (fun h=>Qp ?_)
  ·have hlt:i < T.parts.length:=by omega
   have hx:=List.getElem?_eq_getElem hlt;have htk:T.parts.take (i+1)=T.parts.take i++[T.parts[i]]:=by rw[List.take_add_one,hx];rfl
   have hmem:=List.getElem_mem hlt;generalize T.parts[i]=x at hx htk hmem;obtain⟨c,n⟩:=x;obtain⟨hn1,hn2⟩:=hn _ hmem;have hn1:1≤n:=hn1;have hn2:c+n≤own.length:=hn2;replace H:=Js [3,0,0,0] 0 H;obtain⟨bT,sT,rfl,H,hcl⟩:=Qx H (by omega);have hrd:QY (T.parts.flatMap Vb++sT) (i*2+0) 2 (Vb (c,n)):=Wk (vs:=Vb (c,n)) XV hx (by repeat first|exact .nil _|apply QY.cons rfl);have ei:0+((i:Nat):Int).toNat*2=i*2:=by simp
   refine YY H ?_;refine Jd ?_;rw[ei];refine Q5 rfl (VH H rfl hrd rfl ?_);refine VZ H ?_;clear H;intro b7 w H;refine J3 H ?_;clear H;intro w H;refine Q6 ?_;replace H:=Js [1,0,0] 0 H;replace H:=hcl _ _ H;replace H:=Js [2,2,1,0] 0 H;refine Ge H ?_
   have hg:=O2 p sp owner { S with parts:=S.parts++T.parts.take i } size mem own' c n ho (by show (S.parts++T.parts.take i).length≤100000;rw[List.length_append,List.length_take];omega) (by omega) (fun j hj=>⟨by omega,by
    rw[hog];split
    ·omega
    ·exact hown _ (List.mem_flatMap.2 ⟨(c,n),hmem,List.mem_map.2 ⟨j,List.mem_range.2 hj,rfl⟩⟩)⟩) (by omega) (by omega) H
   refine Jc rfl rfl (hg) ?_;clear H hg;rintro v w ⟨rfl,H⟩;refine Ux H ?_;replace H:=Js [0,0,2,1] 1 H;have hpe:(S.parts++T.parts.take i)++[(c,n)]=S.parts++T.parts.take (i+1):=by rw[htk,List.append_assoc]
   rw[hpe] at H;have hch:QX (T.parts.take (i+1))=QX (T.parts.take i)++(List.range n).map (c+·):=by rw[htk,GA,Xl]
   refine⟨_,⟨rfl,i+1,V3 own' c n owner,hlt,rfl,by rw[Vq (by omega)];exact hol,(fun j=>?_),rfl,rfl,rfl,rfl,Qb (by omega),H⟩,by omega⟩;rw[RU (by omega),hch,hog];by_cases h1:c≤j∧j < c+n
   ·rw[if_pos h1,if_pos (List.mem_append.2 (.inr (GB.2 h1)))]
   ·rw[if_neg h1];by_cases h2:j∈QX (T.parts.take i)
    ·rw[if_pos h2,if_pos (List.mem_append.2 (.inl h2))]
    ·rw[if_neg h2,if_neg];intro h3
     rcases List.mem_append.1 h3 with h3|h3
     ·exact h2 h3
     ·exact h1 (GB.1 h3)
  ·have hge:i=T.parts.length:=by omega
   subst hge;rw[List.take_length] at hog H;exact⟨rfl,rfl,rfl,rfl,own',hol,hog,H⟩
 clear H;rintro ms σ w ⟨rfl,g0,g1,own',hol,hog,H⟩;rw[Q1 g0,Q1 g1];obtain⟨a,c,H⟩:=Zy H;replace H:=Js [3,0,0,0] 0 H;refine Ya H ?_;refine Y1 H ?_;refine Qn (fun ms σ w=>ms=[]∧σ 1=pp o∧Q0 w (pts o (row 206 [pp sp,.int .i64 owner2,.slice a2 T.parts.length c2,.int .i64 T.at',.int .i64 T.fin])::pts p (row 206 [pp sp,.int .i64 owner,.slice a (S.parts++T.parts).length c,.int .i64 (Z5 S T).at',.int .i64 (Z5 S T).fin])::QC 208 2 (.slice a (S.parts++T.parts).length c) ((S.parts++T.parts).flatMap Vb)::ST sp size mem own'::QC 208 2 (.slice a2 T.parts.length c2) (T.parts.flatMap Vb)::fr)) ?_ ?_
 ·by_cases hf:T.fin=0
  ·rw[show decide (((T.fin:Nat):Int) > 0)=false from decide_eq_false (by omega)];refine VU rfl (QW ?_);refine⟨rfl,rfl,rfl,?_⟩;unfold Z5;rw[if_pos hf,if_pos hf];exact H
  ·rw[show decide (((T.fin:Nat):Int) > 0)=true from decide_eq_true (by omega)];refine Vg rfl ?_;refine J1 H ?_;clear H;intro w H;refine EQ H ?_;refine Jf 4 ?_;refine Jl 5 [12,15] H ?_;refine AZ H ?_;refine Jl 9 [12,15] H ?_;refine Ja 10 ?_;refine Jf 11 ?_;refine Jo 12 H ?_;refine Uh H ?_;clear H;intro w H;refine Ja 13 ?_;refine Jf 14 ?_;refine Jo 15 H ?_;refine Uh H ?_;clear H;intro w H;refine Jx H ?_;refine⟨rfl,rfl,rfl,?_⟩;unfold Z5;rw[if_neg hf,if_neg hf];exact H
 clear H;rintro ms σ w ⟨rfl,g1,H⟩;rw[Q1 g1];refine XS H ?_;refine Ui H ?_;clear H;intro w H;refine GU H ?_;clear H;intro w H;refine GU H ?_;clear H;intro w H;refine Rw H ?_;replace H:=Yu (E:=208) (k:=2) H;replace H:=Js [1,0,0,0,0] 0 H;replace H:=Z0 (S:=⟨[],0,0⟩) H;replace H:=Js [1,1,0,0] 0 H;replace H:=Z0 (S:=Z5 S T) H;replace H:=Js [0,0,0] 1 H;refine Q3 (Jy H rfl fun w' H'=>⟨rfl,own',hol,hog,H'⟩)
end Go.Proofs.YtmjdnljneifpcaaGreatDoor
namespace Go.Proofs.YtmjdnljneifpcaaGreatDoor
open Go.SL
theorem e9 [Q4] (x:Option Nat) (m:List (Int×Int)) {w:World} {fr:List Q2} (H:Q0 w (YL (ki .i64) v1 (.map x) m::fr)) :
  Calls Tryz.prog 143 #[.map x] w
   (ret fun v w'=>∃ b,v = .func (.func 216) #[] #[pp b]∧Q0 w' (pts b (row 108 [.map x])::YL (ki .i64) v1 (.map x) m::fr)):=by
 refine QQ Tryz.func143 rfl (by kernel_rfl) ?_;refine ZW H ?_;clear H;intro b1 w H;refine YD H ?_;refine Q3 (Jy H rfl fun w' H'=>⟨b1,rfl,H'⟩)
theorem eQ [Q4] (yl b:Nat) (x:Option Nat) (m:List (Int×Int)) (J:List Int→Q2)
  (hy:∀ ks r rest w,ks.length < m.length→Q0 w (J ks::rest)→SL.Yields Tryz.prog yl #[(.int .i64 r)] w (fun v w'=>v = .bool true∧Q0 w' (J (ks++[r])::rest)))
  {w:World} {fr:List Q2} (H:Q0 w (J []::pts b (row 108 [.map x])::YL (ki .i64) v1 (.map x) m::fr)) :
  Calls Tryz.prog 216 #[.func (.yield yl) #[] #[],pp b] w
   (ret fun _ w'=>∃ ks,ks.Perm (m.map (·.1))∧Q0 w' (J ks::YL (ki .i64) v1 (.map x) m::fr)):=by
 refine QQ Tryz.func216 rfl (by kernel_rfl) ?_;refine Gz H ?_;replace H:=Js [2,0,0] 0 H;refine Q5 rfl (FN (ki .i64) v1 H rfl rfl ?_);clear H;intro bi w H;refine Q6 ?_;refine QS ?_;refine Qj (fun ms σ w n=>ms=[]∧∃ ks:List Int,σ 0 = .func (.yield yl) #[] #[]∧σ 5=pp bi∧n=m.length - ks.length∧Q0 w (K0 (ki .i64) v1 (.map x) m bi ks::J ks::pts b (row 108 [.map x])::fr)) (m:=m.length) ⟨rfl,[],rfl,rfl,rfl,H⟩ ?_;clear H w;rintro ms σ w n ⟨rfl,ks,h0,h5,rfl,H⟩;rw[Q1 h0,Q1 h5];refine GZ H ?_;refine Q5 rfl (FO H VP.inj rfl rfl (fun hp w H=>?_) (fun q hq hn hnd hsub w H=>?_))
 ·refine Y1 H ?_;refine KQ H ?_;replace H:=FM H;replace H:=Js [1,0] 1 H;exact Y4 _ (.inl rfl) H rfl fun w' H'=>⟨ks,hp,H'⟩
 ·have hlt:ks.length < m.length:=by
   have h1:(ks++[q.1]).Nodup:=by
    rw[List.nodup_append];exact⟨hnd,by simp,fun c hc c' hc' e0=>by simp at hc';subst hc';subst e0;exact hn hc⟩
   have h2:=GC h1 (l₂:=m.map (·.1)) (fun z hz=>by
    rcases List.mem_append.1 hz with hz|hz
    ·exact hsub z hz
    ·simp at hz;subst hz;exact List.mem_map_of_mem hq)
   simp at h2;omega
  refine Y1 H ?_;refine XT H ?_;refine QS ?_;refine GZ H ?_;refine Q5 rfl (FP H VP.inj hq rfl rfl ?_);refine J2 H ?_;refine J5 H ?_;replace H:=Js [1,0,0] 0 H;refine Q5 rfl (Wb rfl rfl (SL.Yields.mono (hy ks q.1 _ _ hlt H) ?_));clear H;rintro v w ⟨rfl,H⟩;refine Y0 H ?_;replace H:=Js [1,0,0] 0 H;exact⟨_,⟨rfl,ks++[q.1],rfl,rfl,rfl,H⟩,by simp;omega⟩
def IW (L:Q2) (b2:Nat) (ks:List Int):Q2:=ex fun v:Value=>star [QC 3 1 v (Qc ks),L,pts b2 (row 31 [v])]
theorem O5 [Q4] {w:World} {L:Q2} {b2:Nat} {ks:List Int} {l:List Q2} (H:Q0 w (IW L b2 ks::l)):∃ v,Q0 w (QC 3 1 v (Qc ks)::L::pts b2 (row 31 [v])::l):=by
 obtain⟨v,H⟩:=Q0.ex.1 H;exact⟨v,Q0.star.1 H⟩
theorem O6 [Q4] {w:World} {L:Q2} {b2:Nat} {ks:List Int} {l:List Q2} {v:Value} (H:Q0 w (QC 3 1 v (Qc ks)::L::pts b2 (row 31 [v])::l)):Q0 w (IW L b2 ks::l):=
 Q0.ex.2 ⟨v,Q0.star.2 H⟩
theorem eV [Q4] (b:Nat) (x:Option Nat) (m:List (Int×Int)) (hm:m.length≤1000000) {w:World} {fr:List Q2} (H:Q0 w (pts b (row 108 [.map x])::YL (ki .i64) v1 (.map x) m::fr)) :
  Calls Tryz.prog 215 #[.slice none 0 0,.func (.func 216) #[] #[pp b]] w
   (ret fun v w'=>∃ ks,ks.Perm (m.map (·.1))∧Q0 w' (QC 3 1 v (Qc ks)::YL (ki .i64) v1 (.map x) m::fr)):=by
 refine QQ Tryz.func215 rfl (by kernel_rfl) ?_;refine ZW H ?_;clear H;intro b2 w H;refine BR H ?_;refine QS (Kp (a:=[]) (b:=[pp b]) H rfl (fun yl D w H=>?_));generalize hL:LR _ yl _ _ _ _ D .ready=L at H ⊢;replace H:=Yu (E:=3) (k:=1) H;replace H:=Js [0,0,1,1,1,0] 0 H;refine call (eQ yl b x m (IW L b2) ?_ (O6 (ks:=[]) H)) ?_
 ·intro ks r rest w hlt H;obtain⟨v,H⟩:=O5 H;have h1:=AJ H;subst hL;replace H:=Js [1,0,0] 0 H;refine Ko (args:=[.int .i64 r]) H rfl rfl ?_;refine VC H ?_;refine⟨rfl,_,H,fun w H=>QS ?_⟩;refine Xe H ?_;refine GG H ?_;clear H;intro b10 w H;replace H:=Js [2,0,0,0] 0 H;refine Q5 rfl (YC H rfl rfl (by repeat first|exact .nil _|apply QY.cons rfl) rfl (by decide) (by simp only[Vc,List.length_cons,List.length_nil];omega) rfl rfl ?_);clear H;intro v11 w H;obtain⟨a11,c11,rfl⟩:=QD (m:=ks.length+1) H (by simp[Vc]) (by decide);refine Q5 rfl (Yf H rfl rfl inferInstance (AJ H) (Nat.le_of_ble_eq_true rfl) rfl ?_);clear H;intro w H;refine Q6 ?_;replace H:=Js [2,0,1] 1 H;refine⟨rfl,_,H,fun w H=>⟨rfl,O6 (v := .slice a11 (ks.length+1) c11) ?_⟩⟩;replace H:=Js [1,0,0] 0 H;rw[AH];exact H
 ·rintro v w' ⟨ks,hp,H⟩;obtain⟨v2,H⟩:=O5 H;have h1:=AJ H;subst hL;replace H:=Js [1,0,0,0,0] 0 H;refine⟨_,H,fun w H=>?_⟩;refine Gz H ?_;refine UX H ?_;replace H:=Js [3,0,1] 1 H;exact Q3 (Rk (ms:=[D]) _ (.inr rfl) ((Q0.star (k:=[pts D (.deferred (some []))])).2 H) rfl fun w' H'=>⟨ks,hp,H'⟩)
theorem eY [Q4] (b:Nat) (x:Option Nat) (m:List (Int×Int)) (hm:m.length≤1000000) {w:World} {fr:List Q2} (H:Q0 w (pts b (row 108 [.map x])::YL (ki .i64) v1 (.map x) m::fr)) :
  Calls Tryz.prog 142 #[.func (.func 216) #[] #[pp b]] w
   (ret fun v w'=>∃ ks,ks.Perm (m.map (·.1))∧Q0 w' (QC 3 1 v (Qc ks)::YL (ki .i64) v1 (.map x) m::fr)):=by
 refine QQ Tryz.func142 rfl (by kernel_rfl) ?_;refine Ky H ?_;refine Jc rfl rfl (eV b x m hm H) ?_;rintro v w ⟨ks,hp,H⟩;refine UX H ?_;exact Q3 (Jy H rfl fun w' H'=>⟨ks,hp,H'⟩)
end Go.Proofs.YtmjdnljneifpcaaGreatDoor
namespace Go.Proofs.YtmjdnljneifpcaaGreatDoor
open Go.SL
theorem eZ [Q4] {K V:Type} [DecidableEq K] {ek:K→Value} {vv:V→Value} {b:Nat} {m:List (K×V)} {w:World} {l:List Q2} (H:Q0 w (YL ek vv (.map (some b)) m::l)):Q0 w (mp ek vv b m::l):=H.head fun h hm=>by
 rcases hm with ⟨h1,_⟩|⟨b',h1,h2⟩
 ·cases h1
 ·injection h1 with h1
  injection h1 with h1
  subst h1;exact h2
theorem eG {K V:Type} [DecidableEq K] {m:List (K×V)} {x:K} {v:V} (h:x∈m.map (·.1)):(Vp m x v).map (·.1)=m.map (·.1):=by
 induction m with
 | nil=>cases h
 | cons p l ih=>
  unfold Vp;split
  ·rename_i h1;rw[List.map_cons,List.map_cons,← h1]
  ·rename_i h1;rw[List.map_cons,List.mem_cons] at h;rw[List.map_cons,List.map_cons,ih (h.resolve_left fun h2=>h1 h2.symm)]
theorem eU [Q4] (p last:Nat) (par:List (Int×Int)) (id:Int) {w:World} {fr:List Q2} (H:Q0 w (Qg p last par::fr)) :
  Calls Tryz.prog 22 #[pp p,.int .i64 id] w (ret fun v w'=>v = .tuple #[.int .i64 ((QZ par id).getD 0),.int .i64 (if (QZ par id).isSome then 0 else 6)]∧Q0 w' (Qg p last par::fr)):=by
 refine QQ Tryz.func22 rfl (by kernel_rfl) ?_;refine X5 H ?_;refine Jc rfl rfl (HI p last par id H) ?_;clear H;rintro v w ⟨rfl,H⟩;cases hf:QZ par id with
 | none=>
  refine AX H ?_;exact Q3 (Jy H rfl fun w' H'=>⟨rfl,H'⟩)
 | some x=>
  refine Yi H ?_;obtain⟨b,H⟩:=KD H;refine J9 H ?_;refine Q5 rfl (Zt (key:=id) H rfl rfl VP rfl ?_);rw[hf];refine J2 H ?_;exact Q3 (Jy (Xk H) rfl fun w' H'=>⟨rfl,H'⟩)
def Ey (par:List (Int×Int)) (id q:Int) (par':List (Int×Int)):Prop:=par'.map (·.1)=(par.map (·.1)).filter (·≠id)∧∀ r,QZ par' r=if r=id then none else if QZ par r=some id then some q else QZ par r
theorem eX [Q4] (p last:Nat) (par:List (Int×Int)) (id:Int) (hnd:(par.map (·.1)).Nodup) (hl:par.length≤1000) {w:World} {fr:List Q2} (H:Q0 w (Qg p last par::fr)) :
  Calls Tryz.prog 79 #[pp p,.int .i64 id] w (ret fun v w'=>
   (QZ par id=none∧v = .tuple #[.int .i64 0,.int .i64 6]∧Q0 w' (Qg p last par::fr)) ∨
   (QZ par id=some 0∧v = .tuple #[.int .i64 0,.int .i64 16]∧Q0 w' (Qg p last par::fr)) ∨
   ∃ q par',QZ par id=some q∧q≠0∧Ey par id q par'∧v = .tuple #[.int .i64 q,.int .i64 0]∧Q0 w' (Qg p last par'::fr)):=by
 refine QQ Tryz.func79 rfl (by kernel_rfl) ?_;refine X5 H ?_;refine Jc rfl rfl (eU p last par id H) ?_;clear H;rintro v w ⟨rfl,H⟩;refine Rz H ?_;refine Vy (fun ms σ w=>ms=[]∧σ 0=pp p∧σ 1 = .int .i64 id∧∃ q,QZ par id=some q∧q≠0∧σ 6 = .int .i64 q∧Q0 w (Qg p last par::fr)) ?_ ?_
 ·refine QS ?_;cases hf:QZ par id with
  | none=>
   refine J5 H ?_;refine X4 H ?_;refine V8 H ?_;exact Q3 (.inr ⟨by simp,Jy H rfl fun w' H' => .inl ⟨rfl,rfl,H'⟩⟩)
  | some q=>
   refine J5 H ?_;refine BX H ?_;by_cases hq:q=0
   ·subst hq;refine J5 H ?_;refine BU H ?_;exact Q3 (.inr ⟨by simp,Jy H rfl fun w' H' => .inr (.inl ⟨rfl,rfl,H'⟩)⟩)
   ·refine J5 H ?_;rw[show (((some q).getD 0:Int) == 0)=false from by simpa using hq];refine Y0 H ?_;exact .inl ⟨rfl,rfl,rfl,rfl,q,rfl,hq,rfl,H⟩
 clear H;rintro ms σ w ⟨rfl,g0,g1,q,hf,hq,g6,H⟩;rw[Q1 g0,Q1 g1,Q1 g6];obtain⟨b,H⟩:=KD H;refine Ya H ?_;replace H:=Js [1,0] 0 H;replace H:=Cy H;refine Jc rfl rfl (e9 (some b) par H) ?_;clear H;rintro v w ⟨bk,rfl,H⟩
 refine Jc rfl rfl (eY bk (some b) par (by omega) H) ?_;clear H;rintro v w ⟨ks,hks,H⟩;obtain⟨ak,ck,rfl⟩:=QD H (Vc ks) (by decide);refine UK H ?_;have hkl:ks.length≤1000:=by rw[hks.length_eq,List.length_map];exact hl
 have hkn:ks.Nodup:=hks.nodup_iff.2 hnd;replace H:=Js [1,0] 0 H;replace H:=eZ H;replace H:=Js [2,0,0] 0 H;refine J8 H ?_;refine Qn (fun ms σ w=>ms=[]∧σ 0=pp p∧σ 1 = .int .i64 id∧σ 6 = .int .i64 q∧∃ par1,par1.map (·.1)=par.map (·.1)∧(∀ r,QZ par1 r=if QZ par r=some id then some q else QZ par r)∧Q0 w (pts p (row 122 [.map (some b),.int .i64 last])::mp (ki .i64) v1 b par1::fr)) ?_ ?_
 ·refine QS ?_;refine Qj (fun ms σ w n=>ms=[]∧∃ (i:Nat) (par1:List (Int×Int)),i≤ks.length∧n=ks.length - i∧par1.map (·.1)=par.map (·.1)∧(∀ r,QZ par1 r=if r∈ks.take i∧QZ par r=some id then some q else QZ par r)∧σ 0=pp p∧σ 1 = .int .i64 id∧σ 6 = .int .i64 q∧σ 28 = .slice ak ks.length ck∧σ 29 = .int .i64 ks.length∧σ 30 = .int .i64 i∧Q0 w (pts p (row 122 [.map (some b),.int .i64 last])::mp (ki .i64) v1 b par1::IL (.slice ak ks.length ck) ks::fr)) (m:=ks.length) ⟨rfl,0,par,by omega,rfl,rfl,(fun r=>by rw[if_neg (by simp)]),rfl,rfl,rfl,rfl,rfl,rfl,H⟩ ?_;clear H;rintro ms σ w n ⟨rfl,i,par1,hi,rfl,hp1,hp2,g0,g1,g6,g28,g29,g30,H⟩;rw[Q1 g0,Q1 g1,Q1 g6,Q1 g28,Q1 g29,Q1 g30];refine J7 H ?_;refine Qf rfl (fun h=>QW ?_) (fun h=>Qp ?_)
  ·have hlt:i < ks.length:=by omega
   have hx:=List.getElem?_eq_getElem hlt;have htk:ks.take (i+1)=ks.take i++[ks[i]]:=by rw[List.take_add_one,hx];rfl
   have hnt:ks[i]∉ks.take i:=fun hh=>by
    obtain⟨j,hj⟩:=List.getElem?_of_mem hh;rw[List.getElem?_take] at hj;split at hj
    ·rename_i hji;obtain⟨hj1,hj2⟩:=List.getElem?_eq_some_iff.1 hj;exact(List.pairwise_iff_getElem.1 hkn) j i hj1 hlt hji hj2
    ·cases hj
   have hxm:ks[i]∈par.map (·.1):=hks.mem_iff.1 (List.getElem_mem hlt);generalize ks[i]=x at hx htk hnt hxm
   obtain⟨y,hy⟩:∃ y,QZ par x=some y:=by
    cases hf:QZ par x with
    | some y=>exact⟨y,rfl⟩
    | none=>exact absurd hxm (Rn.1 hf)
   have hy1:QZ par1 x=some y:=by rw[hp2,if_neg (fun h=>hnt h.1),hy]
   replace H:=Js [2,0,0] 0 H;obtain⟨bT,sT,rfl,H,hcl⟩:=Qx H (by omega);refine YY H ?_;refine Jd ?_;refine Q5 rfl (QA H rfl (by simpa using U5 hx) rfl ?_);refine J0 H ?_;replace H:=hcl _ _ H;replace H:=Js [1,1,0] 0 H;refine J9 H ?_;refine Q5 rfl (Zt (key:=x) H rfl rfl VP rfl ?_);rw[hy1];refine J2 H ?_;by_cases hyi:y=id
   ·subst hyi;rw[show (y == y)=true from beq_self_eq_true y];refine VD H ?_;refine GY H ?_;refine Q5 rfl (XI (key:=x) (v:=q) H rfl rfl rfl VP rfl ?_);clear H;intro w H;refine Ux H ?_;refine⟨_,⟨rfl,i+1,Vp par1 x q,hlt,rfl,?_,fun r=>?_,rfl,rfl,rfl,rfl,rfl,Qb (by omega),H⟩,by omega⟩
    ·rw[eG (by rw[hp1];exact hxm),hp1]
    ·rw[U9,hp2,htk];by_cases hxr:x=r
     ·subst hxr;rw[if_pos rfl,if_pos ⟨by simp,hy⟩]
     ·rw[if_neg hxr]
      have h1:r∈ks.take i++[x]↔r∈ks.take i:=by
       rw[List.mem_append,List.mem_singleton];exact⟨fun h=>h.elim (fun h=>h) fun h=>absurd h.symm hxr,.inl⟩
      simp only[h1]
   ·rw[show (y == id)=false from by simpa using hyi];refine BA H ?_;refine⟨_,⟨rfl,i+1,par1,hlt,rfl,hp1,fun r=>?_,rfl,rfl,rfl,rfl,rfl,Qb (by omega),H⟩,by omega⟩;rw[hp2,htk];by_cases hxr:x=r
    ·subst hxr;have h2:¬ QZ par x=some id:=by rw[hy];intro h2;injection h2 with h2;exact hyi h2
     rw[if_neg (fun h=>h2 h.2),if_neg (fun h=>h2 h.2)]
    ·have h1:r∈ks.take i++[x]↔r∈ks.take i:=by
      rw[List.mem_append,List.mem_singleton];exact⟨fun h=>h.elim (fun h=>h) fun h=>absurd h.symm hxr,.inl⟩
     simp only[h1]
  ·have hge:i=ks.length:=by omega
   subst hge;rw[List.take_length] at hp2;refine⟨rfl,rfl,rfl,rfl,rfl,par1,hp1,fun r=>?_,?_⟩
   ·rw[hp2];by_cases h1:QZ par r=some id
    ·rw[if_pos h1,if_pos ⟨hks.mem_iff.2 (List.mem_map.2 ⟨(r,id),Ua h1,rfl⟩),h1⟩]
    ·rw[if_neg h1,if_neg (fun h=>h1 h.2)]
   ·replace H:=Js [0,0] 1 H;exact H
 clear H;rintro ms σ w ⟨rfl,g0,g1,g6,par1,hp1,hp2,H⟩;rw[Q1 g0,Q1 g1,Q1 g6];refine J9 H ?_;refine Q5 rfl (XJ (key:=id) H rfl rfl VP rfl ?_);clear H;intro w H;refine Ry H ?_;have hnd1:(par1.map (·.1)).Nodup:=by rw[hp1];exact hnd
 refine Q3 (Jy (Xk H) rfl fun w' H' => .inr (.inr ⟨q,QB par1 id,hf,hq,⟨?_,fun r=>?_⟩,rfl,H'⟩))
 ·have hid:id∈par1.map (·.1):=by rw[hp1];exact List.mem_map.2 ⟨(id,q),Ua hf,rfl⟩
  obtain⟨⟨x',y⟩,h1,h2⟩:=List.mem_map.1 hid;have h2:x'=id:=h2;subst h2;obtain⟨a1,a2,h3⟩:=List.append_of_mem h1;have hnd2:=hnd1;rw[← hp1];rw[h3] at hnd1 ⊢;rw[WY (p:=(x',y)) hnd1,List.map_append,List.map_append,List.map_cons];rw[List.map_append,List.map_cons] at hnd1;rw[List.nodup_append] at hnd1;obtain⟨n1,n2,n3⟩:=hnd1;rw[List.nodup_cons] at n2
  rw[List.filter_append,List.filter_cons,if_neg (by simp),List.filter_eq_self.2 (fun a ha=>by
   have:=n3 a ha x' List.mem_cons_self;simpa using this),List.filter_eq_self.2 (fun a ha=>by
   have:a≠x':=fun h4=>n2.1 (h4▸ha);simpa using this)]
 ·rw[XF hnd1,hp2];by_cases h1:id=r
  ·rw[if_pos h1,if_pos h1.symm]
  ·rw[if_neg h1,if_neg (show ¬ r=id from fun h=>h1 h.symm)]
end Go.Proofs.YtmjdnljneifpcaaGreatDoor
namespace Go.Proofs.YtmjdnljneifpcaaGreatDoor
open Go.SL
structure ZK (s:CS) (R0:List (Rf×Int)) (D:List Rf) (R:List (Rf×Int)):Prop where
 nd:(R.map (·.1)).Nodup
 on:∀ r∈D,∀ t,QZ R r=some t↔CB s r t
 off:∀ r,r∉D→QZ R r=QZ R0 r
theorem ZK.start {s:CS} {R0:List (Rf×Int)} (h:(R0.map (·.1)).Nodup):ZK s R0 [] R0:=⟨h,fun r hr=>(by cases hr),fun _ _=>rfl⟩
theorem ZK.step {s:CS} {R0 R:List (Rf×Int)} {D:List Rf} (h:ZK s R0 D R) {k g p:Nat} {e:Q9} (hk:s.tab[k]? = some ⟨g,some e⟩) (hp:p < e.ws.length) (hr:VV (QN s e) p=true) :
  ZK s R0 (D++[((k:Int),(p:Int))]) (Yc { s with rem:=R } k e p (Y9 e p)):=by
 have hnd:(({ s with rem:=R }:CS).rem.map (·.1)).Nodup:=h.nd;refine⟨NI hnd k e p _,fun r hrD t=>?_,fun r hrD=>?_⟩
 ·by_cases h1:r=((k:Int),(p:Int))
  ·subst h1;rw[NJ hnd];constructor
   ·rintro⟨a,b,f,h1,h2,h3,h4⟩;obtain⟨h5,h6⟩:=GM (c:=a) h2;exact⟨k,p,g,e,a,b,f,rfl,hk,hp,hr,h1,h2,h3,h4⟩
   ·rintro⟨k',p',g',e',a,b,f,h1,h2,h3,h4,h5,h6,h7,h8⟩;injection h1 with h1 h9
    obtain rfl:k=k':=by omega
    obtain rfl:p=p':=by omega
    rw[hk] at h2;injection h2 with h2
    injection h2 with h2 h2'
    injection h2' with h2'
    subst h2';exact⟨a,b,f,h5,h6,h7,h8⟩
  ·rw[I7 hnd h1]
   rcases List.mem_append.1 hrD with h2|h2
   ·exact h.on r h2 t
   ·rw[List.mem_singleton] at h2;exact absurd h2 h1
 ·have h1:r≠((k:Int),(p:Int)):=fun h2=>hrD (List.mem_append.2 (.inr (List.mem_singleton.2 h2)));rw[I7 hnd h1];exact h.off r fun h2=>hrD (List.mem_append.2 (.inl h2))
def WE (s:CS) (k:Nat) (e:Q9):List Rf:=(WD (QN s e) e.ws.length).map fun p:Nat=>((k:Int),(p:Int))
def O7 (s:CS) (K:Nat→Prop) (D:List Rf):Prop:=∀ r,r∈D↔∃ (k g:Nat) (e:Q9),K k∧s.tab[k]? = some ⟨g,some e⟩∧r∈WE s k e
theorem O8 {s:CS} {k:Nat} {e:Q9} {r:Rf}:r∈WE s k e↔∃ p:Nat,r=((k:Int),(p:Int))∧p < e.ws.length∧VV (QN s e) p=true:=by
 unfold WE WD;rw[List.mem_map];constructor
 ·rintro⟨p,h1,rfl⟩;rw[List.mem_filter,List.mem_range] at h1;exact⟨p,rfl,h1.1,h1.2⟩
 ·rintro⟨p,rfl,h1,h2⟩;exact⟨p,by rw[List.mem_filter,List.mem_range];exact⟨h1,h2⟩,rfl⟩
structure UO (s s':CS) (mv:Nat→Q9→Q9):Prop where
 lays:s'.lays=s.lays
 tabl:s'.tab.length=s.tab.length
 tab:∀ (k:Nat) (t:QH),s.tab[k]? = some t→s'.tab[k]? = some ⟨t.gen,t.ent.map (mv k)⟩
 same:∀ k e,(mv k e).lay=e.lay∧(mv k e).count=e.count∧(mv k e).ws=e.ws∧(mv k e).held=e.held∧(mv k e).pinned=e.pinned
theorem UO.at {s s':CS} {mv:Nat→Q9→Q9} (h:UO s s' mv) {k g:Nat} {e:Q9} (hk:s.tab[k]? = some ⟨g,some e⟩):s'.tab[k]? = some ⟨g,some (mv k e)⟩:=h.tab k _ hk
theorem UO.from {s s':CS} {mv:Nat→Q9→Q9} (h:UO s s' mv) {k g:Nat} {e':Q9} (hk:s'.tab[k]? = some ⟨g,some e'⟩):∃ e,s.tab[k]? = some ⟨g,some e⟩∧e'=mv k e:=by
 have hlt:k < s.tab.length:=by
  have:=(List.getElem?_eq_some_iff.1 hk).1;rw[h.tabl] at this;exact this
 have h1:=List.getElem?_eq_getElem hlt;generalize s.tab[k]=t at h1;have h2:=h.tab k t h1;rw[hk] at h2;obtain⟨g0,e0⟩:=t;injection h2 with h2
 injection h2 with h3 h4
 subst h3;cases e0 with
 | none=>cases h4
 | some e=>
  injection h4 with h4
  exact⟨e,h1,h4⟩
theorem UO.lay {s s':CS} {mv:Nat→Q9→Q9} (h:UO s s' mv) (k:Nat) (e:Q9):QN s' (mv k e)=QN s e:=by
 unfold QN;rw[h.lays,(h.same k e).1]
theorem UO.lk {s s':CS} {mv:Nat→Q9→Q9} (h:UO s s' mv) (k:Nat) (e:Q9) (p:Nat):Y9 (mv k e) p=Y9 e p:=by
 unfold Y9;rw[(h.same k e).2.2.1]
theorem IA {ts:List QH} {a b:Nat} {f:Q9} (h:ts[a]? = some ⟨b,some f⟩):Qk ts a b=some (a,f):=Y5.2 ⟨b,rfl,rfl,h⟩
theorem O9 {s s':CS} {mv:Nat→Q9→Q9} (h:UO s s' mv) (hI:Inv s) {D:List Rf} (hN:ZK s' s.rem D s'.rem)
  (hoff:∀ (k g p a b:Nat) (e f:Q9),((k:Int),(p:Int))∉D→s.tab[k]? = some ⟨g,some e⟩→p < e.ws.length→VV (QN s e) p=true→s.tab[a]? = some ⟨b,some f⟩→((mv a f).region≠(mv k e).region↔f.region≠e.region)):Inv s':=by
 refine⟨hN.nd,fun r t=>?_,fun k g e' p a b hk hp hr hl=>?_⟩
 ·by_cases hD:r∈D
  ·exact hN.on r hD t
  ·rw[hN.off r hD,hI.rem];constructor
   ·rintro⟨k,p,g,e,a,b,f,rfl,hk,hp,hrf,hl,hlo,hfar,rfl⟩;obtain⟨_,ha⟩:=GM hlo;exact⟨k,p,g,mv k e,a,b,mv a f,rfl,h.at hk,by rw[(h.same k e).2.2.1];exact hp,by rw[h.lay];exact hrf,by rw[h.lk];exact hl,IA (h.at ha),(hoff k g p a b e f hD hk hp hrf ha).2 hfar,rfl⟩
   ·rintro⟨k,p,g,e',a,b,f',rfl,hk,hp,hrf,hl,hlo,hfar,rfl⟩;obtain⟨e,hk0,rfl⟩:=h.from hk;obtain⟨_,ha⟩:=GM hlo;obtain⟨f,ha0,rfl⟩:=h.from ha;rw[(h.same k e).2.2.1] at hp;rw[h.lay] at hrf;rw[h.lk] at hl;exact⟨k,p,g,e,a,b,f,rfl,hk0,hp,hrf,hl,IA ha0,(hoff k g p a b e f hD hk0 hp hrf ha0).1 hfar,rfl⟩
 ·obtain⟨e,hk0,rfl⟩:=h.from hk;rw[(h.same k e).2.2.1] at hp;rw[h.lay] at hr;rw[h.lk] at hl;obtain⟨f,hf⟩:=hI.link k g e p a b hk0 hp hr hl;obtain⟨_,ha⟩:=GM hf;exact⟨_,IA (h.at ha)⟩
theorem OQ {lays:List QJ} {i:Nat} {e e':Q9} (h:Ul lays i e) (h1:e'.lay=e.lay) (h2:e'.count=e.count) (h3:e'.ws=e.ws):Ul lays i e':=by
 obtain⟨m,l,a1,a2,a3,a4⟩:=h;exact⟨by rw[h1,h2];exact m,l,by rw[h1];exact a1,a2,by rw[h2,h3];exact a3,by rw[h3];exact a4⟩
end Go.Proofs.YtmjdnljneifpcaaGreatDoor
namespace Go.Proofs.YtmjdnljneifpcaaGreatDoor
open Go.SL
def Yn (id q:Int) (e:Q9):Q9:=if e.region=id then { e with region:=q } else e
def Zn (id q:Int) (t:QH):QH:=⟨t.gen,t.ent.map (Yn id q)⟩
theorem Ah (id q:Int) (e:Q9):(Yn id q e).lay=e.lay∧(Yn id q e).count=e.count∧(Yn id q e).ws=e.ws∧(Yn id q e).held=e.held∧(Yn id q e).pinned=e.pinned:=by
 unfold Yn;split <;> exact⟨rfl,rfl,rfl,rfl,rfl⟩
theorem XR (id q:Int) (e:Q9):(Yn id q e).addr=e.addr∧QM (Yn id q e)=QM e:=by
 unfold Yn;split <;> exact⟨rfl,rfl⟩
theorem Up (id q:Int) (e:Q9):(Yn id q e).region=if e.region=id then q else e.region:=by
 unfold Yn;split <;> rfl
theorem Kc {ts:List QH} {id q:Int} {k g:Nat} {e':Q9} (h:(ts.map (Zn id q))[k]? = some ⟨g,some e'⟩):∃ e,ts[k]? = some ⟨g,some e⟩∧e'=Yn id q e:=by
 rw[List.getElem?_map] at h;cases ht:ts[k]? with
 | none=>rw[ht] at h;cases h
 | some t=>
  rw[ht] at h;obtain⟨g0,e0⟩:=t;injection h with h
  injection h with h1 h2
  have h1:g0=g:=h1;subst h1;cases e0 with
  | none=>cases h2
  | some e=>
   injection h2 with h2
   exact⟨e,rfl,h2.symm⟩
theorem IB {ts:List QH} {id q:Int} {k g:Nat} {e:Q9} (h:ts[k]? = some ⟨g,some e⟩):(ts.map (Zn id q))[k]? = some ⟨g,some (Yn id q e)⟩:=by
 rw[List.getElem?_map,h];rfl
theorem Kd {l:List (Nat×Nat)} {x:Nat×Nat} (hx:x∈l) {c:Nat} (h1:x.1≤c) (h2:c < x.1+x.2):c∈QX l:=List.mem_flatMap.2 ⟨x,hx,GB.2 ⟨h1,h2⟩⟩
theorem eK {s:CS} (h:WF s) (hnd:(s.par.map (·.1)).Nodup) {id q:Int} (hne:id≠q) {par':List (Int×Int)} (hp:Ey s.par id q par')
  {bi bq:Nat} {S T:QE} {a1 a2 c1 c2:List (Int×Nat×QE)} (hs1:s.sps=a1++(id,bi,T)::a2) (hs2:a1++a2=c1++(q,bq,S)::c2)
  {gi gq:Nat} {M N N':List Nat} {d1 d2 e1 e2:List (Int×Nat×List Nat)} (hm1:s.mns=d1++(id,gi,M)::d2) (hm2:d1++d2=e1++(q,gq,N)::e2)
  {own':List Nat} (hol:own'.length=s.own.length) (hog:∀ j,own'.getD j 0=if j∈QX T.parts then q.toNat else s.own.getD j 0)
  (hN:N'.Pairwise (· < ·)) (hN':∀ j,j∈N'↔j∈M∨j∈N) (R:List ((Int×Int)×Int)) :
  WF { s with own:=own',tab:=s.tab.map (Zn id q),par:=par',rem:=R,sps:=c1++(q,bq,Z5 S T)::c2,mns:=e1++(q,gq,N')::e2 }:=by
 have hTm:(id,bi,T)∈s.sps:=by rw[hs1];simp
 have hT:=h.spc _ hTm;obtain⟨s1,s2⟩:=U7 (f:=fun y:Int×Nat×QE=>y.1) hs1 (by rw[h.skeys];exact hnd);obtain⟨t1,t2⟩:=U7 (f:=fun y:Int×Nat×List Nat=>y.1) hm1 (by rw[h.mkeys];exact hnd);have hSm:(q,bq,S)∈s.sps:=(s2 _ (by rw[hs2];simp)).1;have hNm:(q,gq,N)∈s.mns:=(t2 _ (by rw[hm2];simp)).1;have hMm:(id,gi,M)∈s.mns:=by rw[hm1];simp
 have hS:=h.spc _ hSm;have hidk:id∈s.par.map (·.1):=by rw[← h.skeys];exact List.mem_map.2 ⟨_,hTm,rfl⟩
 have hqk:q∈s.par.map (·.1):=by rw[← h.skeys];exact List.mem_map.2 ⟨_,hSm,rfl⟩
 have hpos:∀ r:Int,r∈s.par.map (·.1)→1≤r∧r≤s.last:=fun r hr=>by
  obtain⟨⟨r',z⟩,h1,h2⟩:=List.mem_map.1 hr;have h2:r'=r:=h2;subst h2;exact h.par.2.2 _ _ h1
 have hq1:=(hpos q hqk).1
 have hk':∀ r:Int,r∈par'.map (·.1)↔r∈s.par.map (·.1)∧r≠id:=fun r=>by
  rw[hp.1,List.mem_filter];simp
 have hown:∀ (c r:Nat),own'[c]? = some r→r≠0→∃ r0:Nat,s.own[c]? = some r0∧r0≠0∧(r:Int)=if (r0:Int)=id then q else r0:=by
  intro c r h1 h2;have h3:=hog c;have hcl:c < s.own.length:=by rw[← hol];exact(List.getElem?_eq_some_iff.1 h1).1
  have h0:=List.getElem?_eq_getElem hcl;rw[List.getD_eq_getElem?_getD,List.getD_eq_getElem?_getD,h1,h0] at h3;generalize s.own[c]=r0 at h0 h3;simp only[Option.getD_some] at h3;by_cases hc:c∈QX T.parts
  ·rw[if_pos hc] at h3;obtain⟨y,h4,h5,h6⟩:=(hT.owned c).1 hc;rw[h0] at h4;injection h4 with h4
   subst h4;have h5:(r0:Int)=id:=h5;exact⟨r0,h0,h6,by rw[if_pos h5];omega⟩
  ·rw[if_neg hc] at h3;subst h3;refine⟨r,h0,h2,?_⟩;rw[if_neg];intro h5;exact hc ((hT.owned c).2 ⟨r,h0,h5,h2⟩)
 have hown2:∀ (c r0:Nat),s.own[c]? = some r0→r0≠0→∃ r:Nat,own'[c]? = some r∧r≠0∧(r:Int)=if (r0:Int)=id then q else r0:=by
  intro c r0 h0 h2;have h3:=hog c;have hcl:c < own'.length:=by rw[hol];exact(List.getElem?_eq_some_iff.1 h0).1
  have h1:=List.getElem?_eq_getElem hcl;rw[List.getD_eq_getElem?_getD,List.getD_eq_getElem?_getD,h1,h0] at h3;generalize own'[c]=r at h1 h3;simp only[Option.getD_some] at h3;by_cases hc:c∈QX T.parts
  ·rw[if_pos hc] at h3;obtain⟨y,h4,h5,h6⟩:=(hT.owned c).1 hc;rw[h0] at h4;injection h4 with h4
   subst h4;have h5:(r0:Int)=id:=h5;exact⟨r,h1,by omega,by rw[if_pos h5];omega⟩
  ·rw[if_neg hc] at h3;subst h3;refine⟨r,h1,h2,?_⟩;rw[if_neg];intro h5;exact hc ((hT.owned c).2 ⟨r,h0,h5,h2⟩)
 have hoth:∀ x∈c1++c2,x∈s.sps∧x.1≠id∧x.1≠q:=by
  intro x hx;obtain⟨h1,h2⟩:=s2 x (by rw[hs2];exact Um hx);obtain⟨u1,u2⟩:=U7 (f:=fun y:Int×Nat×QE=>y.1) hs2 (by rw[s1];exact(by rw[h.skeys];exact hnd:(s.sps.map fun y=>y.1).Nodup).filter _);exact⟨h1,h2,(u2 x hx).2⟩
 have hothM:∀ x∈e1++e2,x∈s.mns∧x.1≠id∧x.1≠q:=by
  intro x hx;obtain⟨h1,h2⟩:=t2 x (by rw[hm2];exact Um hx);obtain⟨u1,u2⟩:=U7 (f:=fun y:Int×Nat×List Nat=>y.1) hm2 (by rw[t1];exact(by rw[h.mkeys];exact hnd:(s.mns.map fun y=>y.1).Nodup).filter _);exact⟨h1,h2,(u2 x hx).2⟩
 have hone:∀ (c:Nat) (r:Int),r≠id→r≠q→((∃ y:Nat,own'[c]? = some y∧(y:Int)=r∧y≠0)↔∃ y:Nat,s.own[c]? = some y∧(y:Int)=r∧y≠0):=by
  intro c r h1 h2;constructor
  ·rintro⟨y,h3,h4,h5⟩;obtain⟨r0,h6,h7,h8⟩:=hown c y h3 h5;split at h8
   ·omega
   ·exact⟨r0,h6,by omega,h7⟩
  ·rintro⟨y,h3,h4,h5⟩;obtain⟨r,h6,h7,h8⟩:=hown2 c y h3 h5;rw[if_neg (by omega)] at h8;exact⟨r,h6,by omega,h7⟩
 refine⟨h.size,by show 1≤own'.length∧own'.length≤63;rw[hol];exact h.own,by show 1≤(s.tab.map _).length∧(s.tab.map _).length≤63;rw[List.length_map];exact h.slots,h.lays,fun i t hi=>?_,fun i g e hi=>?_,fun i j g g' e f hij hi hj=>?_,⟨?_,h.par.2.1,fun r z hr=>?_⟩,?_,?_,fun x hx=>?_,fun x hx i g e hi=>?_,fun c r hc hr=>?_,fun x hx=>?_⟩
 ·have hi:(s.tab.map (Zn id q))[i]? = some t:=hi;rw[List.getElem?_map] at hi;cases ht:s.tab[i]? with
  | none=>rw[ht] at hi;cases hi
  | some t0=>
   rw[ht] at hi;injection hi with hi
   subst hi;obtain⟨h1,h2⟩:=h.gen i t0 ht;refine⟨h1,fun h3=>h2 ?_⟩;have h3:(t0.ent.map (Yn id q)).isSome=true:=h3
   rwa [Option.isSome_map] at h3
 ·obtain⟨e,hiZ,heZ⟩:=Kc hi;subst heZ;replace hi:=hiZ;obtain⟨h1,⟨h2,h3⟩,z,h4⟩:=h.obj i g e hi;obtain⟨u1,u2,u3,_,_⟩:=Ah id q e;refine⟨OQ h1 u1 u2 u3,⟨?_,fun c hc1 hc2=>?_⟩,?_⟩
  ·rw[(XR id q e).2];show _≤own'.length*s.size;rw[hol];exact h2
  ·rw[(XR id q e).1] at hc1 hc2;rw[u3] at hc2;obtain⟨r,h5,h6,h7⟩:=h3 c hc1 hc2;obtain⟨r',h8,h9,h10⟩:=hown2 c r h5 (by omega);refine⟨r',h8,?_,by omega⟩;rw[Up,h10,h6]
  ·have:(Yn id q e).region∈par'.map (·.1):=by
    rw[hk',Up];by_cases h5:e.region=id
    ·rw[if_pos h5];exact⟨hqk,hne.symm⟩
    ·rw[if_neg h5];exact⟨List.mem_map.2 ⟨_,h4,rfl⟩,h5⟩
   obtain⟨⟨r,z'⟩,h5,h6⟩:=List.mem_map.1 this;exact⟨z',by rw[← h6];exact h5⟩
 ·obtain⟨e,hiZ,heZ⟩:=Kc hi;subst heZ;replace hi:=hiZ;obtain⟨f,hjZ,heZ⟩:=Kc hj;subst heZ;replace hj:=hjZ;rw[(XR id q e).1,(XR id q e).2,(XR id q f).1,(XR id q f).2];exact h.apart i j _ _ e f hij hi hj
 ·have h1:=congrArg List.length hp.1;rw[List.length_map] at h1;have h2:=List.length_filter_le (·≠id) (s.par.map (·.1));rw[List.length_map] at h2;have:=h.par.1;show par'.length≤64;omega
 ·have h1:r∈par'.map (·.1):=List.mem_map.2 ⟨_,hr,rfl⟩;exact hpos r ((hk' r).1 h1).1
 ·show (c1++(q,bq,Z5 S T)::c2).map (·.1)=par'.map (·.1);rw[C0 (x':=(q,bq,Z5 S T)) (x:=(q,bq,S)) rfl,← hs2,hp.1,← h.skeys];exact s1
 ·show (e1++(q,gq,N')::e2).map (·.1)=par'.map (·.1);rw[C0 (x':=(q,gq,N')) (x:=(q,gq,N)) rfl,← hm2,hp.1,← h.mkeys];exact t1
 ·rcases Zx hx with rfl|hx
  ·refine⟨?_,fun hf=>?_,fun y hy=>?_,?_,fun c=>?_⟩
   ·show (if T.fin=0 then S.at' else T.at')≤(if T.fin=0 then S.fin else T.fin);split
    ·exact hS.at1
    ·exact hT.at1
   ·have hf:(if T.fin=0 then S.fin else T.fin)≠0:=hf;show ∃ c,(if T.fin=0 then S.fin else T.fin)=(c+1)*s.size∧c*s.size < (if T.fin=0 then S.at' else T.at')∧(c,1)∈S.parts++T.parts;by_cases h0:T.fin=0
    ·rw[if_pos h0] at hf;rw[if_pos h0,if_pos h0];obtain⟨c,u1,u2,u3⟩:=hS.fin hf;exact⟨c,u1,u2,List.mem_append.2 (.inl u3)⟩
    ·rw[if_neg h0,if_neg h0];obtain⟨c,u1,u2,u3⟩:=hT.fin h0;exact⟨c,u1,u2,List.mem_append.2 (.inr u3)⟩
   ·have hy:y∈S.parts++T.parts:=hy;rw[hol]
    rcases List.mem_append.1 hy with hy|hy
    ·exact hS.parts y hy
    ·exact hT.parts y hy
   ·show (QX (S.parts++T.parts)).Nodup;rw[GA,List.nodup_append];refine⟨hS.nodup,hT.nodup,fun a ha b hb hab=>?_⟩;subst hab;obtain⟨y,u1,u2,_⟩:=(hS.owned a).1 ha;obtain⟨z,v1,v2,_⟩:=(hT.owned a).1 hb;rw[u1] at v1;injection v1 with v1
    subst v1;exact hne (v2.symm.trans u2)
   ·show c∈QX (S.parts++T.parts)↔∃ y:Nat,own'[c]? = some y∧(y:Int)=q∧y≠0;rw[GA,List.mem_append,hS.owned,hT.owned];constructor
    ·rintro(⟨y,u1,u2,u3⟩|⟨y,u1,u2,u3⟩)
     ·obtain⟨r,v1,v2,v3⟩:=hown2 c y u1 u3;have u2:(y:Int)=q:=u2;rw[if_neg (by omega)] at v3;exact⟨r,v1,by omega,v2⟩
     ·obtain⟨r,v1,v2,v3⟩:=hown2 c y u1 u3;rw[if_pos u2] at v3;exact⟨r,v1,v3,v2⟩
    ·rintro⟨y,u1,u2,u3⟩;obtain⟨r,v1,v2,v3⟩:=hown c y u1 u3;by_cases h5:(r:Int)=id
     ·exact .inr ⟨r,v1,h5,v2⟩
     ·rw[if_neg h5] at v3;exact .inl ⟨r,v1,by show (r:Int)=q;omega,v2⟩
  ·obtain⟨h1,h2,h3⟩:=hoth x hx;obtain⟨a,b,c,d,e⟩:=h.spc x h1;exact⟨a,b,fun z hz=>by rw[hol];exact c z hz,d,fun z=>by rw[e,← hone z x.1 h2 h3]⟩
 ·obtain⟨e,hiZ,heZ⟩:=Kc hi;subst heZ;replace hi:=hiZ;rw[(XR id q e).1,(XR id q e).2]
  rcases Zx hx with rfl|hx
  ·show QM e≤(if T.fin=0 then S.at' else T.at')∨(if T.fin=0 then S.fin else T.fin)≤e.addr;split
   ·exact h.free _ hSm i g e hi
   ·exact h.free _ hTm i g e hi
  ·exact h.free x (hoth x hx).1 i g e hi
 ·obtain⟨r0,h1,h2,h3⟩:=hown c r hc hr
  have:(r:Int)∈par'.map (·.1):=by
   rw[hk'];by_cases h5:(r0:Int)=id
   ·rw[if_pos h5] at h3;rw[h3];exact⟨hqk,hne.symm⟩
   ·rw[if_neg h5] at h3;obtain⟨z,hz⟩:=h.live c r0 h1 h2;rw[h3];exact⟨List.mem_map.2 ⟨_,hz,rfl⟩,h5⟩
  obtain⟨⟨r,z'⟩,h5,h6⟩:=List.mem_map.1 this;exact⟨z',by rw[← h6];exact h5⟩
 ·rcases Zx hx with rfl|hx
  ·refine⟨hN,fun i=>?_⟩;show i∈N'↔∃ g e,(s.tab.map (Zn id q))[i]? = some ⟨g,some e⟩∧e.region=q;rw[hN',(h.mine _ hMm).2,(h.mine _ hNm).2];constructor
   ·rintro(⟨g,e,u1,u2⟩|⟨g,e,u1,u2⟩)
    ·exact⟨g,_,IB u1,by rw[Up,if_pos u2]⟩
    ·have u2:e.region=q:=u2;exact⟨g,_,IB u1,by rw[Up,if_neg (by rw[u2];exact hne.symm),u2]⟩
   ·rintro⟨g,e',u1,u2⟩;obtain⟨e,u1Z,heZ⟩:=Kc u1;subst heZ;replace u1:=u1Z;rw[Up] at u2;split at u2
    ·rename_i u3;exact .inl ⟨g,e,u1,u3⟩
    ·exact .inr ⟨g,e,u1,u2⟩
  ·obtain⟨h1,h2,h3⟩:=hothM x hx;obtain⟨u1,u2⟩:=h.mine x h1;refine⟨u1,fun i=>?_⟩;show i∈x.2.2↔∃ g e,(s.tab.map (Zn id q))[i]? = some ⟨g,some e⟩∧e.region=x.1;rw[u2];constructor
   ·rintro⟨g,e,u3,u4⟩;exact⟨g,_,IB u3,by rw[Up,if_neg (by rw[u4];exact h2),u4]⟩
   ·rintro⟨g,e',u3,u4⟩;obtain⟨e,u3Z,heZ⟩:=Kc u3;subst heZ;replace u3:=u3Z;rw[Up] at u4;split at u4
    ·exact absurd u4.symm h3
    ·exact⟨g,e,u3,u4⟩
theorem eR {s s':CS} {mem:List Nat} (m:VI s mem) {id q:Int} (h1:s'.own.length=s.own.length) (h2:s'.size=s.size) (h3:s'.tab=s.tab.map (Zn id q)):VI s' mem:=by
 refine⟨by rw[h1,h2];exact m.len,fun i g e' hi=>?_,fun i g e' hi p w hp=>?_⟩
 ·rw[h3] at hi;obtain⟨e,hiZ,heZ⟩:=Kc hi;subst heZ;replace hi:=hiZ;obtain⟨u1,u2,u3,_,_⟩:=Ah id q e;rw[(XR id q e).1,u1,u2];exact m.head i g e hi
 ·rw[h3] at hi;obtain⟨e,hiZ,heZ⟩:=Kc hi;subst heZ;replace hi:=hiZ;obtain⟨u1,u2,u3,_,_⟩:=Ah id q e;rw[(XR id q e).1];rw[u3] at hp;exact m.words i g e hi p w hp
theorem eW {s s':CS} (hP:Vt s) (hnd:(s.sps.map (·.1)).Nodup) {id q:Int} {bi bq:Nat} {S T:QE} {a1 a2 c1 c2:List (Int×Nat×QE)} (hs1:s.sps=a1++(id,bi,T)::a2) (hs2:a1++a2=c1++(q,bq,S)::c2)
  (h1:s'.size=s.size) (h2:s'.tab=s.tab.map (Zn id q)) (h3:s'.sps=c1++(q,bq,Z5 S T)::c2):Vt s':=by
 intro k g e' hk;rw[h2] at hk;obtain⟨e,hkZ,heZ⟩:=Kc hk;subst heZ;replace hk:=hkZ;obtain⟨x,x1,x2,y,y1,y2⟩:=hP k g e hk;have y2':G1 s'.size y (Yn id q e):=by rw[h1];exact y2.alike (XR id q e).1 (by rw[(Ah id q e).2.2.1])
 rw[h3,Up];rw[hs1] at x1
 rcases Zx x1 with rfl|x1
 ·have x2:id=e.region:=x2;rw[if_pos x2.symm];exact⟨(q,bq,Z5 S T),by simp,rfl,y,List.mem_append.2 (.inr y1),y2'⟩
 ·have hxi:x.1≠id:=by
   rw[hs1] at hnd;exact((U7 (f:=fun y:Int×Nat×QE=>y.1) rfl hnd).2 x x1).2
  rw[if_neg (by rw[← x2];exact hxi)];rw[hs2] at x1
  rcases Zx x1 with rfl|x1
  ·exact⟨(q,bq,Z5 S T),by simp,x2,y,List.mem_append.2 (.inl y1),y2'⟩
  ·exact⟨x,Um x1,x2,y,y1,y2'⟩
theorem eA {par par':List (Int×Int)} (h:Yd par) {id q:Int} (hid:QZ par id=some q) (hq:q≠0) (hp:Ey par id q par'):Yd par':=by
 refine⟨by rw[hp.1];exact h.nd.filter _,fun r z hr=>?_⟩;obtain⟨q1,q2,q3⟩:=h.up id q hid;have hqs:(QZ par q).isSome=true:=q3.elim (fun h=>absurd h hq) (fun h=>h)
 have hlive:∀ x:Int,x≠id→(QZ par x).isSome=true→(QZ par' x).isSome=true:=fun x h1 h2=>by
  rw[hp.2,if_neg h1];split
  ·rfl
  ·exact h2
 rw[hp.2] at hr;split at hr
 ·cases hr
 ·rename_i h1;split at hr
  ·rename_i h2;injection hr with hr
   subst hr;have:=(h.up r id h2).2.1;exact⟨q1,by omega,.inr (hlive _ (by omega) hqs)⟩
  ·rename_i h2;obtain⟨z1,z2,z3⟩:=h.up r z hr;exact⟨z1,z2,z3.imp (fun h=>h) fun h3=>hlive z (fun h4=>h2 (by rw[hr,h4])) h3⟩
structure Ai (s:CS) (id q:Int) (s':CS):Prop where
 size:s'.size=s.size
 own:s'.own.length=s.own.length
 lays:s'.lays=s.lays
 last:s'.last=s.last
 par:Ey s.par id q s'.par
 tab:s'.tab=s.tab.map (Zn id q)
 rem:∃ D,O7 s' (fun k=>∃ g e,s'.tab[k]? = some ⟨g,some e⟩∧e.region=q) D∧ZK s' s.rem D s'.rem
 part:Vt s→Vt s'
theorem Ai.mv {s s':CS} {id q:Int} (h:Ai s id q s'):UO s s' (fun _=>Yn id q):=by
 refine⟨h.lays,by rw[h.tab,List.length_map],fun k t hk=>?_,fun _ e=>Ah id q e⟩;rw[h.tab,List.getElem?_map,hk];rfl
theorem eB {s s':CS} {id q:Int} (h:Ai s id q s') (hne:id≠q) (hI:Inv s):Inv s':=by
 obtain⟨D,hD,hN⟩:=h.rem;refine O9 h.mv hI hN fun k g p a b e f hnD hk hp hr ha=>?_;have hrq:(Yn id q e).region≠q:=fun h1=>hnD ((hD _).2 ⟨k,g,Yn id q e,⟨g,_,h.mv.at hk,h1⟩,h.mv.at hk,O8.2 ⟨p,rfl,by rw[(Ah id q e).2.2.1];exact hp,by rw[h.mv.lay k e];exact hr⟩⟩);show (Yn id q f).region≠(Yn id q e).region↔_;rw[Up] at hrq;rw[Up,Up];by_cases h1:e.region=id
 ·rw[if_pos h1] at hrq;exact absurd rfl hrq
 ·rw[if_neg h1] at hrq ⊢;by_cases h2:f.region=id
  ·rw[if_pos h2,h2];exact⟨fun _ h3=>h1 h3.symm,fun _ h3=>hrq h3.symm⟩
  ·rw[if_neg h2]
end Go.Proofs.YtmjdnljneifpcaaGreatDoor
namespace Go.Proofs.YtmjdnljneifpcaaGreatDoor
open Go.SL
def Ke (size:Nat) (T:QE) (a n:Nat):Prop:=∃ c,(c,1)∈T.parts∧c*size≤a∧a+n≤(c+1)*size∧(a+n≤T.at'∨T.fin≤a)
theorem OV {size:Nat} (hs:1≤size) {own:List Nat} {x:Int} {S:QE} (h:GW size own x S) {e:Q9} (hl:Zk size own e) (hne:e.region≠x):QM e≤S.at'∨S.fin≤e.addr:=by
 by_cases h0:S.fin=0
 ·right;omega
 obtain⟨c,hc1,hc2,hc3⟩:=h.fin h0;have hcm:c∈QX S.parts:=Kd hc3 (Nat.le_refl _) (Nat.lt_succ_self _);obtain⟨y,hy1,hy2,hy3⟩:=(h.owned c).1 hcm;have hat:=h.at1
 rcases hl.chunk hs c with (h1|h1)|⟨z,hz1,hz2,hz3⟩
 ·left;omega
 ·right;omega
 ·rw[hy1] at hz1;injection hz1 with hz1
  subst hz1;exact absurd (hz2.symm.trans hy2) hne
theorem OY {s:CS} (h:WF s) {k g:Nat} {e:Q9} (hk:s.tab[k]? = some ⟨g,some e⟩) {r id:Int} (hr:e.region=r) (hne:id≠r) (hnd:(s.par.map (·.1)).Nodup)
  {p1 p2:List (Int×Nat×QE)} {b0 bs:Nat} {S T S' T':QE} (hsps:s.sps=p1++(r,b0,S)::(p2++[(id,bs,T)]))
  {m1 m2:List (Int×Nat×List Nat)} {c0 bm:Nat} {M N:List Nat} (hmns:s.mns=m1++(r,c0,M)::(m2++[(id,bm,N)])) {own':List Nat} {a:Nat} {e':Q9} (he:e'={ e with region:=id,addr:=a })
  (hol:own'.length=s.own.length) (hE:Zk s.size own' e') (hL:∀ (j n:Nat) (f:Q9),j≠k→s.tab[j]? = some ⟨n,some f⟩→Zk s.size own' f)
  (hap:∀ (j n:Nat) (f:Q9),j≠k→s.tab[j]? = some ⟨n,some f⟩→QM f≤e'.addr∨QM e'≤f.addr)
  (hS:GW s.size own' r S') (hT:GW s.size own' id T') (ho:∀ x∈p1++p2,GW s.size own' x.1 x.2.2)
  (hfS:∀ (j n:Nat) (f:Q9),(s.tab.set k ⟨g,some e'⟩)[j]? = some ⟨n,some f⟩→QM f≤S'.at'∨S'.fin≤f.addr) (hfT:∀ (j n:Nat) (f:Q9),(s.tab.set k ⟨g,some e'⟩)[j]? = some ⟨n,some f⟩→QM f≤T'.at'∨T'.fin≤f.addr)
  (hlive:∀ (c x:Nat),own'[c]? = some x→x≠0→(x:Int)=id∨s.own[c]? = some x) {b0' bs':Nat} :
  WF { s with own:=own',tab:=s.tab.set k ⟨g,some e'⟩,sps:=p1++(r,b0,S')::(p2++[(id,bs,T')]),mns:=m1++(r,c0,M.filter (·≠k))::(m2++[(id,bm,YF N k)]) }:=by
 have hkl:=(List.getElem?_eq_some_iff.1 hk).1;have hidk:id∈s.par.map (·.1):=by rw[← h.skeys,hsps];simp
 obtain⟨z,hz⟩:∃ z,(id,z)∈s.par:=by
  obtain⟨⟨x,z⟩,h1,h2⟩:=List.mem_map.1 hidk;exact⟨z,by rw[← h2];exact h1⟩
 have hlive':∀ (c x:Nat),own'[c]? = some x→x≠0→∃ q,((x:Int),q)∈s.par:=fun c x h1 h2=>by
  rcases hlive c x h1 h2 with h3|h3
  ·exact⟨z,by rw[h3];exact hz⟩
  ·exact h.live c x h3 h2
 have heg:e'.region=id:=by rw[he]
 have hoth:∀ x∈p1++p2,x∈s.sps∧x.1≠r∧x.1≠id:=by
  intro x hx;have hnk:(s.sps.map fun y=>y.1).Nodup:=by rw[h.skeys];exact hnd
  obtain⟨u1,u2⟩:=U7 (f:=fun y:Int×Nat×QE=>y.1) hsps hnk
  have hx1:x∈p1++(p2++[(id,bs,T)]):=by
   rcases List.mem_append.1 hx with hx|hx
   ·exact List.mem_append.2 (.inl hx)
   ·exact List.mem_append.2 (.inr (List.mem_append.2 (.inl hx)))
  obtain⟨v1,v2⟩:=U7 (f:=fun y:Int×Nat×QE=>y.1) (l:=p1++(p2++[(id,bs,T)])) (l1:=p1++p2) (l2:=[]) (a:=(id,bs,T)) (by simp) (by rw[u1];exact hnk.filter _);exact⟨(u2 x hx1).1,(u2 x hx1).2,(v2 x (by simpa using hx)).2⟩
 have hothM:∀ x∈m1++m2,x∈s.mns∧x.1≠r∧x.1≠id:=by
  intro x hx;have hnk:(s.mns.map fun y=>y.1).Nodup:=by rw[h.mkeys];exact hnd
  obtain⟨u1,u2⟩:=U7 (f:=fun y:Int×Nat×List Nat=>y.1) hmns hnk
  have hx1:x∈m1++(m2++[(id,bm,N)]):=by
   rcases List.mem_append.1 hx with hx|hx
   ·exact List.mem_append.2 (.inl hx)
   ·exact List.mem_append.2 (.inr (List.mem_append.2 (.inl hx)))
  obtain⟨v1,v2⟩:=U7 (f:=fun y:Int×Nat×List Nat=>y.1) (l:=m1++(m2++[(id,bm,N)])) (l1:=m1++m2) (l2:=[]) (a:=(id,bm,N)) (by simp) (by rw[u1];exact hnk.filter _);exact⟨(u2 x hx1).1,(u2 x hx1).2,(v2 x (by simpa using hx)).2⟩
 have hin:∀ {α:Type} {l1 l2:List α} {u v x:α},x∈l1++u::(l2++[v])→x=u∨x=v∨x∈l1++l2:=by
  intro α l1 l2 u v x hx
  rcases List.mem_append.1 hx with hx|hx
  ·exact .inr (.inr (List.mem_append.2 (.inl hx)))
  ·rcases List.mem_cons.1 hx with hx|hx
   ·exact .inl hx
   ·rcases List.mem_append.1 hx with hx|hx
    ·exact .inr (.inr (List.mem_append.2 (.inr hx)))
    ·exact .inr (.inl (List.mem_singleton.1 hx))
 have hMm:(r,c0,M)∈s.mns:=by rw[hmns];simp
 have hNm:(id,bm,N)∈s.mns:=by rw[hmns];simp
 have hM:=h.mine _ hMm;have hN:=h.mine _ hNm;refine⟨h.size,by show 1≤own'.length∧own'.length≤63;rw[hol];exact h.own,by show 1≤(s.tab.set _ _).length∧(s.tab.set _ _).length≤63;rw[List.length_set];exact h.slots,h.lays,fun i t hi=>?_,fun i n f hi=>?_,fun i j n n' f f' hij hi hj=>?_,h.par,?_,?_,fun x hx=>?_,fun x hx j n f hj=>?_,hlive',fun x hx=>?_⟩
 ·rcases Qv hi with ⟨rfl,rfl,_⟩|⟨_,hi⟩
  ·exact⟨(h.gen _ _ hk).1,fun _=>(h.gen _ _ hk).2 rfl⟩
  ·exact h.gen i t hi
 ·rcases Qv hi with ⟨rfl,h1,_⟩|⟨h0,hi⟩
  ·injection h1 with h1 h2
   injection h2 with h2
   subst h1 h2;exact⟨OQ (h.obj _ _ _ hk).1 (by rw[he]) (by rw[he]) (by rw[he]),hE,z,by rw[heg];exact hz⟩
  ·obtain⟨o1,_,o3⟩:=h.obj i n f hi;exact⟨o1,hL i n f h0 hi,o3⟩
 ·rcases Qv hi with ⟨rfl,h1,_⟩|⟨h0,hi2⟩ <;> rcases Qv hj with ⟨rfl,h2,_⟩|⟨h0',hj2⟩
  ·exact absurd rfl hij
  ·injection h1 with _ h1
   injection h1 with h1
   subst h1;exact(hap j n' f' h0' hj2).symm
  ·injection h2 with _ h2
   injection h2 with h2
   subst h2;exact hap i n f h0 hi2
  ·exact h.apart i j n n' f f' hij hi2 hj2
 ·rw[← h.skeys,hsps];simp
 ·rw[← h.mkeys,hmns];simp
 ·rcases hin hx with rfl|rfl|hx
  ·exact hS
  ·exact hT
  ·exact ho x hx
 ·rcases hin hx with rfl|rfl|hx2
  ·exact hfS j n f hj
  ·exact hfT j n f hj
  ·rcases Qv hj with ⟨rfl,h1,_⟩|⟨h0,hj2⟩
   ·injection h1 with _ h1
    injection h1 with h1
    subst h1;exact OV h.size.1 (ho x hx2) hE (by rw[heg];exact(hoth x hx2).2.2.symm)
   ·exact h.free x (hoth x hx2).1 j n f hj2
 ·rcases hin hx with rfl|rfl|hx
  ·refine⟨hM.1.filter _,fun i=>?_⟩;show i∈M.filter (·≠k)↔∃ n f,(s.tab.set k ⟨g,some e'⟩)[i]? = some ⟨n,some f⟩∧f.region=r;rw[List.mem_filter,hM.2];constructor
   ·rintro⟨⟨n,f,h1,h2⟩,h3⟩;have h3:i≠k:=by simpa using h3
    exact⟨n,f,by rw[List.getElem?_set_ne (fun h=>h3 h.symm)];exact h1,h2⟩
   ·rintro⟨n,f,h1,h2⟩
    rcases Qv h1 with ⟨rfl,h3,_⟩|⟨h0,h1⟩
    ·injection h3 with _ h3
     injection h3 with h3
     subst h3;exact absurd (heg.symm.trans h2) hne
    ·exact⟨⟨n,f,h1,h2⟩,by simpa using h0⟩
  ·have hkN:k∉N:=fun h1=>by
    obtain⟨n,f,h2,h3⟩:=(hN.2 k).1 h1;rw[hk] at h2;injection h2 with h2
    injection h2 with _ h2
    injection h2 with h2
    subst h2;exact hne (h3.symm.trans hr)
   refine⟨En hN.1 hkN,fun i=>?_⟩;show i∈YF N k↔∃ n f,(s.tab.set k ⟨g,some e'⟩)[i]? = some ⟨n,some f⟩∧f.region=id;rw[Em,hN.2];constructor
   ·rintro(rfl|⟨n,f,h1,h2⟩)
    ·exact⟨g,e',List.getElem?_set_self hkl,heg⟩
    ·refine⟨n,f,?_,h2⟩;rw[List.getElem?_set_ne]
     ·exact h1
     ·intro h3;subst h3;exact hkN ((hN.2 _).2 ⟨n,f,h1,h2⟩)
   ·rintro⟨n,f,h1,h2⟩
    rcases Qv h1 with ⟨rfl,h3,_⟩|⟨h0,h1⟩
    ·exact .inl rfl
    ·exact .inr ⟨n,f,h1,h2⟩
  ·obtain⟨u1,u2,u3⟩:=hothM x hx;obtain⟨v1,v2⟩:=h.mine x u1;refine⟨v1,fun i=>?_⟩;show i∈x.2.2↔∃ n f,(s.tab.set k ⟨g,some e'⟩)[i]? = some ⟨n,some f⟩∧f.region=x.1;rw[v2];constructor
   ·rintro⟨n,f,h1,h2⟩;refine⟨n,f,?_,h2⟩;rw[List.getElem?_set_ne]
    ·exact h1
    ·intro h3;subst h3;rw[hk] at h1;injection h1 with h1
     injection h1 with _ h1
     injection h1 with h1
     subst h1;exact u2 (h2.symm.trans hr)
   ·rintro⟨n,f,h1,h2⟩
    rcases Qv h1 with ⟨rfl,h3,_⟩|⟨h0,h1⟩
    ·injection h3 with _ h3
     injection h3 with h3
     subst h3;exact absurd (h2.symm.trans heg) u3
    ·exact⟨n,f,h1,h2⟩
theorem eC {s:CS} (h:WF s) {k g:Nat} {e:Q9} (hk:s.tab[k]? = some ⟨g,some e⟩) {r id:Int} (hr:e.region=r) (hne:id≠r) (hnd:(s.par.map (·.1)).Nodup)
  {p1 p2:List (Int×Nat×QE)} {b0 bs:Nat} {S T:QE} (hsps:s.sps=p1++(r,b0,S)::(p2++[(id,bs,T)]))
  {m1 m2:List (Int×Nat×List Nat)} {c0 bm:Nat} {M N:List Nat} (hmns:s.mns=m1++(r,c0,M)::(m2++[(id,bm,N)])) {a:Nat}
  (hs:Ke s.size T a (e.ws.length+1)) (hfree:∀ (j n:Nat) (f:Q9),j≠k→s.tab[j]? = some ⟨n,some f⟩→QM f≤a∨a+(e.ws.length+1)≤f.addr) :
  WF { s with tab:=s.tab.set k ⟨g,some { e with region:=id,addr:=a }⟩,mns:=m1++(r,c0,M.filter (·≠k))::(m2++[(id,bm,YF N k)]) }:=by
 obtain⟨c,c1,c2,c3,c4⟩:=hs;have hTm:(id,bs,T)∈s.sps:=by rw[hsps];simp
 have hSm:(r,b0,S)∈s.sps:=by rw[hsps];simp
 have hT:=h.spc _ hTm;obtain⟨y,hy1,hy2,hy3⟩:=(hT.owned c).1 (Kd c1 (Nat.le_refl _) (Nat.lt_succ_self _));have hcl:=(List.getElem?_eq_some_iff.1 hy1).1;have hle:(c+1)*s.size≤s.own.length*s.size:=Nat.mul_le_mul_right _ hcl;have hs1:=h.size.1
 have hE:Zk s.size s.own { e with region:=id,addr:=a }:=by
  refine⟨by show a+1+e.ws.length≤_;omega,fun d h1 h2=>?_⟩;have h1:a / s.size≤d:=h1;have h2:d≤(a+e.ws.length) / s.size:=h2;have e1:a / s.size=c:=Nat.div_eq_of_lt_le (by omega) (by omega);have e2:(a+e.ws.length) / s.size=c:=Nat.div_eq_of_lt_le (by omega) (by omega);obtain rfl:d=c:=by omega
  exact⟨y,hy1,hy2,by omega⟩
 have hw:=OY (S':=S) (T':=T) (own':=s.own) (b0':=0) (bs':=0) h hk hr hne hnd hsps hmns (a:=a) rfl rfl hE (fun j n f _ hj=>(h.obj j n f hj).2.1) (fun j n f h0 hj=>by
   have:=hfree j n f h0 hj;show QM f≤a∨a+1+e.ws.length≤f.addr;omega) (h.spc _ hSm) hT (fun x hx=>h.spc x (by
   rw[hsps]
   rcases List.mem_append.1 hx with hx|hx
   ·exact List.mem_append.2 (.inl hx)
   ·exact List.mem_append.2 (.inr (List.mem_cons_of_mem _ (List.mem_append.2 (.inl hx)))))) (fun j n f hj=>?_) (fun j n f hj=>?_) (fun _ _ h1 _ => .inr h1)
 ·rw[← hsps] at hw;exact hw
 ·rcases Qv hj with ⟨rfl,h1,_⟩|⟨h0,hj⟩
  ·injection h1 with _ h1
   injection h1 with h1
   subst h1;exact OV hs1 (h.spc _ hSm) hE hne
  ·exact h.free _ hSm j n f hj
 ·rcases Qv hj with ⟨rfl,h1,_⟩|⟨h0,hj⟩
  ·injection h1 with _ h1
   injection h1 with h1
   subst h1;show a+1+e.ws.length≤T.at'∨T.fin≤a;omega
  ·exact h.free _ hTm j n f hj
theorem OZ {s s':CS} (h:WF s) {mem mem':List Nat} (m:VI s mem) {k g:Nat} {e:Q9} (hk:s.tab[k]? = some ⟨g,some e⟩) {id:Int} {a:Nat} (hfree:∀ (j n:Nat) (f:Q9),j≠k→s.tab[j]? = some ⟨n,some f⟩→QM f≤a∨a+(e.ws.length+1)≤f.addr)
  (hl:mem'.length=mem.length) (hin:∀ i,i < e.ws.length+1→mem'[a+i]? = mem[e.addr+i]?) (hout:∀ j,j < a∨a+(e.ws.length+1)≤j→mem'[j]? = mem[j]?)
  (h1:s'.own.length=s.own.length) (h2:s'.size=s.size) (h3:s'.tab=s.tab.set k ⟨g,some { e with region:=id,addr:=a }⟩):VI s' mem':=by
 refine⟨by rw[h1,h2,hl];exact m.len,fun i n f hi=>?_,fun i n f hi p w hp=>?_⟩
 ·rw[h3] at hi
  rcases Qv hi with ⟨rfl,u1,_⟩|⟨h0,hi⟩
  ·injection u1 with _ u1
   injection u1 with u1
   subst u1;have:=hin 0 (by omega);show mem'[a]? = _;rw[Nat.add_zero,Nat.add_zero] at this;rw[this];exact m.head _ _ _ hk
  ·rw[hout f.addr (by have:=hfree i n f h0 hi;unfold QM at this;omega)];exact m.head i n f hi
 ·rw[h3] at hi
  rcases Qv hi with ⟨rfl,u1,_⟩|⟨h0,hi⟩
  ·injection u1 with _ u1
   injection u1 with u1
   subst u1;have hp:e.ws[p]? = some w:=hp;have hpl:=(List.getElem?_eq_some_iff.1 hp).1;have:=hin (1+p) (by omega);show mem'[a+1+p]? = _;rw[Nat.add_assoc,this,← Nat.add_assoc];exact m.words _ _ _ hk p w hp
  ·have hpl:=(List.getElem?_eq_some_iff.1 hp).1;rw[hout (f.addr+1+p) (by have:=hfree i n f h0 hi;unfold QM at this;omega)];exact m.words i n f hi p w hp
theorem eD {s s':CS} (hP:Vt s) {k g:Nat} {e:Q9} {id:Int} {a:Nat} {bs:Nat} {T:QE} (hT:(id,bs,T)∈s'.sps) (hs:Ke s.size T a (e.ws.length+1)) (h1:s'.size=s.size) (h2:s'.tab=s.tab.set k ⟨g,some { e with region:=id,addr:=a }⟩) (h3:s'.sps=s.sps):Vt s':=by
 intro j n f hj;rw[h2] at hj
 rcases Qv hj with ⟨rfl,u1,_⟩|⟨h0,hj⟩
 ·injection u1 with _ u1
  injection u1 with u1
  subst u1;obtain⟨c,c1,c2,c3,_⟩:=hs;refine⟨_,hT,rfl,(c,1),c1,.inl ⟨rfl,?_,?_⟩⟩
  ·rw[h1];exact c2
  ·rw[h1];show a+1+e.ws.length≤(c+1)*s.size;omega
 ·rw[h3,h1];exact hP j n f hj
end Go.Proofs.YtmjdnljneifpcaaGreatDoor
namespace Go.Proofs.YtmjdnljneifpcaaGreatDoor
open Go.SL
theorem CL {l:List (Nat×Nat)} {c:Nat}:c∈QX l↔∃ y∈l,y.1≤c∧c < y.1+y.2:=by
 unfold QX;rw[List.mem_flatMap];constructor
 ·rintro⟨y,h1,h2⟩;exact⟨y,h1,GB.1 h2⟩
 ·rintro⟨y,h1,h2⟩;exact⟨y,h1,GB.2 h2⟩
theorem Ez {A B:List (Nat×Nat)} {x:Nat×Nat} (h:(QX (A++x::B)).Nodup):(QX (A++B)).Nodup∧∀ c,x.1≤c→c < x.1+x.2→c∉QX (A++B):=by
 have e1:QX (A++x::B)=QX A++((List.range x.2).map (x.1+·)++QX B):=by
  rw[GA];rfl
 rw[e1,List.nodup_append] at h;obtain⟨h1,h2,h3⟩:=h;rw[List.nodup_append] at h2;obtain⟨h4,h5,h6⟩:=h2;rw[GA];refine⟨List.nodup_append.2 ⟨h1,h5,fun a ha b hb=>h3 a ha b (List.mem_append.2 (.inr hb))⟩,fun c hc1 hc2 hc=>?_⟩;have hr:c∈(List.range x.2).map (x.1+·):=GB.2 ⟨hc1,hc2⟩
 rcases List.mem_append.1 hc with hc|hc
 ·exact h3 c hc c (List.mem_append.2 (.inl hr)) rfl
 ·exact h6 c hr c hc rfl
theorem OG {α:Type} {l:List (Int×α)} (h:(l.map (·.1)).Nodup) {x y:Int×α} (hx:x∈l) (hy:y∈l) (he:x.1=y.1):x=y:=by
 obtain⟨a1,a2,h1⟩:=List.append_of_mem hx;obtain⟨_,h2⟩:=U7 (f:=fun z:Int×α=>z.1) h1 h;rw[h1] at hy
 rcases Zx hy with rfl|hy
 ·rfl
 ·exact absurd he.symm (h2 y hy).2
theorem G1.chunk {size:Nat} (hs:1≤size) {x:Nat×Nat} {e:Q9} (h:G1 size x e) {d:Nat} (h1:e.addr / size≤d) (h2:d≤(e.addr+e.ws.length) / size):x.1≤d∧d < x.1+x.2:=by
 obtain⟨h3,h4⟩:=ax hs h;have h5:x.1≤e.addr / size:=(Nat.le_div_iff_mul_le (by omega)).2 h3;have h6:(e.addr+e.ws.length) / size < x.1+x.2:=(Nat.div_lt_iff_lt_mul (by omega)).2 (by unfold QM at h4;omega);omega
theorem IC {s:CS} (h:WF s) (hP:Vt s) (hnd:(s.par.map (·.1)).Nodup) {k g:Nat} {e:Q9} (hk:s.tab[k]? = some ⟨g,some e⟩) {b0 c n:Nat} {S:QE} (hSm:(e.region,b0,S)∈s.sps) {A B:List (Nat×Nat)} (hp:S.parts=A++(c,n)::B) (hn:2≤n) (hin:G1 s.size (c,n) e)
  {j n':Nat} {f:Q9} (hjk:j≠k) (hj:s.tab[j]? = some ⟨n',some f⟩) {d:Nat} (h1:f.addr / s.size≤d) (h2:d≤(f.addr+f.ws.length) / s.size):¬ (c≤d∧d < c+n):=by
 rintro⟨h3,h4⟩;have hS:=h.spc _ hSm;obtain⟨y,y1,y2,_⟩:=(hS.owned d).1 (Kd (x:=(c,n)) (by rw[hp];simp) h3 h4);obtain⟨z,z1,z2,_⟩:=(h.obj j n' f hj).2.1.2 d h1 h2;rw[y1] at z1;injection z1 with z1
 subst z1;obtain⟨x,x1,x2,w,w1,w2⟩:=hP j n' f hj;obtain rfl:x=(e.region,b0,S):=OG (by rw[h.skeys];exact hnd) x1 hSm (by rw[x2,← z2,y2]);have w1:w∈S.parts:=w1;obtain⟨w3,w4⟩:=w2.chunk h.size.1 h1 h2;rw[hp] at w1
 rcases Zx w1 with rfl|w1
 ·rcases w2 with ⟨w5,_⟩|⟨_,w5,_⟩
  ·have w5:n=1:=w5;omega
  ·rcases hin with ⟨w6,_⟩|⟨_,w6,_⟩
   ·have w6:n=1:=w6;omega
   ·rcases h.apart k j g n' e f (fun h=>hjk h.symm) hk hj with w7|w7 <;> unfold QM at w7 <;> omega
 ·have hnd':=hS.nodup;have hnd':(QX S.parts).Nodup:=hnd';rw[hp] at hnd';exact(Ez hnd').2 d h3 h4 (Kd w1 w3 w4)
theorem eE {s:CS} (h:WF s) (hP:Vt s) {k g:Nat} {e:Q9} (hk:s.tab[k]? = some ⟨g,some e⟩) {r:Int} {id:Nat} (hr:e.region=r) (hne:(id:Int)≠r) (hnd:(s.par.map (·.1)).Nodup)
  {p1 p2:List (Int×Nat×QE)} {b0 bs:Nat} {S T:QE} (hsps:s.sps=p1++(r,b0,S)::(p2++[((id:Int),bs,T)]))
  {m1 m2:List (Int×Nat×List Nat)} {c0 bm:Nat} {M N:List Nat} (hmns:s.mns=m1++(r,c0,M)::(m2++[((id:Int),bm,N)]))
  {A B:List (Nat×Nat)} {c n:Nat} (hp:S.parts=A++(c,n)::B) (hn:2≤n) (hin:G1 s.size (c,n) e) :
  WF { s with own:=V3 s.own c n id,tab:=s.tab.set k ⟨g,some { e with region:=id,addr:=e.addr }⟩,sps:=p1++(r,b0,{ S with parts:=A++B })::(p2++[((id:Int),bs,{ T with parts:=T.parts++[(c,n)] })]),mns:=m1++(r,c0,M.filter (·≠k))::(m2++[((id:Int),bm,YF N k)]) }:=by
 have hTm:((id:Int),bs,T)∈s.sps:=by rw[hsps];simp
 have hSm:(r,b0,S)∈s.sps:=by rw[hsps];simp
 have hT:=h.spc _ hTm;have hS:=h.spc _ hSm;have hcn:c+n≤s.own.length:=(hS.parts (c,n) (by show _∈S.parts;rw[hp];simp)).2;have hget:=fun i=>Zi (v:=id) hcn i;have hs1:=h.size.1
 have hid1:1≤id:=by
  have:(id:Int)∈s.par.map (·.1):=by rw[← h.skeys,hsps];simp
  obtain⟨⟨x,z⟩,h1,h2⟩:=List.mem_map.1 this;have h2:x=(id:Int):=h2;have:=(h.par.2.2 x z h1).1;omega
 have hrun:∀ d,c≤d→d < c+n→∃ y:Nat,s.own[d]? = some y∧(y:Int)=r∧y≠0:=fun d h1 h2=>(hS.owned d).1 (Kd (x:=(c,n)) (by show _∈S.parts;rw[hp];simp) h1 h2);have hSnd:(QX (A++(c,n)::B)).Nodup:=by rw[← hp];exact hS.nodup
 obtain⟨hn1,hn2⟩:=Ez hSnd;have halone:=fun {j n':Nat} {f:Q9} (hjk:j≠k) (hj:s.tab[j]? = some ⟨n',some f⟩) {d:Nat}=>IC h hP hnd hk (S:=S) (b0:=b0) (by rw[hr];exact hSm) hp hn hin hjk hj (d:=d)
 have hfe:∀ x∈s.sps,∀ (j n':Nat) (f:Q9),(s.tab.set k ⟨g,some { e with region:=(id:Int),addr:=e.addr }⟩)[j]? = some ⟨n',some f⟩→QM f≤x.2.2.at'∨x.2.2.fin≤f.addr:=by
  intro x hx j n' f hj
  rcases Qv hj with ⟨rfl,h1,_⟩|⟨h0,hj⟩
  ·injection h1 with _ h1
   injection h1 with h1
   subst h1;exact(h.free x hx _ g e hk:QM e≤x.2.2.at'∨x.2.2.fin≤e.addr)
  ·exact h.free x hx j n' f hj
 refine OY (b0':=0) (bs':=0) h hk hr hne hnd hsps hmns (e':={ e with region:=(id:Int),addr:=e.addr }) rfl (Vq hcn) ?_ (fun j n' f h0 hj=>?_) (fun j n' f h0 hj=>(h.apart j k n' g f e h0 hj hk:QM f≤e.addr∨QM e≤f.addr)) ⟨hS.at1,fun hf=>?_,fun y hy=>?_,hn1,fun d=>?_⟩ ⟨hT.at1,fun hf=>?_,fun y hy=>?_,?_,fun d=>?_⟩ (fun x hx=>?_) (hfe _ hSm) (hfe _ hTm) (fun d x h1 h2=>?_)
 ·obtain⟨u1,u2⟩:=(h.obj _ _ _ hk).2.1;refine⟨by rw[Vq hcn];exact u1,fun d h1 h2=>?_⟩;obtain⟨v1,v2⟩:=hin.chunk hs1 h1 h2;exact⟨id,by rw[hget,if_pos ⟨v1,v2⟩],rfl,hid1⟩
 ·obtain⟨u1,u2⟩:=(h.obj j n' f hj).2.1;refine⟨by rw[Vq hcn];exact u1,fun d h1 h2=>?_⟩;rw[hget,if_neg (halone h0 hj h1 h2)];exact u2 d h1 h2
 ·obtain⟨d,d1,d2,d3⟩:=hS.fin hf;refine⟨d,d1,d2,?_⟩;have d3:(d,1)∈S.parts:=d3;rw[hp] at d3
  rcases Zx d3 with d3|d3
  ·injection d3 with _ d3
   omega
  ·exact d3
 ·rw[Vq hcn];exact hS.parts y (by show y∈S.parts;rw[hp];exact Um hy)
 ·show d∈QX (A++B)↔_;constructor
  ·intro hd
   have hd0:d∈QX S.parts:=by
    obtain⟨y,y1,y2⟩:=CL.1 hd;rw[hp];exact CL.2 ⟨y,Um y1,y2⟩
   obtain⟨y,y1,y2,y3⟩:=(hS.owned d).1 hd0;refine⟨y,?_,y2,y3⟩;rw[hget,if_neg (fun h1=>hn2 d h1.1 h1.2 hd)];exact y1
  ·rintro⟨y,y1,y2,y3⟩;rw[hget] at y1;split at y1
   ·injection y1 with y1
    subst y1;exact absurd y2 hne
   ·rename_i h1;have hd0:=(hS.owned d).2 ⟨y,y1,y2,y3⟩;have hd0:d∈QX S.parts:=hd0;rw[hp] at hd0;obtain⟨z,z1,z2⟩:=CL.1 hd0
    rcases Zx z1 with rfl|z1
    ·exact absurd z2 h1
    ·exact CL.2 ⟨z,z1,z2⟩
 ·obtain⟨d,d1,d2,d3⟩:=hT.fin hf;exact⟨d,d1,d2,List.mem_append.2 (.inl d3)⟩
 ·rw[Vq hcn];have hy:y∈T.parts++[(c,n)]:=hy
  rcases List.mem_append.1 hy with hy|hy
  ·exact hT.parts y hy
  ·rw[List.mem_singleton] at hy;subst hy;exact⟨by show 1≤n;omega,hcn⟩
 ·show (QX (T.parts++[(c,n)])).Nodup;rw[GA,Xl,List.nodup_append];refine⟨hT.nodup,HM c n,fun x hx y hy hxy=>?_⟩;subst hxy;obtain⟨h1,h2⟩:=GB.1 hy;obtain⟨y,y1,y2,_⟩:=hrun x h1 h2;obtain⟨z,z1,z2,_⟩:=(hT.owned x).1 hx;rw[y1] at z1;injection z1 with z1
  subst z1;exact hne (z2.symm.trans y2)
 ·show d∈QX (T.parts++[(c,n)])↔_;rw[GA,Xl,List.mem_append,GB,hget];constructor
  ·rintro(h1|h1)
   ·obtain⟨y,y1,y2,y3⟩:=(hT.owned d).1 h1;refine⟨y,?_,y2,y3⟩;rw[if_neg]
    ·exact y1
    ·rintro⟨h2,h3⟩;obtain⟨z,z1,z2,_⟩:=hrun d h2 h3;rw[y1] at z1;injection z1 with z1
     subst z1;exact hne (y2.symm.trans z2)
   ·exact⟨id,by rw[if_pos h1],rfl,by omega⟩
  ·rintro⟨y,y1,y2,y3⟩;by_cases h1:c≤d∧d < c+n
   ·exact .inr h1
   ·rw[if_neg h1] at y1;exact .inl ((hT.owned d).2 ⟨y,y1,y2,y3⟩)
 ·have hxs:x∈s.sps:=by
   rw[hsps]
   rcases List.mem_append.1 hx with hx|hx
   ·exact List.mem_append.2 (.inl hx)
   ·exact List.mem_append.2 (.inr (List.mem_cons_of_mem _ (List.mem_append.2 (.inl hx))))
  have hnk:(s.sps.map fun y=>y.1).Nodup:=by rw[h.skeys];exact hnd
  have hxr:x.1≠r:=by
   refine((U7 (f:=fun y:Int×Nat×QE=>y.1) hsps hnk).2 x ?_).2
   rcases List.mem_append.1 hx with hx|hx
   ·exact List.mem_append.2 (.inl hx)
   ·exact List.mem_append.2 (.inr (List.mem_append.2 (.inl hx)))
  have hxi:x.1≠(id:Int):=by
   have e1:s.sps=(p1++(r,b0,S)::p2)++((id:Int),bs,T)::[]:=by rw[hsps];simp
   refine((U7 (f:=fun y:Int×Nat×QE=>y.1) e1 hnk).2 x ?_).2;rw[List.append_nil];exact Um hx
  obtain⟨a1,a2,a3,a4,a5⟩:=h.spc x hxs;refine⟨a1,a2,fun y hy=>by rw[Vq hcn];exact a3 y hy,a4,fun d=>?_⟩;rw[a5,hget];by_cases h1:c≤d∧d < c+n
  ·rw[if_pos h1];obtain⟨y,y1,y2,y3⟩:=hrun d h1.1 h1.2;constructor
   ·rintro⟨z,z1,z2,z3⟩;rw[y1] at z1;injection z1 with z1
    subst z1;exact absurd (z2.symm.trans y2) hxr
   ·rintro⟨z,z1,z2,z3⟩;injection z1 with z1
    subst z1;exact absurd z2.symm hxi
  ·rw[if_neg h1]
 ·rw[hget] at h1;split at h1
  ·injection h1 with h1
   subst h1;exact .inl rfl
  ·exact .inr h1
theorem eF {s s':CS} (h:WF s) (hP:Vt s) {k g:Nat} {e:Q9} (hk:s.tab[k]? = some ⟨g,some e⟩) {r id:Int} (hr:e.region=r) (hnd:(s.par.map (·.1)).Nodup)
  {p1 p2:List (Int×Nat×QE)} {b0 bs:Nat} {S T:QE} (hsps:s.sps=p1++(r,b0,S)::(p2++[(id,bs,T)])) {A B:List (Nat×Nat)} {c n:Nat} (hp:S.parts=A++(c,n)::B) (hn:2≤n) (hin:G1 s.size (c,n) e)
  (h1:s'.size=s.size) (h2:s'.tab=s.tab.set k ⟨g,some { e with region:=id,addr:=e.addr }⟩) (h3:s'.sps=p1++(r,b0,{ S with parts:=A++B })::(p2++[(id,bs,{ T with parts:=T.parts++[(c,n)] })])):Vt s':=by
 have hSm:(r,b0,S)∈s.sps:=by rw[hsps];simp
 intro j n' f hj;rw[h2] at hj;rw[h3,h1]
 rcases Qv hj with ⟨rfl,u1,_⟩|⟨h0,hj⟩
 ·injection u1 with _ u1
  injection u1 with u1
  subst u1;exact⟨(id,bs,{ T with parts:=T.parts++[(c,n)] }),by simp,rfl,(c,n),List.mem_append.2 (.inr (by simp)),hin.alike rfl rfl⟩
 ·obtain⟨x,x1,x2,y,y1,y2⟩:=hP j n' f hj;have x1':=x1;rw[hsps] at x1
  rcases List.mem_append.1 x1 with x1|x1
  ·exact⟨x,List.mem_append.2 (.inl x1),x2,y,y1,y2⟩
  ·rcases List.mem_cons.1 x1 with rfl|x1
   ·refine⟨(r,b0,{ S with parts:=A++B }),by simp,x2,y,?_,y2⟩;have y1:y∈S.parts:=y1;rw[hp] at y1
    rcases Zx y1 with rfl|y1
    ·exfalso;have hd1:f.addr / s.size≤f.addr / s.size:=Nat.le_refl _;have hd2:f.addr / s.size≤(f.addr+f.ws.length) / s.size:=Nat.div_le_div_right (by omega);exact IC h hP hnd hk (S:=S) (b0:=b0) (by rw[hr];exact hSm) hp hn hin h0 hj hd1 hd2 (y2.chunk h.size.1 hd1 hd2)
    ·exact y1
   ·rcases List.mem_append.1 x1 with x1|x1
    ·exact⟨x,List.mem_append.2 (.inr (List.mem_cons_of_mem _ (List.mem_append.2 (.inl x1)))),x2,y,y1,y2⟩
    ·rw[List.mem_singleton] at x1;subst x1;exact⟨(id,bs,{ T with parts:=T.parts++[(c,n)] }),by simp,x2,y,List.mem_append.2 (.inl y1),y2⟩
end Go.Proofs.YtmjdnljneifpcaaGreatDoor
