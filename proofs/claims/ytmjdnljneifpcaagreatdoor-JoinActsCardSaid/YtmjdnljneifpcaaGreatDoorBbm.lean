/- Cells: what is proved on the way: every input of the statement; no condition. Texts joined: LawH LawI LawJz LawK TreB BagC BagD BmpC TabE JoiA DelA DelB DelC JoiB RmO BumB StoC. -/
import Derived.Test.YtmjdnljneifpcaaGreatDoorBbe
import Derived.Test.YtmjdnljneifpcaaGreatDoorBbl
import Derived.Test.YtmjdnljneifpcaaGreatDoorBbf
import Derived.Test.YtmjdnljneifpcaaGreatDoorBbj
import Derived.Test.YtmjdnljneifpcaaGreatDoorBbk
import Derived.Test.YtmjdnljneifpcaaGreatDoorBbh
import Derived.Test.YtmjdnljneifpcaaGreatDoorBbd
set_option linter.unusedVariables false
set_option linter.unusedSimpArgs false
set_option linter.unusedSectionVars false
namespace Go.Proofs.YtmjdnljneifpcaaGreatDoor
open Go.SL
structure Ac where
 k:Int
 A:Int
 B:Int
 C:Int
 X:Nat
 vW:Value
 ws:List Nat
 raw:Bool
 i:Int
 g:Int
def Y0e (x:Ac):List Value:=[.int .i64 x.k,.int .i64 x.A,.int .i64 x.B,.int .i64 x.C,.int .u64 x.X,x.vW,.bool x.raw,.int .i64 x.i,.int .i64 x.g]
def V2h (l:List Ac):List Value:=l.flatMap Y0e
def U8r (fr:List Q0e) (x:Ac):Prop:=x.X < 18446744073709551616∧(∀ y∈x.ws,y < 18446744073709551616)∧RdS fr x.vW x.ws.length 1 (Q1b x.ws)
theorem V0j (l:List Ac):(V2h l).length=l.length*9:=by
 induction l with
 | nil=>rfl
 | cons p L ih=>simp only[V2h,Y0e,List.flatMap_cons,List.length_append,List.length_cons,List.length_nil] at ih ⊢;omega
theorem Z8a {L:List Ac} {i:Nat} {x:Ac} (h:L[i]? = some x):∀ j v,(Y0e x)[j]? = some v→(V2h L)[i*9+j]? = some v:=by
 induction L generalizing i with
 | nil=>simp at h
 | cons y L ih=>
  intro j v hj;have hj9:j < 9:=(List.getElem?_eq_some_iff.1 hj).1;cases i with
  | zero=>
   simp at h;subst h;show (Y0e y++L.flatMap Y0e)[0*9+j]? = _;rw[Nat.zero_mul,Nat.zero_add,List.getElem?_append_left hj9];exact hj
  | succ i=>
   have:=ih (i:=i) (by simpa using h) j v hj;show (Y0e y++L.flatMap Y0e)[(i+1)*9+j]? = _;rw[List.getElem?_append_right (by show 9≤_;omega)];show (L.flatMap Y0e)[(i+1)*9+j - 9]? = _;rw[show (i+1)*9+j - 9=i*9+j by omega];exact this
theorem G2o {c:List Value} {o n:Nat} {L:List Ac} (h:Q0o c o n (V2h L)) {i:Nat} {x:Ac} (hp:L[i]? = some x):Q0o c (o+i*9) 9 (Y0e x):=
 h.part (es:=Y0e x) fun j v hj=>Z8a hp j v hj
theorem G2p [Q0i] (v:Value) (l:List Ac) (hl:l.length≤9223372036854775807) {w:World} {fr:List Q0e} (hr:RdS fr v l.length 9 (V2h l)) (hok:∀ x∈l,U8r fr x) (H:Q0a w fr) :
  Calls Tryz.prog 98 #[v] w (ret fun r w'=>∃ b,r = .bool b∧(b=false→l.length≤60)∧Q0a w' fr):=by
 obtain⟨h0,ad,cap,rfl,hrd⟩:=hr;refine Q0c Tryz.func98 rfl (by kernel_rfl) ?_;refine J63 H ?_;refine J57 H ?_;by_cases h60:(l.length:Int) > 60
 ·rw[show decide ((l.length:Int) > 60)=true from decide_eq_true (by omega)];refine J21 H ?_;exact Q0g (Jy H rfl fun w' H'=>⟨true,rfl,(fun h=>by cases h),H'⟩)
 rw[show decide ((l.length:Int) > 60)=false from decide_eq_false (by omega)];refine U1y H ?_;refine J97 H ?_;refine Q1l (fun ms σ w n=>ms=[]∧∃ i:Nat,i≤l.length∧n=l.length - i∧σ 8 = .slice ad l.length cap∧σ 9 = .int .i64 l.length∧σ 10 = .int .i64 i∧Q0a w fr) (m:=l.length) ⟨rfl,0,by omega,rfl,rfl,rfl,rfl,H⟩ ?_;clear H;rintro ms σ w n ⟨rfl,i,hi,rfl,g8,g9,g10,H⟩;rw[Q0b g8,Q0b g9,Q0b g10];refine J5 H ?_;refine Q2d rfl (fun h=>Q0w ?_) (fun h=>Q1n ?_)
 ·have hlt:i < l.length:=by omega
  have hy:=List.getElem?_eq_getElem hlt;generalize l[i]=y at hy;have hym:=hok y (List.mem_of_getElem? hy)
  rcases hrd with hz|⟨b,o,E,fz,c,rfl,hA,hrd⟩
  ·omega
  haveI:=hA;obtain⟨k,A,B,C,X,vW,ws,raw,i1,g1⟩:=y;obtain⟨_,_,_,adW,capW,hvW,_⟩:=hym;replace hvW:vW = .slice adW ws.length capW:=hvW;subst hvW;refine J19 H ?_;refine Jd ?_;refine Q0s rfl (Q1j H rfl (G2o hrd hy) rfl ?_);refine J12 H ?_;clear H;intro b4 w H;refine J4 H ?_;clear H;intro w H;refine Q0h ?_;refine G8c H ?_;by_cases hk:k=2
  ·subst hk;refine U1p H ?_;by_cases hC:C > 40
   ·rw[show decide (C > 40)=true from decide_eq_true (by omega)];refine J25 H ?_;refine G8j H ?_;refine J25 H ?_;refine J65 H ?_;refine J51 H ?_;exact Q0g (Jy H.drop rfl fun w' H'=>⟨true,rfl,(fun h=>by cases h),H'⟩)
   ·rw[show decide (C > 40)=false from decide_eq_false (by omega)];refine U7a H ?_;by_cases hB:B > 64
    ·rw[show decide (B > 64)=true from decide_eq_true (by omega)];refine J25 H ?_;refine J65 H ?_;refine J51 H ?_;exact Q0g (Jy H.drop rfl fun w' H'=>⟨true,rfl,(fun h=>by cases h),H'⟩)
    ·rw[show decide (B > 64)=false from decide_eq_false (by omega)];by_cases hw:(ws.length:Int) > 10
     ·first|refine Q2q rfl rfl rfl rfl ?_|refine Q3h rfl rfl rfl ?_|refine Y1j rfl rfl ?_
      refine U8n H ?_;rw[show decide ((ws.length:Int) > 10)=true from decide_eq_true (by omega)];refine J51 H ?_;exact Q0g (Jy H.drop rfl fun w' H'=>⟨true,rfl,(fun h=>by cases h),H'⟩)
     ·first|refine Q2q rfl rfl rfl rfl ?_|refine Q3h rfl rfl rfl ?_|refine Y1j rfl rfl ?_
      refine U8n H ?_;rw[show decide ((ws.length:Int) > 10)=false from decide_eq_false (by omega)];refine J76 H ?_;exact⟨_,⟨rfl,i+1,hlt,rfl,rfl,rfl,Q2a (by omega),H.drop⟩,by omega⟩
  ·rw[show (k == 2)=false by simpa using hk];by_cases hw:(ws.length:Int) > 10
   ·first|refine Jv ?_|refine V8p rfl rfl ?_
    refine U2b H ?_;refine U6x H ?_;refine U8n H ?_;rw[show decide ((ws.length:Int) > 10)=true from decide_eq_true (by omega)];refine J51 H ?_;exact Q0g (Jy H.drop rfl fun w' H'=>⟨true,rfl,(fun h=>by cases h),H'⟩)
   ·first|refine Jv ?_|refine V8p rfl rfl ?_
    refine U2b H ?_;refine U6x H ?_;refine U8n H ?_;rw[show decide ((ws.length:Int) > 10)=false from decide_eq_false (by omega)];refine J76 H ?_;exact⟨_,⟨rfl,i+1,hlt,rfl,rfl,rfl,Q2a (by omega),H.drop⟩,by omega⟩
 ·have hge:i=l.length:=by omega
  refine J14 H ?_;exact Q0g (Jy H rfl fun w' H'=>⟨false,rfl,fun _=>by omega,H'⟩)
end Go.Proofs.YtmjdnljneifpcaaGreatDoor
namespace Go.Proofs.YtmjdnljneifpcaaGreatDoor
open Go.SL
def cs0 (n size slots:Nat):CS:=⟨size,List.replicate n 0,[],List.replicate slots ⟨0,none⟩,0,[],[],[],[]⟩
theorem U9t (n size slots:Nat):Rel (cs0 n size slots) ms0 []:=by
 have hno:∀ (k g:Nat) (e:Ent),(List.replicate slots (⟨0,none⟩:Slt))[k]? ≠ some ⟨g,some e⟩:=by
  intro k g e h;rw[List.getElem?_replicate] at h;split at h <;> cases h
 refine⟨rfl,rfl,?_,List.nodup_nil,rfl,?_,?_,fun k g e h=>absurd h (hno k g e),?_,List.nodup_nil⟩
 ·intro r q;constructor
  ·intro h;cases h
  ·rintro⟨k,_,h1,h2,_⟩;have:k < 1:=(List.getElem?_eq_some_iff.1 h2).1;omega
 ·intro o x k g h;cases h
 ·intro o x k g h;cases h
 ·intro o k g h;cases h
structure Y9d (s:CS) (told:List (Nat×Nat)):Prop where
 shape:∃ r,Q3d s.tab=List.replicate told.length (1,true)++List.replicate r (0,false)
 told:told=(List.range told.length).map fun i=>(i,1)
 inv:Inv s
theorem U5n (n size slots:Nat):Y9d (cs0 n size slots) []:=⟨⟨slots,by simp[Q3d,cs0]⟩,rfl,Y8v rfl G2j⟩
theorem V1u {ts:List Slt} {n r k:Nat} {t:Slt} (h:Q3d ts=List.replicate n (1,true)++List.replicate r (0,false)) (hk:ts[k]? = some t):(k < n∧t.gen=1∧t.ent.isSome=true)∨(n≤k∧k < n+r∧t.gen=0∧t.ent=none):=by
 have h1:(Q3d ts)[k]? = some (t.gen,t.ent.isSome):=by
  unfold Q3d;rw[List.getElem?_map,hk];rfl
 rw[h] at h1;by_cases hkn:k < n
 ·rw[List.getElem?_append_left (by simpa using hkn),List.getElem?_replicate,if_pos hkn] at h1;injection h1 with h1
  injection h1 with h2 h3
  exact .inl ⟨hkn,h2.symm,h3.symm⟩
 ·rw[List.getElem?_append_right (by simp;omega),List.length_replicate,List.getElem?_replicate] at h1;split at h1
  ·injection h1 with h1
   injection h1 with h2 h3
   refine .inr ⟨by omega,by omega,h2.symm,?_⟩;cases he:t.ent with
   | none=>rfl
   | some e=>rw[he] at h3;cases h3
  ·cases h1
theorem Y9d.step {s s':CS} {m m':MS} {told told':List (Nat×Nat)} (h:Y9d s told) (st:U5m s m told s' m' told'):Y9d s' told':=by
 obtain⟨⟨r,hs⟩,ht,hI⟩:=h
 rcases st.tab with ⟨rfl,h1⟩|⟨k,g0,rfl,h1,h2,h3⟩
 ·exact⟨⟨r,by rw[h1];exact hs⟩,ht,st.inv hI⟩
 ·rcases V1u hs h1 with ⟨_,_,h4⟩|⟨h4,h5,h6,_⟩
  ·cases h4
  ·have h6:g0=0:=h6;subst h6
   have hl:s.tab.length=told.length+r:=by
    have:=congrArg List.length hs;simpa [Q3d] using this
   have hk:k=told.length:=by
    refine Classical.byContradiction fun hne=>?_;have hlt:told.length < k:=by omega
    have hn:=List.getElem?_eq_getElem (l:=s.tab) (i:=told.length) (by omega);have hb:=h2 told.length _ hlt hn
    rcases V1u hs hn with ⟨h7,_⟩|⟨_,_,h7,h8⟩
    ·omega
    ·unfold busy at hb;rw[h7,h8] at hb;cases hb
   subst hk;refine⟨⟨r - 1,?_⟩,?_,st.inv hI⟩
   ·rw[h3,hs,List.length_append];obtain⟨r',rfl⟩:∃ r',r=r'+1:=⟨r - 1,by omega⟩;rw[List.set_append_right _ _ (by simp),List.length_replicate,Nat.sub_self,List.replicate_succ,List.set_cons_zero,Nat.add_sub_cancel];show _=List.replicate (told.length+1) (1,true)++_;rw[List.replicate_succ',List.append_assoc];rfl
   ·rw[List.length_append];show told++[(told.length,1)]=(List.range (told.length+1)).map _;rw[List.range_succ,List.map_append,← ht];rfl
theorem U9k (x:Int):∃ X:Nat,(if x > 0 then x else 0)=(X:Int):=⟨x.toNat,by split <;> omega⟩
theorem U1c [Q0i] (z1 z2 z3:Int) {w:World} {fr:List Q0e} (H:Q0a w fr) :
  Calls Tryz.prog 35 #[.agg #[.int .i64 z1,.int .i64 z2,.int .i64 z3]] w (ret fun v w'=>∃ p n size slots,v=pp p∧1≤n∧n≤20∧1≤size∧size≤16∧1≤slots∧slots≤16∧Q0a w' (RUN p (cs0 n size slots) ms0 []::fr)):=by
 obtain⟨X1,h1⟩:=U9k z1;obtain⟨X2,h2⟩:=U9k z2;obtain⟨X3,h3⟩:=U9k z3;refine Q0c Tryz.func35 rfl (by kernel_rfl) ?_;refine J8 H ?_;clear H;intro b1 w H;refine G9s H ?_;refine U1w H ?_;rw[h1]
 refine V5d (v := .int .i64 ((X1 % 20:Nat):Int)) (by
  show some (Value.int IntKind.i64 (Int.tmod (X1:Int) 20))=_;rw[Int.tmod_eq_emod_of_nonneg (by omega)];rfl) rfl ?_
 refine Jv ?_;rw[show IntKind.i64.wrap (1+((X1 % 20:Nat):Int))=((X1 % 20+1:Nat):Int) by rw[Q1e (by omega) (by omega)];omega];refine J45 H ?_;refine U1w H ?_;rw[h2]
 refine V5d (v := .int .i64 ((X2 % 16:Nat):Int)) (by
  show some (Value.int IntKind.i64 (Int.tmod (X2:Int) 16))=_;rw[Int.tmod_eq_emod_of_nonneg (by omega)];rfl) rfl ?_
 refine Jv ?_;rw[show IntKind.i64.wrap (1+((X2 % 16:Nat):Int))=((X2 % 16+1:Nat):Int) by rw[Q1e (by omega) (by omega)];omega];refine J45 H ?_;refine U1w H ?_;rw[h3]
 refine V5d (v := .int .i64 ((X3 % 16:Nat):Int)) (by
  show some (Value.int IntKind.i64 (Int.tmod (X3:Int) 16))=_;rw[Int.tmod_eq_emod_of_nonneg (by omega)];rfl) rfl ?_
 refine Jv ?_;rw[show IntKind.i64.wrap (1+((X3 % 16:Nat):Int))=((X3 % 16+1:Nat):Int) by rw[Q1e (by omega) (by omega)];omega]
 refine Jc rfl rfl (Y8h (X1 % 20+1) (X2 % 16+1) (X3 % 16+1) (by omega) (by omega) (by omega) (by omega) (by omega) (by omega) H) ?_;clear H;rintro v w ⟨c,rfl,H⟩;refine J32 H ?_;refine J15 H ?_;refine J25 H ?_;refine U7r H ?_;refine J20 H ?_;refine Jc rfl rfl (Z7h H) ?_;clear H;rintro v w ⟨mo,rfl,H⟩;refine J60 H ?_;clear H;intro b33 w H;refine J0 H ?_;have H:=Q3x (E:=69) (k:=2) H;replace H:=Js [1,2,1,0] 1 H;exact Q0g (Jy (Q4j (told:=[]) H) rfl fun w' H'=>⟨_,X1 % 20+1,X2 % 16+1,X3 % 16+1,rfl,by omega,by omega,by omega,by omega,by omega,by omega,H'⟩)
end Go.Proofs.YtmjdnljneifpcaaGreatDoor
namespace Go.Proofs.YtmjdnljneifpcaaGreatDoor
open Go.SL
def L0:Lay:=⟨2,[1],0,[]⟩
theorem X0f:Q4k [2,2,0]=some L0:=by rfl
theorem U5o:Q2y L0:=by decide
theorem X0g:MWF ms0:=⟨⟨by simp[ms0],by simp[ms0]⟩,⟨by simp[ms0],fun l h=>by simp[ms0] at h⟩,(fun x h=>by simp[ms0] at h),by simp[ms0]⟩
theorem Y0f {r1:Int} {s s':CS} {m:MS} {told:List (Nat×Nat)} {i g e:Nat} (R:Rel s m told) (hm:MWF m) (F:Y9d s told) (hM:U9j s r1 1 0 i g e s') (hmay:V0p m r1 1 0=(2,0)) (hsz:s.size=8) (hlen:told.length < s.tab.length) (hfree:∃ a,a < s.own.length∧s.own.getD a 0=0) :
  e=0∧i=told.length∧g=1∧Rel s' (Y5k m r1 1 0) (told++[(told.length,1)])∧Y9d s' (told++[(told.length,1)])∧s'.size=8∧G6c s.own s'.own 1∧s'.tab.length=s.tab.length:=by
 obtain⟨hm1,hm2⟩:=Z2e R r1 1 0;rw[hmay] at hm1;have hn:Q6x s 1 0=2:=by rw[hm2 (by rw[hmay]),hmay]
 have hk:Q6x s 1 0 / s.size+1=1:=by rw[hn,hsz]
 obtain⟨⟨r,hs⟩,ht,_⟩:=id F
 have hnb:∀ t,s.tab[told.length]? = some t→busy t=false:=by
  intro t h
  rcases V1u hs h with ⟨h7,_⟩|⟨_,_,h7,h8⟩
  ·omega
  ·unfold busy;rw[h7,h8];rfl
 have hat:=List.getElem?_eq_getElem (l:=s.tab) (i:=told.length) hlen
 rcases hM with ⟨h1,_⟩|⟨h1,h2,_⟩|⟨h1,h2,_⟩|⟨h1,rfl,g0,addr,h2,h3,h4,rfl,h5,h6,h7,h8,h9,h10,h11,h12P⟩
 ·exact absurd hm1 h1
 ·have h3:=h2 _ (List.mem_of_getElem? hat);rw[hnb _ hat] at h3;cases h3
 ·obtain⟨a,ha,hz⟩:=hfree;rw[hk] at h2;obtain⟨j,h3,h4,h5⟩:=h2 a (by omega);obtain rfl:j=a:=by omega
  exact absurd hz h5
 ·rw[hk] at h11
  have hi:i=told.length:=by
   rcases V1u hs h2 with ⟨_,_,h12⟩|⟨h12,_⟩
   ·cases h12
   ·refine Classical.byContradiction fun hne=>?_;have h13:=h4 told.length _ (by omega) hat;rw[hnb _ hat] at h13;cases h13
  subst hi
  have hg:g0=0:=by
   rcases V1u hs h2 with ⟨_,_,h12⟩|⟨_,_,h12,_⟩
   ·cases h12
   ·exact h12
  subst hg;obtain⟨_,R'⟩:=Z5b R hm (by rw[hmay]) h2 h6 h7 h8 h10;refine⟨rfl,rfl,rfl,R',?_,by rw[h5,hsz],h11,by rw[h10,List.length_set]⟩;exact F.step (m:=m) (m':=Y5k m r1 1 0) ⟨by show m.P.length≤_;omega,by show (m.objs++[_]).length≤_;simp,.inr ⟨told.length,0,rfl,h2,h4,by rw[h10];unfold Q3d;rw[List.map_set];rfl⟩,fun hI=>Z5h hI h2 h6 h9 h10 rfl,fun hT=>by rw[h8];exact hT,h12P⟩
end Go.Proofs.YtmjdnljneifpcaaGreatDoor
namespace Go.Proofs.YtmjdnljneifpcaaGreatDoor
open Go.SL
theorem Y9e:∀ {a b:List Int},a.Pairwise (· < ·)→b.Pairwise (· < ·)→(∀ x,x∈a↔x∈b)→a=b
 | [],[],_,_,_=>rfl
 | [],y::b,_,_,h=>by have:=(h y).2 List.mem_cons_self;cases this
 | x::a,[],_,_,h=>by have:=(h x).1 List.mem_cons_self;cases this
 | x::a,y::b,ha,hb,h=>by
  obtain⟨ha1,ha2⟩:=List.pairwise_cons.1 ha;obtain⟨hb1,hb2⟩:=List.pairwise_cons.1 hb
  have hxy:x=y:=by
   have h1:=(h x).1 List.mem_cons_self;have h2:=(h y).2 List.mem_cons_self
   rcases List.mem_cons.1 h1 with h1|h1
   ·exact h1
   ·rcases List.mem_cons.1 h2 with h2|h2
    ·exact h2.symm
    ·have:=ha1 y h2;have:=hb1 x h1;omega
  subst hxy;congr 1;refine Y9e ha2 hb2 fun z=>?_;constructor
  ·intro hz
   rcases List.mem_cons.1 ((h z).1 (List.mem_cons_of_mem _ hz)) with h1|h1
   ·have:=ha1 z hz;omega
   ·exact h1
  ·intro hz
   rcases List.mem_cons.1 ((h z).2 (List.mem_cons_of_mem _ hz)) with h1|h1
   ·have:=hb1 z hz;omega
   ·exact h1
theorem U9l (v:Value) (l:List Nat):NL v l=IL v (l.map fun x:Nat=>(x:Int)):=by
 show sls _ 1 v (Q0u l)=_;rw[Q6q]
theorem G6n {s:CS} {m:MS} {told:List (Nat×Nat)} (R:G4p s m told) {id:Int} (h0:0≤id) {K:List Int} (hp:K.Perm ((s.par.map (·.1)).filter (Z0n s.par id))) (hs:K.Pairwise (·≤·)):K=(Y7w m.P id).map fun x:Nat=>(x:Int):=by
 have hnd:K.Nodup:=hp.nodup_iff.2 (List.Pairwise.filter _ R.nd)
 have hlt:K.Pairwise (· < ·):=by
  have:=List.pairwise_and_iff.2 ⟨hs,hnd⟩;exact this.imp (fun h=>by have h1:=h.1;have h2:=h.2;omega)
 refine Y9e hlt ?_ fun x=>?_
 ·refine List.Pairwise.map _ ?_ (V6z m.P _ _);intro a b hab;omega
 ·rw[hp.mem_iff,List.mem_filter];unfold Z0n Y7w;rw[decide_eq_true_iff];constructor
  ·rintro⟨_,h2⟩;obtain⟨k,rfl,h3,h4,h5⟩:=(R.tree x id).1 (Q7d h2);refine List.mem_map.2 ⟨k,V1d.2 ⟨(List.getElem?_eq_some_iff.1 h4).1,h3,?_⟩,rfl⟩;rw[List.getD_eq_getElem?_getD,h4];exact beq_self_eq_true id
  ·intro h;obtain⟨k,hk,rfl⟩:=List.mem_map.1 h;obtain⟨h1,h2,h3⟩:=V1d.1 hk;have h4:=List.getElem?_eq_getElem h1;rw[List.getD_eq_getElem?_getD,h4] at h3;have h5:m.P[k]=id:=by simpa using h3
   rw[h5] at h4;have h6:=(R.tree k id).2 ⟨k,rfl,h2,h4,h0⟩;exact⟨List.mem_map.2 ⟨_,h6,rfl⟩,(Q3r R.nd).2 h6⟩
theorem Z2k [Q0i] (p:Nat) (s:CS) (m:MS) (told:List (Nat×Nat)) (R:G4p s m told) {w:World} {fr:List Q0e} (H:Q0a w (RUN p s m told::fr)) :
  Calls Tryz.prog 11 #[pp p] w (ret fun v w'=>v = .bool true∧Q0a w' (RUN p s m told::fr)):=by
 obtain⟨c,mo,a,cap,H⟩:=Y5s H;obtain⟨_,_,hw,_,_⟩:=Q1u H.swap;obtain⟨_,_,_,_,_,_,_,hmw,_⟩:=Q2t (H.sel [2,0,0,0] 0);have hlen:told.length≤100000:=by rw[R.len];exact hmw.few
 refine Q0c Tryz.func11 rfl (by kernel_rfl) ?_;refine J14 H ?_;refine U7z H ?_;replace H:=Js [3,0,0,0] 0 H;refine J7 H ?_;refine Q1m (fun ms σ w=>ms=[]∧σ 0=pp p∧Q0a w (TKL (.slice a told.length cap) told::V0q p c mo (.slice a told.length cap)::Q2z c s::Q2p mo m::fr)) ?_ ?_
 ·refine Q0t ?_;refine Q1l (fun ms σ w n=>ms=[]∧∃ i:Nat,i≤told.length∧n=told.length - i∧σ 0=pp p∧σ 18 = .slice a told.length cap∧σ 19 = .int .i64 told.length∧σ 20 = .int .i64 i∧Q0a w (TKL (.slice a told.length cap) told::V0q p c mo (.slice a told.length cap)::Q2z c s::Q2p mo m::fr)) (m:=told.length) ⟨rfl,0,by omega,rfl,rfl,rfl,rfl,rfl,H⟩ ?_;clear H;rintro ms σ w n ⟨rfl,i,hi,rfl,g0,g18,g19,g20,H⟩;rw[Q0b g0,Q0b g18,Q0b g19,Q0b g20];refine J5 H ?_;refine Q2d rfl (fun h=>Q0w ?_) (fun h=>Q1n ?_)
  ·have hlt:i < told.length:=by omega
   have hn:=List.getElem?_eq_getElem hlt;generalize told[i]=kg at hn;obtain⟨k,g⟩:=kg;have hPk:Vd s m told k g i:=Y3e R hn;obtain⟨bT,sT,rfl,H,hcl⟩:=Q0y H (by omega);refine U1t H ?_;refine Jd ?_;refine Q0s rfl (Q1j H rfl (Q6c hn) rfl ?_);refine J12 H ?_;clear H;intro b4 w H;refine U3n H ?_;clear H;intro w H;refine Q0h ?_;replace H:=hcl _ _ H.swap;replace H:=Js [2,2,2,1,0] 0 H;refine U4y H ?_;refine Jc rfl rfl (Y3g p c mo _ s m told R k g i hPk H) ?_;clear H;rintro v w ⟨rfl,H⟩;refine J17 H ?_;replace H:=Js [2,0,0,0,0] 0 H;refine J10 H ?_;refine Jc rfl rfl (Q7g mo m i H) ?_;clear H;rintro v w ⟨rfl,H⟩;cases hv:Q7m m i with
   | none=>
    refine J18 H ?_;refine Q3g rfl (Q1n ?_);refine J3 H ?_;replace H:=Js [4,1,1,0] 1 H;exact⟨_,⟨rfl,i+1,hlt,rfl,rfl,rfl,rfl,Q2a (by omega),H⟩,by omega⟩
   | some nx=>
    obtain⟨n',x⟩:=nx;obtain⟨hin,hx,hh,hg⟩:=Q5c hv;obtain rfl:i=n':=by omega
    obtain⟨t,lc,aL,cL,bO,cO,sO,ptrs,q,vw,vk,vt,rest,hm,h2,hp,H,hclose⟩:=Q4i H hx;have hm':=Q8b hx hm;have hmx:=hm.objs x (List.mem_of_getElem? hx);have hkn:=hmx.kind;have htn:=hmx.to;have hsm:=Q4w (w:=hm) hx;have hll:=hm.lays.1;have hol:=(List.getElem?_eq_some_iff.1 hx).1;obtain⟨y,hy,hyl,hl1,hl2,hR,hsz⟩:=G8w hm h2 hx;obtain⟨aw,cw,rfl⟩:=Q0j H.drop (Q1f _) (by decide);obtain⟨ak,ck,rfl⟩:=Q0j H.drop.drop (Q0d _) (by decide);obtain⟨at',ct,rfl⟩:=Q0j H.drop.drop.drop (Q0d _) (by decide);replace H:=Js [6,6,0,0,0,0,0,0,0,0] 0 H;obtain⟨bL,sL,D1,D2,Rr,rfl,H,hD,hclL⟩:=Z1r (by rw[← h2,List.length_map]) H hy;obtain⟨vr,vq,ly⟩:=y;obtain rfl:ly=V0g m x:=hyl;have hlcl:lc.length=m.lays.length:=by rw[← h2,List.length_map]
    refine J17 H ?_;refine U8i H ?_;refine Jd ?_;refine Q0s rfl (Q0l H rfl hp rfl ?_);refine J0 H ?_;refine J29 H ?_;refine U2n H ?_;refine Q1m (fun ms σ w=>ms=[]∧σ 0=pp p∧σ 18 = .slice (some ⟨bT,0,none⟩) told.length cap∧σ 19 = .int .i64 told.length∧σ 20 = .int .i64 i∧Q0a w (pts bL (row 102 (Q2f lc++sL))::D1::D2::Rr::pts q (Z7b (.slice aw x.w.length cw) (.slice ak x.kind.length ck) (.slice at' x.to.length ct) x)::UL (.slice aw x.w.length cw) x.w::NL (.slice ak x.kind.length ck) x.kind::NL (.slice at' x.to.length ct) x.to::pts bO (row 77 (ptrs++sO))::pts mo (row 58 [pp t,.slice (some ⟨bL,0,none⟩) m.lays.length cL,.slice (some ⟨bO,0,none⟩) m.objs.length cO])::RTR t m.P::star rest::V0q p c mo (.slice (some ⟨bT,0,none⟩) told.length cap)::Q2z c s::pts b4 (row 69 [.int .i64 k,.int .i64 g])::TKL (.slice (some ⟨bT,0,none⟩) told.length cap) told::fr)) ?_ ?_
    ·refine Q0t ?_;refine Q1l (fun ms σ w n=>ms=[]∧∃ j:Nat,j≤x.w.length∧n=x.w.length - j∧σ 0=pp p∧σ 4=pp b4∧σ 5=pp q∧σ 18 = .slice (some ⟨bT,0,none⟩) told.length cap∧σ 19 = .int .i64 told.length∧σ 20 = .int .i64 i∧σ 51 = .int .i64 x.w.length∧σ 52 = .int .i64 j∧Q0a w (pts bL (row 102 (Q2f lc++sL))::D1::D2::Rr::pts q (Z7b (.slice aw x.w.length cw) (.slice ak x.kind.length ck) (.slice at' x.to.length ct) x)::UL (.slice aw x.w.length cw) x.w::NL (.slice ak x.kind.length ck) x.kind::NL (.slice at' x.to.length ct) x.to::pts bO (row 77 (ptrs++sO))::pts mo (row 58 [pp t,.slice (some ⟨bL,0,none⟩) m.lays.length cL,.slice (some ⟨bO,0,none⟩) m.objs.length cO])::RTR t m.P::star rest::V0q p c mo (.slice (some ⟨bT,0,none⟩) told.length cap)::Q2z c s::pts b4 (row 69 [.int .i64 k,.int .i64 g])::TKL (.slice (some ⟨bT,0,none⟩) told.length cap) told::fr)) (m:=x.w.length) ⟨rfl,0,by omega,rfl,rfl,rfl,rfl,rfl,rfl,rfl,rfl,rfl,H⟩ ?_;clear H;rintro ms σ w n ⟨rfl,j,hj,rfl,g0,g4,g5,g18,g19,g20,g51,g52,H⟩;rw[Q0b g0,Q0b g4,Q0b g5,Q0b g18,Q0b g19,Q0b g20,Q0b g51,Q0b g52];refine J5 H ?_;refine Q2d rfl (fun h=>Q0w ?_) (fun h=>Q1n ?_)
     ·have hjl:j < x.w.length:=by omega
      refine J96 H ?_;refine J1 H ?_;clear H;intro w H;refine J27 H ?_;refine Jl 3 [15] H ?_;refine Ja 4 ?_;refine Jf 5 ?_;refine Jl 6 [15] H ?_;refine Ja 7 ?_;refine Ja 8 ?_;refine Jf 9 ?_;refine Jl 10 [15] H ?_;refine Ja 11 ?_;rw[show IntKind.i64.wrap ((x.lay:Int) - 1)=((x.lay - 1:Nat):Int) by rw[Q1e (by omega) (by omega)];omega];refine Ji 12 ?_;refine Q1w 13 [15] H rfl (Q0n.none rfl) rfl (Q8u hy) (by kernel_rfl) ?_;refine Ja 14 ?_;refine Jo 15 H ?_;refine Jk rfl rfl (V9e vr vq (V0g m x) hR j (Y7z hsz (by omega)) (by omega) ((hD _).there) H) ?_;clear H;rintro v w ⟨rfl,H⟩;refine Jx H ?_;cases hb:Q2h (V0g m x) j with
      | true=>
       refine J13 H ?_;have hpl:Q2l m i j true=0:=by rw[Q2u hv];unfold Q0x;rw[if_neg (by omega),Int.toNat_natCast,if_neg (fun h=>h hb)]
       have hkj:=List.getElem?_eq_getElem (l:=x.kind) (i:=j) (by omega);have htj:=List.getElem?_eq_getElem (l:=x.to) (i:=j) (by omega);have hkd:x.kind.getD j 0=x.kind[j]:=by rw[List.getD_eq_getElem?_getD,hkj];rfl
       have htd:x.to.getD j 0=x.to[j]:=by rw[List.getD_eq_getElem?_getD,htj];rfl
       have hgo:=hmx.goes j;rw[htd] at hgo
       obtain⟨hk2,h1⟩:x.kind.getD j 0≤2∧Q5u s k g j=(V8d told (x.kind.getD j 0) (x.to.getD j 0),0):=by
        rcases Y8o R hPk j with ⟨h0,_⟩|⟨_,n',j',x',e1,e2,e3,_,_,_,e4,e5⟩
        ·exact absurd hpl h0
        ·obtain rfl:n'=i:=by omega
         obtain rfl:j'=j:=by omega
         rw[hx] at e3;injection e3 with e3
         subst e3;exact⟨e4,e5⟩
       rw[hkd] at hk2;rw[hkd,htd] at h1;generalize x.kind[j]=kd at *;generalize x.to[j]=td at *;have hltd:kd=2→td < told.length:=fun h=>by rw[R.len];exact hgo (by rw[hkj,h])
       have hLk:=fun (w:World) (fr:List Q0e) (H:Q0a w (Q2z c s::fr))=>V1g c s k g j H;rw[h1] at hLk;obtain⟨l1,l2,l3,hlk⟩:=Q5t (V8d told kd td);rw[hlk] at hLk;have hlink:=fun (w:World) (fr:List Q0e) (H:Q0a w (V0q p c mo (.slice (some ⟨bT,0,none⟩) told.length cap)::TKL (.slice (some ⟨bT,0,none⟩) told.length cap) told::fr))=>V9z p c mo (some ⟨bT,0,none⟩) cap told kd td hk2 hltd H;rw[hlk] at hlink;replace H:=Js [13,0,0,0,0,0,0,0,0,0,0,0,0,0,0,0] 0 H;refine J7 H ?_;refine Q1m (fun ms σ w=>ms=[]∧∃ b7,σ 7=pp b7∧σ 8 = .int .i64 0∧σ 0=pp p∧σ 4=pp b4∧σ 5=pp q∧σ 6 = .int .i64 j∧σ 18 = .slice (some ⟨bT,0,none⟩) told.length cap∧σ 19 = .int .i64 told.length∧σ 20 = .int .i64 i∧σ 51 = .int .i64 x.w.length∧σ 52 = .int .i64 j∧Q0a w (pts b7 (row 88 [.int .i64 l1,.int .i64 l2,.int .i64 l3])::pts bL (row 102 (Q2f lc++sL))::D1::D2::Rr::pts q (Z7b (.slice aw x.w.length cw) (.slice ak x.kind.length ck) (.slice at' x.to.length ct) x)::UL (.slice aw x.w.length cw) x.w::NL (.slice ak x.kind.length ck) x.kind::NL (.slice at' x.to.length ct) x.to::pts bO (row 77 (ptrs++sO))::pts mo (row 58 [pp t,.slice (some ⟨bL,0,none⟩) m.lays.length cL,.slice (some ⟨bO,0,none⟩) m.objs.length cO])::RTR t m.P::star rest::V0q p c mo (.slice (some ⟨bT,0,none⟩) told.length cap)::Q2z c s::pts b4 (row 69 [.int .i64 k,.int .i64 g])::TKL (.slice (some ⟨bT,0,none⟩) told.length cap) told::fr)) ?_ ?_
       ·refine J1 H ?_;clear H;intro w H;refine Ja 0 ?_;refine Ja 1 ?_;refine Jf 2 ?_;refine Jl 3 [6,11] H ?_;refine Q1w 4 [6,11] H rfl (Q0n.none rfl) rfl (by repeat first|exact .nil _|apply Q0o.cons rfl) (by kernel_rfl) ?_;refine Ja 5 ?_;refine Jw 6 10 H rfl rfl (Q1h (a:=[]) (b:=[]) rfl rfl (call (hLk _ _ H) ?_)) (Q1x H rfl ?_)
        ·clear H;rintro v w ⟨rfl,H⟩;refine U4p H ?_;clear H;intro b7 w H;refine G9t H ?_;clear H;intro w H;refine J58 H ?_;replace H:=Js [0,1,1,1,1,1,1,1,1,1,1,1,1,1,0,0,0] 0 H;exact⟨rfl,rfl,b7,rfl,rfl,rfl,rfl,rfl,rfl,rfl,rfl,rfl,rfl,rfl,H⟩
        ·clear H;intro b7 w H;refine Jo 6 H ?_;refine Jk rfl rfl (hLk _ _ H.swap) ?_;clear H;rintro v w ⟨rfl,H⟩;refine U4q H ?_;clear H;intro w H;refine J58 H ?_;replace H:=Js [1,1,1,1,1,1,1,1,1,1,1,1,1,1,0,0,0] 0 H;exact⟨rfl,rfl,b7,rfl,rfl,rfl,rfl,rfl,rfl,rfl,rfl,rfl,rfl,rfl,H⟩
       clear H;rintro ms σ w ⟨rfl,b7,g7,g8,g0,g4,g5,g6,g18,g19,g20,g51,g52,H⟩;rw[Q0b g7,Q0b g8,Q0b g0,Q0b g4,Q0b g5,Q0b g6,Q0b g18,Q0b g19,Q0b g20,Q0b g51,Q0b g52];replace H:=Js [7,7,0,0,0,0,0,0,0,0,0,0,0,0,0,0,0] 0 H;obtain⟨bk,sk,rfl,H,hck⟩:=Q0y H (by omega);obtain⟨bt,st,rfl,H,hct⟩:=Q0y H.swap (by omega);refine J1 H ?_;clear H;intro w H;refine U5f H ?_;refine Q1w 4 [19] H rfl (Q0n.of rfl rfl rfl) rfl (by repeat first|exact .nil _|apply Q0o.cons rfl) (by kernel_rfl) ?_;refine U3x H ?_;refine Jl 8 [19] H ?_;refine Ja 9 ?_;refine Ji 10 ?_;refine Q2b 11 [19] H rfl (Q0n.of rfl rfl rfl) rfl (Q2r hkj) (by kernel_rfl) ?_;refine J79 H ?_;refine Jf 14 ?_;refine Jl 15 [19] H ?_;refine Ja 16 ?_;refine Ji 17 ?_;refine Q2b 18 [19] H rfl (Q0n.of rfl rfl rfl) rfl (Q2r htj) (by kernel_rfl) ?_;replace H:=Js [13,15,0,0,0,0,0,0,0,0,0,0,0,0,0,0,0] 0 H;refine Jo 19 H ?_;refine Jk rfl rfl (hlink _ _ H) ?_;clear H;rintro v w ⟨rfl,H⟩;refine Ja 20 ?_;refine Ja 21 ?_;refine Jx H ?_;refine J9 H ?_;replace H:=Js [2,2,0,0,0,0,0,0,0,0,0,0,0,0,0,0,0] 0 H;replace H:=hct _ _ H;replace H:=hck _ _ H.swap;replace H:=Js [5,5,5,5,5,5,0,0,3,3,3,3,0,2,2,0] 1 H;refine J3 H ?_;exact⟨_,⟨rfl,j+1,hjl,rfl,rfl,rfl,rfl,rfl,rfl,rfl,rfl,Q2a (by omega),H⟩,by omega⟩
      | false=>
       refine U2l H ?_;have hpl:Q2l m i j false=0:=by rw[Q2u hv];unfold Q0x;rw[if_neg (by omega),Int.toNat_natCast,if_neg (fun h=>h hb)]
       have hjx:=List.getElem?_eq_getElem hjl;have hjd:x.w.getD j 0=x.w[j]:=by rw[List.getD_eq_getElem?_getD,hjx];rfl
       have h1:Z1v s k g j=(x.w.getD j 0,0):=by
        rcases Z4z R hPk j with ⟨h0,_⟩|⟨_,n',j',x',e1,e2,e3,_,e5⟩
        ·exact absurd hpl h0
        ·obtain rfl:n'=i:=by omega
         obtain rfl:j'=j:=by omega
         rw[hx] at e3;injection e3 with e3
         subst e3;exact e5
       rw[hjd] at h1;generalize x.w[j]=y at hjx h1;replace H:=Js [13,0,0,0,0,0,0,0,0,0,0,0,0,0,0,0] 0 H;refine J1 H ?_;clear H;intro w H;refine U2j H ?_;refine U4o H ?_;refine Ja 5 ?_;refine Jo 6 H ?_;refine Jk rfl rfl (Z4x c s k g j H) ?_;clear H;rintro v w ⟨rfl,H⟩;rw[h1];refine J46 H ?_;replace H:=Js [6,0,0,0,0,0,0,0,0,0,0,0,0,0,0,0] 0 H;obtain⟨bW,sW,rfl,H,hcw⟩:=Q0y H (by omega);refine J15 H ?_;refine J44 H ?_;refine J34 H ?_;refine Q4u rfl rfl rfl (Q2k rfl rfl (by omega) (by omega) rfl ?_);refine Q4u rfl rfl rfl (Q0l H rfl (V1o hjx) rfl ?_);refine J25 H ?_;rw[show ((y:Int) != (y:Int))=false by simp];refine J17 H ?_;replace H:=hcw _ _ H;replace H:=Js [2,2,2,2,2,0,1,1,1,1,1,1,1,0,0,0] 0 H;refine J3 H ?_;exact⟨_,⟨rfl,j+1,hjl,rfl,rfl,rfl,rfl,rfl,rfl,rfl,rfl,Q2a (by omega),H⟩,by omega⟩
     ·exact⟨rfl,rfl,rfl,rfl,rfl,rfl,H⟩
    clear H;rintro ms σ w ⟨rfl,g0,g18,g19,g20,H⟩;rw[Q0b g0,Q0b g18,Q0b g19,Q0b g20];replace H:=hclL _ _ H;replace H:=Js [2,2,2,2,2,2,0,0,0,0] 0 H;replace H:=Q3j hx (hclose _ _ _ hm' H);refine J3 H ?_;replace H:=Js [4,1,1,0] 1 H;exact⟨_,⟨rfl,i+1,hlt,rfl,rfl,rfl,rfl,Q2a (by omega),H⟩,by omega⟩
  ·exact⟨rfl,rfl,rfl,H⟩
 clear H;rintro ms σ w ⟨rfl,g0,H⟩;rw[Q0b g0];replace H:=Js [3,0,0,0] 0 H;obtain⟨t,lc,oc,aL,cL,aO,cO,hm,h2,h3,hl1,hl2,H⟩:=Q2t H;have hPl:=hm.P.2;replace H:=Js [1,0,0,0,0,0,0,0,0] 0 H;refine U8h H ?_;refine Jc rfl rfl (V7y t m.P (by omega) H) ?_;clear H;intro v w H;obtain⟨aA,cA,rfl⟩:=Q0j H (Q0d _) (by decide);refine J35 H ?_;clear H;intro b136 w H;replace H:=H.swap
 have hal:(V4y m.P).length≤100000:=by
  have:(V4y m.P).length≤m.P.length:=V4n m.P _ _;omega
 refine Q0s rfl (Q1t H rfl rfl (by repeat first|exact .nil _|apply Q0o.cons rfl) rfl (by decide) (by rw[Q0d];simp only[List.length_cons,List.length_nil];omega) rfl rfl ?_);clear H;intro vS w H;have e1:Q0u (V4y m.P)++[.int .i64 0]=Q0u (V4y m.P++[0]):=by rw[Q3s];rfl
 rw[e1] at H
 have hidL:∀ x∈V4y m.P++[0],((x:Nat):Int)=0∨(fnd s.par ((x:Nat):Int)).isSome=true:=by
  intro x hx
  rcases List.mem_append.1 hx with hx|hx
  ·right;obtain⟨qq,q1,q2,q3⟩:=Z2d.1 hx;rw[(Q3r R.nd).2 ((R.tree x qq).2 ⟨x,rfl,q2,q1,q3⟩)];rfl
  ·left;simp at hx;omega
 have hLl:(V4y m.P++[0]).length≤100001:=by simp;omega
 generalize V4y m.P++[0]=L at H hidL hLl;obtain⟨aS,cS,rfl⟩:=Q0j H (Q0d L) (by decide);refine J57 H ?_;replace H:=Js [0,1,1,1,1,1,1,1,1,1] 1 H;refine J7 H ?_;refine Q1m (fun ms σ w=>ms=[]∧σ 0=pp p∧Q0a w (NL (.slice aS L.length cS) L::RTR t m.P::pts mo (row 58 [pp t,.slice aL m.lays.length cL,.slice aO m.objs.length cO])::sls 102 4 (.slice aL m.lays.length cL) (Q2f lc)::star (lc.map V2q)::sls 77 1 (.slice aO m.objs.length cO) (oc.map fun x=>pp x.ptr)::star (oc.map ocr)::TKL (.slice a told.length cap) told::V0q p c mo (.slice a told.length cap)::Q2z c s::fr)) ?_ ?_
 ·refine Q0t ?_;refine Q1l (fun ms σ w n=>ms=[]∧∃ i:Nat,i≤L.length∧n=L.length - i∧σ 0=pp p∧σ 137 = .slice aS L.length cS∧σ 138 = .int .i64 L.length∧σ 139 = .int .i64 i∧Q0a w (NL (.slice aS L.length cS) L::RTR t m.P::pts mo (row 58 [pp t,.slice aL m.lays.length cL,.slice aO m.objs.length cO])::sls 102 4 (.slice aL m.lays.length cL) (Q2f lc)::star (lc.map V2q)::sls 77 1 (.slice aO m.objs.length cO) (oc.map fun x=>pp x.ptr)::star (oc.map ocr)::TKL (.slice a told.length cap) told::V0q p c mo (.slice a told.length cap)::Q2z c s::fr)) (m:=L.length) ⟨rfl,0,by omega,rfl,rfl,rfl,rfl,rfl,H⟩ ?_;clear H;rintro ms σ w n ⟨rfl,i,hi,rfl,g0,g137,g138,g139,H⟩;rw[Q0b g0,Q0b g137,Q0b g138,Q0b g139];refine J5 H ?_;refine Q2d rfl (fun h=>Q0w ?_) (fun h=>Q1n ?_)
  ·have hlt:i < L.length:=by omega
   have hn:=List.getElem?_eq_getElem hlt;generalize L[i]=id at hn;have hid:=hidL id (List.mem_of_getElem? hn);obtain⟨bA,sA,rfl,H,hcA⟩:=Q0y H (by omega);refine J19 H ?_;refine Jd ?_;refine Q0s rfl (Q0l H rfl (Q2r hn) rfl ?_);refine J0 H ?_;replace H:=hcA _ _ H;replace H:=Js [9,0,0,0,0,0,0,0,0,0] 0 H;obtain⟨q,mem,hw',hmm,H⟩:=Q1u H;replace H:=Js [5,0,0,0,0,0,0,0,0,0,0,0,0,0,0,0,0,0,0,0] 0 H;refine U8i H ?_;refine Jc rfl rfl (Y7u q.trp s.last s.par id hid (by have:=hw'.par.1;omega) H) ?_;clear H;rintro v w ⟨u,K,rfl,hKp,hKs,H⟩;obtain⟨aK,cK,rfl⟩:=Q0j H (Q0r K) (by decide);refine J32 H ?_;have hkk:=G6n R (id:=id) (by omega) hKp hKs;replace H:=Js [2,2,2,2,2,1,1,1,1,1,1,0,0,0,0,0,0,0,0,0,0] 0 H;replace H:=Q1s hw' hmm H;replace H:=Js [3,0,0,0,0,0,0,0,0,0,0] 0 H;refine J15 H ?_;refine J44 H ?_;refine J34 H ?_;refine J34 H ?_;refine Q4u rfl rfl rfl (Q1h (a:=[]) (b:=[]) rfl rfl (call (Z7a t m.P id (by omega) H) ?_));clear H;intro v2 w H;obtain⟨a2,c2,rfl⟩:=Q0j H (Q0d _) (by decide);replace H:=Js [3,0,0,0,0,0,0,0,0,0,0,0] 0 H;rw[U9l _ (Y7w m.P id)] at H;refine Q4u rfl rfl rfl (Q1h (a:=[]) (b:=[]) rfl rfl (call (V4m _ _ K ((Y7w m.P id).map fun x:Nat=>(x:Int)) (by rw[hkk,List.length_map];have:(Y7w m.P id).length≤m.P.length:=V4n m.P _ _;omega) H) ?_));clear H;rintro v w ⟨rfl,H⟩;rw[decide_eq_true hkk];refine J25 H ?_;refine J76 H ?_;replace H:=Js [4,2,3,3,3,3,3,3,3,2] 2 H;exact⟨_,⟨rfl,i+1,hlt,rfl,rfl,rfl,rfl,Q2a (by omega),H⟩,by omega⟩
  ·exact⟨rfl,rfl,rfl,H⟩
 clear H;rintro ms σ w ⟨rfl,g0,H⟩;rw[Q0b g0];replace H:=Js [9,0,0,0,0,0,0,0,0,0] 0 H;obtain⟨q,mem,hw',hmm,H⟩:=Q1u H;replace H:=Js [5,0,0,0,0,0,0,0,0,0,0,0,0,0,0,0,0,0,0,0] 0 H;refine J1 H ?_;clear H;intro w H;refine J27 H ?_;refine Jl 3 [7,15] H ?_;refine Ja 4 ?_;refine Jf 5 ?_;refine Jl 6 [7,15] H ?_;refine U2x H ?_;refine Jl 11 [15] H ?_;refine Ja 12 ?_;refine Jf 13 ?_;refine Jl 14 [15] H ?_;refine Jo 7 H ?_;refine Jk rfl rfl (Y2p q.trp s.last s.par H) ?_;clear H;rintro v w ⟨rfl,H⟩;replace H:=Js [12,0,0,0,0,0,0,0,0,0,0,0,0,0,0,0,0,0,0,0] 0 H;refine Jo 15 H ?_;refine Jk rfl rfl (V7y t m.P (by omega) H) ?_;clear H;intro v w H;obtain⟨aA2,cA2,rfl⟩:=Q0j H (Q0d _) (by decide);refine Q5g 16 rfl (Q0n.none rfl) rfl (by kernel_rfl) ?_;refine Ja 17 ?_;rw[V9w R,Q5e ((V4y m.P).length:Int)];refine Ja 18 ?_;refine Jx H ?_;replace H:=Js [3,3,3,3,3,2,2,2,2,2,2,1,2,2,2,2,2,2,2] 2 H;replace H:=Q1s hw' hmm H;replace H:=Js [2,1,1,1,1,1,0,0,0] 0 H;replace H:=Q2v hm h2 h3 H;replace H:=Js [3,1,0,0] 0 H;exact Q0g (Jy (Q4j H) rfl fun w' H'=>⟨rfl,H'⟩)
end Go.Proofs.YtmjdnljneifpcaaGreatDoor
namespace Go.Proofs.YtmjdnljneifpcaaGreatDoor
open Go.SL
theorem Q3w {l:List Int} {s:List Value} {i:Nat} {x:Int} (h:l[i]? = some x):(Q1g l++s)[0+i*1]? = some (.int .i64 x):=by
 have hi:=(List.getElem?_eq_some_iff.1 h).1;rw[Nat.zero_add,Nat.mul_one,List.getElem?_append_left (by rw[Q0r];omega)];unfold Q1g;rw[List.getElem?_map,h];rfl
theorem Z8b (l:List Int):(Q1g l).all (·.oneCell')=true:=by simp[Q1g,List.all_eq_true,Value.oneCell']
theorem Z8c [Q0i] (p last:Nat) (par:List (Int×Int)) (id:Int) (hT:Q5d par) (hid:(fnd par id).isSome=true) (hl:par.length≤1000) {w:World} {fr:List Q0e} (H:Q0a w (TRE p last par::fr)) :
  Calls Tryz.prog 117 #[pp p,.int .i64 id] w (ret fun v w'=>∃ u L,v = .tuple #[u,.int .i64 0]∧L.Nodup∧L.Pairwise (·≤·)∧(∀ c,c∈L↔Y3k par id c)∧L.length≤par.length∧Q0a w' (IL u L::TRE p last par::fr)):=by
 refine Q0c Tryz.func117 rfl (by kernel_rfl) ?_;refine J68 H ?_;refine Jc rfl rfl (V9f p last par id H) ?_;clear H;rintro v w ⟨rfl,H⟩;rw[if_pos hid];refine J23 H ?_;refine J20 H ?_;refine J35 H ?_;clear H;intro b18 w H;refine J0 H ?_;replace H:Q0a w (IL _ [id]::_):=Q7u (c:=Q1g [id]) rfl H;refine J5 H ?_;refine Q1m (fun ms σ w=>ms=[]∧∃ (l:List Int) (a:Option Addr) (c:Nat),Bfs par id l l.length∧σ 7 = .slice a l.length c∧Q0a w (IL (.slice a l.length c) l::TRE p last par::fr)) ?_ ?_
 ·refine Q0t ?_;refine Q1l (fun ms σ w n=>ms=[]∧∃ (i:Nat) (l:List Int) (a:Option Addr) (c:Nat),Bfs par id l i∧n=par.length - i∧σ 0=pp p∧σ 7 = .slice a l.length c∧σ 8 = .int .i64 i∧Q0a w (IL (.slice a l.length c) l::TRE p last par::fr)) (m:=par.length) ⟨rfl,0,[id],_,_,Bfs.start par id,rfl,rfl,rfl,rfl,H⟩ ?_;clear H;rintro ms σ w n ⟨rfl,i,l,a,c,hB,rfl,g0,g7,g8,H⟩;rw[Q0b g0,Q0b g7,Q0b g8];have hll:=hB.len hid;have hil:=hB.le;refine J93 H ?_;refine Q2d rfl (fun h=>Q0w ?_) (fun h=>Q1n ?_)
  ·have hlt:i < l.length:=by omega
   have hx:=List.getElem?_eq_getElem hlt;have hxd:=hB.desc _ (List.getElem_mem hlt);generalize l[i]=x at hx hxd;obtain⟨bT,sT,rfl,H,hcl⟩:=Q0y H (by omega);refine G9w H ?_;refine Jd ?_;refine Q0s rfl (Q0l H rfl (by simpa using Q3w hx) rfl ?_);replace H:=hcl _ _ H;refine Jc rfl rfl (Y7u p last par x (.inr (hxd.live hid)) hl H.swap) ?_;clear H;rintro v w ⟨u,K,rfl,hK,hKs,H⟩;obtain⟨au,mu,cu,rfl⟩:=Q1d H;refine J32 H ?_
   have hKm:∀ c,c∈K↔fnd par c=some x:=fun c=>by
    rw[hK.mem_iff,List.mem_filter];unfold Z0n;constructor
    ·rintro⟨_,h1⟩;simpa using h1
    ·intro h1;exact⟨List.mem_map.2 ⟨(c,x),Q7d h1,rfl⟩,by simpa using h1⟩
   have hKn:K.Nodup:=hK.nodup_iff.2 (hT.nd.filter _);have hB2:=hB.step hT hx hKn hKm;have hl2:=hB2.len hid;rw[List.length_append] at hl2;refine J6 H ?_;replace H:=Js [0,1,0] 0 H;obtain⟨DK,H,hDK,hCK⟩:=sls_rd H (Q0r K) (by decide);replace H:=Js [1,0] 0 H;refine Q0s rfl (V5h H rfl rfl (hDK _) (Z8b K) (by rw[Q0r,Q0r];omega) rfl rfl ?_);clear H;intro v36 w H;rw[← Q5i] at H;obtain⟨a36,c36,rfl⟩:=Q0j H (Q0r _) (by decide);refine U2h H ?_;replace H:=Js [0,1] 1 H;exact⟨_,⟨rfl,i+1,l++K,a36,c36,hB2,rfl,rfl,rfl,Q2a (by omega),H⟩,by omega⟩
  ·have hge:i=l.length:=by omega
   subst hge;exact⟨rfl,rfl,l,a,c,hB,rfl,H⟩
 clear H;rintro ms σ w ⟨rfl,l,a,c,hB,g7,H⟩;rw[Q0b g7];have hll:=hB.len hid;refine J20 H ?_;refine Jc rfl rfl (V4i _ l (by omega) H) ?_;clear H;rintro v w ⟨rfl,H⟩;refine G9x H ?_;have hp:(l.mergeSort fun x y=>decide (x≤y)).Perm l:=List.mergeSort_perm l _;refine Q0g (Jy H rfl fun w' H'=>⟨_,l.mergeSort fun x y=>decide (x≤y),rfl,hp.nodup_iff.2 hB.nd,?_,fun c=>?_,?_,H'⟩)
 ·have:=List.pairwise_mergeSort (le:=fun x y:Int=>decide (x≤y)) (fun a b c h1 h2=>by simp at *;omega) (fun a b=>by simp;omega) l;exact this.imp fun h=>by simpa using h
 ·rw[hp.mem_iff];exact hB.ends c
 ·rw[hp.length_eq];exact hll
theorem Z8d [Q0i] (p last:Nat) (par:List (Int×Int)) (id:Int) (hT:Q5d par) (hid:(fnd par id).isSome=true) (hl:par.length≤1000) {w:World} {fr:List Q0e} (H:Q0a w (TRE p last par::fr)) :
  Calls Tryz.prog 55 #[pp p,.int .i64 id] w (ret fun v w'=>∃ u L,v = .tuple #[u,.int .i64 0]∧L.Nodup∧L.Pairwise (·≤·)∧(∀ c,c∈L↔Y3k par id c)∧L.length≤par.length∧Q0a w' (IL u L::TRE p last (L.foldl era par)::fr)):=by
 refine Q0c Tryz.func55 rfl (by kernel_rfl) ?_;refine J68 H ?_;refine Jc rfl rfl (Z8c p last par id hT hid hl H) ?_;clear H;rintro v w ⟨u,L,rfl,h1,h2,h3,h4,H⟩;obtain⟨a,c,rfl⟩:=Q0j H (Q0r _) (by decide);refine J32 H ?_;refine J20 H ?_;refine U2n H ?_;refine Q1m (fun ms σ w=>ms=[]∧σ 6 = .slice a L.length c∧σ 7 = .int .i64 0∧Q0a w (IL (.slice a L.length c) L::TRE p last (L.foldl era par)::fr)) ?_ ?_
 ·refine Q0t ?_;refine Q1l (fun ms σ w n=>ms=[]∧∃ i:Nat,i≤L.length∧n=L.length - i∧σ 0=pp p∧σ 6 = .slice a L.length c∧σ 7 = .int .i64 0∧σ 16 = .slice a L.length c∧σ 17 = .int .i64 L.length∧σ 18 = .int .i64 i∧Q0a w (IL (.slice a L.length c) L::TRE p last ((L.take i).foldl era par)::fr)) (m:=L.length) ⟨rfl,0,by omega,rfl,rfl,rfl,rfl,rfl,rfl,rfl,H⟩ ?_;clear H;rintro ms σ w n ⟨rfl,i,hi,rfl,g0,g6,g7,g16,g17,g18,H⟩;rw[Q0b g0,Q0b g6,Q0b g7,Q0b g16,Q0b g17,Q0b g18];refine J5 H ?_;refine Q2d rfl (fun h=>Q0w ?_) (fun h=>Q1n ?_)
  ·have hlt:i < L.length:=by omega
   have hx:=List.getElem?_eq_getElem hlt;generalize L[i]=x at hx;have htk:L.take (i+1)=L.take i++[x]:=by rw[List.take_add_one,hx];rfl
   obtain⟨bT,sT,rfl,H,hcl⟩:=Q0y H (by omega);refine J19 H ?_;refine Jd ?_;refine Q0s rfl (Q0l H rfl (by simpa using Q3w hx) rfl ?_);refine J0 H ?_;replace H:=(hcl _ _ H).swap;obtain⟨bm,H⟩:=V0d H;refine J10 H ?_;refine Q0s rfl (Q5w (key:=x) H.swap rfl rfl tkI rfl ?_);clear H;intro w H;refine Q0h ?_;replace H:=V2g H.swap;refine J3 H ?_;exact⟨_,⟨rfl,i+1,hlt,rfl,rfl,rfl,rfl,rfl,rfl,Q2a (by omega),by rw[htk,List.foldl_append];exact H.swap⟩,by omega⟩
  ·have hge:i=L.length:=by omega
   subst hge;rw[List.take_length] at H;exact⟨rfl,rfl,rfl,rfl,H⟩
 clear H;rintro ms σ w ⟨rfl,g6,g7,H⟩;rw[Q0b g6,Q0b g7];refine U0f H ?_;exact Q0g (Jy H rfl fun w' H'=>⟨_,L,rfl,h1,h2,h3,h4,H'⟩)
end Go.Proofs.YtmjdnljneifpcaaGreatDoor
namespace Go.Proofs.YtmjdnljneifpcaaGreatDoor
open Go.SL
theorem Y9f [Q0i] (v:Value) (l:List Int) (hs:l.Pairwise (· < ·)) (hl:l.length≤1000000) {w:World} {fr:List Q0e} (H:Q0a w (IL v l::fr)) :
  Calls Tryz.prog 119 #[v] w (ret fun x w'=>x=v∧Q0a w' (IL v l::fr)):=by
 obtain⟨a,c,rfl⟩:=Q0j H (Q0r l) (by decide);refine Q0c Tryz.func119 rfl (by kernel_rfl) ?_;refine J63 H ?_;refine J57 H ?_;by_cases h2:l.length < 2
 ·rw[show decide ((l.length:Int) < 2)=true from decide_eq_true (by omega)];refine J28 H ?_;exact Q0g (Jy H rfl fun w' H'=>⟨rfl,H'⟩)
 rw[show decide ((l.length:Int) < 2)=false from decide_eq_false (by omega)];refine J9 H ?_;refine J5 H ?_;refine Q1m (fun ms σ w=>ms=[]∧σ 0 = .slice a l.length c∧Q0a w (IL (.slice a l.length c) l::fr)) ?_ ?_
 ·refine Q0t ?_;refine Q1l (fun ms σ w n=>ms=[]∧∃ k:Nat,1≤k∧k≤l.length∧n=l.length - k∧σ 0 = .slice a l.length c∧σ 3 = .int .i64 k∧Q0a w (IL (.slice a l.length c) l::fr)) (m:=l.length - 1) ⟨rfl,1,by omega,by omega,rfl,rfl,rfl,H⟩ ?_;clear H;rintro ms σ w n ⟨rfl,k,hk1,hk,rfl,g0,g3,H⟩;rw[Q0b g0,Q0b g3];refine J93 H ?_;refine Q2d rfl (fun h=>Q0w ?_) (fun h=>Q1n ?_)
  ·have hlt:k < l.length:=by omega
   have hx:=List.getElem?_eq_getElem hlt;have hy:=List.getElem?_eq_getElem (show k - 1 < l.length by omega);have hxy:=(List.pairwise_iff_getElem.1 hs) (k - 1) k (by omega) hlt (by omega);generalize l[k]=x at hx hxy;generalize l[k - 1]=y at hy hxy;obtain⟨bT,sT,rfl,H,hcl⟩:=Q0y H (by omega);have ek:IntKind.i64.wrap ((k:Int) - 1)=((k - 1:Nat):Int):=by rw[Q1e (by omega) (by omega)];omega
   refine U4u H ?_;clear H;intro w H;refine Ja 0 ?_;refine Ja 1 ?_;refine Ji 2 ?_;refine Q2b 3 [] H rfl (Q0n.none rfl) rfl (by simpa using Q3w hx) (by kernel_rfl) ?_;refine J54 H ?_;refine Ja 6 ?_;rw[ek];refine Ji 7 ?_;refine Q2b 8 [] H rfl (Q0n.none rfl) rfl (by simpa using Q3w hy) (by kernel_rfl) ?_;refine Ja 9 ?_;rw[show (x == y)=false from by rw[beq_eq_false_iff_ne];omega];refine Jx H ?_;replace H:=hcl _ _ H;refine U2c H ?_;exact⟨_,⟨rfl,k+1,by omega,hlt,rfl,rfl,Q2a (by omega),H⟩,by omega⟩
  ·exact⟨rfl,rfl,rfl,H⟩
 clear H;rintro ms σ w ⟨rfl,g0,H⟩;rw[Q0b g0];refine J3 H ?_;exact Q0g (Jy H rfl fun w' H'=>⟨rfl,H'⟩)
theorem U9m [Q0i] {w:World} {v:Value} {l:List Nat} {fr:List Q0e} (H:Q0a w (IL v (l.map fun x:Nat=>(x:Int))::fr)):Q0a w (NL v l::fr):=by
 show Q0a w (sls 3 1 v (Q0u l)::fr);rw[Q6q];exact H
def V4r (l m:List Nat):List Nat:=(l++m).mergeSort fun x y=>decide (x≤y)
theorem G2q {l m:List Nat} {x:Nat}:x∈V4r l m↔x∈l∨x∈m:=by
 unfold V4r;rw[List.mem_mergeSort,List.mem_append]
theorem G2r (l m:List Nat):(V4r l m).length=l.length+m.length:=by
 unfold V4r;rw[List.length_mergeSort,List.length_append]
theorem V7b {l m:List Nat} (hl:l.Pairwise (· < ·)) (hm:m.Pairwise (· < ·)) (hd:∀ x∈l,x∉m):(V4r l m).Pairwise (· < ·):=by
 have h1:(V4r l m).Pairwise (fun x y=>decide (x≤y)=true):=List.pairwise_mergeSort (fun a b c h1 h2=>by simp at *;omega) (fun a b=>by simp;omega) _
 have h2:(V4r l m).Nodup:=by
  unfold V4r;rw[(List.mergeSort_perm _ _).nodup_iff,List.nodup_append];exact⟨hl.imp fun h=>by omega,hm.imp fun h=>by omega,fun a ha b hb hab=>hd a ha (hab▸hb)⟩
 refine(h1.and h2).imp fun h=>?_;have:=h.1;have h3:_≠_:=h.2;simp at this;omega
theorem Z8e (l m:List Nat):(V4r l m).map (fun x:Nat=>(x:Int))=(((l++m).map fun x:Nat=>(x:Int)).mergeSort fun x y=>decide (x≤y)):=by
 unfold V4r;rw[List.map_mergeSort];intro a _ b _;simp
theorem Z8f [Q0i] (p q:Nat) (l m:List Nat) (hl:l.Pairwise (· < ·)) (hm:m.Pairwise (· < ·)) (hd:∀ x∈l,x∉m) (hll:l.length≤100000) (hml:m.length≤100000) {w:World} {fr:List Q0e} (H:Q0a w (BAG p l::BAG q m::fr)) :
  Calls Tryz.prog 57 #[pp p,pp q] w (ret fun v w'=>v = .tuple #[]∧Q0a w' (BAG p (V4r l m)::BAG q m::fr)):=by
 obtain⟨a,c,H⟩:=V2t H;replace H:=Js [2,0,0] 0 H;obtain⟨a',c',H⟩:=V2t H;refine Q0c Tryz.func57 rfl (by kernel_rfl) ?_;refine U6o H ?_;refine U1s H ?_;refine U7r H ?_;replace H:=Js [3,2,0,0] 0 H;obtain⟨D1,H,hD1,hC1⟩:=sls_rd H (Q0d l) (by decide);replace H:=Js [3,1,1,0] 0 H;obtain⟨D2,H,hD2,hC2⟩:=sls_rd H (Q0d m) (by decide);refine J1 H ?_;clear H;intro w H;refine J61 H ?_;refine U3x H ?_;refine Jl 8 [] H ?_;replace H:=Js [3,0,0,0] 0 H;refine Jo 4 H ?_;refine Jk rfl rfl (Q9g _ l (by omega) (hD1 _) H) ?_;clear H;intro v15 w H;obtain⟨a15,c15,rfl⟩:=Q0j H (Q0d l) (by decide);refine Jo 9 H ?_;refine V5h H rfl rfl ((hD2 _).there) (by simp[Q0u,List.all_eq_true,Value.oneCell']) (by rw[Q0d,Q0d];omega) rfl rfl ?_;clear H;intro v20 w H;rw[← Q3s,Q6q] at H;obtain⟨a20,c20,rfl⟩:=Q0j (m:=l.length+m.length) H (by rw[Q0r,List.length_map,List.length_append]) (by decide);refine Ja 10 ?_;refine Jx H ?_;refine J20 H ?_;refine Jc rfl rfl (V4i (.slice a20 (l.length+m.length) c20) ((l++m).map fun x:Nat=>(x:Int)) (by rw[List.length_map,List.length_append];omega) H) ?_;clear H;rintro v w ⟨rfl,H⟩;refine Q0h ?_;rw[← Z8e] at H;have hjs:=V7b hl hm hd;have hjl:=G2r l m;refine J6 H ?_;refine Jc rfl rfl (Y9f (.slice a20 (l.length+m.length) c20) ((V4r l m).map fun x:Nat=>(x:Int)) (List.Pairwise.map _ (fun a b h=>by omega) hjs) (by rw[List.length_map];omega) H) ?_;clear H;rintro v w ⟨rfl,H⟩;refine J40 H ?_;clear H;intro w H;refine Q0h ?_;replace H:=U9m H;replace H:=Js [2,3,2,0] 1 H;replace H:=hC2 _ _ H;replace H:=Js [2,2,1,0] 0 H;replace H:=V4j H;replace H:=V4j (Q0a.sel [1,1,0] 0 H);exact Q2w _ (.inl rfl) H.swap rfl fun w' H'=>⟨rfl,H'⟩
end Go.Proofs.YtmjdnljneifpcaaGreatDoor
namespace Go.Proofs.YtmjdnljneifpcaaGreatDoor
open Go.SL
theorem Z2l [Q0i] (a:Option Addr) (n c:Nat) {w:World} {fr:List Q0e} (H:Q0a w fr) :
  Calls Tryz.prog 121 #[.slice a n c] w (ret fun v w'=>∃ b1,v = .func (.func 198) #[] #[pp b1]∧Q0a w' (pts b1 (row 31 [.slice a n c])::fr)):=by
 refine Q0c Tryz.func121 rfl (by kernel_rfl) ?_;refine J30 H ?_;clear H;intro b1 w H;refine J22 H ?_;exact Q0g (Jy H rfl fun w' H'=>⟨_,rfl,H'⟩)
theorem V4s [Q0i] (p:Nat) (l:List Nat) (hl:l.length≤1000000) {w:World} {fr:List Q0e} (H:Q0a w (BAG p l::fr)) :
  Calls Tryz.prog 58 #[pp p] w (ret fun v w'=>∃ (b1:Nat) (a:Option Addr) (c:Nat),v = .func (.func 198) #[] #[pp b1]∧Q0a w' (pts b1 (row 31 [.slice a l.length c])::NL (.slice a l.length c) l::BAG p l::fr)):=by
 obtain⟨a,c,H⟩:=V2t H;refine Q0c Tryz.func58 rfl (by kernel_rfl) ?_;refine G8f H ?_;obtain⟨D1,H,hD1,hC1⟩:=sls_rd H.swap (Q0d l) (by decide);refine Jc rfl rfl (Q9g _ l hl (hD1 _) H) ?_;clear H;intro v w H;obtain⟨a9,c9,rfl⟩:=Q0j H (Q0d l) (by decide);refine Jc rfl rfl (Z2l a9 l.length c9 H) ?_;clear H;rintro v w ⟨b1,rfl,H⟩;refine J0 H ?_;replace H:=Js [2,0,0,0] 0 H;replace H:=hC1 _ _ H;replace H:=Js [3,0,0,0] 0 H;replace H:=V4j H;replace H:=Js [1,1,0] 0 H;exact Q0g (Jy H rfl fun w' H'=>⟨_,a9,c9,rfl,H'⟩)
theorem Y5t [Q0i] (yl b1:Nat) (a:Option Addr) (c:Nat) (l:List Nat) (hl:l.length≤1000000) (J:List Nat→Q0e) {w:World} {fr:List Q0e}
  (hy:∀ (ks:List Nat) (k:Nat) (t:List Nat) (rest:List Q0e) (w:World),l=ks++k::t→Q0a w (J ks::rest)→SL.Yields Tryz.prog yl #[.int .i64 k] w (fun v w'=>v = .bool true∧Q0a w' (J (ks++[k])::rest)))
  (H:Q0a w (J []::pts b1 (row 31 [.slice a l.length c])::NL (.slice a l.length c) l::fr)) :
  Calls Tryz.prog 198 #[.func (.yield yl) #[] #[],pp b1] w (ret fun _ w'=>Q0a w' (J l::pts b1 (row 31 [.slice a l.length c])::NL (.slice a l.length c) l::fr)):=by
 refine Q0c Tryz.func198 rfl (by kernel_rfl) ?_;refine J50 H ?_;refine J97 H ?_;refine Q1l (fun ms σ w n=>ms=[]∧∃ i:Nat,i≤l.length∧n=l.length - i∧σ 0 = .func (.yield yl) #[] #[]∧σ 5 = .slice a l.length c∧σ 6 = .int .i64 l.length∧σ 7 = .int .i64 i∧Q0a w (J (l.take i)::pts b1 (row 31 [.slice a l.length c])::NL (.slice a l.length c) l::fr)) (m:=l.length) ⟨rfl,0,by omega,rfl,rfl,rfl,rfl,rfl,H⟩ ?_;clear H;rintro ms σ w n ⟨rfl,i,hi,rfl,g0,g5,g6,g7,H⟩;rw[Q0b g0,Q0b g5,Q0b g6,Q0b g7];refine J5 H ?_;refine Q2d rfl (fun h=>Q0w ?_) (fun h=>Q1n ?_)
 ·have hlt:i < l.length:=by omega
  have hx:=List.getElem?_eq_getElem hlt;have hsp:l=l.take i++l[i]::l.drop (i+1):=by rw[List.getElem_cons_drop,List.take_append_drop]
  have htk:l.take (i+1)=l.take i++[l[i]]:=by rw[List.take_add_one,hx];rfl
  generalize l[i]=x at hx hsp htk;replace H:=Js [2,0,0] 0 H;obtain⟨bT,sT,rfl,H,hcl⟩:=Q0y H (by omega);refine J19 H ?_;refine Jd ?_;refine Q0s rfl (Q0l H rfl (Q2r hx) rfl ?_);refine J0 H ?_;replace H:=hcl _ _ H;refine J6 H ?_;replace H:=Js [1,1,0] 0 H;refine Q0s rfl (V1n rfl rfl (SL.Yields.mono (hy _ x _ _ _ hsp H) ?_));clear H;rintro v w ⟨rfl,H⟩;rw[← htk] at H;refine J76 H ?_;exact⟨_,⟨rfl,i+1,hlt,rfl,rfl,rfl,rfl,Q2a (by omega),H⟩,by omega⟩
 ·have hge:i=l.length:=by omega
  subst hge;rw[List.take_length] at H;exact Q2w _ (.inl rfl) H rfl fun w' H'=>H'
end Go.Proofs.YtmjdnljneifpcaaGreatDoor
namespace Go.Proofs.YtmjdnljneifpcaaGreatDoor
open Go.SL
end Go.Proofs.YtmjdnljneifpcaaGreatDoor
namespace Go.Proofs.YtmjdnljneifpcaaGreatDoor
open Go.SL
end Go.Proofs.YtmjdnljneifpcaaGreatDoor
namespace Go.Proofs.YtmjdnljneifpcaaGreatDoor
open Go.SL
theorem U9u [Q0i] (p:Nat) (q:Ptr) (ts:List Slt) (k n:Nat) (e:Ent) (hk:ts[k]? = some ⟨n,some e⟩) {w:World} {fr:List Q0e} (H:Q0a w (TAB q.tp ts::Q7x p q::fr)) :
  Calls Tryz.prog 127 #[pp p,.int .i64 k] w (ret fun v w'=>v = .tuple #[.agg (evl e).toArray,.bool true]∧Q0a w' (TAB q.tp ts::Q7x p q::fr)):=by
 have hL:Q2o ts k n=some (k,e):=Q1k.2 ⟨n,rfl,rfl,hk⟩;refine Q0c Tryz.func127 rfl (by kernel_rfl) ?_;refine J24 H ?_;clear H;intro b4 w H;refine U2k H ?_;replace H:=Js [1,0] 0 H;refine J10 H ?_;refine Jc rfl rfl (V8a q.tp ts k n e hk H) ?_;clear H;rintro v w ⟨rfl,H⟩;refine J16 H ?_;clear H;intro b6 w H;refine J4 H ?_;clear H;intro w H;refine J18 H ?_
 refine Q1m (fun ms σ w=>ms=[]∧∃ b8,σ 4=pp b4∧σ 7 = .bool true∧σ 8=pp b8 ∧
   Q0a w (pts b4 (row 113 [.int .i64 0,.int .i64 0,.bool false,.bool false])::pts b8 (row 113 (evl e))::TAB q.tp ts::Q7x p q::fr)) ?_ ?_
 ·replace H:=Js [1,0] 0 H;refine J1 H ?_;clear H;intro w H;refine G8n H ?_;refine Jw 5 9 H rfl rfl (Q1h (a:=[]) (b:=[]) rfl rfl (call (Q2i q.tp ts k n H) ?_)) (Q1x H rfl ?_)
  ·clear H;rintro v w ⟨rfl,H⟩;rw[hL];refine G8o H ?_;clear H;intro b8 w H;refine G8p H ?_;clear H;intro w H;refine J41 H ?_;replace H:=Js [3,0,0,1] 1 H;exact⟨rfl,rfl,b8,rfl,rfl,rfl,H⟩
  ·clear H;intro b8 w H;refine Jo 5 H ?_;refine Jk rfl rfl (Q2i q.tp ts k n H.swap) ?_;clear H;rintro v w ⟨rfl,H⟩;rw[hL];refine G8q H ?_;clear H;intro w H;refine J41 H ?_;replace H:=Js [3,1,0,1] 1 H;exact⟨rfl,rfl,b8,rfl,rfl,rfl,H⟩
 ·clear H;rintro ms σ w ⟨rfl,b8,g4,g7,g8,H⟩;rw[Q0b g4,Q0b g7,Q0b g8];refine J95 H ?_;clear H;intro w H;refine J0 H ?_;exact Q0g (Jz H (fun w' H' => .cellN H' rfl (by repeat first|exact .nil _|apply Q0o.cons rfl) (.tmp .nil)) fun w' H'=>⟨rfl,H'.drop.drop⟩)
theorem Z2m [Q0i] (p:Nat) (q:Ptr) (ts:List Slt) (k n:Nat) (e:Ent) (hk:ts[k]? = some ⟨n,some e⟩) {w:World} {fr:List Q0e} (H:Q0a w (TAB q.tp ts::Q7x p q::fr)) :
  Calls Tryz.prog 60 #[pp p,.int .i64 k] w (ret fun v w'=>v = .tuple #[tkn k n,.agg (evl e).toArray]∧Q0a w' (TAB q.tp ts::Q7x p q::fr)):=by
 have hL:Q2o ts k n=some (k,e):=Q1k.2 ⟨n,rfl,rfl,hk⟩;refine Q0c Tryz.func60 rfl (by kernel_rfl) ?_;refine J24 H ?_;clear H;intro b4 w H;refine J12 H ?_;clear H;intro b5 w H;refine Q0h ?_;replace H:=Js [2,0,0] 0 H;refine J10 H ?_;refine Jc rfl rfl (V8a q.tp ts k n e hk H) ?_;clear H;rintro v w ⟨rfl,H⟩;refine J16 H ?_;clear H;intro b6 w H;refine J4 H ?_;clear H;intro w H;refine J18 H ?_
 refine Q1m (fun ms σ w=>ms=[]∧∃ b8,σ 4=pp b4∧σ 5=pp b5∧σ 6=pp b6∧σ 8=pp b8 ∧
   Q0a w (pts b4 (row 69 [.int .i64 0,.int .i64 0])::pts b5 (row 113 [.int .i64 0,.int .i64 0,.bool false,.bool false])::pts b8 (row 113 (evl e))::pts b6 (row 69 [.int .i64 k,.int .i64 n])::TAB q.tp ts::Q7x p q::fr)) ?_ ?_
 ·replace H:=Js [1,0] 0 H;refine J1 H ?_;clear H;intro w H;refine G8n H ?_;refine Jw 5 9 H rfl rfl (Q1h (a:=[]) (b:=[]) rfl rfl (call (Q2i q.tp ts k n H) ?_)) (Q1x H rfl ?_)
  ·clear H;rintro v w ⟨rfl,H⟩;rw[hL];refine G8o H ?_;clear H;intro b8 w H;refine G8p H ?_;clear H;intro w H;refine J41 H ?_;replace H:=Js [4,3,0,1,0,0] 0 H;exact⟨rfl,rfl,b8,rfl,rfl,rfl,rfl,H⟩
  ·clear H;intro b8 w H;refine Jo 5 H ?_;refine Jk rfl rfl (Q2i q.tp ts k n H.swap) ?_;clear H;rintro v w ⟨rfl,H⟩;rw[hL];refine G8q H ?_;clear H;intro w H;refine J41 H ?_;replace H:=Js [4,3,1,1,0,0] 0 H;exact⟨rfl,rfl,b8,rfl,rfl,rfl,rfl,H⟩
 ·clear H;rintro ms σ w ⟨rfl,b8,g4,g5,g6,g8,H⟩;rw[Q0b g4,Q0b g5,Q0b g6,Q0b g8];refine J1 H ?_;clear H;intro w H;refine Q1w 0 [2,3] H rfl (Q0n.none rfl) rfl (by repeat first|exact .nil _|apply Q0o.cons rfl) (by kernel_rfl) ?_;refine Q1w 1 [3] H rfl (Q0n.none rfl) rfl (by repeat first|exact .nil _|apply Q0o.cons rfl) (by kernel_rfl) ?_;refine Jo 2 H ?_;refine J49 H ?_;clear H;intro w H;refine Jo 3 H ?_;refine J49 H ?_;clear H;intro w H;refine Jx H ?_;exact Q0g (Jz H (fun w' H' => .cellN H' rfl (by repeat first|exact .nil _|apply Q0o.cons rfl) (.cellN H' rfl (by repeat first|exact .nil _|apply Q0o.cons rfl) .nil)) fun w' H'=>⟨rfl,H'.drop.drop.drop.drop⟩)
end Go.Proofs.YtmjdnljneifpcaaGreatDoor
namespace Go.Proofs.YtmjdnljneifpcaaGreatDoor
open Go.SL
theorem G2s [Q0i] {w:World} {b m E:Nat} {l l':List Int} {s:List Value} {fr:List Q0e} (H:Q0a w (pts b (row E (Q1g l++s))::fr)) (hl:l'.length=l.length) :
  Q0a (Go.Sort.putRow (Value.int .i64) (Go.Sort.ahead w m) b 0 l'.toArray) (pts b (row E (Q1g l'++s))::fr):=by
 have hb:=H.pts;have e1:(Go.Sort.putRow (Value.int .i64) (Go.Sort.ahead w m) b 0 l'.toArray).heap=w.heap.modify b (Go.Sort.onCells (Go.Sort.putCells (Value.int .i64) 0 l'.toArray)):=rfl;refine H.set ?_ ?_
 ·rw[e1,Array.getElem?_modify,if_pos rfl,hb];simp only[Option.map_some,row,Go.Sort.onCells];congr 2;apply Array.ext';apply List.ext_getElem?;intro t;simp only[Go.Sort.putCells,Array.getElem?_toList,Array.getElem?_mapIdx,List.getElem?_toArray,Nat.zero_le,true_and,Nat.zero_add,Nat.sub_zero,List.size_toArray];have l1:(Q1g l).length=l.length:=by simp[Q1g]
  have l2:(Q1g l').length=l.length:=by simp[Q1g,hl]
  by_cases ht:t < l.length
  ·rw[List.getElem?_append_left (by omega),List.getElem?_append_left (by omega)];have ht':t < l'.length:=by omega
   simp only[Q1g,List.getElem?_map,List.getElem?_eq_getElem ht,List.getElem?_eq_getElem ht',Option.map_some,if_pos ht'];rw[getElem!_pos _ t (by simpa using ht')];simp
  ·rw[List.getElem?_append_right (by omega),List.getElem?_append_right (by omega),l1,l2];have ht':¬ t < l'.length:=by omega
   cases s[t - l.length]? with
   | none=>rfl
   | some y=>simp;intro h;omega
 ·intro c hc;rw[e1,Array.getElem?_modify,if_neg (Ne.symm hc)]
theorem Z2n [Q0i] (v:Value) (l:List Nat) (i:Nat) (hi:i < l.length) (hl:l.length≤1000000) {w:World} {fr:List Q0e} (H:Q0a w (NL v l::fr)) :
  Calls Tryz.prog 210 #[v,.int .i64 i,.int .i64 ((i+1:Nat):Int)] w (ret fun v' w'=>Q0a w' (NL v' (l.eraseIdx i)::fr)):=by
 rcases Q4n H with ⟨rfl,h0,_⟩|⟨b,n,cap,s,rfl,e3,e4,e5,H2⟩
 ·have:(Q0u l).length=0:=by rw[h0];rfl
  rw[Q0d] at this;omega
 ·rw[Q0d] at e3;obtain rfl:n=l.length:=by omega
  have hb:=H2.pts;have hzl:(l.map fun x:Nat=>(x:Int)).length=l.length:=List.length_map _;rw[Q6q] at H2;have hic:(Q1g (l.map fun x:Nat=>(x:Int))).length=l.length:=by simp[Q1g]
  have hbig:=e4.2
  have hd:=Any.slices_Delete_int Tryz.laysDel b 0 cap i (i+1) (l.map fun x:Nat=>(x:Int)) w (fun j hj=>by
   have hj':j < l.length:=by simpa using hj
   refine⟨?_,Q7b hb⟩;refine Q4b H2.pts ?_;rw[Nat.zero_add,List.getElem?_append_left (by omega)];simp[Q1g,hj']) (by omega) hbig (by omega) (by omega)
  rw[hzl] at hd;refine hd.mono ?_;rintro e w' ⟨rfl,q,rfl⟩;have h3:=G2s (m:=q) (l':=(l.map fun x:Nat=>(x:Int)).take i++(l.map fun x:Nat=>(x:Int)).drop (i+1)++List.replicate (i+1 - i) 0) H2 (by simp;omega);rw[show i+1 - i=1 by omega] at h3 ⊢
  have e6:Q1g ((l.map fun x:Nat=>(x:Int)).take i++(l.map fun x:Nat=>(x:Int)).drop (i+1)++List.replicate 1 0)++s=Q0u (l.eraseIdx i)++(.int .i64 0::s):=by
   rw[Q6q,List.eraseIdx_eq_take_drop_succ];simp[Q1g]
  rw[e6] at h3;exact Q5x (by rw[Q0d,List.length_eraseIdx,if_pos hi] <;> omega) (by omega) (by first|(simp;omega)|simp) h3
theorem U1d {l:List Nat} (hs:l.Pairwise (· < ·)) {x:Nat} (hx:x∈l):Y1d l x < l.length∧l.eraseIdx (Y1d l x)=l.filter (·≠x):=by
 induction l with
 | nil=>cases hx
 | cons a l ih=>
  rw[List.pairwise_cons] at hs;unfold Y1d
  rcases List.mem_cons.1 hx with rfl|hx'
  ·have h0:(x::l).countP (· < x)=0:=by
    rw[List.countP_eq_zero];intro y hy
    rcases List.mem_cons.1 hy with rfl|hy
    ·simp
    ·have:=hs.1 y hy;simp;omega
   rw[h0];refine⟨by simp,?_⟩;rw[List.eraseIdx_cons_zero,List.filter_cons_of_neg (by simp)];exact(List.filter_eq_self.2 fun y hy=>by have:=hs.1 y hy;simp;omega).symm
  ·have hax:=hs.1 x hx';have h1:(a::l).countP (· < x)=Y1d l x+1:=by rw[List.countP_cons_of_pos (by simpa using hax)];rfl
   obtain⟨i1,i2⟩:=ih hs.2 hx';rw[h1];refine⟨by simp;omega,?_⟩;rw[List.eraseIdx_cons_succ,i2,List.filter_cons_of_pos (by simp;omega)]
theorem Y9g [Q0i] (p:Nat) (l:List Nat) (x:Nat) (hs:l.Pairwise (· < ·)) (hl:l.length≤100000) {w:World} {fr:List Q0e} (H:Q0a w (BAG p l::fr)) :
  Calls Tryz.prog 129 #[pp p,.int .i64 x] w (ret fun v w'=>v = .bool (decide (x∈l))∧Q0a w' (BAG p (l.filter (·≠x))::fr)):=by
 obtain⟨a,c,H⟩:=V2t H;refine Q0c Tryz.func129 rfl (by kernel_rfl) ?_;refine U0g H ?_;obtain⟨D1,H,hD1,hC1⟩:=sls_rd H.swap (Q0d _) (by decide);refine Jc rfl rfl (Q7e _ l (by omega) hs x (hD1 _) H) ?_;clear H;rintro v w ⟨rfl,H⟩;replace H:=hC1 _ _ H;refine J32 H ?_;refine J5 H ?_;refine Q1m (fun ms σ w=>ms=[]∧σ 6 = .bool (decide (x∈l))∧Q0a w (BAG p (l.filter (·≠x))::fr)) ?_ ?_
 ·by_cases hx:x∈l
  ·obtain⟨h1,h2⟩:=U1d hs hx;rw[decide_eq_true hx];refine Q3g rfl ?_;refine U1x H ?_;refine U1z H ?_;rw[Q2a (by omega)];refine Jc rfl rfl (Z2n _ l (Y1d l x) h1 (by omega) H) ?_;clear H;intro v w H;obtain⟨a28,m28,c28,rfl⟩:=Q1d H;rw[h2] at H;refine J40 H ?_;clear H;intro w H;refine Q0h ?_;exact⟨rfl,rfl,rfl,V4j H.swap⟩
  ·rw[decide_eq_false hx];refine Q1y rfl (Q0w ?_);rw[show l.filter (·≠x)=l from List.filter_eq_self.2 fun y hy=>by simp;rintro rfl;exact hx hy];exact⟨rfl,rfl,rfl,V4j H.swap⟩
 ·clear H;rintro ms σ w ⟨rfl,g6,H⟩;rw[Q0b g6];refine J3 H ?_;exact Q0g (Jy H rfl fun w' H'=>⟨rfl,H'⟩)
end Go.Proofs.YtmjdnljneifpcaaGreatDoor
namespace Go.Proofs.YtmjdnljneifpcaaGreatDoor
open Go.SL
theorem V5w.drop {ts:List Slt} {x k n:Nat} {e:Ent} (h:V5w ts x) (hk:ts[k]? = some ⟨n,some e⟩) (hn:n < 255):V5w (ts.set k ⟨n,none⟩) (V7v x k false):=by
 have hkl:=(List.getElem?_eq_some_iff.1 hk).1;refine⟨by rw[List.length_set];exact h.bits.set hkl,fun i u hu=>?_,fun i u hu=>?_⟩
 ·rw[V0a]
  rcases Q1i hu with ⟨rfl,rfl,_⟩|⟨hne,hu⟩
  ·rw[if_pos rfl];show false=((none:Option Ent).isSome || n == 255);have:(n == 255)=false:=by rw[beq_eq_false_iff_ne];omega
   rw[this];rfl
  ·rw[if_neg hne];exact h.bit _ _ hu
 ·rcases Q1i hu with ⟨rfl,rfl,_⟩|⟨_,hu⟩
  ·show n≤255;omega
  ·exact h.gen _ _ hu
theorem Z8g [Q0i] (p:Nat) (ts:List Slt) (k n:Nat) (e:Ent) (hk:ts[k]? = some ⟨n,some e⟩) (hn:n < 255) {w:World} {fr:List Q0e} (H:Q0a w (TAB p ts::fr)) :
  Calls Tryz.prog 130 #[pp p,tkn k n] w (ret fun v w'=>v = .int .i64 0∧Q0a w' (TAB p (ts.set k ⟨n,none⟩)::fr)):=by
 obtain⟨b,c,s,u,x,hok,hc,H,hclose⟩:=V2y H;have hL:Q2o ts k n=some (k,e):=Q1k.2 ⟨n,rfl,rfl,hk⟩;have hlen:=Q4v Q3c ts;have hkl:k < ts.length:=(List.getElem?_eq_some_iff.1 hk).1;refine Q0c Tryz.func130 rfl (by kernel_rfl) ?_;refine J8 H ?_;clear H;intro b3 w H;refine G8l H ?_;replace H:=Js [1,1,0,0] 0 H;refine Jc rfl rfl (V9r p b c u _ rfl ts s hok.bits.le k n H) ?_;clear H;rintro v w ⟨rfl,H⟩;rw[hL];refine J38 H ?_;refine J6 H ?_;refine J48 H ?_;refine Jv ?_;refine J99 H ?_;replace H:=Js [1,0,0,0] 0 H;refine Q0s rfl (Q2e H rfl rfl inferInstance rfl (by rw[List.length_append,hlen];omega) rfl ?_);clear H;intro w H;refine Jv ?_;refine J99 H ?_;refine Q0s rfl (Q3a (vs:=[.int .i64 0,.int .i64 0,.bool false,.bool false]) H rfl rfl inferInstance rfl rfl (by rw[List.length_set,List.length_append,hlen];omega) rfl ?_);clear H;intro w H;replace H:Q0a w (pts b (row 199 (wr (ts.flatMap V2x++s) (k*6+1) [.bool false,.int .i64 0,.int .i64 0,.bool false,.bool false]))::_):=H;rw[Y4s (x':=⟨n,none⟩) Q3c hk (by simp) rfl] at H;refine Q0h ?_;have c0:((ts.set k ⟨n,none⟩).flatMap V2x++s)[k*6+0]? = some (.int .i64 n):=Q7l Q3c (List.getElem?_set_self hkl) rfl;refine J6 H ?_;refine J99 H ?_;refine Q0s rfl (Q0l H rfl c0 rfl ?_);refine J0 H ?_;rw[show ((n:Int) == 255)=false by rw[beq_eq_false_iff_ne];omega];refine U4l H ?_;clear H;intro w H;refine U9f H ?_;replace H:=Js [3,0,0,0] 0 H;refine Jo 6 H ?_;refine Jk rfl rfl (V8y u ts.length x k false hok.bits hkl H) ?_;clear H;rintro v w ⟨rfl,H⟩;refine U4b H ?_;replace H:=Js [2,1,0] 1 H;refine Q0g (Jy H rfl fun w' H'=>⟨rfl,hclose _ _ (ts.set k ⟨n,none⟩) _ (by simp) (V4p hk ?_) (hok.drop hk hn) H'⟩);show ((none:Option Ent).isNone && n == 255)=((some e).isNone && n == 255);have:(n == 255)=false:=by rw[beq_eq_false_iff_ne];omega
 rw[this];rfl
end Go.Proofs.YtmjdnljneifpcaaGreatDoor
namespace Go.Proofs.YtmjdnljneifpcaaGreatDoor
open Go.SL
structure Y0g (s:CS):Prop where
 nd:(s.rem.map (·.1)).Nodup
 key:∀ r t,fnd s.rem r=some t→∃ (k p g:Nat) (e:Ent),r=((k:Int),(p:Int))∧s.tab[k]? = some ⟨g,some e⟩∧p < e.ws.length
theorem Inv.rk {s:CS} (h:Inv s):Y0g s:=⟨h.nd,fun r t hr=>by
 obtain⟨k,p,g,e,a,b,f,h1,h2,h3,_⟩:=(h.rem r t).1 hr;exact⟨k,p,g,e,h1,h2,h3⟩⟩
def G2t (ts:List Slt) (r:Int×Int):Nat:=match ts[r.1.toNat]? with
 | some ⟨_,some e⟩=>e.addr+1+r.2.toNat
 | _=>0
theorem V3b {ts:List Slt} {k p g:Nat} {e:Ent} (h:ts[k]? = some ⟨g,some e⟩):G2t ts ((k:Int),(p:Int))=e.addr+1+p:=by
 unfold G2t;show (match ts[((k:Int)).toNat]? with|some ⟨_,some e⟩=>e.addr+1+((p:Int)).toNat|_=>0)=_;rw[Int.toNat_natCast,h,Int.toNat_natCast]
theorem Z2o {s:CS} (hw:WF s) (h:Y0g s):s.rem.length≤1000000:=by
 have key:∀ r∈s.rem.map (·.1),∃ (k p g:Nat) (e:Ent),r=((k:Int),(p:Int))∧s.tab[k]? = some ⟨g,some e⟩∧p < e.ws.length:=by
  intro r hr;obtain⟨⟨r',t⟩,h1,rfl⟩:=List.mem_map.1 hr;exact h.key r' t ((Q3r h.nd).2 h1)
 have h1:((s.rem.map (·.1)).map (G2t s.tab)).Nodup:=by
  refine List.pairwise_map.2 (List.Pairwise.imp_of_mem ?_ h.nd);intro r r' hr hr' hne heq;obtain⟨k,p,g,e,rfl,h2,h3⟩:=key r hr;obtain⟨k',p',g',e',rfl,h2',h3'⟩:=key r' hr';rw[V3b h2,V3b h2'] at heq;by_cases hk:k=k'
  ·subst hk;rw[h2] at h2';injection h2' with h2'
   injection h2' with _ h2'
   injection h2' with h2'
   subst h2';obtain rfl:p=p':=by omega
   exact hne rfl
  ·have:=hw.apart k k' g g' e e' hk h2 h2';unfold Q1q at this;omega
 have h2:=Q3e h1 (l₂:=List.range 64512) (by
  intro z hz;obtain⟨r,hr,rfl⟩:=List.mem_map.1 hz;obtain⟨k,p,g,e,rfl,h2,h3⟩:=key r hr;rw[V3b h2,List.mem_range];have h4:=(hw.obj k g e h2).2.1.1;have h5:s.own.length*s.size≤63*1024:=Nat.mul_le_mul hw.own.2 hw.size.2;unfold Q1q at h4;omega)
 rw[List.length_map,List.length_map,List.length_range] at h2;omega
theorem V4t:∀ (ks:List (Int×Int)) {m:List ((Int×Int)×Int)},(m.map (·.1)).Nodup→∀ r,fnd (ks.foldl era m) r=if r∈ks then none else fnd m r
 | [],m,h,r=>by rw[if_neg (by simp)];rfl
 | k::ks,m,h,r=>by
  rw[List.foldl_cons,V4t ks (Q4y h),Q9a h];by_cases h1:r∈ks
  ·rw[if_pos h1,if_pos (List.mem_cons_of_mem _ h1)]
  ·rw[if_neg h1];by_cases h2:k=r
   ·rw[if_pos h2,if_pos (by rw[h2];exact List.mem_cons_self)]
   ·rw[if_neg h2,if_neg (by rw[List.mem_cons];exact fun h3=>h3.elim (fun h=>h2 h.symm) h1)]
structure U8s (s:CS) (k n:Nat) (s':CS):Prop where
 size:s'.size=s.size
 own:s'.own=s.own
 lays:s'.lays=s.lays
 last:s'.last=s.last
 par:s'.par=s.par
 sps:s'.sps=s.sps
 tab:s'.tab=s.tab.set k ⟨n,none⟩
 nd:(s'.rem.map (·.1)).Nodup
 rem:∀ r,fnd s'.rem r=if r.1=(k:Int) then none else fnd s.rem r
theorem U8s.rk {s s':CS} {k n:Nat} (h:U8s s k n s') (hR:Y0g s):Y0g s':=by
 refine⟨h.nd,fun r t hr=>?_⟩;rw[h.rem] at hr;split at hr
 ·cases hr
 ·rename_i hne;obtain⟨j,p,g,e,rfl,h1,h2⟩:=hR.key r t hr;exact⟨j,p,g,e,rfl,by rw[h.tab,List.getElem?_set_ne (by rintro rfl;exact hne rfl)];exact h1,h2⟩
theorem Q8w {ts:List Slt} {k n j g:Nat} {f:Ent} (h:(ts.set k ⟨n,none⟩)[j]? = some ⟨g,some f⟩):j≠k∧ts[j]? = some ⟨g,some f⟩:=by
 rcases Q1i h with ⟨_,h2,_⟩|h2
 ·injection h2 with _ h2
  cases h2
 ·exact h2
theorem U1e {s:CS} (h:WF s) (hnd:(s.par.map (·.1)).Nodup) {k n:Nat} {e:Ent} (hk:s.tab[k]? = some ⟨n,some e⟩) {q:Nat} {L:List Nat} {m1 m2:List (Int×Nat×List Nat)} (hm:s.mns=m1++(e.region,q,L)::m2) (R:List ((Int×Int)×Int)) :
  WF { s with tab:=s.tab.set k ⟨n,none⟩,rem:=R,mns:=m1++(e.region,q,L.filter (·≠k))::m2 }:=by
 have hnm:((m1++(e.region,q,L)::m2).map (·.1)).Nodup:=by rw[← hm,h.mkeys];exact hnd
 have hmk:(m1++(e.region,q,L.filter (·≠k))::m2).map (·.1)=s.par.map (·.1):=by rw[← h.mkeys,hm];exact V4e rfl
 refine⟨h.size,h.own,by show 1≤(s.tab.set _ _).length∧(s.tab.set _ _).length≤63;rw[List.length_set];exact h.slots,h.lays,?_,fun i g f hi=>h.obj i g f (Q8w hi).2,fun i j g g' f f' hne hi hj=>h.apart i j g g' f f' hne (Q8w hi).2 (Q8w hj).2,h.par,h.skeys,hmk,h.spc,fun x hx i g f hi=>h.free x hx i g f (Q8w hi).2,h.live,?_⟩
 ·intro i t hi
  rcases Q1i hi with ⟨rfl,rfl,_⟩|⟨_,hi⟩
  ·exact⟨(h.gen _ _ hk).1,fun h=>by cases h⟩
  ·exact h.gen _ _ hi
 ·intro x hx
  have hx':x=(e.region,q,L.filter (·≠k))∨(x∈s.mns∧x.1≠e.region):=by
   rcases Q7s hx with h1|h1
   ·exact .inl h1
   ·refine .inr ⟨by rw[hm];exact V0o h1,fun hx1=>?_⟩;rw[List.map_append,List.map_cons,List.nodup_append] at hnm;obtain⟨_,h2,h3⟩:=hnm
    rcases List.mem_append.1 h1 with hx|hx
    ·exact h3 x.1 (List.mem_map.2 ⟨x,hx,rfl⟩) e.region (by simp) hx1
    ·rw[List.nodup_cons] at h2;exact h2.1 (List.mem_map.2 ⟨x,hx,hx1⟩)
  rcases hx' with rfl|⟨hx,hne⟩
  ·obtain⟨h1,h2⟩:=h.mine (e.region,q,L) (by rw[hm];simp);refine⟨h1.filter _,fun j=>?_⟩;show j∈L.filter (·≠k)↔_;rw[List.mem_filter,h2];constructor
   ·rintro⟨⟨g,f,h3,h4⟩,h5⟩;have h5:j≠k:=by simpa using h5
    exact⟨g,f,by show (s.tab.set _ _)[_]? = _;rw[List.getElem?_set_ne (Ne.symm h5)];exact h3,h4⟩
   ·rintro⟨g,f,h3,h4⟩;obtain⟨h5,h6⟩:=Q8w h3;exact⟨⟨g,f,h6,h4⟩,by simpa using h5⟩
  ·obtain⟨h1,h2⟩:=h.mine x hx;refine⟨h1,fun j=>?_⟩;rw[h2];constructor
   ·rintro⟨g,f,h3,h4⟩;refine⟨g,f,?_,h4⟩;show (s.tab.set _ _)[_]? = _;rw[List.getElem?_set_ne]
    ·exact h3
    ·rintro rfl;rw[hk] at h3;injection h3 with h3
     injection h3 with _ h3
     injection h3 with h3
     subst h3;exact hne h4.symm
   ·rintro⟨g,f,h3,h4⟩;exact⟨g,f,(Q8w h3).2,h4⟩
theorem Z8h {s s':CS} {mem:List Nat} (m:Q4p s mem) {k n:Nat} (h1:s'.own=s.own) (h2:s'.size=s.size) (h3:s'.tab=s.tab.set k ⟨n,none⟩):Q4p s' mem:=
 ⟨by rw[h1,h2];exact m.len,fun i g e hi=>m.head i g e (by rw[h3] at hi;exact(Q8w hi).2),fun i g e hi=>m.words i g e (by rw[h3] at hi;exact(Q8w hi).2)⟩
end Go.Proofs.YtmjdnljneifpcaaGreatDoor
namespace Go.Proofs.YtmjdnljneifpcaaGreatDoor
open Go.SL
def V2c (p:Nat) (q:Ptr) (s:CS):Q0e:=ex fun mem:List Nat=>star [prop (WF s∧Q4p s mem),Q7x p q,IMG q.ip q.sp q.bp,Q5v q.bp s.lays,ST q.sp s.size mem s.own,TAB q.tp s.tab,RS q.rp s.rem,
 mp (ki .i64) Q6v q.sm (s.sps.map Q4q),star (s.sps.map (Q4r q.sp)),mp (ki .i64) Q6v q.mm (s.mns.map Q3p),star (s.mns.map Q4a)]
theorem Y9h [Q0i] {w:World} {p:Nat} {q:Ptr} {s:CS} {fr:List Q0e} (H:Q0a w (V2c p q s::fr)):∃ mem:List Nat,WF s∧Q4p s mem ∧
  Q0a w (Q7x p q::IMG q.ip q.sp q.bp::Q5v q.bp s.lays::ST q.sp s.size mem s.own::TAB q.tp s.tab::RS q.rp s.rem::mp (ki .i64) Q6v q.sm (s.sps.map Q4q)::star (s.sps.map (Q4r q.sp))::mp (ki .i64) Q6v q.mm (s.mns.map Q3p)::star (s.mns.map Q4a)::fr):=by
 obtain⟨mem,H⟩:=Q0a.ex.1 H;have H:=Q0a.star.1 H;obtain⟨⟨h1,h2⟩,H⟩:=Q0a.prop.1 H;exact⟨mem,h1,h2,H⟩
theorem G2u [Q0i] {w:World} {p:Nat} {q:Ptr} {s:CS} {fr:List Q0e} {mem:List Nat} (h:WF s) (hm:Q4p s mem)
  (H:Q0a w (Q7x p q::IMG q.ip q.sp q.bp::Q5v q.bp s.lays::ST q.sp s.size mem s.own::TAB q.tp s.tab::RS q.rp s.rem::mp (ki .i64) Q6v q.sm (s.sps.map Q4q)::star (s.sps.map (Q4r q.sp))::mp (ki .i64) Q6v q.mm (s.mns.map Q3p)::star (s.mns.map Q4a)::fr)):Q0a w (V2c p q s::fr):=
 Q0a.ex.2 ⟨mem,Q0a.star.2 (Q0a.prop.2 ⟨⟨h,hm⟩,H⟩)⟩
theorem U5p [Q0i] {w:World} {p:Nat} {q:Ptr} {s:CS} {fr:List Q0e} (H:Q0a w (V2c p q s::TRE q.trp s.last s.par::fr)):Q0a w (Q2z p s::fr):=by
 obtain⟨mem,hw,hm,H⟩:=Y9h H;replace H:=Js [0,0,0,0,0,5,0,0,0,0,0] 0 H;exact Q1s hw hm H
theorem U5q [Q0i] (p:Nat) (q:Ptr) (s:CS) (hnd:(s.par.map (·.1)).Nodup) (k n:Nat) (e:Ent) (hk:s.tab[k]? = some ⟨n,some e⟩) (hn:n < 255) (hR:Y0g s) {w:World} {fr:List Q0e} (H:Q0a w (V2c p q s::fr)) :
  Calls Tryz.prog 63 #[pp p,.int .i64 k] w (ret fun v w'=>v = .tuple #[]∧∃ s',U8s s k n s'∧Q0a w' (V2c p q s'::fr)):=by
 obtain⟨mem,hw,hm,H⟩:=Y9h H;replace H:=Js [4,0,0,0,0] 0 H;refine Q0c Tryz.func63 rfl (by kernel_rfl) ?_;refine J6 H ?_;refine Jc rfl rfl (U9u p q s.tab k n e hk H) ?_;clear H;rintro v w ⟨rfl,H⟩;refine J16 H ?_;clear H;intro b4 w H;refine J4 H ?_;clear H;intro w H;refine J23 H ?_;have hkl:=(List.getElem?_eq_some_iff.1 hk).1;obtain⟨_,_,y,hy⟩:=hw.obj k n e hk;have hrk:e.region∈s.mns.map (·.1):=by rw[hw.mkeys];exact List.mem_map.2 ⟨(e.region,y),hy,rfl⟩
 obtain⟨b2,hkM⟩:=Q8c (l:=s.mns) (f:=fun x=>x.1) (g:=fun x=>x.2.1) (k:=e.region) hrk;obtain⟨⟨r1,b1,L⟩,m1,m2,hmns,h11,h12⟩:=Q6r hkM;have h11:r1=e.region:=h11;have h12:b1=b2:=h12;subst h11 h12;have hkM':fnd (s.mns.map Q3p) e.region=some b1:=hkM;have hL:=hw.mine (e.region,b1,L) (by rw[hmns];simp)
 have hL1:L.length≤100000:=by
  have:=V0z L 0 64 (fun x hx=>⟨Nat.zero_le _,by
   obtain⟨g,f,h3,_⟩:=(hL.2 x).1 hx;have h4:=(List.getElem?_eq_some_iff.1 h3).1;have:=hw.slots.2;omega⟩) hL.1
  omega
 replace H:=Js [1,0] 0 H;refine J10 H ?_;refine Jc rfl rfl (V8a q.tp s.tab k n e hk H) ?_;clear H;rintro v w ⟨rfl,H⟩;refine J16 H ?_;clear H;intro b6 w H;refine J4 H ?_;clear H;intro w H;refine J0 H ?_;replace H:=Js [7,0,0,0,0,0,0,0] 0 H;refine J10 H ?_;refine Jc rfl rfl (Y7t q.rp s.rem hR.nd (Z2o hw hR) k H) ?_;clear H;rintro v w ⟨ks,hks,_,rfl,H⟩;refine Q0h ?_;replace H:=Js [11,10,2,2,2,0,0,0,0,0,0,0] 0 H;replace H:Q0a w (BAG b1 L::star ((m1++m2).map Q4a)::_):=(Q0a.pick (R:=Q4a) (x:=(e.region,b1,L)) hmns).1 H;refine J1 H ?_;clear H;intro w H;refine U5a H ?_;refine Jf 4 ?_;refine Jl 5 [8] H ?_;refine Q7k 6 [8] (key:=e.region) H rfl (Q0n.none rfl) rfl rfl tkI (by kernel_rfl) ?_;rw[hkM'];refine Ja 7 ?_;refine Jo 8 H ?_;refine Jk rfl rfl (Y9g b1 L k hL.1 hL1 H) ?_;clear H;rintro v w ⟨rfl,H⟩;refine Jx H ?_;replace H:=Js [3,0,0,0] 0 H;refine J1 H ?_;clear H;intro w H;refine U7j H ?_;refine Jk rfl rfl (Z8g q.tp s.tab k n e hk hn H) ?_;clear H;rintro v w ⟨rfl,H⟩;refine Jx H ?_;have hwf:=U1e hw hnd hk hmns (ks.foldl era s.rem);have hmem:=Z8h (s':={ s with tab:=s.tab.set k ⟨n,none⟩,rem:=ks.foldl era s.rem,mns:=m1++(e.region,b1,L.filter (·≠k))::m2 }) hm rfl rfl rfl;have hkeyM:s.mns.map Q3p=(m1++(e.region,b1,L.filter (·≠k))::m2).map Q3p:=by rw[hmns];simp
 rw[hkeyM] at H;replace H:=Js [1,1,0,0] 0 H;have H:=(Q0a.pick (R:=Q4a) (x:=(e.region,b1,L.filter (·≠k))) (g1:=m1) (g2:=m2) rfl).2 H;replace H:=Js [4,6,6,6,1,3,4,4,1,0] 2 H;have H:=G2u hwf hmem H;refine Q2w _ (.inl rfl) H rfl fun w' H'=>⟨rfl,{ s with tab:=s.tab.set k ⟨n,none⟩,rem:=ks.foldl era s.rem,mns:=m1++(e.region,b1,L.filter (·≠k))::m2 },⟨rfl,rfl,rfl,rfl,rfl,rfl,rfl,Q8p ks hR.nd,fun r=>?_⟩,H'⟩;show fnd (ks.foldl era s.rem) r=_;rw[V4t ks hR.nd];by_cases hr:r.1=(k:Int)
 ·rw[if_pos hr];by_cases h1:r∈ks
  ·rw[if_pos h1]
  ·rw[if_neg h1];cases hf:fnd s.rem r with
   | none=>rfl
   | some t=>exact absurd ((hks r).2 ⟨hr,by rw[hf];rfl⟩) h1
 ·rw[if_neg hr,if_neg];intro h1;exact hr ((hks r).1 h1).1
end Go.Proofs.YtmjdnljneifpcaaGreatDoor
namespace Go.Proofs.YtmjdnljneifpcaaGreatDoor
open Go.SL
theorem G6o [Q0i] (p:Nat) (m:List (Rf×Int)) (hm:m.length≤1000000) (t:Int) {w:World} {fr:List Q0e} (H:Q0a w (RS p m::fr)) :
  Calls Tryz.prog 59 #[pp p,.int .i64 t] w (ret fun v w'=>∃ ks,(∀ r,r∈ks↔fnd m r=some t)∧Y7s ks∧Q0a w' (sls 133 2 v (Q5z ks)::RS p m::fr)):=by
 refine Q0c Tryz.func59 rfl (by kernel_rfl) ?_;obtain⟨bt,bo,bf,H⟩:=Y2o H;refine U0g H ?_;replace H:=Js [2,0,0,0] 0 H;obtain⟨G,hG,H⟩:=Y5d H;refine Q0s rfl (Q3m (key:=t) H rfl rfl tkI rfl ?_);have hn0:=Q5h bo H;have hn:(G.map (·.key)).Nodup:=by rw[← V0c];exact hn0
 cases hf:fnd (G.map gkb) t with
 | none=>
  replace H:=G0b kp v1 H;refine Jc rfl rfl (V0e none [] (by simp) (by simp) H) ?_;rintro v w ⟨ks,hp,hs,H⟩;refine J52 H ?_;have hks:ks=[]:=by simpa using hp
  subst hks;replace H:=Js [2,2,2,2,2,0] 1 H;replace H:=V2f G hG H;replace H:=Js [1,1,0,0,0] 0 H;replace H:=Y7n bt bo bf (fun _ _=>Iff.rfl) (fun _ _=>Iff.rfl) H;refine Q0g (Jy H.swap rfl fun w' H'=>⟨[],fun r=>?_,hs,H'⟩);have h1:=Q6f.1 hf;rw[V0c] at h1;exact⟨fun h=>by simp at h,fun h=>absurd (V1b ((hG t r).2 h)) h1⟩
 | some bi=>
  obtain⟨g,g1,g2,rfl,rfl,rfl⟩:=V7x hf;have H:=(Q0a.pick rfl).1 H.swap;have hi:=Q5h g.blk H
  have hlen:g.m.length≤1000000:=by
   have:=Q3e hi (l₂:=m.map (·.1)) (fun r hr=>by
    have:=(hG g.key r).1 ((Z4w hn).2 hr);exact List.mem_map_of_mem (f:=(·.1)) (Q7d this))
   simp at this;omega
  replace H:=Z4e H;refine Jc rfl rfl (V0e (some g.blk) g.m hlen hi H) ?_;rintro v w ⟨ks,hp,hs,H⟩;refine J52 H ?_;replace H:=Y5i H.swap;replace H:=Js [0,1,0,0,0,0,0] 0 H;replace H:=(Q0a.pick (R:=Y7k) (gs:=g1++g::g2) rfl).2 H;replace H:=Js [2,0,1,1,1,0] 0 H;replace H:=V2f (g1++g::g2) hG H;replace H:=Js [1,1,0,0,0] 0 H;replace H:=Y7n bt bo bf (fun _ _=>Iff.rfl) (fun _ _=>Iff.rfl) H;refine Q0g (Jy H.swap rfl fun w' H'=>⟨ks,fun r=>?_,hs,H'⟩);rw[hp.mem_iff,← hG,Z4w hn]
end Go.Proofs.YtmjdnljneifpcaaGreatDoor
namespace Go.Proofs.YtmjdnljneifpcaaGreatDoor
open Go.SL
theorem Y9i [Q0i] (p sp owner:Nat) (S:Spc) (hp:S.parts.length≤100000) (hq:∀ x∈S.parts,x.1+x.2≤100000) (hc:(Q0k S.parts).length≤100000) {w:World} {fr:List Q0e} (H:Q0a w (SPC p sp owner S::fr)) :
  Calls Tryz.prog 50 #[pp p] w (ret fun v w'=>∃ a c,v = .slice a (Q0k S.parts).length c∧Q0a w' (NL v (Q0k S.parts)::SPC p sp owner S::fr)):=by
 obtain⟨a,c,H⟩:=Q5b H;refine Q0c Tryz.func50 rfl (by kernel_rfl) ?_;refine J14 H ?_;refine G8f H ?_;refine J57 H ?_;replace H:=Q3x (E:=3) (k:=1) H;refine J43 H ?_;refine Q1l (fun ms σ w z=>ms=[]∧∃ (i:Nat) (a3:Option Addr) (c3:Nat),i≤S.parts.length∧z=S.parts.length - i∧σ 3 = .slice a3 (Q0k (S.parts.take i)).length c3∧σ 13 = .slice a S.parts.length c∧σ 14 = .int .i64 S.parts.length∧σ 15 = .int .i64 i∧Q0a w (NL (.slice a3 (Q0k (S.parts.take i)).length c3) (Q0k (S.parts.take i))::pts p (row 206 [pp sp,.int .i64 owner,.slice a S.parts.length c,.int .i64 S.at',.int .i64 S.fin])::sls 208 2 (.slice a S.parts.length c) (S.parts.flatMap ptv)::fr)) (m:=S.parts.length) ⟨rfl,0,none,0,by omega,rfl,rfl,rfl,rfl,rfl,H⟩ ?_;clear H;rintro ms σ w z ⟨rfl,i,a3,c3,hi,rfl,g3,g13,g14,g15,H⟩;rw[Q0b g3,Q0b g13,Q0b g14,Q0b g15];refine J5 H ?_;refine Q2d rfl (fun h=>Q0w ?_) (fun h=>Q1n ?_)
 ·have hlt:i < S.parts.length:=by omega
  have hn:=List.getElem?_eq_getElem hlt;have htk:S.parts.take (i+1)=S.parts.take i++[S.parts[i]]:=by rw[List.take_add_one,hn];rfl
  have hle:(Q0k (S.parts.take (i+1))).length≤100000:=by
   refine Nat.le_trans ?_ hc
   conv=>rhs;rw[← List.take_append_drop (i+1) S.parts]
   rw[Q1o,List.length_append];omega
  have hx:=hq _ (List.getElem_mem hlt);generalize S.parts[i]=x at hn htk hx;obtain⟨x1,x2⟩:=x;rw[htk,Q1o,Q3u,List.length_append,List.length_map,List.length_range] at hle;have hx:x1+x2≤100000:=hx;have hcq:Q0k (S.parts.take (i+1))=Q0k (S.parts.take i)++(List.range x2).map (x1+·):=by rw[htk,Q1o,Q3u]
  clear g3;generalize Q0k (S.parts.take i)=Q at H hle hcq ⊢;have hl:(Q0k (S.parts.take (i+1))).length=Q.length+x2:=by rw[hcq,List.length_append,List.length_map,List.length_range]
  replace H:=Js [2,0,0] 0 H;obtain⟨bT,sT,rfl,H,hcl⟩:=Q0y H (by omega);have hrd:Q0o (S.parts.flatMap ptv++sT) (i*2+0) 2 (ptv (x1,x2)):=Q8h (vs:=ptv (x1,x2)) Q8o hn (by repeat first|exact .nil _|apply Q0o.cons rfl);have ei:0+((i:Nat):Int).toNat*2=i*2:=by simp
  refine J19 H ?_;refine Jd ?_;rw[ei];refine Q0s rfl (Q1j H rfl hrd rfl ?_);refine J12 H ?_;clear H;intro b5 w H;refine J4 H ?_;clear H;intro w H;refine Q0h ?_;refine U2v H ?_;replace H:=hcl _ _ H.swap;replace H:=Js [2,1,1,0] 0 H;refine J7 H ?_;refine Q1m (fun ms σ w=>ms=[]∧∃ (a3:Option Addr) (c3:Nat),σ 3 = .slice a3 (Q.length+x2) c3∧σ 13 = .slice (some ⟨bT,0,none⟩) S.parts.length c∧σ 14 = .int .i64 S.parts.length∧σ 15 = .int .i64 i∧Q0a w (NL (.slice a3 (Q.length+x2) c3) (Q++(List.range x2).map (x1+·))::pts p (row 206 [pp sp,.int .i64 owner,.slice (some ⟨bT,0,none⟩) S.parts.length c,.int .i64 S.at',.int .i64 S.fin])::sls 208 2 (.slice (some ⟨bT,0,none⟩) S.parts.length c) (S.parts.flatMap ptv)::fr)) ?_ ?_
  ·refine Q0t ?_;refine Q1l (fun ms σ w z=>ms=[]∧∃ (j:Nat) (a3:Option Addr) (c3:Nat),j≤x2∧z=x2 - j∧σ 3 = .slice a3 (Q.length+j) c3∧σ 5=pp b5∧σ 13 = .slice (some ⟨bT,0,none⟩) S.parts.length c∧σ 14 = .int .i64 S.parts.length∧σ 15 = .int .i64 i∧σ 20 = .int .i64 x2∧σ 21 = .int .i64 j∧Q0a w (NL (.slice a3 (Q.length+j) c3) (Q++(List.range j).map (x1+·))::pts b5 (row 208 [.int .i64 x1,.int .i64 x2])::pts p (row 206 [pp sp,.int .i64 owner,.slice (some ⟨bT,0,none⟩) S.parts.length c,.int .i64 S.at',.int .i64 S.fin])::sls 208 2 (.slice (some ⟨bT,0,none⟩) S.parts.length c) (S.parts.flatMap ptv)::fr)) (m:=x2) ⟨rfl,0,a3,c3,by omega,rfl,rfl,rfl,rfl,rfl,rfl,rfl,rfl,by rw[List.range_zero,List.map_nil,List.append_nil];exact H⟩ ?_;clear H;rintro ms σ w z ⟨rfl,j,a3,c3,hj,rfl,g3,g5,g13,g14,g15,g20,g21,H⟩;rw[Q0b g3,Q0b g5,Q0b g13,Q0b g14,Q0b g15,Q0b g20,Q0b g21];refine J5 H ?_;refine Q2d rfl (fun h=>Q0w ?_) (fun h=>Q1n ?_)
   ·have hjl:j < x2:=by omega
    refine J96 H ?_;refine U0d H ?_;refine J26 H ?_;rw[show IntKind.i64.wrap ((x1:Int)+(j:Int))=((x1+j:Nat):Int) by rw[Q1e (by omega) (by omega)];omega];refine J35 H ?_;clear H;intro b29 w H;replace H:=Js [1,0,0,0,0] 0 H;refine Q0s rfl (Q1t H rfl rfl (by repeat first|exact .nil _|apply Q0o.cons rfl) rfl (by decide) (by rw[Q0d,List.length_append,List.length_map,List.length_range];simp only[List.length_cons,List.length_nil];omega) rfl rfl ?_);clear H;intro v30 w H;rw[show Q0u (Q++(List.range j).map (x1+·))++[.int .i64 ((x1+j:Nat):Int)]=Q0u (Q++(List.range (j+1)).map (x1+·)) by rw[List.range_succ,List.map_append,← List.append_assoc];exact(Q3s (Q++(List.range j).map (x1+·)) [x1+j]).symm] at H;obtain⟨a30,c30,rfl⟩:=Q0j H (m:=Q.length+(j+1)) (by rw[Q0d,List.length_append,List.length_map,List.length_range]) (by decide);refine J22 H ?_;replace H:=Js [0,1,1,1] 1 H;exact⟨_,⟨rfl,j+1,a30,c30,hjl,rfl,rfl,rfl,rfl,rfl,rfl,rfl,Q2a (by omega),H⟩,by omega⟩
   ·have hge:j=x2:=by omega
    subst hge;replace H:=Js [0,1,1] 1 H;exact⟨rfl,rfl,a3,c3,rfl,rfl,rfl,rfl,H⟩
  clear H;rintro ms σ w ⟨rfl,a3,c3,g3,g13,g14,g15,H⟩;rw[Q0b g3,Q0b g13,Q0b g14,Q0b g15];refine J3 H ?_;exact⟨_,⟨rfl,i+1,a3,c3,hlt,rfl,by rw[hl];rfl,rfl,rfl,Q2a (by omega),by rw[hl,hcq];exact H⟩,by omega⟩
 ·have hge:i=S.parts.length:=by omega
  subst hge;rw[List.take_length] at H ⊢;refine J3 H ?_;replace H:=Js [1,1,0] 0 H;exact Q0g (Jy (Q5m H) rfl fun w' H'=>⟨_,_,rfl,H'.swap⟩)
end Go.Proofs.YtmjdnljneifpcaaGreatDoor
namespace Go.Proofs.YtmjdnljneifpcaaGreatDoor
open Go.SL
theorem Y9j [Q0i] (p size:Nat) (mem own:List Nat) (c:Nat) (hc:c < own.length) (h0:own.getD c 0≠0) {w:World} {fr:List Q0e} (H:Q0a w (ST p size mem own::fr)) :
  Calls Tryz.prog 248 #[pp p,.int .i64 c] w (ret fun v w'=>v = .int .i64 0∧Q0a w' (ST p size mem own::fr)):=by
 obtain⟨v,v2,u,ws,many,hok,H⟩:=Q8t H;obtain⟨a2,c2,rfl⟩:=Q0j (H.drop.drop) (Q0d own) (by decide);have hcl:=hok.c2;refine Q0c Tryz.func248 rfl (by kernel_rfl) ?_;refine J14 H ?_;replace H:=Js [2,0,0] 0 H;have hx:own[c]? = some (own.getD c 0):=by rw[List.getD_eq_getElem?_getD,List.getElem?_eq_getElem hc];rfl
 generalize own.getD c 0=o at h0 hx;obtain⟨b,s,rfl,H,hclose⟩:=Q0y H (by omega);refine J7 H ?_;refine Q2s (fun ms σ w=>ms=[]∧Q0a w (pts b (row 3 (Q0u own++s))::pts p (row 141 [v,.int .i64 size,.slice (some ⟨b,0,none⟩) own.length c2,pp u])::UL v mem::BM u own.length ws many::fr)) ?_ ?_
 ·refine Q0t ?_;refine J6 H ?_;rw[show decide ((c:Int) < 0)=false from decide_eq_false (by omega)];refine J92 H ?_;rw[show decide ((c:Int)≥(own.length:Int))=false from decide_eq_false (by omega)];refine J85 H ?_;refine J10 H ?_;refine Jd ?_;refine Q0s rfl (Q0l H rfl (Q2r hx) rfl ?_);refine Jv ?_;rw[show ((o:Int) == 0)=false by rw[beq_eq_false_iff_ne];omega];refine J17 H ?_;exact .inl ⟨rfl,rfl,H⟩
 ·clear H;rintro ms σ w ⟨rfl,H⟩;replace H:=hclose _ _ H;replace H:=Js [1,1,0] 0 H;replace H:=V1y hok H;refine J14 H ?_;exact Q0g (Jy H rfl fun w' H'=>⟨rfl,H'⟩)
theorem Y9k [Q0i] (p size:Nat) (mem own:List Nat) (c:Nat) (h63:own.length≤63) (hc:c < own.length) (h0:own.getD c 0≠0) {w:World} {fr:List Q0e} (H:Q0a w (ST p size mem own::fr)) :
  Calls Tryz.prog 211 #[pp p,.int .i64 c] w (ret fun v w'=>v = .int .i64 0∧Q0a w' (ST p size mem (own.set c 0)::fr)):=by
 refine Q0c Tryz.func211 rfl (by kernel_rfl) ?_;refine U6t H ?_;refine Jc rfl rfl (Y9j p size mem own c hc h0 H) ?_;clear H;rintro v w ⟨rfl,H⟩;refine J22 H ?_;obtain⟨v,v2,u,ws,many,hok,H⟩:=Q8t H;obtain⟨x,rfl,hb,rfl,hx⟩:=V9b hok h63;obtain⟨a2,c2,rfl⟩:=Q0j (H.drop.drop) (Q0d own) (by decide);have hcl:=hok.c2;replace H:=Js [2,0,0] 0 H;obtain⟨b,s,rfl,H,_,_,hclose⟩:=Q2n H (by omega);refine J7 H ?_;refine Q1m (fun ms σ w=>ms=[]∧σ 5 = .int .i64 0∧Q0a w (BM1 u own.length (V7v x c false)::NL (.slice (some ⟨b,0,none⟩) own.length c2) (own.set c 0)::pts p (row 141 [v,.int .i64 size,.slice (some ⟨b,0,none⟩) own.length c2,pp u])::UL v mem::fr)) ?_ ?_
 ·refine Q3g rfl ?_;refine J10 H ?_;refine Jd ?_;refine Q0s rfl (Q2e H rfl rfl inferInstance rfl (by simp only[List.length_append,Q0d];omega) rfl ?_);clear H;intro w H;have e0:(Q0u own++s).set (0+((c:Nat):Int).toNat*1) (.int .i64 0)=Q0u (own.set c 0)++s:=V1p (by omega);rw[e0] at H;replace H:=hclose _ _ _ (by rw[Q0d,Q0d,List.length_set]) H;refine Q0h ?_;replace H:=Js [3,0,0,0] 0 H;refine J10 H ?_;refine Jc rfl rfl (V8y u _ x c false hb hc H) ?_;clear H;rintro v' w ⟨rfl,H⟩;refine Q0h ?_;exact⟨rfl,rfl,rfl,H⟩
 ·clear H;rintro ms σ w ⟨rfl,g5,H⟩;rw[Q0b g5];refine J3 H ?_;replace H:=Js [2,2,1,0] 0 H
  have hx':∀ i,i < (own.set c 0).length→(V7v x c false).testBit i=decide ((own.set c 0).getD i 0≠0):=by
   intro i hi;rw[List.length_set] at hi;rw[V0a,List.getD_eq_getElem?_getD,List.getElem?_set];by_cases hic:i=c
   ·subst hic;rw[if_pos rfl,if_pos rfl,if_pos hc];simp
   ·rw[if_neg hic,if_neg (fun h=>hic h.symm),hx i hi,List.getD_eq_getElem?_getD]
  refine Q0g (Jy (V1y (own:=own.set c 0) (ws:=[V7v x c false]) (many:=V7j own.length (V7v x c false)) ⟨hok.s1,hok.s2,by rw[List.length_set];exact hok.c1,by rw[List.length_set];exact hok.c2,by rw[List.length_set];exact hok.len,by have:=V7w _ _ hx';rw[List.length_set] at this;exact this,fun _=>⟨_,rfl,by rw[List.length_set];exact(Y2j.set hb hc).lt,hx'⟩⟩ (by rw[List.length_set];exact H)) rfl fun w' H'=>⟨rfl,H'⟩)
end Go.Proofs.YtmjdnljneifpcaaGreatDoor
