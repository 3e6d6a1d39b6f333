/- Cells: what is proved on the way: every input of the statement; no condition. Texts joined: InvP InvQ TreP TreQ LawE LawF LawG LawH LawI LawJz. -/
import Derived.Test.YtmjdnljneifpcaaGreatDoorBfk
import Derived.Test.YtmjdnljneifpcaaGreatDoorBfj
import Derived.Test.YtmjdnljneifpcaaGreatDoorBfh
import Derived.Test.YtmjdnljneifpcaaGreatDoorBfe
set_option linter.unusedVariables false
set_option linter.unusedSimpArgs false
set_option linter.unusedSectionVars false
namespace Go.Proofs.YtmjdnljneifpcaaGreatDoor
open List
open Go.SL
def LJ (s:CS) (r:Int×Int) (t:Int):Prop:=∃ (k p g:Nat) (e:Q9) (a b:Nat) (f:Q9),r=((k:Int),(p:Int))∧s.tab[k]? = some ⟨g,some e⟩∧p < e.ws.length∧Ve (Qc s e) p=true∧YG e p = .obj a b∧Ql s.tab a b=some (a,f)∧f.region≠e.region∧t=a
structure Inv (s:CS):Prop where
 nd:(s.rem.map (·.1)).Nodup
 rem:∀ r t,QV s.rem r=some t↔LJ s r t
 link:∀ (k g:Nat) (e:Q9) (p a b:Nat),s.tab[k]? = some ⟨g,some e⟩→p < e.ws.length→Ve (Qc s e) p=true→YG e p = .obj a b→∃ f,Ql s.tab a b=some (a,f)
theorem Xo {ts:List QW} {a b c:Nat} {f:Q9} (h:Ql ts a b=some (c,f)):c=a∧ts[a]? = some ⟨b,some f⟩:=by
 obtain⟨n,h1,h2,h3⟩:=Z1.1 h;obtain rfl:c=a:=by omega
 obtain rfl:n=b:=by omega
 exact⟨rfl,h3⟩
structure LL (s:CS) (k g:Nat) (e e':Q9):Prop where
 at':s.tab[k]? = some ⟨g,some e⟩
 region:e'.region=e.region
 lay:e'.lay=e.lay
 len:e'.ws.length=e.ws.length
theorem iz {s:CS} {k g:Nat} {e e':Q9} (h:s.tab[k]? = some ⟨g,some e⟩) (a b:Nat):Ql (Y6 s k g e').tab a b=(Ql s.tab a b).map fun q=>if q.1=k then (k,e') else q:=by
 have VC:=(List.getElem?_eq_some_iff.1 h).1;cases hl:Ql s.tab a b with
 | some q=>
  obtain⟨c,f⟩:=q;obtain⟨rfl,hc⟩:=Xo hl;by_cases hk:c=k
  ·subst hk;rw[h] at hc;injection hc with hc
   injection hc with h1 h2
   subst h1;show _=some (if c=c then (c,e') else _);rw[if_pos rfl];exact Z1.2 ⟨g,rfl,rfl,getElem?_set_self VC⟩
  ·show _=some (if c=k then (k,e') else (c,f));rw[if_neg hk];exact Z1.2 ⟨b,rfl,rfl,by show (s.tab.set k _)[c]? = _;rw[getElem?_set_ne (Ne.symm hk)];exact hc⟩
 | none=>
  show _=none;cases Vu:Ql (Y6 s k g e').tab a b with
  | none=>rfl
  | some q=>
   obtain⟨c,f⟩:=q;obtain⟨rfl,hc⟩:=Xo Vu;have hc:(s.tab.set k ⟨g,some e'⟩)[c]? = some ⟨b,some f⟩:=hc
   rcases VE hc with ⟨rfl,h2,_⟩|⟨_,h2⟩
   ·injection h2 with h2 _
    subst h2;rw[Z1.2 ⟨b,rfl,rfl,h⟩] at hl;cases hl
   ·rw[Z1.2 ⟨b,rfl,rfl,h2⟩] at hl;cases hl
theorem j0 {s:CS} {k g:Nat} {e e':Q9} (h:LL s k g e e') {a b:Nat}:(∃ f,Ql (Y6 s k g e').tab a b=some (a,f))↔∃ f,Ql s.tab a b=some (a,f):=by
 rw[iz h.at'];constructor
 ·rintro⟨f,hf⟩;rw[Option.map_eq_some_iff] at hf;obtain⟨⟨c,f'⟩,h1,_⟩:=hf;obtain⟨rfl,_⟩:=Xo h1;exact⟨f',h1⟩
 ·rintro⟨f,hf⟩;rw[hf];by_cases hk:a=k
  ·exact⟨e',by show some (if a=k then (k,e') else (a,f))=_;rw[if_pos hk,hk]⟩
  ·exact⟨f,by show some (if a=k then (k,e') else (a,f))=_;rw[if_neg hk]⟩
theorem ON {s:CS} {k g:Nat} {e e':Q9} (h:LL s k g e e') {a b:Nat} {P:Int→Prop}:(∃ f,Ql (Y6 s k g e').tab a b=some (a,f)∧P f.region)↔∃ f,Ql s.tab a b=some (a,f)∧P f.region:=by
 rw[iz h.at'];constructor
 ·rintro⟨f,hf,hp⟩;rw[Option.map_eq_some_iff] at hf;obtain⟨⟨c,f'⟩,h1,h2⟩:=hf;obtain⟨rfl,h3⟩:=Xo h1;refine⟨f',h1,?_⟩;by_cases hk:c=k
  ·subst hk;rw[if_pos rfl] at h2;injection h2 with _ h2
   subst h2;rw[h.at'] at h3;injection h3 with h3
   injection h3 with _ h3
   injection h3 with h3
   subst h3;rw[h.region] at hp;exact hp
  ·rw[if_neg hk] at h2;injection h2 with _ h2
   subst h2;exact hp
 ·rintro⟨f,hf,hp⟩;rw[hf];by_cases hk:a=k
  ·subst hk;obtain⟨_,h3⟩:=Xo hf;rw[h.at'] at h3;injection h3 with h3
   injection h3 with _ h3
   injection h3 with h3
   subst h3;exact⟨e',by show some (if a=a then (a,e') else (a,e))=_;rw[if_pos rfl],by rw[h.region];exact hp⟩
  ·exact⟨f,by show some (if a=k then (k,e') else (a,f))=_;rw[if_neg hk],hp⟩
theorem j4 {s:CS} (hI:Inv s) {k g:Nat} {e e':Q9} (h:LL s k g e e') (hl:∀ p,p < e.ws.length→Ve (Qc s e) p=true→YG e' p=YG e p):Inv (Y6 s k g e'):=by
 have VC:=(List.getElem?_eq_some_iff.1 h.at').1;have Bb:∀ f,Qc (Y6 s k g e') f=Qc s f:=fun _=>rfl;have VS:Qc s e'=Qc s e:=by unfold Qc;rw[h.lay]
 refine⟨hI.nd,fun r t=>?_,?_⟩
 ·show QV s.rem r=some t↔_;rw[hI.rem];constructor
  ·rintro⟨j,p,g1,e1,a,b,f,rfl,h1,h2,h3,h4,h5,h6,rfl⟩;obtain⟨f',Wb,RI⟩:=(ON (P:=fun r=>r≠e1.region) h).2 ⟨f,h5,h6⟩;by_cases hj:j=k
   ·subst hj;rw[h.at'] at h1;injection h1 with h1
    injection h1 with h0 h1
    injection h1 with h1
    subst h0 h1;exact⟨j,p,g,e',a,b,f',rfl,getElem?_set_self VC,by rw[h.len];exact h2,by rw[Bb,VS];exact h3,by rw[hl p h2 h3];exact h4,Wb,by rw[h.region];exact RI,rfl⟩
   ·exact⟨j,p,g1,e1,a,b,f',rfl,by show (s.tab.set k _)[j]? = _;rw[getElem?_set_ne (Ne.symm hj)];exact h1,h2,h3,h4,Wb,RI,rfl⟩
  ·rintro⟨j,p,g1,e1,a,b,f,rfl,h1,h2,h3,h4,h5,h6,rfl⟩;have h1:(s.tab.set k ⟨g,some e'⟩)[j]? = some ⟨g1,some e1⟩:=h1;obtain⟨f',Wb,RI⟩:=(ON (P:=fun r=>r≠e1.region) h).1 ⟨f,h5,h6⟩
   rcases VE h1 with ⟨rfl,h7,_⟩|⟨_,h7⟩
   ·injection h7 with h0 h7
    injection h7 with h7
    subst h0 h7;rw[Bb,VS] at h3;rw[h.len] at h2;rw[hl p h2 h3] at h4;rw[h.region] at RI;exact⟨j,p,g1,e,a,b,f',rfl,h.at',h2,h3,h4,Wb,RI,rfl⟩
   ·exact⟨j,p,g1,e1,a,b,f',rfl,h7,h2,h3,h4,Wb,RI,rfl⟩
 ·intro j g1 e1 p a b h1 h2 h3 h4;have h1:(s.tab.set k ⟨g,some e'⟩)[j]? = some ⟨g1,some e1⟩:=h1;rw[j0 h]
  rcases VE h1 with ⟨rfl,h7,_⟩|⟨_,h7⟩
  ·injection h7 with h0 h7
   injection h7 with h7
   subst h0 h7;rw[Bb,VS] at h3;rw[h.len] at h2;rw[hl p h2 h3] at h4;exact hI.link j g1 e p a b h.at' h2 h3 h4
  ·exact hI.link j g1 e1 p a b h7 h2 h3 h4
theorem sv {s:CS} {k g:Nat} {e e':Q9} (h:LL s k g e e') {r:Int×Int} {t:Int} (hl:∀ p:Nat,r=((k:Int),(p:Int))→YG e' p=YG e p):LJ (Y6 s k g e') r t↔LJ s r t:=by
 have VC:=(List.getElem?_eq_some_iff.1 h.at').1;have Bb:∀ f,Qc (Y6 s k g e') f=Qc s f:=fun _=>rfl;have VS:Qc s e'=Qc s e:=by unfold Qc;rw[h.lay]
 constructor
 ·rintro⟨j,p,g1,e1,a,b,f,rfl,h1,h2,h3,h4,h5,h6,rfl⟩;have h1:(s.tab.set k ⟨g,some e'⟩)[j]? = some ⟨g1,some e1⟩:=h1;obtain⟨f',Wb,RI⟩:=(ON (P:=fun r=>r≠e1.region) h).1 ⟨f,h5,h6⟩
  rcases VE h1 with ⟨rfl,h7,_⟩|⟨_,h7⟩
  ·injection h7 with h0 h7
   injection h7 with h7
   subst h0 h7;rw[Bb,VS] at h3;rw[h.len] at h2;rw[hl p rfl] at h4;rw[h.region] at RI;exact⟨j,p,g1,e,a,b,f',rfl,h.at',h2,h3,h4,Wb,RI,rfl⟩
  ·exact⟨j,p,g1,e1,a,b,f',rfl,h7,h2,h3,h4,Wb,RI,rfl⟩
 ·rintro⟨j,p,g1,e1,a,b,f,rfl,h1,h2,h3,h4,h5,h6,rfl⟩;obtain⟨f',Wb,RI⟩:=(ON (P:=fun r=>r≠e1.region) h).2 ⟨f,h5,h6⟩;by_cases hj:j=k
  ·subst hj;rw[h.at'] at h1;injection h1 with h1
   injection h1 with h0 h1
   injection h1 with h1
   subst h0 h1;exact⟨j,p,g,e',a,b,f',rfl,getElem?_set_self VC,by rw[h.len];exact h2,by rw[Bb,VS];exact h3,by rw[hl p rfl];exact h4,Wb,by rw[h.region];exact RI,rfl⟩
  ·exact⟨j,p,g1,e1,a,b,f',rfl,by show (s.tab.set k _)[j]? = _;rw[getElem?_set_ne (Ne.symm hj)];exact h1,h2,h3,h4,Wb,RI,rfl⟩
theorem Tr {e:Q9} {p q x:Nat} (h:q≠p):YG { e with ws:=e.ws.set p x } q=YG e q:=by
 unfold YG;show U1 ((e.ws.set p x).getD q 0)=_;rw[getD_eq_getElem?_getD,getElem?_set_ne (Ne.symm h),getD_eq_getElem?_getD]
theorem Ts {e:Q9} {p:Nat} {l:Yo} (hl:XS l) (hp:p < e.ws.length):YG { e with ws:=e.ws.set p (Vm l) } p=l:=by
 unfold YG;show U1 ((e.ws.set p (Vm l)).getD p 0)=_;rw[getD_eq_getElem?_getD,getElem?_set_self hp,Option.getD_some,i9 hl]
theorem sw {s:CS} (hI:Inv s) {k g p x:Nat} {e:Q9} (hk:s.tab[k]? = some ⟨g,some e⟩) (hr:Ve (Qc s e) p=false):Inv (Y6 s k g { e with ws:=e.ws.set p x }):=
 j4 (e':={ e with ws:=e.ws.set p x }) hI ⟨hk,rfl,rfl,by show (e.ws.set p x).length=_;rw[length_set]⟩ fun q hq Cl=>Tr (by rintro rfl;rw[hr] at Cl;cases Cl)
theorem Tt {s:CS} (hI:Inv s) {k g:Nat} {e e':Q9} (hk:s.tab[k]? = some ⟨g,some e⟩) (h1:e'.region=e.region) (h2:e'.lay=e.lay) (h3:e'.ws=e.ws):Inv (Y6 s k g e'):=
 j4 hI ⟨hk,h1,h2,by rw[h3]⟩ fun q _ _=>by unfold YG;rw[h3]
theorem j5 {s:CS} (h:(s.rem.map (·.1)).Nodup) (k:Nat) (e:Q9) (p:Int) (l:Yo):((Zx s k e p l).map (·.1)).Nodup:=by
 unfold Zx
 repeat' split
 ·exact MC (W5 h)
 ·exact W5 h
 ·exact W5 h
 ·exact W5 h
theorem Tu {s:CS} (h:(s.rem.map (·.1)).Nodup) {k:Nat} {e:Q9} {p:Int} {l:Yo} {r:Int×Int} (hr:r≠((k:Int),p)):QV (Zx s k e p l) r=QV s.rem r:=by
 have h1:QV (QO s.rem ((k:Int),p)) r=QV s.rem r:=by rw[Wq h,if_neg (Ne.symm hr)]
 unfold Zx
 repeat' split
 ·rw[KD,if_neg (Ne.symm hr),h1]
 ·exact h1
 ·exact h1
 ·exact h1
theorem j6 {s:CS} (h:(s.rem.map (·.1)).Nodup) {k:Nat} {e:Q9} {p:Int} {l:Yo} {t:Int}:QV (Zx s k e p l) ((k:Int),p)=some t↔∃ (a b:Nat) (f:Q9),l = .obj a b∧Ql s.tab a b=some (a,f)∧f.region≠e.region∧t=a:=by
 have h1:QV (QO s.rem ((k:Int),p)) ((k:Int),p)=none:=by rw[Wq h,if_pos rfl]
 cases l with
 | none=>rw[show Zx s k e p .none=QO s.rem ((k:Int),p) from rfl,h1];exact⟨fun h=>(by cases h),fun ⟨_,_,_,h,_⟩=>(by cases h)⟩
 | grave=>rw[show Zx s k e p .grave=QO s.rem ((k:Int),p) from rfl,h1];exact⟨fun h=>(by cases h),fun ⟨_,_,_,h,_⟩=>(by cases h)⟩
 | obj a b=>
  cases hl:Ql s.tab a b with
  | none=>
   rw[TI hl,h1];refine⟨fun h=>(by cases h),?_⟩;rintro⟨a',b',f,h2,h3,_⟩;injection h2 with h2 Yk
   subst h2 Yk;rw[hl] at h3;cases h3
  | some q=>
   obtain⟨c,f⟩:=q;obtain⟨rfl,_⟩:=Xo hl;rw[LV hl];split
   ·rename_i QA;rw[KD,if_pos rfl];constructor
    ·intro h2;injection h2 with h2
     exact⟨c,b,f,rfl,hl,QA,h2.symm⟩
    ·rintro⟨a',b',f',h2,h3,h4,rfl⟩;injection h2 with h2 Yk
     rw[h2]
   ·rename_i QA;rw[h1];refine⟨fun h=>(by cases h),?_⟩;rintro⟨a',b',f',h2,h3,h4,rfl⟩;injection h2 with h2 Yk
    subst h2 Yk;rw[hl] at h3;injection h3 with h3
    injection h3 with _ h3
    subst h3;exact absurd h4 QA
theorem sz {s:CS} (hI:Inv s) {k g p:Nat} {e:Q9} {l:Yo} (hk:s.tab[k]? = some ⟨g,some e⟩) (hp:p < e.ws.length) (hr:Ve (Qc s e) p=true) (hl:XS l) (ht:∀ a b,l = .obj a b→∃ f,Ql s.tab a b=some (a,f)) :
  Inv { Y6 s k g { e with ws:=e.ws.set p (Vm l) } with rem:=Zx (Y6 s k g { e with ws:=e.ws.set p (Vm l) }) k { e with ws:=e.ws.set p (Vm l) } p l }:=by
 have Qw:({ e with ws:=e.ws.set p (Vm l) }:Q9).ws.length=e.ws.length:=by show (e.ws.set p _).length=_;rw[length_set]
 have hS:LL s k g e { e with ws:=e.ws.set p (Vm l) }:=⟨hk,rfl,rfl,Qw⟩;have VC:=(List.getElem?_eq_some_iff.1 hk).1;have VS:Qc s { e with ws:=e.ws.set p (Vm l) }=Qc s e:=rfl;refine⟨j5 (s:=Y6 s k g _) hI.nd _ _ _ _,fun r t=>?_,?_⟩
 ·show QV (Zx _ k _ p l) r=some t↔LJ (Y6 s k g _) r t;by_cases LH:r=((k:Int),(p:Int))
  ·subst LH;rw[j6 (s:=Y6 s k g _) hI.nd];constructor
   ·rintro⟨a,b,f,rfl,h1,h2,rfl⟩;exact⟨k,p,g,_,a,b,f,rfl,getElem?_set_self VC,by rw[Qw];exact hp,hr,Ts hl hp,h1,h2,rfl⟩
   ·rintro⟨j,q,g1,e1,a,b,f,hq,h1,h2,h3,h4,h5,h6,rfl⟩;injection hq with JJ OM
    obtain rfl:k=j:=by omega
    obtain rfl:p=q:=by omega
    replace h1:(s.tab.set k _)[k]? = some ⟨g1,some e1⟩:=h1;rw[getElem?_set_self VC] at h1;injection h1 with h1
    injection h1 with h0 h1
    injection h1 with h1
    subst h0 h1;rw[Ts hl hp] at h4;exact⟨a,b,f,h4,h5,h6,rfl⟩
  ·rw[Tu (s:=Y6 s k g _) hI.nd LH,sv hS fun q hq=>Tr (by rintro rfl;exact LH hq)];exact hI.rem r t
 ·intro j g1 e1 q a b h1 h2 h3 h4;have h1:(s.tab.set k _)[j]? = some ⟨g1,some e1⟩:=h1;show ∃ f,Ql (Y6 s k g _).tab a b=_;rw[j0 hS]
  rcases VE h1 with ⟨rfl,h7,_⟩|⟨_,h7⟩
  ·injection h7 with h0 h7
   injection h7 with h7
   subst h0 h7;by_cases hq:q=p
   ·subst hq;rw[Ts hl hp] at h4;exact ht a b h4
   ·rw[Tr hq] at h4;exact hI.link j g1 e q a b hk (by rw[← Qw];exact h2) h3 h4
  ·exact hI.link j g1 e1 q a b h7 h2 h3 h4
theorem j7 {s:CS} (hI:Inv s) (i g p:Int) (x:Nat):Inv (RV s i g p x).1:=by
 cases hv:V4 s.tab i g with
 | none=>rw[L1 hv];exact hI
 | some q=>
  obtain⟨k,e⟩:=q;obtain⟨n,rfl,rfl,hk,_⟩:=U2 hv;rw[L3 hv];split
  ·rename_i h0;obtain⟨j,rfl,hj,hr⟩:=UP h0;exact sw hI hk hr
  ·exact hI
theorem t7 {s:CS} (hI:Inv s) (i g:Int):Inv (RY s i g).1:=by
 cases hv:V4 s.tab i g with
 | none=>rw[L6 hv];exact hI
 | some q=>
  obtain⟨k,e⟩:=q;obtain⟨n,rfl,rfl,hk,_⟩:=U2 hv;rw[L7 hv,Int.toNat_natCast];exact Tt hI hk rfl rfl rfl
theorem t8 {s:CS} (hI:Inv s) (i g:Int) (on:Bool):Inv (RZ s i g on).1:=by
 cases hv:V4 s.tab i g with
 | none=>rw[L8 hv];exact hI
 | some q=>
  obtain⟨k,e⟩:=q;obtain⟨n,rfl,rfl,hk,_⟩:=U2 hv;rw[L9 hv];split
  ·exact hI
  ·rw[Int.toNat_natCast];exact Tt hI hk rfl rfl rfl
theorem j8 {s:CS} (hI:Inv s) (i g p:Int) {l:Yo} (hl:XS l) (ht:∀ a b,l = .obj a b→∃ f,Ql s.tab a b=some (a,f)):Inv (Xl s i g p l).1:=by
 cases hv:V4 s.tab i g with
 | none=>rw[LY hv];exact hI
 | some q=>
  obtain⟨k,e⟩:=q;obtain⟨n,rfl,rfl,hk,_⟩:=U2 hv;rw[E1 hv];split
  ·rename_i h0;obtain⟨j,rfl,hj,hr⟩:=UP h0;exact sz hI hk hj hr hl ht
  ·exact hI
theorem j9 {s:CS} (hw:WF s) (hI:Inv s) (i g p u v:Int):Inv (GV s i g p u v).1:=by
 unfold GV;split
 ·exact hI
 ·split
  ·exact hI
  ·rename_i _ hn;cases hv:V4 s.tab u v with
   | none=>rw[hv] at hn;exact absurd rfl hn
   | some q=>
    obtain⟨k,e⟩:=q;obtain⟨n,rfl,rfl,hk,_⟩:=U2 hv;refine j8 hI i g p (TM hw hk) fun a b K2=>?_;injection K2 with h1 h2
    rw[Int.toNat_natCast] at h1 h2;subst h1 h2;exact⟨e,Z1.2 ⟨n,rfl,rfl,hk⟩⟩
theorem tQ {s:CS} (hI:Inv s) (i g p:Int):Inv (UU s i g p):=by
 unfold UU;split
 ·rename_i a b _;cases hl:Ql s.tab a b with
  | none=>rw[LZ hl];exact hI
  | some q=>
   obtain⟨k,e⟩:=q;obtain⟨n,h1,h2,hk⟩:=Z1.1 hl;obtain rfl:b=n:=by omega
   rw[LG hl];exact Tt hI hk rfl rfl rfl
 ·exact hI
theorem tV {s:CS} (hw:WF s) (hI:Inv s) (x:Qa):Inv { s with lays:=s.lays++[x] }:=by
 have VS:∀ (k g:Nat) (e:Q9),s.tab[k]? = some ⟨g,some e⟩→Qc { s with lays:=s.lays++[x] } e=Qc s e:=by
  intro k g e hk;obtain⟨⟨_,l,h1,_⟩,_⟩:=hw.obj k g e hk;show ((s.lays++[x])[e.lay - 1]?).getD _=_;unfold Qc;rw[getElem?_append_left (List.getElem?_eq_some_iff.1 h1).1]
 refine⟨hI.nd,fun r t=>?_,fun j g1 e1 q a b h1 h2 h3 h4=>hI.link j g1 e1 q a b h1 h2 (by rw[VS _ _ _ h1] at h3;exact h3) h4⟩;show QV s.rem r=some t↔_;rw[hI.rem];constructor
 ·rintro⟨j,p,g1,e1,a,b,f,rfl,h1,h2,h3,h4⟩;exact⟨j,p,g1,e1,a,b,f,rfl,h1,h2,by rw[VS _ _ _ h1];exact h3,h4⟩
 ·rintro⟨j,p,g1,e1,a,b,f,rfl,h1,h2,h3,h4⟩;rw[VS _ _ _ h1] at h3;exact⟨j,p,g1,e1,a,b,f,rfl,h1,h2,h3,h4⟩
theorem tY {s:CS} (hw:WF s) (hI:Inv s) (ws:List Nat):Inv (RG s ws).1:=by
 cases hd:Gw ws with
 | none=>rw[LU hd];exact hI
 | some l=>
  rw[HG hd];split
  ·exact hI
  ·exact tV hw hI l
theorem tZ {s:CS} (hI:Inv s) (q:Int) (b b2:Nat):Inv (E2 s q b b2):=⟨hI.nd,hI.rem,hI.link⟩
theorem jQ {s s':CS} (hI:Inv s) {k g0 n:Nat} {e0:Q9} (hk:s.tab[k]? = some ⟨g0,none⟩) (h1:s'.lays=s.lays) (h2:s'.rem=s.rem) (h3:s'.tab=s.tab.set k ⟨g0+1,some e0⟩) (h0:e0.ws=List.replicate n 0):Inv s':=by
 have VC:=(List.getElem?_eq_some_iff.1 hk).1;have VS:∀ e,Qc s' e=Qc s e:=fun e=>by unfold Qc;rw[h1]
 have hz:∀ p,YG e0 p = .none:=fun p=>by
  unfold YG;rw[h0,getD_eq_getElem?_getD,getElem?_replicate];split <;> rfl
 have Zt:∀ {a b:Nat} {f:Q9},Ql s.tab a b=some (a,f)→Ql s'.tab a b=some (a,f):=fun {a b f} hf=>by
  obtain⟨_,Zg⟩:=Xo hf;refine Z1.2 ⟨b,rfl,rfl,?_⟩;rw[h3,getElem?_set_ne (by rintro rfl;rw[hk] at Zg;cases Zg)];exact Zg
 have GC:∀ {j g1:Nat} {e1:Q9},s.tab[j]? = some ⟨g1,some e1⟩→s'.tab[j]? = some ⟨g1,some e1⟩:=fun {j g1 e1} hj=>by
  rw[h3,getElem?_set_ne (by rintro rfl;rw[hk] at hj;cases hj)];exact hj
 refine⟨by rw[h2];exact hI.nd,fun r t=>?_,?_⟩
 ·rw[h2,hI.rem];constructor
  ·rintro⟨j,p,g1,e1,a,b,f,rfl,q1,q2,q3,q4,q5,q6,rfl⟩;exact⟨j,p,g1,e1,a,b,f,rfl,GC q1,q2,by rw[VS];exact q3,q4,Zt q5,q6,rfl⟩
  ·rintro⟨j,p,g1,e1,a,b,f,rfl,q1,q2,q3,q4,q5,q6,rfl⟩;rw[h3] at q1
   rcases VE q1 with ⟨rfl,q7,_⟩|⟨_,q7⟩
   ·injection q7 with _ q7
    injection q7 with q7
    subst q7;rw[hz] at q4;cases q4
   ·rw[VS] at q3;obtain⟨f',Zg⟩:=hI.link j g1 e1 p a b q7 q2 q3 q4;have h5:=Zt Zg;rw[q5] at h5;injection h5 with h5
    injection h5 with _ h5
    subst h5;exact⟨j,p,g1,e1,a,b,f,rfl,q7,q2,q3,q4,Zg,q6,rfl⟩
 ·intro j g1 e1 p a b q1 q2 q3 q4;rw[h3] at q1
  rcases VE q1 with ⟨rfl,q7,_⟩|⟨_,q7⟩
  ·injection q7 with _ q7
   injection q7 with q7
   subst q7;rw[hz] at q4;cases q4
  ·rw[VS] at q3;obtain⟨f',Zg⟩:=hI.link j g1 e1 p a b q7 q2 q3 q4;exact⟨f',Zt Zg⟩
theorem jV {s:CS} (h1:s.rem=[]) (h2:∀ (k g:Nat) (e:Q9),s.tab[k]? ≠ some ⟨g,some e⟩):Inv s:=
 ⟨by rw[h1];exact nodup_nil,fun r t=>⟨fun h=>(by rw[h1] at h;cases h),fun ⟨k,p,g,e,_,_,_,_,h,_⟩=>absurd h (h2 k g e)⟩,fun k g e _ _ _ h=>absurd h (h2 k g e)⟩
theorem jY {n:Nat} (k g:Nat) (e:Q9):(List.replicate n (⟨0,none⟩:QW))[k]? ≠ some ⟨g,some e⟩:=by
 intro h;rw[getElem?_replicate] at h;split at h
 ·injection h with h
  injection h with _ h
  cases h
 ·cases h
structure ZK (par:List (Int×Int)):Prop where
 nd:(par.map (·.1)).Nodup
 up:∀ r q,QV par r=some q→0≤q∧q < r∧(q=0∨(QV par q).isSome=true)
inductive UK (par:List (Int×Int)) (id:Int):Int→Prop
 | self:UK par id id
 | kid {c k:Int}:UK par id k→QV par c=some k→UK par id c
theorem UK.ge {par:List (Int×Int)} (h:ZK par) {id c:Int} (d:UK par id c):id≤c:=by
 induction d with
 | self=>exact Int.le_refl _
 | kid _ hf ih=>have:=(h.up _ _ hf).2.1;omega
theorem UK.live {par:List (Int×Int)} {id c:Int} (Qx:(QV par id).isSome=true) (d:UK par id c):(QV par c).isSome=true:=by
 cases d with
 | self=>exact Qx
 | kid _ hf=>rw[hf];rfl
theorem UK.inv {par:List (Int×Int)} {id c:Int} (d:UK par id c):c=id∨∃ k,QV par c=some k∧UK par id k:=by
 cases d with
 | self=>exact .inl rfl
 | kid hk hf=>exact .inr ⟨_,hf,hk⟩
structure Rx (par:List (Int×Int)) (id:Int) (l:List Int) (i:Nat):Prop where
 nd:l.Nodup
 le:i≤l.length
 desc:∀ c∈l,UK par id c
 mem:∀ c,c∈l↔c=id∨∃ k∈l.take i,QV par c=some k
theorem Rx.start (par:List (Int×Int)) (id:Int):Rx par id [id] 0:=
 ⟨by simp,by simp,fun c hc=>by rw[mem_singleton] at hc;subst hc;exact .self,fun c=>by simp⟩
theorem Rx.step {par:List (Int×Int)} (h:ZK par) {id:Int} {l K:List Int} {i:Nat} (b:Rx par id l i) {x:Int} (hx:l[i]? = some x) (hK:K.Nodup) (hm:∀ c,c∈K↔QV par c=some x):Rx par id (l++K) (i+1):=by
 have UN:=(List.getElem?_eq_some_iff.1 hx).1
 have Qi:(l++K).take (i+1)=l.take i++[x]:=by
  rw[take_append_of_le_length (by omega),take_add_one,hx];rfl
 have Fs:=mem_of_getElem? hx
 have Ke:x∉l.take i:=fun hh=>by
  obtain⟨j,hj⟩:=getElem?_of_mem hh;rw[getElem?_take] at hj;split at hj
  ·rename_i Yg;obtain⟨Bg,Kf⟩:=List.getElem?_eq_some_iff.1 hj;obtain⟨_,LM⟩:=List.getElem?_eq_some_iff.1 hx;exact(pairwise_iff_getElem.1 b.nd) j i Bg UN Yg (Kf.trans LM.symm)
  ·cases hj
 refine⟨?_,by rw[length_append];omega,fun c hc=>?_,fun c=>?_⟩
 ·rw[nodup_append];refine⟨b.nd,hK,fun a ha c hc tG=>?_⟩;subst tG;have hf:=(hm a).1 hc
  rcases (b.mem a).1 ha with rfl|⟨k,hk,VP⟩
  ·have:=(b.desc x Fs).ge h;have:=(h.up _ _ hf).2.1;omega
  ·rw[hf] at VP;injection VP with VP
   subst VP;exact Ke hk
 ·rcases mem_append.1 hc with hc|hc
  ·exact b.desc c hc
  ·exact .kid (b.desc x Fs) ((hm c).1 hc)
 ·rw[Qi,mem_append,b.mem,hm];constructor
  ·rintro((h1|⟨k,hk,h1⟩)|h1)
   ·exact .inl h1
   ·exact .inr ⟨k,mem_append.2 (.inl hk),h1⟩
   ·exact .inr ⟨x,by simp,h1⟩
  ·rintro(h1|⟨k,hk,h1⟩)
   ·exact .inl (.inl h1)
   ·rcases mem_append.1 hk with hk|hk
    ·exact .inl (.inr ⟨k,hk,h1⟩)
    ·rw[mem_singleton] at hk;subst hk;exact .inr h1
theorem Rx.ends {par:List (Int×Int)} {id:Int} {l:List Int} (b:Rx par id l l.length) (c:Int):c∈l↔UK par id c:=by
 refine⟨b.desc c,fun d=>?_⟩
 induction d with
 | self=>exact(b.mem _).2 (.inl rfl)
 | kid _ hf ih=>exact(b.mem _).2 (.inr ⟨_,by rw[take_length];exact ih,hf⟩)
theorem Rx.len {par:List (Int×Int)} {id:Int} (Qx:(QV par id).isSome=true) {l:List Int} {i:Nat} (b:Rx par id l i):l.length≤par.length:=by
 have:=UQ b.nd (l₂:=par.map (·.1)) (fun c hc=>by
  have h1:=(b.desc c hc).live Qx;cases hf:QV par c with
  | none=>rw[hf] at h1;cases h1
  | some q=>exact mem_map.2 ⟨(c,q),KE hf,rfl⟩)
 rwa [length_map] at this
theorem Tv {par:List (Int×Int)} (h:ZK par) {last:Nat} {r:Int} (hr:r=0∨(QV par r).isSome=true) (h0:0≤r) (hl:∀ x q,(x,q)∈par→x≤(last:Int)) (AI:r≤last):ZK (par++[(((last+1:Nat):Int),r)]):=by
 have hn:((last+1:Nat):Int)∉par.map (·.1):=fun h1=>by
  obtain⟨⟨x,q⟩,h2,h3⟩:=mem_map.1 h1;have h3:x=((last+1:Nat):Int):=h3;have:=hl x q h2;omega
 have hf:∀ x,QV (par++[(((last+1:Nat):Int),r)]) x=if x=((last+1:Nat):Int) then some r else QV par x:=fun x=>by
  rw[← Wp hn,KD];by_cases h1:x=((last+1:Nat):Int)
  ·rw[if_pos h1,if_pos h1.symm]
  ·rw[if_neg h1,if_neg (fun h=>h1 h.symm)]
 have XV:∀ x,(QV par x).isSome=true→(QV (par++[(((last+1:Nat):Int),r)]) x).isSome=true:=fun x h1=>by
  rw[hf];split
  ·rfl
  ·exact h1
 refine⟨?_,fun x q hx=>?_⟩
 ·rw[map_append,nodup_append];refine⟨h.nd,by simp,fun a ha b hb K2=>?_⟩;simp at hb;subst K2;subst hb;exact hn (by simpa using ha)
 ·rw[hf] at hx;split at hx
  ·injection hx with hx
   subst hx;rename_i h1;exact⟨h0,by omega,hr.imp id (XV _)⟩
  ·obtain⟨a,b,c⟩:=h.up x q hx;exact⟨a,b,c.imp id (XV _)⟩
theorem tU {par:List (Int×Int)} (h:ZK par) {last:Nat} {r:Int} (he:Gf par r=0) (hl:∀ x q,(x,q)∈par→1≤x∧x≤(last:Int)):ZK (par++[(((last+1:Nat):Int),r)]):=by
 have hr:r=0∨(QV par r).isSome=true:=by
  unfold Gf at he;split at he
  ·cases he
  ·rename_i h1;by_cases h2:r=0
   ·exact .inl h2
   ·cases hf:(QV par r).isSome with
    | true=>exact .inr rfl
    | false=>exact absurd ⟨h2,hf⟩ h1
 have h0:0≤r∧r≤(last:Int):=by
  rcases hr with h1|h1
  ·omega
  ·obtain⟨⟨x,q⟩,h2,h3⟩:=mem_map.1 (Du h1);have h3:x=r:=h3;have:=hl x q h2;omega
 exact Tv h hr h0.1 (fun x q hx=>(hl x q hx).2) h0.2
end Go.Proofs.YtmjdnljneifpcaaGreatDoor
namespace Go.SL
open List
section
variable {P:Program} {n:Nat} {r:Option Nat} {ops:Array Oper} {σ:QB} {w:World}
variable {ivs:List (List Nat×(World→Prop))} {T:QB→World→Prop} {f:Nat} {L:Array Bool}
variable {u:TypeId} {p:String} {af:Array Edge} {g:Option (Nat×Bool)} {d:Option Tmp} {x y:Operand}
end
end Go.SL
namespace Go.Proofs.YtmjdnljneifpcaaGreatDoor
open List
open Go.SL
def YH (ts:List QW):List (Nat×Bool):=ts.map fun t=>(t.gen,t.ent.isSome)
theorem LN {ts:List QW} {k g:Nat} {e e':Q9} (h:ts[k]? = some ⟨g,some e⟩):YH (ts.set k ⟨g,some e'⟩)=YH ts:=by
 unfold YH;rw[map_set];apply ext_getElem?;intro i;rw[getElem?_set];split
 ·rename_i hi;subst hi;have:=(List.getElem?_eq_some_iff.1 h).1;rw[getElem?_map,h];simp[this]
 ·rfl
structure LO (s:CS) (m:MS) (told:List (Nat×Nat)) (s':CS) (m':MS) (told':List (Nat×Nat)):Prop where
 P:m'.P.length≤m.P.length+1
 objs:m'.objs.length≤m.objs.length+1
 tab:(told'=told∧YH s'.tab=YH s.tab)∨∃ k g0:Nat,told'=told++[(k,g0+1)]∧s.tab[k]? = some ⟨g0,none⟩∧(∀ (j:Nat) (t:QW),j < k→s.tab[j]? = some t→busy t=true)∧YH s'.tab=(YH s.tab).set k (g0+1,true)
 inv:Inv s→Inv s'
 tree:ZK s.par→ZK s'.par:=by exact id
 part:Yc s→Yc s':=by exact id
def Tw (s:CS) (region id count:Int) (i g e:Nat) (s':CS):Prop:=
 (UX s region id count≠0∧i=0∧g=0∧e=UX s region id count∧s'=s) ∨
 (UX s region id count=0∧(∀ t∈s.tab,busy t=true)∧i=0∧g=0∧e=12∧s'=s) ∨
 (UX s region id count=0∧(∀ a,a+(ZJ s id count / s.size+1)≤s.own.length→∃ i,a≤i∧i < a+(ZJ s id count / s.size+1)∧s.own.getD i 0≠0)∧i=0∧g=0∧e=11∧s'=s) ∨
 (UX s region id count = 0 ∧ e = 0 ∧ ∃ g0 addr, s.tab[i]? = some ⟨g0, none⟩ ∧ g0 ≤ 254 ∧ (∀ (j : Nat) (t : QW), j < i → s.tab[j]? = some t → busy t = true) ∧ g = g0 + 1 ∧
  s'.size=s.size∧s'.lays=s.lays∧s'.last=s.last∧s'.par=s.par∧s'.rem=s.rem∧s'.tab=s.tab.set i ⟨g0+1,some ⟨addr,region,true,false,id.toNat,count.toNat,List.replicate (ZJ s id count) 0⟩⟩∧OI s.own s'.own (ZJ s id count / s.size+1)∧(Yc s→Yc s'))
theorem tX (x y:Int×Int):(if ZA BinOp.eql=true then decide (x=y) else !decide (x=y))=decide (x=y):=if_pos rfl
theorem OO [Q4] (p:Nat) (s:CS) (region id count:Int) {w:World} {fr:List Q2} [hT:Z5 0 Lib.deBruijn64tab fr] (H:Q0 w (QD p s::fr)) :
  Calls Tryz.prog 31 #[pp p,.int .i64 region,.int .i64 id,.int .i64 count] w (ret fun v w'=>∃ i g e s',v = .tuple #[Xz i g,.int .i64 (e:Nat)]∧Tw s region id count i g e s'∧Q0 w' (QD p s'::fr)):=by
 refine call (sZ p s region id count H) ?_;rintro v w (⟨h1,rfl,H⟩|⟨h1,h2,rfl,H⟩|⟨h1,h2,rfl,H⟩|⟨h1,k,g0,addr,s',h2,h3,h4,rfl,h5,h6,h7,h8,h9,Ya,VD,YE,H⟩)
 ·exact⟨0,0,UX s region id count,s,rfl,.inl ⟨h1,rfl,rfl,rfl,rfl⟩,H⟩
 ·exact⟨0,0,12,s,rfl,.inr (.inl ⟨h1,h2,rfl,rfl,rfl,rfl⟩),H⟩
 ·exact⟨0,0,11,s,rfl,.inr (.inr (.inl ⟨h1,h2,rfl,rfl,rfl,rfl⟩)),H⟩
 ·exact⟨k,g0+1,0,s',rfl,.inr (.inr (.inr ⟨h1,rfl,g0,addr,h2,h3,h4,rfl,h5,h6,h7,h8,h9,Ya,VD,YE⟩)),H⟩
theorem tK [Q4] (p c mo:Nat) (a:Option Addr) (cap:Nat) (s:CS) (m:MS) (told:List (Nat×Nat)) (R:Rel s m told) (Cm:m.objs.length < 100000) (k A B C X i g:Int) (kX:IntKind) (vW:Value) (raw:Bool) (Ry:vW.oneCell'=true) {w:World} {fr:List Q2} [hT:Z5 0 Lib.deBruijn64tab fr]
  (H:Q0 w (Y8 p c mo (.slice a told.length cap)::QD c s::Qy mo m::V8 (.slice a told.length cap) told::fr)) :
  Calls Tryz.prog 163 #[pp p,.agg #[.int .i64 k,.int .i64 A,.int .i64 B,.int .i64 C,.int .u64 X,vW,.bool raw,.int .i64 i,.int .i64 g]] w (ret fun v w'=>v = .bool true∧∃ s' m' told' a' cap',Rel s' m' told'∧LO s m told s' m' told'∧Q0 w' (Y8 p c mo (.slice a' told'.length cap')::QD c s'::Qy mo m'::V8 (.slice a' told'.length cap') told'::fr)):=by
 refine QQ Tryz.func163 rfl (by kernel_rfl) ?_;refine J8 H ?_;clear H;intro b3 w H;refine Yn H ?_;refine Qt (fun ms σ w=>ms=[]∧∃ (b5 i' g' e:Nat) (s':CS),Tw s A B C i' g' e s'∧σ 0=pp p∧σ 3=pp b3∧σ 5=pp b5∧σ 6 = .int .i64 e∧Q0 w (pts b5 (row 69 [.int .i64 i',.int .i64 g'])::pts b3 (row 93 [.int .i64 k,.int .i64 A,.int .i64 B,.int .i64 C,.int .u64 X,vW,.bool raw,.int .i64 i,.int .i64 g])::Y8 p c mo (.slice a told.length cap)::QD c s'::Qy mo m::V8 (.slice a told.length cap) told::fr)) ?_ ?_
 ·replace H:=Js [2,0,0,0,0] 0 H;refine J1 H ?_;clear H;intro w H;refine YI H ?_;refine Jl 3 [10,15] H ?_;refine Jf 4 ?_;refine Jl 5 [10,15] H ?_;refine Jf 6 ?_;refine Jl 7 [10,15] H ?_;refine Jf 8 ?_;refine Jl 9 [10,15] H ?_;refine Jw 10 14 H rfl rfl (V3 (a:=[]) (b:=[]) rfl rfl (call (OO c s A B C H) ?_)) (YW H rfl ?_)
  ·clear H;rintro v w ⟨i',g',e,s',rfl,hM,H⟩;refine Ff H ?_;refine Jo 14 H ?_;refine YW H rfl ?_;clear H;intro b5 w H;refine Jo 15 H ?_;refine KM H ?_;clear H;intro w H;refine Ja 16 ?_;refine Jx H ?_;replace H:=Js [0,1,1,0,0,0] 0 H;exact⟨rfl,rfl,b5,i',g',e,s',hM,rfl,rfl,rfl,rfl,H⟩
  ·clear H;intro b5 w H;refine Jo 10 H ?_;refine Jk rfl rfl (OO c s A B C H.swap) ?_;clear H;rintro v w ⟨i',g',e,s',rfl,hM,H⟩;refine Ff H ?_;refine Jo 15 H ?_;refine KM H ?_;clear H;intro w H;refine Ja 16 ?_;refine Jx H ?_;replace H:=Js [1,1,1,0,0,0] 0 H;exact⟨rfl,rfl,b5,i',g',e,s',hM,rfl,rfl,rfl,rfl,H⟩
 clear H;rintro ms σ w ⟨rfl,b5,i',g',e,s',hM,g0,g3,g5,g6,H⟩;rw[Q1 g0,Q1 g3,Q1 g5,Q1 g6];obtain⟨ZQ,Zu⟩:=Ti R A B C;replace H:=Js [4,0,0,0,0,0] 0 H;refine J1 H ?_;clear H;intro w H;refine YI H ?_;refine Jl 3 [10] H ?_;refine Jf 4 ?_;refine Jl 5 [10] H ?_;refine Jf 6 ?_;refine Jl 7 [10] H ?_;refine Jf 8 ?_;refine Jl 9 [10] H ?_;refine Jo 10 H ?_;refine Jk rfl rfl (gw mo m A B C H) ?_;clear H;rintro v w ⟨rfl,H⟩;refine Ja 11 ?_;refine IW H ?_;refine Uh H ?_
 rcases hM with ⟨h1,rfl,rfl,rfl,rfl⟩|⟨h1,h2,rfl,rfl,rfl,rfl⟩|⟨h1,h2,rfl,rfl,rfl,rfl⟩|⟨h1,rfl,g0',addr,h2,h3,h4,rfl,h5,h6,h7,h8,h9,Ya,VD,YE⟩
 ·have VB:(YO m A B C).2≠0:=by rw[← ZQ];exact h1
  refine Vj H ?_;rw[show ((((YO m A B C).2:Nat):Int) != 0)=true by rw[bne_iff_ne];omega];refine NM H ?_;rw[show ((((UX s' A B C:Nat):Int)) == (((YO m A B C).2:Nat):Int))=true by rw[ZQ];exact beq_self_eq_true _];refine Jv ?_;refine Iv H ?_;refine Qe rfl rfl rfl (Pe rfl rfl (.inl rfl) rfl ?_);refine J4 H ?_;replace H:=Js [3,3,0,2] 2 H;exact Q3 (Jy H rfl fun w' H'=>⟨rfl,s',m,told,a,cap,R,⟨by omega,by omega,.inl ⟨rfl,rfl⟩,id,id,id⟩,H'⟩)
 ·have VB:(YO m A B C).2=0:=by rw[← ZQ];exact h1
  rw[VB];refine FX H ?_;refine Rm H ?_;replace H:=Js [4,0,0,0,0,0] 0 H;obtain⟨q,mem,hw,hm,H⟩:=YQ H;replace H:=Js [4,0,0,0,0,0,0,0,0,0,0,0,0,0,0,0] 0 H;refine Fg H ?_;refine Jc rfl rfl (gz q.tp s'.tab H) ?_;clear H;rintro v w ⟨rfl,H⟩
  have iH:s'.tab.length - Ur s'.tab=0:=by
   unfold Ur;rw[filter_eq_self.2 h2,Nat.sub_self]
  rw[iH];refine ZT H ?_;refine Iv H ?_;refine Qe rfl rfl rfl (Pe rfl rfl (.inl rfl) rfl ?_);refine J4 H ?_;replace H:=Js [1,1,1,1,0,0,0,0,0,0,0,0,0,0,0,0] 0 H;replace H:=VM hw hm H;replace H:=Js [4,0,0,2] 2 H;exact Q3 (Jy H rfl fun w' H'=>⟨rfl,s',m,told,a,cap,R,⟨by omega,by omega,.inl ⟨rfl,rfl⟩,id,id,id⟩,H'⟩)
 ·have VB:(YO m A B C).2=0:=by rw[← ZQ];exact h1
  have hn:=Zu VB;rw[VB,← hn];refine FX H ?_;refine Iy H ?_;refine Rm H ?_;replace H:=Js [4,0,0,0,0,0] 0 H;obtain⟨q,mem,hw,hm,H⟩:=YQ H;replace H:=Js [3,0,0,0,0,0,0,0,0,0,0,0,0,0,0,0] 0 H;refine Fg H ?_;refine Jc rfl rfl (JU q.sp s'.size mem s'.own H) ?_;clear H;rintro v w ⟨rfl,H⟩;replace H:=Js [1,1,1,0,0,0,0,0,0,0,0,0,0,0,0,0] 0 H;replace H:=VM hw hm H;refine J0 H ?_;replace H:=Js [4,0,0,0,0,0] 0 H;have Va:=hw.size;have BH:s'.size > 0:=by omega
  have Kg:(if (1:Int) > ((s'.size:Nat):Int) then (1:Int) else ((s'.size:Nat):Int))=((s'.size:Nat):Int):=by split <;> omega
  have Q1s:ZJ s' B C < 100000:=by
   obtain⟨r,la,c',l,_,_,_,_,_,e1,e2,e3⟩:=OK VB;rw[hn,e1,e2];show l.fixed+c'*l.record < _;omega
  refine J1 H ?_;clear H;intro w H;refine Vz 0 [9,12] H rfl (Q8.none rfl) rfl (by repeat first|exact .nil _|apply QY.cons rfl) (by kernel_rfl) ?_;refine Uf 1 rfl (Q8.none rfl) rfl (by kernel_rfl) ?_;refine ny 2 rfl (Q8.none rfl) rfl rfl (.inl rfl) (by kernel_rfl) ?_;rw[tX,decide_eq_true (show (((0:Nat):Int),((0:Nat):Int))=((0:Int),(0:Int)) from rfl)];refine Ja 3 ?_;refine Ku H ?_;rw[show decide ((s'.size:Int) > 0)=true from decide_eq_true (by omega)];refine DP H ?_;refine Ja 10 ?_;refine Ja 11 ?_;refine Jw 9 12 H rfl rfl (V3 (a:=[]) (b:=[]) rfl rfl (call (ij p c mo _ s' H) ?_)) (MP rfl rfl rfl ?_)
  ·clear H;rintro v w ⟨bb,rfl,AD,H⟩
   have Q6:bb < ZJ s' B C / s'.size+1:=by
    refine Nat.lt_of_not_le fun VS=>?_;obtain⟨a0,ha,hz⟩:=AD;obtain⟨i0,Rg,AB,Tx⟩:=h2 a0 (by omega);exact Tx (hz i0 Rg (by omega))
   have Eu:ZJ s' B C / s'.size≤ZJ s' B C:=Nat.div_le_self _ _;refine Jo 12 H ?_;refine MP rfl rfl rfl ?_;rw[Kg]
   refine XF (v := .int .i64 ((ZJ s' B C / s'.size:Nat):Int)) 13 rfl (Q8.of rfl rfl rfl) (by
    show (if IntKind.i64=IntKind.i64 then (if ((s'.size:Nat):Int)=0 then none else some (Value.int IntKind.i64 (IntKind.i64.wrap (Int.tdiv ((ZJ s' B C:Nat):Int) ((s'.size:Nat):Int))))) else none)=_;rw[if_pos rfl,if_neg (by omega),CM (by omega)]) (by kernel_rfl) ?_
   refine Ja 14 ?_;rw[Qg (by omega)];refine Ja 15 ?_;rw[show decide ((bb:Int) < ((ZJ s' B C / s'.size+1:Nat):Int))=true from decide_eq_true (by omega)];refine Ja 16 ?_;refine Ja 17 ?_;refine Jx H ?_;replace H:=Js [0,0,0,2] 2 H;exact Q3 (Jy H rfl fun w' H'=>⟨rfl,s',m,told,a,cap,R,⟨by omega,by omega,.inl ⟨rfl,rfl⟩,id,id,id⟩,H'⟩)
  ·rw[Kg];have Eu:ZJ s' B C / s'.size≤ZJ s' B C:=Nat.div_le_self _ _
   refine XF (v := .int .i64 ((ZJ s' B C / s'.size:Nat):Int)) 13 rfl (Q8.of rfl rfl rfl) (by
    show (if IntKind.i64=IntKind.i64 then (if ((s'.size:Nat):Int)=0 then none else some (Value.int IntKind.i64 (IntKind.i64.wrap (Int.tdiv ((ZJ s' B C:Nat):Int) ((s'.size:Nat):Int))))) else none)=_;rw[if_pos rfl,if_neg (by omega),CM (by omega)]) (by kernel_rfl) ?_
   refine Ja 14 ?_;rw[Qg (by omega)];refine Jo 9 H ?_;refine Jk rfl rfl (ij p c mo _ s' H) ?_;clear H;rintro v w ⟨bb,rfl,AD,H⟩
   have Q6:bb < ZJ s' B C / s'.size+1:=by
    refine Nat.lt_of_not_le fun VS=>?_;obtain⟨a0,ha,hz⟩:=AD;obtain⟨i0,Rg,AB,Tx⟩:=h2 a0 (by omega);exact Tx (hz i0 Rg (by omega))
   refine Ja 15 ?_;rw[show decide ((bb:Int) < ((ZJ s' B C / s'.size+1:Nat):Int))=true from decide_eq_true (by omega)];refine Ja 16 ?_;refine Ja 17 ?_;refine Jx H ?_;replace H:=Js [0,0,0,2] 2 H;exact Q3 (Jy H rfl fun w' H'=>⟨rfl,s',m,told,a,cap,R,⟨by omega,by omega,.inl ⟨rfl,rfl⟩,id,id,id⟩,H'⟩)
 ·have VB:(YO m A B C).2=0:=by rw[← ZQ];exact h1
  rw[VB];obtain⟨_,_,_,_,_,_,_,U4,_⟩:=id (GI H);obtain⟨LC,R'⟩:=ig R U4 VB h2 h6 h7 h8 Ya;have X5:told.length < 100000:=by rw[R.len];exact Cm
  refine FX H ?_;refine Iy H ?_;refine Iy H ?_;refine YT H ?_;replace H:=Js [3,0,0,0,0,0] 0 H;refine NK H ?_;replace H:=Js [5,2,2,0,1,0] 0 H;refine Uh H ?_;refine Qp (fun ms σ w q=>ms=[]∧∃ j:Nat,j≤told.length∧q=told.length - j∧σ 0=pp p∧σ 3=pp b3∧σ 5=pp b5∧σ 102 = .slice a told.length cap∧σ 103 = .int .i64 told.length∧σ 104 = .int .i64 j∧Q0 w (V8 (.slice a told.length cap) told::pts b5 (row 69 [.int .i64 (i':Nat),.int .i64 ((g0'+1:Nat):Int)])::pts b3 (row 93 [.int .i64 k,.int .i64 A,.int .i64 B,.int .i64 C,.int .u64 X,vW,.bool raw,.int .i64 i,.int .i64 g])::Y8 p c mo (.slice a told.length cap)::QD c s'::Qy mo m::fr)) (m:=told.length) ⟨rfl,0,by omega,rfl,rfl,rfl,rfl,rfl,rfl,rfl,H⟩ ?_;clear H;rintro ms σ w q ⟨rfl,j,hj,rfl,g0,g3,g5,g102,g103,g104,H⟩;rw[Q1 g0,Q1 g3,Q1 g5,Q1 g102,Q1 g103,Q1 g104];refine J7 H ?_;refine Qk rfl (fun h=>QE ?_) (fun h=>Qu ?_)
  ·have Q6:j < told.length:=by omega
   have hn:=getElem?_eq_getElem Q6;generalize told[j]=xy at hn;obtain⟨x,y⟩:=xy;obtain⟨bT,sT,rfl,H,QJ⟩:=VY H (by omega);refine Z8 H ?_;refine Jd ?_;refine Q5 rfl (Vy H rfl (Wa hn) rfl ?_);refine VO H ?_;clear H;intro b11 w H;refine J5 H ?_;clear H;intro w H;refine NH H ?_;refine J2 H ?_;replace H:=QJ _ _ H.drop;refine Qk (p:=((x:Int),(y:Int))=(((i':Nat):Int),((g0'+1:Nat):Int))) rfl (fun he=>?_) (fun he=>QE ?_)
   ·exfalso;injection he with e1 e2
    obtain rfl:x=i':=by omega
    obtain rfl:y=g0'+1:=by omega
    exact LC j hn
   ·refine J3 H ?_;exact⟨_,⟨rfl,j+1,Q6,rfl,rfl,rfl,rfl,rfl,rfl,Qg (by omega),H⟩,by omega⟩
  ·replace H:=Js [5,0,0,0,0,0] 0 H;refine J1 H ?_;clear H;intro w H;refine YI H ?_;refine Jl 3 [10] H ?_;refine Jf 4 ?_;refine Jl 5 [10] H ?_;refine Jf 6 ?_;refine Jl 7 [10] H ?_;refine Jf 8 ?_;refine Jl 9 [10] H ?_;refine Jo 10 H ?_;refine Jk rfl rfl (rU mo m A B C VB Cm H) ?_;clear H;rintro v w ⟨rfl,H⟩;refine Jx H ?_;replace H:=Js [1,1,2,0,0,0] 0 H;refine J1 H ?_;clear H;intro w H;refine CX H ?_;refine Jl 4 [7,10] H ?_;refine S9 H ?_;refine Jo 6 H ?_;refine DC H ?_;clear H;intro bS w H;replace H:=H.swap;refine Jo 7 H ?_;refine ZY H rfl rfl (by repeat first|exact .nil _|apply QY.cons rfl) rfl (by decide) (by rw[Bf];simp only[length_cons,length_nil];omega) rfl rfl ?_;clear H;intro vS w H
   have e1:U3 told++[.int .i64 ((i':Nat):Int),.int .i64 ((g0'+1:Nat):Int)]=U3 (told++[(i',g0'+1)]):=by
    rw[Tk];rfl
   rw[e1] at H;obtain⟨aS,cS,rfl⟩:=QI H (m:=(told++[(i',g0'+1)]).length) (Bf _) (by decide);refine Ja 8 ?_;refine Jf 9 ?_;refine Jo 10 H ?_;refine XM H ?_;clear H;intro w H;refine II H ?_;replace H:=Js [3,5,3,0] 3 H;refine Q3 (Jy H rfl fun w' H'=>⟨rfl,s',_,_,aS,cS,R',⟨?_,?_,.inr ⟨i',g0',rfl,h2,h4,?_⟩,fun hI=>jQ hI h2 h6 h9 Ya rfl,fun hT=>by rw[h8];exact hT,YE⟩,H'⟩)
   ·show m.P.length≤_;omega
   ·show (m.objs++[_]).length≤_;simp
   ·rw[Ya];unfold YH;rw[map_set];rfl
theorem jZ (s:CS) (i g p:Int) (x:Nat):YH (RV s i g p x).1.tab=YH s.tab:=by
 cases hv:V4 s.tab i g with
 | none=>rw[L1 hv]
 | some q=>
  obtain⟨k,e⟩:=q;obtain⟨n,rfl,rfl,hk,_⟩:=U2 hv;rw[L3 hv];split
  ·rw[Int.toNat_natCast];exact LN hk
  ·rfl
theorem tR (s:CS) (i g:Int):YH (RY s i g).1.tab=YH s.tab:=by
 cases hv:V4 s.tab i g with
 | none=>rw[L6 hv]
 | some q=>
  obtain⟨k,e⟩:=q;obtain⟨n,rfl,rfl,hk,_⟩:=U2 hv;rw[L7 hv,Int.toNat_natCast];exact LN hk
theorem tW (s:CS) (i g:Int) (on:Bool):YH (RZ s i g on).1.tab=YH s.tab:=by
 cases hv:V4 s.tab i g with
 | none=>rw[L8 hv]
 | some q=>
  obtain⟨k,e⟩:=q;obtain⟨n,rfl,rfl,hk,_⟩:=U2 hv;rw[L9 hv];split
  ·rfl
  ·rw[Int.toNat_natCast];exact LN hk
theorem jG (s:CS) (i g p:Int) (l:Yo):YH (Xl s i g p l).1.tab=YH s.tab:=by
 cases hv:V4 s.tab i g with
 | none=>rw[LY hv]
 | some q=>
  obtain⟨k,e⟩:=q;obtain⟨n,rfl,rfl,hk,_⟩:=U2 hv;rw[E1 hv];split
  ·rw[Int.toNat_natCast];exact LN hk
  ·rfl
theorem jU (s:CS) (i g p u v:Int):YH (GV s i g p u v).1.tab=YH s.tab:=by
 unfold GV;split
 ·rfl
 ·split
  ·rfl
  ·exact jG s i g p _
theorem tA (s:CS) (i g p:Int):YH (UU s i g p).tab=YH s.tab:=by
 unfold UU;split
 ·rename_i a b _;cases hl:Ql s.tab a b with
  | none=>rw[LZ hl]
  | some q=>
   obtain⟨k,e⟩:=q;obtain⟨n,h1,h2,hk⟩:=Z1.1 hl;obtain rfl:b=n:=by omega
   rw[LG hl];exact LN hk
 ·rfl
theorem tB (s:CS) (ws:List Nat):YH (RG s ws).1.tab=YH s.tab:=by
 cases hd:Gw ws with
 | none=>rw[LU hd]
 | some l=>
  rw[HG hd];split <;> rfl
theorem HW (m:MS) (k:Nat) (x:QS):(G9 m k x).objs.length=m.objs.length:=length_set
theorem jX (m:MS) (o p:Int):(R8 m o p).1.objs.length=m.objs.length∧(R8 m o p).1.P=m.P:=by
 unfold R8;split
 ·exact⟨rfl,rfl⟩
 ·split
  ·exact⟨HW _ _ _,rfl⟩
  ·exact⟨rfl,rfl⟩
theorem jK (m:MS) (o p u:Int):(Zw m o p u).1.objs.length=m.objs.length∧(Zw m o p u).1.P=m.P:=by
 unfold Zw;split
 ·exact⟨rfl,rfl⟩
 ·split
  ·split
   ·exact⟨rfl,rfl⟩
   ·exact⟨HW _ _ _,rfl⟩
  ·exact⟨rfl,rfl⟩
theorem jR (m:MS) (o:Int):(Xh m o).1.objs.length=m.objs.length∧(Xh m o).1.P=m.P:=by
 unfold Xh;split
 ·exact⟨rfl,rfl⟩
 ·exact⟨HW _ _ _,rfl⟩
theorem jW (m:MS) (o:Int) (on:Bool):(Xi m o on).1.objs.length=m.objs.length∧(Xi m o on).1.P=m.P:=by
 unfold Xi;split
 ·exact⟨rfl,rfl⟩
 ·split
  ·exact⟨rfl,rfl⟩
  ·exact⟨HW _ _ _,rfl⟩
theorem tC (m:MS) (t:Nat):(AC m t).objs.length=m.objs.length∧(AC m t).P=m.P:=by
 unfold AC;split
 ·exact⟨HW _ _ _,rfl⟩
 ·exact⟨rfl,rfl⟩
theorem jA (m:MS) (o p:Int):(ZF m o p).1.objs.length=m.objs.length∧(ZF m o p).1.P=m.P:=by
 unfold ZF;split
 ·exact⟨rfl,rfl⟩
 ·split
  ·show (if _ then _ else _:MS).objs.length=_∧(if _ then _ else _:MS).P=_;split
   ·exact tC m _
   ·exact⟨rfl,rfl⟩
  ·exact⟨rfl,rfl⟩
theorem tD (m:MS) (o p:Int) (X:Nat):(Be m o p X).objs.length=m.objs.length∧(Be m o p X).P=m.P:=by
 unfold Be;split
 ·exact⟨rfl,rfl⟩
 ·split
  ·exact⟨HW _ _ _,rfl⟩
  ·exact⟨rfl,rfl⟩
theorem jH (m:MS) (ws:List Nat):(UY m ws).1.objs=m.objs∧(UY m ws).1.P=m.P:=by
 unfold UY;split
 ·exact⟨rfl,rfl⟩
 ·split <;> exact⟨rfl,rfl⟩
theorem jI (s:CS) (i g p:Int) (x:Nat):Yv s (RV s i g p x).1:=by
 cases hv:V4 s.tab i g with
 | none=>rw[L1 hv];exact Yv.refl s
 | some q=>
  obtain⟨k,e⟩:=q;obtain⟨n,rfl,rfl,hk,_⟩:=U2 hv;rw[L3 hv];split
  ·rw[Int.toNat_natCast];exact Yv.set (e':={ e with ws:=e.ws.set p.toNat x }) hk ⟨rfl,rfl,length_set⟩ s.rem
  ·exact Yv.refl s
theorem tE (s:CS) (i g:Int):Yv s (RY s i g).1:=by
 cases hv:V4 s.tab i g with
 | none=>rw[L6 hv];exact Yv.refl s
 | some q=>
  obtain⟨k,e⟩:=q;obtain⟨n,rfl,rfl,hk,_⟩:=U2 hv;rw[L7 hv,Int.toNat_natCast];exact Yv.set (e':={ e with held:=false }) hk ⟨rfl,rfl,rfl⟩ s.rem
theorem tF (s:CS) (i g:Int) (on:Bool):Yv s (RZ s i g on).1:=by
 cases hv:V4 s.tab i g with
 | none=>rw[L8 hv];exact Yv.refl s
 | some q=>
  obtain⟨k,e⟩:=q;obtain⟨n,rfl,rfl,hk,_⟩:=U2 hv;rw[L9 hv];split
  ·exact Yv.refl s
  ·rw[Int.toNat_natCast];exact Yv.set (e':={ e with pinned:=on }) hk ⟨rfl,rfl,rfl⟩ s.rem
theorem jJ (s:CS) (i g p:Int) (l:Yo):Yv s (Xl s i g p l).1:=by
 cases hv:V4 s.tab i g with
 | none=>rw[LY hv];exact Yv.refl s
 | some q=>
  obtain⟨k,e⟩:=q;obtain⟨n,rfl,rfl,hk,_⟩:=U2 hv;rw[E1 hv];split
  ·rw[Int.toNat_natCast];exact Yv.set (e':={ e with ws:=e.ws.set p.toNat (Vm l) }) hk ⟨rfl,rfl,length_set⟩ _
  ·exact Yv.refl s
theorem tH (s:CS) (i g p u v:Int):Yv s (GV s i g p u v).1:=by
 unfold GV;split
 ·exact Yv.refl s
 ·split
  ·exact Yv.refl s
  ·exact jJ s i g p _
theorem tI (s:CS) (i g p:Int):Yv s (UU s i g p):=by
 unfold UU;split
 ·rename_i a b _;cases hl:Ql s.tab a b with
  | none=>rw[LZ hl];exact Yv.refl s
  | some q=>
   obtain⟨k,e⟩:=q;obtain⟨n,h1,h2,hk⟩:=Z1.1 hl;obtain rfl:b=n:=by omega
   rw[LG hl];exact Yv.set (e':={ e with held:=true }) hk ⟨rfl,rfl,rfl⟩ s.rem
 ·exact Yv.refl s
theorem jL (s:CS) (ws:List Nat):Yv s (RG s ws).1:=by
 cases hd:Gw ws with
 | none=>rw[LU hd];exact Yv.refl s
 | some l=>
  rw[HG hd];split
  ·exact Yv.refl s
  ·exact⟨rfl,rfl,rfl,fun k g e h=>⟨e,h,rfl,rfl,rfl⟩⟩
theorem tJ (s:CS) (q:Int) (b b2:Nat) (hP:Yc s):Yc (E2 s q b b2):=fun k g e hk=>by
 obtain⟨x,x1,x2,x3⟩:=hP k g e hk;exact⟨x,mem_append.2 (.inl x1),x2,x3⟩
theorem Kh {s s':CS} {m m':MS} {told:List (Nat×Nat)} (h1:m'.objs.length=m.objs.length) (h2:m'.P=m.P) (h3:YH s'.tab=YH s.tab) (h4:Inv s→Inv s':=by exact id) (h5:Yv s s':=by exact Yv.refl _):LO s m told s' m' told:=⟨by rw[h2];omega,by omega,.inl ⟨rfl,h3⟩,h4,fun h=>by rw[h5.par];exact h,h5.part⟩
theorem XK (x:Int):(x == x)=true:=beq_self_eq_true x
theorem tL [Q4] (p:Nat) (s:CS) (m:MS) (told:List (Nat×Nat)) (R:Rel s m told) (Cm:m.objs.length < 100000) (hP:m.P.length < 100000) (k A B C i g:Int) (X:Nat) (hX:X < 18446744073709551616) (vW:Value) (ws:List Nat) (Yr:∀ x∈ws,x < 18446744073709551616) (raw:Bool)
  {w:World} {fr:List Q2} [hT:Z5 0 Lib.deBruijn64tab fr] (XR:YM fr vW ws.length 1 (Qj ws)) (H:Q0 w (Ua p s m told::fr)) :
  Calls Tryz.prog 100 #[pp p,.agg #[.int .i64 k,.int .i64 A,.int .i64 B,.int .i64 C,.int .u64 X,vW,.bool raw,.int .i64 i,.int .i64 g]] w (ret fun v w'=>v = .bool true∧∃ s' m' told',Rel s' m' told'∧LO s m told s' m' told'∧Q0 w' (Ua p s' m' told'::fr)):=by
 obtain⟨_,adW,capW,rfl,_⟩:=id XR;obtain⟨c,mo,a,cap,H⟩:=E8 H;have Qw:told.length≤1000000:=by rw[R.len];omega
 obtain⟨_,_,hw,_,_⟩:=YQ H.swap;obtain⟨_,_,_,_,_,_,_,U4,_⟩:=GI (H.sel [2,0,0,0] 0);refine QQ Tryz.func100 rfl (by kernel_rfl) ?_;refine J8 H ?_;intro b3 w H;refine Yn H ?_;refine Qt (fun ms σ w=>ms=[]∧∃ (b5:Nat) (i' g' o:Int),KU told i' g' o∧σ 0=pp p∧σ 3=pp b3∧σ 5=pp b5∧σ 6 = .int .i64 o∧Q0 w (pts b5 (row 69 [.int .i64 i',.int .i64 g'])::pts b3 (row 93 [.int .i64 k,.int .i64 A,.int .i64 B,.int .i64 C,.int .u64 X,.slice adW ws.length capW,.bool raw,.int .i64 i,.int .i64 g])::Y8 p c mo (.slice a told.length cap)::QD c s::Qy mo m::V8 (.slice a told.length cap) told::fr)) ?_ ?_
 ·replace H:=Js [1,3,0,0,0] 0 H;refine NI H ?_;refine Gs H ?_;refine NN H ?_;refine Jc rfl rfl (ii p c mo a cap told Qw A i g raw H) ?_;rintro v w ⟨i',g',o,rfl,hp,_,_,H⟩;refine YC H ?_;intro b5 w H;refine J5 H ?_;intro w H;refine J0 H ?_;replace H:=Js [0,2,0,1,1,0] 0 H;exact⟨rfl,rfl,_,i',g',o,hp,rfl,rfl,rfl,rfl,H⟩
 rintro ms σ w ⟨rfl,b5,i',g',o,GZ,g0,g3,g5,g6,H⟩;rw[Q1 g0,Q1 g3,Q1 g5,Q1 g6];refine FZ H ?_;refine J2 H ?_;refine Dd H ?_;by_cases Xp:k=0
 ·subst Xp;refine Vt H ?_;replace H:=Js [3,0,0,0,0,0] 0 H;refine J1 H ?_;intro w H;refine A8 H ?_;refine Jk rfl rfl (iK c s _ ws Yr XR.there.there.there.there.there H) ?_;rintro v w ⟨rfl,H⟩;obtain⟨hd,R'⟩:=ie R U4 ws;rw[hd];refine KJ H ?_;replace H:=Js [4,0,0,0,0,0] 0 H;refine J1 H ?_;intro w H;refine A8 H ?_;refine Jk rfl rfl (rG mo m _ ws Yr XR.there.there.there.there.there H) ?_;rintro v w ⟨rfl,H⟩;refine KJ H ?_;refine YJ H ?_;rw[XK (((UY m ws).2.1:Nat):Int)];refine DS H ?_;rw[XK (((UY m ws).2.2:Nat):Int)];refine J4 H ?_;replace H:=Js [4,1,0,2] 2 H;exact Q3 (Jy H rfl fun w' H'=>⟨rfl,_,_,_,R',⟨by rw[(jH m ws).2];omega,by rw[(jH m ws).1];omega,.inl ⟨rfl,tB s ws⟩,fun hI=>tY hw hI ws,fun hT=>by rw[(jL s ws).par];exact hT,(jL s ws).part⟩,Yw H'⟩)
 rw[show (k == 0)=false by simpa using Xp];refine UH H ?_;by_cases Xe:k=1
 ·subst Xe;refine Vt H ?_;have hl:=R.last;have he:=sf R hw A;replace H:=Js [3,0,0,0,0,0] 0 H;refine J1 H ?_;intro w H;refine A8 H ?_;refine Jk rfl rfl (TO c s A (by omega) H) ?_;rintro v w (⟨h1,rfl,H⟩|⟨h1,b,b2,rfl,H⟩)
  ·rw[he] at h1 ⊢;have ho:WP m A=(m,0,Gh m.P A):=by unfold WP;rw[if_neg h1]
   refine KJ H ?_;replace H:=Js [4,0,0,0,0,0] 0 H;refine J1 H ?_;intro w H;refine A8 H ?_;refine Jk rfl rfl (gu mo m A hP H) ?_;rintro v w ⟨rfl,H⟩;rw[ho] at H ⊢;refine NO H ?_;refine WZ H ?_;rw[XK ((Gh m.P A:Nat):Int)];refine J4 H ?_;replace H:=Js [4,1,0,2] 2 H;exact Q3 (Jy H rfl fun w' H'=>⟨rfl,_,_,_,R,Kh rfl rfl rfl,Yw H'⟩)
  ·rw[he] at h1;have ho:WP m A=({ m with P:=m.P++[A] },m.P.length,0):=by unfold WP;rw[if_pos h1]
   refine KJ H ?_;replace H:=Js [4,0,0,0,0,0] 0 H;refine J1 H ?_;intro w H;refine A8 H ?_;refine Jk rfl rfl (gu mo m A hP H) ?_;rintro v w ⟨rfl,H⟩;rw[ho] at H ⊢;rw[hl];refine KJ H ?_;refine YJ H ?_;rw[XK ((m.P.length:Nat):Int)];refine DS H ?_;refine J4 H ?_;replace H:=Js [4,1,0,2] 2 H;exact Q3 (Jy H rfl fun w' H'=>⟨rfl,_,_,_,Tg R h1 b b2,⟨by show (m.P++[A]).length≤_;simp,by show m.objs.length≤_;omega,.inl ⟨rfl,rfl⟩,fun hI=>tZ hI A b b2,fun hT=>tU hT (he.trans h1) hw.par.2.2,tJ s A b b2⟩,Yw H'⟩)
 rw[show (k == 1)=false by simpa using Xe];refine UH H ?_;by_cases VP:k=2
 ·subst VP;refine Vt H ?_;refine Xy H ?_;replace H:=Js [2,2,2,2,0,0] 0 H;refine Jc rfl rfl (tK p c mo a cap s m told R Cm _ A B C _ i g .i64 _ raw rfl H) ?_;rintro v w ⟨rfl,s',m',told',a',cap',R',S',H⟩;refine J0 H ?_;replace H:=Js [0,0,0,0] 2 H;exact Q3 (Jy H rfl fun w' H'=>⟨rfl,s',m',told',R',S',Yw H'⟩)
 rw[show (k == 2)=false by simpa using VP];refine UH H ?_;by_cases Ce:k=3
 ·subst Ce;refine Vt H ?_;replace H:=Js [3,0,0,0,0,0] 0 H;refine J1 H ?_;intro w H;refine Ja 0 ?_;refine Ja 1 ?_;refine Jf 2 ?_;refine Jl 3 [7] H ?_;refine Vz 4 [7] H rfl (Q8.none rfl) rfl (by repeat first|exact .nil _|apply QY.cons rfl) (by kernel_rfl) ?_;refine Jf 5 ?_;refine Jl 6 [7] H ?_;refine Jo 7 H ?_;refine Jk rfl rfl (iZ c s i' g' B H) ?_;rintro v w ⟨rfl,H⟩
  rcases sJ R GZ B with ⟨h0,h1⟩|⟨h0,n,j,x,rfl,rfl,hx,hj,h1⟩
  ·rw[h1];refine Fh H ?_;replace H:=Js [4,0,0,0,0,0] 0 H;refine J1 H ?_;intro w H;refine Iz H ?_;refine Jk rfl rfl (Ch mo m o B false H) ?_;rintro v w ⟨rfl,H⟩;refine A5 H ?_;refine J3 H ?_;rw[show (((Vr m o B false:Nat):Int) != 0)=true by rw[bne_iff_ne];omega];refine NM H ?_;rw[XK ((Vr m o B false:Nat):Int)];refine KO H ?_;refine J4 H ?_;replace H:=Js [4,1,0,2] 2 H;exact Q3 (Jy H rfl fun w' H'=>⟨rfl,s,m,told,R,Kh rfl rfl rfl,Yw H'⟩)
  ·rw[h1];have Z4:=(List.getElem?_eq_some_iff.1 hx).1;have E9:=getElem?_eq_getElem hj;have Tz:x.w.getD j 0=x.w[j]:=by rw[getD_eq_getElem?_getD,E9];rfl
   have Zi:=BL (w:=U4) hx;rw[Tz];generalize x.w[j]=y at E9;refine Fh H ?_;replace H:=Js [4,0,0,0,0,0] 0 H;refine J1 H ?_;intro w H;refine Iz H ?_;refine Jk rfl rfl (Ch mo m n j false H) ?_;rintro v w ⟨rfl,H⟩;rw[h0];refine A5 H ?_;refine KL H ?_;obtain⟨t,lc,aL,cL,bO,cO,sO,ptrs,q,vw,vk,vt,rest,hm,h2,hp,H,QU⟩:=UT H hx;have V7:=BJ hx hm;obtain⟨aw,cw,rfl⟩:=QI H.drop (GA _) (by decide);obtain⟨bW,sW,rfl,H,LP⟩:=VY H.swap (by omega);refine J1 H ?_;intro w H;refine JQ H ?_;refine N8 H ?_;refine Ja 8 ?_;refine Jf 9 ?_;refine Jl 10 [] H ?_;refine Ja 11 ?_;refine Ji 12 ?_;refine Y2 13 [] H rfl (Q8.of rfl rfl rfl) rfl hp (by kernel_rfl) ?_;refine Ja 14 ?_;refine Jf 15 ?_;refine Jl 16 [] H ?_;refine Jf 17 ?_;refine Jl 18 [] H ?_;refine Ji 19 ?_;refine Y2 20 [] H rfl (Q8.of rfl rfl rfl) rfl (Ng E9) (by kernel_rfl) ?_;refine Ja 21 ?_;rw[XK (y:Int)];refine Ja 22 ?_;refine Ja 23 ?_;refine Jx H ?_;replace H:=K8 hx (QU _ _ _ V7 (LP _ _ H).swap);replace H:=Js [4,1,0,2] 2 H;exact Q3 (Jy H rfl fun w' H'=>⟨rfl,s,m,told,R,Kh rfl rfl rfl,Yw H'⟩)
 rw[show (k == 3)=false by simpa using Ce];refine UH H ?_;by_cases O6:k=4
 ·subst O6;refine Vt H ?_;replace H:=Js [3,0,0,0,0,0] 0 H;refine J1 H ?_;intro w H;refine YI H ?_;refine Jl 3 [9,17] H ?_;refine Vz 4 [9,17] H rfl (Q8.none rfl) rfl (by repeat first|exact .nil _|apply QY.cons rfl) (by kernel_rfl) ?_;refine Jf 5 ?_;refine Jl 6 [9,17] H ?_;refine Jf 7 ?_;refine Jl 8 [9,17] H ?_;refine NP H ?_;refine Jl 13 [17] H ?_;refine Ja 14 ?_;refine Jf 15 ?_;refine Jl 16 [17] H ?_;obtain⟨hd,R'⟩:=sM R GZ B X;refine Jo 9 H ?_;refine Jk rfl rfl (rO c s i' g' B X hX H) ?_;rintro v w ⟨rfl,H⟩;rw[hd];replace H:=Js [4,0,0,0,0,0] 0 H;refine Jo 17 H ?_;refine Jk rfl rfl (Ch mo m o B false H) ?_;rintro v w ⟨rfl,H⟩;refine Ja 18 ?_;refine Ja 19 ?_;refine Jx H ?_;refine J3 H ?_;have Uq:=tD m o B X;by_cases h0:Vr m o B false=0
  ·obtain⟨n,x,hv⟩:∃ n x,VL m o=some (n,x):=by
    cases hv:VL m o with
    | none=>rw[WN hv] at h0;cases h0
    | some kx=>exact⟨kx.1,kx.2,rfl⟩
   have LS:=h0;rw[K9 hv] at LS;rw[Td hv,if_pos LS] at R' Uq;obtain⟨rfl,hx,hh,hg⟩:=WM hv;obtain⟨j,rfl,hj,hr⟩:=UP LS;rw[Int.toNat_natCast] at R' Uq;rw[h0];have Z4:=(List.getElem?_eq_some_iff.1 hx).1;have Zi:=BL (w:=U4) hx;refine Vt H ?_;obtain⟨t,lc,aL,cL,bO,cO,sO,ptrs,q,vw,vk,vt,rest,hm,h2,hp,H,QU⟩:=UT H hx;obtain⟨aw,cw,rfl⟩:=QI H.drop (GA _) (by decide);obtain⟨bW,sW,rfl,H,_,_,LP⟩:=GP H.swap (by omega);have Kg:=hm.objs x (mem_of_getElem? hx)
   have V7:VF (G9 m n { x with w:=x.w.set j X }):=Dy hm (by
    obtain⟨a1,a2,a3,a4,a5⟩:=Kg;exact⟨by show ∃ l,_∧_∧Vh l _=((x.w.set j X).length,0);rw[length_set];exact a1,a2,by show _=(x.w.set j X).length;rw[length_set];exact a3,by show _=(x.w.set j X).length;rw[length_set];exact a4,a5⟩)
   refine J1 H ?_;intro w H;refine YI H ?_;refine Jl 3 [18] H ?_;refine Ja 4 ?_;refine Jf 5 ?_;refine Jl 6 [18] H ?_;refine Ja 7 ?_;refine Ji 8 ?_;refine Y2 9 [18] H rfl (Q8.none rfl) rfl hp (by kernel_rfl) ?_;refine Ja 10 ?_;refine Jf 11 ?_;refine Jl 12 [18] H ?_;refine Jf 13 ?_;refine Jl 14 [18] H ?_;refine Jf 15 ?_;refine Jl 16 [18] H ?_;refine Ji 17 ?_;refine Jo 18 H ?_;refine G1 H rfl rfl inferInstance rfl (by simp only[length_append,GA];omega) rfl ?_;intro w H;rw[Int.toNat_natCast,fg (by omega)] at H;refine Jx H ?_;refine Db H ?_;replace H:=LP _ _ (Qj (x.w.set j X)) (by simp[Qj]) H;replace H:=QU _ _ { x with w:=x.w.set j X } V7 H.swap;replace H:=Js [4,1,0,2] 2 H;exact Q3 (Jy H rfl fun w' H'=>⟨rfl,_,_,_,R',Kh Uq.1 Uq.2 (jZ s i' g' j X) (fun hI=>j7 hI i' g' j X) (jI s i' g' j X),Yw H'⟩)
  ·rw[show (((Vr m o B false:Nat):Int) == 0)=false by simpa using h0]
   have tM:Be m o B X=m:=by
    cases hv:VL m o with
    | none=>rw[iN hv]
    | some kx=>
     obtain⟨n,x⟩:=kx;rw[K9 hv] at h0;rw[Td hv,if_neg h0]
   rw[tM] at R';refine Vk H ?_;refine YJ H ?_;rw[XK ((Vr m o B false:Nat):Int)];refine J0 H ?_;replace H:=Js [4,1,0,2] 2 H;exact Q3 (Jy H rfl fun w' H'=>⟨rfl,_,_,_,R',Kh rfl rfl (jZ s i' g' B X) (fun hI=>j7 hI i' g' B X) (jI s i' g' B X),Yw H'⟩)
 rw[show (k == 4)=false by simpa using O6];refine UH H ?_;by_cases hk5:k=5
 ·subst hk5;refine Vt H ?_;replace H:=Js [3,0,0,0,0,0] 0 H;obtain⟨hd,E6,VP,Q6,R'⟩:=sd R U4 GZ B;obtain⟨l1,l2,l3,ZD⟩:=Xf (Yu s i' g' B).1;have aQ:=fun (w:World) (fr:List Q2) (H:Q0 w (QD c s::fr))=>rj c s i' g' B H;rw[ZD,hd] at aQ;rw[E6] at ZD;refine J6 H ?_;refine Qt (fun ms σ w=>ms=[]∧∃ b20,σ 0=pp p∧σ 3=pp b3∧σ 6 = .int .i64 o∧σ 20=pp b20∧σ 21 = .int .i64 ((ZF m o B).2.2.2:Nat)∧Q0 w (pts b20 (row 88 [.int .i64 l1,.int .i64 l2,.int .i64 l3])::pts b3 (row 93 [.int .i64 5,.int .i64 A,.int .i64 B,.int .i64 C,.int .u64 X,.slice adW ws.length capW,.bool raw,.int .i64 i,.int .i64 g])::Y8 p c mo (.slice a told.length cap)::QD c (UU s i' g' B)::Qy mo m::V8 (.slice a told.length cap) told::fr)) ?_ ?_
  ·refine J1 H ?_;intro w H;refine YI H ?_;refine Jl 3 [7,12] H ?_;refine SG H ?_;refine Jf 5 ?_;refine Jl 6 [7,12] H ?_;refine Jw 7 11 H rfl rfl (V3 (a:=[]) (b:=[]) rfl rfl (call (aQ _ _ H) ?_)) (YW H rfl ?_)
   ·rintro v w ⟨rfl,H⟩;refine CD H ?_;refine Fa H ?_;intro b20 w H;refine Ro H ?_;intro w H;refine CA H ?_;replace H:=Js [0,2,2,0,1,1] 1 H;exact⟨rfl,rfl,b20,rfl,rfl,rfl,rfl,rfl,H⟩
   ·intro b20 w H;refine Jo 7 H ?_;refine Jk rfl rfl (aQ _ _ H.swap) ?_;rintro v w ⟨rfl,H⟩;refine CD H ?_;refine Ro H ?_;intro w H;refine CA H ?_;replace H:=Js [1,2,2,0,1,1] 1 H;exact⟨rfl,rfl,b20,rfl,rfl,rfl,rfl,rfl,H⟩
  rintro ms σ w ⟨rfl,b20,g0,g3,g6,g20,g21,H⟩;rw[Q1 g0,Q1 g3,Q1 g6,Q1 g20,Q1 g21];replace H:=Js [4,0,0,0,0,0] 0 H;refine J1 H ?_;intro w H;refine Iz H ?_;refine Jk rfl rfl (rQ mo m o B H) ?_;rintro v w ⟨rfl,H⟩;refine Ja 8 ?_;refine Ja 9 ?_;refine Ja 10 ?_;refine Ja 11 ?_;refine Ja 12 ?_;refine Rl H ?_;refine YJ H ?_;rw[XK (((ZF m o B).2.2.2:Nat):Int)];replace H:=Js [3,4,1,1,1,0] 0 H;refine Ez H ?_;refine DA H ?_;refine Gq H ?_;have Cn:=fun (w:World) (fr:List Q2) (H:Q0 w (Y8 p c mo (.slice a told.length cap)::V8 (.slice a told.length cap) told::fr))=>Tn p c mo a cap told (ZF m o B).2.1 (ZF m o B).2.2.1 VP Q6 H;rw[ZD] at Cn;refine Qe rfl rfl rfl (V3 (a:=[]) (b:=[]) rfl rfl (call (Cn _ _ H) ?_));rintro v w ⟨rfl,H⟩;refine J4 H ?_;replace H:=Js [0,3,3,0] 2 H;exact Q3 (Jy H rfl fun w' H'=>⟨rfl,_,_,_,R',Kh (jA m o B).1 (jA m o B).2 (tA s i' g' B) (fun hI=>tQ hI i' g' B) (tI s i' g' B),Yw H'⟩)
 rw[show (k == 5)=false by simpa using hk5];refine UH H ?_;by_cases hk6:k=6
 ·subst hk6;refine Vt H ?_;replace H:=Js [2,4,0,0,0,0] 0 H;refine NI H ?_;refine NN H ?_;refine Jc rfl rfl (ii p c mo a cap told Qw C i g false H) ?_;rintro v w ⟨u',v',q,rfl,hQ,_,_,H⟩;refine YC H ?_;intro b25 w H;refine J5 H ?_;intro w H;refine J0 H ?_;replace H:=Js [5,0,0,0,0,0,0] 0 H;refine J1 H ?_;intro w H;refine YI H ?_;refine Jl 3 [8,17] H ?_;refine Vz 4 [8,17] H rfl (Q8.none rfl) rfl (by repeat first|exact .nil _|apply QY.cons rfl) (by kernel_rfl) ?_;refine Jf 5 ?_;refine Jl 6 [8,17] H ?_;refine Vz 7 [8,17] H rfl (Q8.none rfl) rfl (by repeat first|exact .nil _|apply QY.cons rfl) (by kernel_rfl) ?_;refine IH H ?_;refine Jl 12 [17] H ?_;refine Ja 13 ?_;refine Jf 14 ?_;refine Jl 15 [17] H ?_;refine Ja 16 ?_;obtain⟨hd,R'⟩:=iT R hw U4 GZ hQ B;refine Jo 8 H ?_;refine Jk rfl rfl (iX c s i' g' B u' v' H) ?_;rintro v w ⟨rfl,H⟩;rw[hd];replace H:=Js [6,0,0,0,0,0,0] 0 H;refine Jo 17 H ?_;refine Jk rfl rfl (r7 mo m o B q H) ?_;rintro v w ⟨rfl,H⟩;refine Ja 18 ?_;rw[XK (((Zw m o B q).2:Nat):Int)];refine Ja 19 ?_;refine Jx H ?_;replace H:=Js [3,1,0,1] 3 H;exact Q3 (Jy H rfl fun w' H'=>⟨rfl,_,_,_,R',Kh (jK m o B q).1 (jK m o B q).2 (jU s i' g' B u' v') (fun hI=>j9 hw hI i' g' B u' v') (tH s i' g' B u' v'),Yw H'⟩)
 rw[show (k == 6)=false by simpa using hk6];refine UH H ?_;by_cases hk7:k=7
 ·subst hk7;refine Vt H ?_;replace H:=Js [3,0,0,0,0,0] 0 H;refine J1 H ?_;intro w H;refine YI H ?_;refine Jl 3 [7,15] H ?_;refine Vz 4 [7,15] H rfl (Q8.none rfl) rfl (by repeat first|exact .nil _|apply QY.cons rfl) (by kernel_rfl) ?_;refine Jf 5 ?_;refine Jl 6 [7,15] H ?_;refine Iw H ?_;refine Jl 11 [15] H ?_;refine Ja 12 ?_;refine Jf 13 ?_;refine Jl 14 [15] H ?_;obtain⟨hd,R'⟩:=sc R U4 GZ B;refine Jo 7 H ?_;refine Jk rfl rfl (ri c s i' g' B H) ?_;rintro v w ⟨rfl,H⟩;rw[hd];replace H:=Js [4,0,0,0,0,0] 0 H;refine Jo 15 H ?_;refine Jk rfl rfl (r6 mo m o B H) ?_;rintro v w ⟨rfl,H⟩;refine Ja 16 ?_;rw[XK (((R8 m o B).2:Nat):Int)];refine Ja 17 ?_;refine Jx H ?_;replace H:=Js [4,1,0,2] 2 H;exact Q3 (Jy H rfl fun w' H'=>⟨rfl,_,_,_,R',Kh (jX m o B).1 (jX m o B).2 (jG s i' g' B .none) (fun hI=>j8 hI i' g' B trivial fun a b h=>by cases h) (jJ s i' g' B .none),Yw H'⟩)
 rw[show (k == 7)=false by simpa using hk7];refine UH H ?_;by_cases hk8:k=8
 ·subst hk8;refine Vt H ?_;replace H:=Js [3,0,0,0,0,0] 0 H;refine J1 H ?_;intro w H;refine YI H ?_;refine Jl 3 [5,11] H ?_;refine Vz 4 [5,11] H rfl (Q8.none rfl) rfl (by repeat first|exact .nil _|apply QY.cons rfl) (by kernel_rfl) ?_;refine FT H ?_;refine Jl 9 [11] H ?_;refine Ja 10 ?_;obtain⟨hd,R'⟩:=sP R GZ;refine Jo 5 H ?_;refine Jk rfl rfl (rT c s i' g' H) ?_;rintro v w ⟨rfl,H⟩;rw[hd];replace H:=Js [4,0,0,0,0,0] 0 H;refine Jo 11 H ?_;refine Jk rfl rfl (r4 mo m o H) ?_;rintro v w ⟨rfl,H⟩;refine Ja 12 ?_;rw[XK (((Xh m o).2:Nat):Int)];refine CA H ?_;replace H:=Js [4,1,0,2] 2 H;exact Q3 (Jy H rfl fun w' H'=>⟨rfl,_,_,_,R',Kh (jR m o).1 (jR m o).2 (tR s i' g') (fun hI=>t7 hI i' g') (tE s i' g'),Yw H'⟩)
 rw[show (k == 8)=false by simpa using hk8];refine UH H ?_;by_cases hk9:k=9
 ·subst hk9;refine Vt H ?_;replace H:=Js [3,0,0,0,0,0] 0 H;refine J1 H ?_;intro w H;refine YI H ?_;refine Jl 3 [9,19] H ?_;refine Vz 4 [9,19] H rfl (Q8.none rfl) rfl (by repeat first|exact .nil _|apply QY.cons rfl) (by kernel_rfl) ?_;refine Jf 5 ?_;refine Jl 6 [9,19] H ?_;refine Df H ?_;refine NP H ?_;refine Jl 13 [19] H ?_;refine Ja 14 ?_;refine Jf 15 ?_;refine Jl 16 [19] H ?_;refine Ja 17 ?_;refine Ja 18 ?_;generalize Xn:(ZP .and .u64 (X:Int) 1 == 1)=on;obtain⟨hd,R'⟩:=sS R GZ on;refine Jo 9 H ?_;refine Jk rfl rfl (rc c s i' g' on H) ?_;rintro v w ⟨rfl,H⟩;rw[hd];replace H:=Js [4,0,0,0,0,0] 0 H;refine Jo 19 H ?_;refine Jk rfl rfl (r5 mo m o on H) ?_;rintro v w ⟨rfl,H⟩;refine Ja 20 ?_;rw[XK (((Xi m o on).2:Nat):Int)];refine Ja 21 ?_;refine Jx H ?_;replace H:=Js [4,1,0,2] 2 H;exact Q3 (Jy H rfl fun w' H'=>⟨rfl,_,_,_,R',Kh (jW m o on).1 (jW m o on).2 (tW s i' g' on) (fun hI=>t8 hI i' g' on) (tF s i' g' on),Yw H'⟩)
 rw[show (k == 9)=false by simpa using hk9];refine UH H ?_;by_cases hk10:k=10
 ·subst hk10;refine Vt H ?_;refine It H ?_;replace H:=Js [2,2,2,2,0,0] 0 H;refine Jc rfl rfl (im p c mo _ s m told R.w i' g' o (AE R GZ) H) ?_;rintro v w ⟨rfl,H⟩;refine J0 H ?_;replace H:=Js [0,0,0,0] 2 H;exact Q3 (Jy H rfl fun w' H'=>⟨rfl,s,m,told,R,Kh rfl rfl rfl,Yw H'⟩)
 rw[show (k == 10)=false by simpa using hk10];refine UH H ?_;by_cases hk11:k=11
 ·subst hk11;refine Vt H ?_;replace H:=Js [3,0,0,0,0,0] 0 H;have UG:=fun (w:World) (fr:List Q2) (H:Q0 w (QD c s::fr))=>L5 c s i' g' B H
  rcases Te R GZ B with ⟨h0,h1⟩|⟨h0,n,j,x,rfl,rfl,hx,hv,hj,hr,VP,h1⟩
  ·rw[h1] at UG;obtain⟨l1,l2,l3,ZD⟩:=Xf .none;rw[ZD] at UG;refine J6 H ?_;refine Qt (fun ms σ w=>ms=[]∧∃ b27,σ 0=pp p∧σ 3=pp b3∧σ 6 = .int .i64 o∧σ 27=pp b27∧σ 28 = .int .i64 (Vr m o B true:Nat)∧Q0 w (pts b27 (row 88 [.int .i64 l1,.int .i64 l2,.int .i64 l3])::pts b3 (row 93 [.int .i64 11,.int .i64 A,.int .i64 B,.int .i64 C,.int .u64 X,.slice adW ws.length capW,.bool raw,.int .i64 i,.int .i64 g])::Y8 p c mo (.slice a told.length cap)::QD c s::Qy mo m::V8 (.slice a told.length cap) told::fr)) ?_ ?_
   ·refine J1 H ?_;intro w H;refine YI H ?_;refine Jl 3 [7,12] H ?_;refine SG H ?_;refine Jf 5 ?_;refine Jl 6 [7,12] H ?_;refine Jw 7 11 H rfl rfl (V3 (a:=[]) (b:=[]) rfl rfl (call (UG _ _ H) ?_)) (YW H rfl ?_)
    ·rintro v w ⟨rfl,H⟩;refine CD H ?_;refine Fa H ?_;intro b27 w H;refine Ro H ?_;intro w H;refine CA H ?_;replace H:=Js [0,2,2,0,1,1] 1 H;exact⟨rfl,rfl,b27,rfl,rfl,rfl,rfl,rfl,H⟩
    ·intro b27 w H;refine Jo 7 H ?_;refine Jk rfl rfl (UG _ _ H.swap) ?_;rintro v w ⟨rfl,H⟩;refine CD H ?_;refine Ro H ?_;intro w H;refine CA H ?_;replace H:=Js [1,2,2,0,1,1] 1 H;exact⟨rfl,rfl,b27,rfl,rfl,rfl,rfl,rfl,H⟩
   rintro ms σ w ⟨rfl,b27,g0,g3,g6,g27,g28,H⟩;rw[Q1 g0,Q1 g3,Q1 g6,Q1 g27,Q1 g28];replace H:=Js [4,0,0,0,0,0] 0 H;refine J1 H ?_;intro w H;refine Iz H ?_;refine Jk rfl rfl (Ch mo m o B true H) ?_;rintro v w ⟨rfl,H⟩;refine A5 H ?_;refine J3 H ?_;rw[show (((Vr m o B true:Nat):Int) != 0)=true by rw[bne_iff_ne];omega];refine Vt H ?_;cases ZD;refine YJ H ?_;rw[XK ((Vr m o B true:Nat):Int)];refine Jv ?_;refine Iv H ?_;refine Qe rfl rfl rfl (IY rfl rfl rfl rfl (.inl rfl) rfl ?_);refine J4 H ?_;replace H:=Js [3,3,0,2] 2 H;exact Q3 (Jy H rfl fun w' H'=>⟨congrArg Value.bool ((LF _ _).trans (Tl 0 0 0)),s,m,told,R,Kh rfl rfl rfl,Yw H'⟩)
  ·have Z4:=(List.getElem?_eq_some_iff.1 hx).1;have Kg:=U4.objs x (mem_of_getElem? hx);have U0:=Kg.kind;have OX:=Kg.to;have Zi:=BL (w:=U4) hx;have Xj:=getElem?_eq_getElem (l:=x.kind) (i:=j) (by omega);have WO:=getElem?_eq_getElem (l:=x.to) (i:=j) (by omega);have GQ:x.kind.getD j 0=x.kind[j]:=by rw[getD_eq_getElem?_getD,Xj];rfl
   have BN:x.to.getD j 0=x.to[j]:=by rw[getD_eq_getElem?_getD,WO];rfl
   have KQ:=Kg.goes j;rw[BN] at KQ;rw[GQ] at VP;rw[GQ,BN] at h1;generalize x.kind[j]=kd at *;generalize x.to[j]=td at *;have Q6:kd=2→td < told.length:=fun h=>by rw[R.len];exact KQ (by rw[Xj,h])
   rw[h1] at UG;obtain⟨l1,l2,l3,ZD⟩:=Xf (GY told kd td);rw[ZD] at UG;have Cn:=fun (w:World) (fr:List Q2) (H:Q0 w (Y8 p c mo (.slice a told.length cap)::V8 (.slice a told.length cap) told::fr))=>Tn p c mo a cap told kd td VP Q6 H;rw[ZD] at Cn;refine J6 H ?_;refine Qt (fun ms σ w=>ms=[]∧∃ b27,σ 0=pp p∧σ 3=pp b3∧σ 6 = .int .i64 n∧σ 27=pp b27∧σ 28 = .int .i64 (0:Nat)∧Q0 w (pts b27 (row 88 [.int .i64 l1,.int .i64 l2,.int .i64 l3])::pts b3 (row 93 [.int .i64 11,.int .i64 A,.int .i64 (j:Nat),.int .i64 C,.int .u64 X,.slice adW ws.length capW,.bool raw,.int .i64 i,.int .i64 g])::Y8 p c mo (.slice a told.length cap)::QD c s::Qy mo m::V8 (.slice a told.length cap) told::fr)) ?_ ?_
   ·refine J1 H ?_;intro w H;refine YI H ?_;refine Jl 3 [7,12] H ?_;refine SG H ?_;refine Jf 5 ?_;refine Jl 6 [7,12] H ?_;refine Jw 7 11 H rfl rfl (V3 (a:=[]) (b:=[]) rfl rfl (call (UG _ _ H) ?_)) (YW H rfl ?_)
    ·rintro v w ⟨rfl,H⟩;refine CD H ?_;refine Fa H ?_;intro b27 w H;refine Ro H ?_;intro w H;refine CA H ?_;replace H:=Js [0,2,2,0,1,1] 1 H;exact⟨rfl,rfl,b27,rfl,rfl,rfl,rfl,rfl,H⟩
    ·intro b27 w H;refine Jo 7 H ?_;refine Jk rfl rfl (UG _ _ H.swap) ?_;rintro v w ⟨rfl,H⟩;refine CD H ?_;refine Ro H ?_;intro w H;refine CA H ?_;replace H:=Js [1,2,2,0,1,1] 1 H;exact⟨rfl,rfl,b27,rfl,rfl,rfl,rfl,rfl,H⟩
   rintro ms σ w ⟨rfl,b27,g0,g3,g6,g27,g28,H⟩;rw[Q1 g0,Q1 g3,Q1 g6,Q1 g27,Q1 g28];replace H:=Js [4,0,0,0,0,0] 0 H;refine J1 H ?_;intro w H;refine Iz H ?_;refine Jk rfl rfl (Ch mo m n j true H) ?_;rintro v w ⟨rfl,H⟩;rw[h0];refine A5 H ?_;refine KL H ?_;obtain⟨t,lc,aL,cL,bO,cO,sO,ptrs,q,vw,vk,vt,rest,hm,h2,hp,H,QU⟩:=UT H hx;have V7:=BJ hx hm;obtain⟨ak,ck,rfl⟩:=QI H.drop.drop (QM _) (by decide);obtain⟨at',ct,rfl⟩:=QI H.drop.drop.drop (QM _) (by decide);replace H:=Js [2,0,0,0] 0 H;obtain⟨bk,sk,rfl,H,UV⟩:=VY H (by omega);replace H:=Js [3,0,0,0] 0 H;obtain⟨bt,st,rfl,H,R9⟩:=VY H (by omega);refine J1 H ?_;intro w H;refine JQ H ?_;refine Vz 4 [39] H rfl (Q8.of rfl rfl rfl) rfl (by repeat first|exact .nil _|apply QY.cons rfl) (by kernel_rfl) ?_;refine F9 H ?_;refine Jl 8 [39] H ?_;refine Ja 9 ?_;refine Jf 10 ?_;refine Jl 11 [39] H ?_;refine Ja 12 ?_;refine Ji 13 ?_;refine Y2 14 [39] H rfl (Q8.of rfl rfl rfl) rfl hp (by kernel_rfl) ?_;refine Ja 15 ?_;refine Jf 16 ?_;refine Jl 17 [39] H ?_;refine Jf 18 ?_;refine Jl 19 [39] H ?_;refine Ji 20 ?_;refine Y2 21 [39] H rfl (Q8.of rfl rfl rfl) rfl (Gb Xj) (by kernel_rfl) ?_;refine Ja 22 ?_;refine Ja 23 ?_;refine Jf 24 ?_;refine Jl 25 [39] H ?_;refine Ja 26 ?_;refine Jf 27 ?_;refine Jl 28 [39] H ?_;refine Ja 29 ?_;refine Ji 30 ?_;refine Y2 31 [39] H rfl (Q8.of rfl rfl rfl) rfl hp (by kernel_rfl) ?_;refine Ja 32 ?_;refine Jf 33 ?_;refine Jl 34 [39] H ?_;refine Jf 35 ?_;refine Jl 36 [39] H ?_;refine Ji 37 ?_;refine Y2 38 [39] H rfl (Q8.of rfl rfl rfl) rfl (Gb WO) (by kernel_rfl) ?_;replace H:=Js [12,13,0,0,0,0,0,0,0,0,0,0,0,0,0] 0 H;refine Jo 39 H ?_;refine Jk rfl rfl (Cn _ _ H) ?_;rintro v w ⟨rfl,H⟩;refine Ja 40 ?_;refine Ja 41 ?_;refine Jx H ?_;replace H:=Js [3,2,2,2,2,2,2,2,2,2,2,2,2,0,0] 0 H;replace H:=UV _ _ H;replace H:=Js [1,0,0,0] 0 H;replace H:=R9 _ _ H;replace H:=Js [2,2,1,0] 0 H;replace H:=K8 hx (QU _ _ x V7 H);replace H:=Js [4,3,0,2] 2 H;exact Q3 (Jy H rfl fun w' H'=>⟨rfl,s,m,told,R,Kh rfl rfl rfl,Yw H'⟩)
 rw[show (k == 11)=false by simpa using hk11];refine De H ?_;replace H:=Js [2,2,2,2] 2 H;exact Q3 (Jy H rfl fun w' H'=>⟨rfl,s,m,told,R,Kh rfl rfl rfl,Yw H'⟩)
structure Ac where
 k:Int
 A:Int
 B:Int
 C:Int
 X:Nat
 vW:Value
 ws:List Nat
 raw:Bool
 i:Int
 g:Int
def Wc (x:Ac):List Value:=[.int .i64 x.k,.int .i64 x.A,.int .i64 x.B,.int .i64 x.C,.int .u64 x.X,x.vW,.bool x.raw,.int .i64 x.i,.int .i64 x.g]
def AJ (l:List Ac):List Value:=l.flatMap Wc
def OP (fr:List Q2) (x:Ac):Prop:=x.X < 18446744073709551616∧(∀ y∈x.ws,y < 18446744073709551616)∧YM fr x.vW x.ws.length 1 (Qj x.ws)
theorem aV (l:List Ac):(AJ l).length=l.length*9:=by
 induction l with
 | nil=>rfl
 | cons p L ih=>simp only[AJ,Wc,flatMap_cons,length_append,length_cons,length_nil] at ih ⊢;omega
theorem tN {L:List Ac} {i:Nat} {x:Ac} (h:L[i]? = some x):∀ j v,(Wc x)[j]? = some v→(AJ L)[i*9+j]? = some v:=by
 induction L generalizing i with
 | nil=>simp at h
 | cons y L ih=>
  intro j v hj;have aY:j < 9:=(List.getElem?_eq_some_iff.1 hj).1;cases i with
  | zero=>
   simp at h;subst h;show (Wc y++L.flatMap Wc)[0*9+j]? = _;rw[Nat.zero_mul,Nat.zero_add,getElem?_append_left aY];exact hj
  | succ i=>
   have:=ih (i:=i) (by simpa using h) j v hj;show (Wc y++L.flatMap Wc)[(i+1)*9+j]? = _;rw[getElem?_append_right (by show 9≤_;omega)];show (L.flatMap Wc)[(i+1)*9+j - 9]? = _;rw[show (i+1)*9+j - 9=i*9+j by omega];exact this
theorem tO {c:List Value} {o n:Nat} {L:List Ac} (h:QY c o n (AJ L)) {i:Nat} {x:Ac} (hp:L[i]? = some x):QY c (o+i*9) 9 (Wc x):=
 h.part (es:=Wc x) fun j v hj=>tN hp j v hj
theorem tP [Q4] (v:Value) (l:List Ac) (hl:l.length≤9223372036854775807) {w:World} {fr:List Q2} (hr:YM fr v l.length 9 (AJ l)) (QK:∀ x∈l,OP fr x) (H:Q0 w fr) :
  Calls Tryz.prog 98 #[v] w (ret fun r w'=>∃ b,r = .bool b∧(b=false→l.length≤60)∧Q0 w' fr):=by
 obtain⟨h0,ad,cap,rfl,Qv⟩:=hr;refine QQ Tryz.func98 rfl (by kernel_rfl) ?_;refine Vg H ?_;refine XN H ?_;by_cases jM:(l.length:Int) > 60
 ·rw[show decide ((l.length:Int) > 60)=true from decide_eq_true (by omega)];refine ZB H ?_;exact Q3 (Jy H rfl fun w' H'=>⟨true,rfl,(fun h=>by cases h),H'⟩)
 rw[show decide ((l.length:Int) > 60)=false from decide_eq_false (by omega)];refine F8 H ?_;refine B7 H ?_;refine Qp (fun ms σ w n=>ms=[]∧∃ i:Nat,i≤l.length∧n=l.length - i∧σ 8 = .slice ad l.length cap∧σ 9 = .int .i64 l.length∧σ 10 = .int .i64 i∧Q0 w fr) (m:=l.length) ⟨rfl,0,by omega,rfl,rfl,rfl,rfl,H⟩ ?_;rintro ms σ w n ⟨rfl,i,hi,rfl,g8,g9,g10,H⟩;rw[Q1 g8,Q1 g9,Q1 g10];refine J7 H ?_;refine Qk rfl (fun h=>QE ?_) (fun h=>Qu ?_)
 ·have Q6:i < l.length:=by omega
  have hy:=getElem?_eq_getElem Q6;generalize l[i]=y at hy;have aZ:=QK y (mem_of_getElem? hy)
  rcases Qv with hz|⟨b,o,E,fz,c,rfl,hA,Qv⟩
  ·omega
  haveI:=hA;obtain⟨k,A,B,C,X,vW,ws,raw,i1,g1⟩:=y;obtain⟨_,_,_,adW,capW,Ry,_⟩:=aZ;replace Ry:vW = .slice adW ws.length capW:=Ry;subst Ry;refine Z8 H ?_;refine Jd ?_;refine Q5 rfl (Vy H rfl (tO Qv hy) rfl ?_);refine VO H ?_;intro b4 w H;refine J5 H ?_;intro w H;refine J2 H ?_;refine Wy H ?_;by_cases hk:k=2
  ·subst hk;refine Ex H ?_;by_cases hC:C > 40
   ·rw[show decide (C > 40)=true from decide_eq_true (by omega)];refine Zq H ?_;refine B1 H ?_;refine Zq H ?_;refine WK H ?_;refine Kw H ?_;exact Q3 (Jy H.drop rfl fun w' H'=>⟨true,rfl,(fun h=>by cases h),H'⟩)
   ·rw[show decide (C > 40)=false from decide_eq_false (by omega)];refine Ia H ?_;by_cases hB:B > 64
    ·rw[show decide (B > 64)=true from decide_eq_true (by omega)];refine Zq H ?_;refine WK H ?_;refine Kw H ?_;exact Q3 (Jy H.drop rfl fun w' H'=>⟨true,rfl,(fun h=>by cases h),H'⟩)
    ·rw[show decide (B > 64)=false from decide_eq_false (by omega)];by_cases hw:(ws.length:Int) > 10
     ·first|refine VW rfl rfl rfl rfl ?_|refine Qz rfl rfl rfl ?_|refine Wv rfl rfl ?_
      refine NS H ?_;rw[show decide ((ws.length:Int) > 10)=true from decide_eq_true (by omega)];refine Kw H ?_;exact Q3 (Jy H.drop rfl fun w' H'=>⟨true,rfl,(fun h=>by cases h),H'⟩)
     ·first|refine VW rfl rfl rfl rfl ?_|refine Qz rfl rfl rfl ?_|refine Wv rfl rfl ?_
      refine NS H ?_;rw[show decide ((ws.length:Int) > 10)=false from decide_eq_false (by omega)];refine BV H ?_;exact⟨_,⟨rfl,i+1,Q6,rfl,rfl,rfl,Qg (by omega),H.drop⟩,by omega⟩
  ·rw[show (k == 2)=false by simpa using hk];by_cases hw:(ws.length:Int) > 10
   ·first|refine Jv ?_|refine W6 rfl rfl ?_
    refine SZ H ?_;refine Ms H ?_;refine NS H ?_;rw[show decide ((ws.length:Int) > 10)=true from decide_eq_true (by omega)];refine Kw H ?_;exact Q3 (Jy H.drop rfl fun w' H'=>⟨true,rfl,(fun h=>by cases h),H'⟩)
   ·first|refine Jv ?_|refine W6 rfl rfl ?_
    refine SZ H ?_;refine Ms H ?_;refine NS H ?_;rw[show decide ((ws.length:Int) > 10)=false from decide_eq_false (by omega)];refine BV H ?_;exact⟨_,⟨rfl,i+1,Q6,rfl,rfl,rfl,Qg (by omega),H.drop⟩,by omega⟩
 ·have V0:i=l.length:=by omega
  refine Vg H ?_;exact Q3 (Jy H rfl fun w' H'=>⟨false,rfl,fun _=>by omega,H'⟩)
def Wd (n size slots:Nat):CS:=⟨size,List.replicate n 0,[],List.replicate slots ⟨0,none⟩,0,[],[],[],[]⟩
theorem jN (n size slots:Nat):Rel (Wd n size slots) XZ []:=by
 have VK:∀ (k g:Nat) (e:Q9),(List.replicate slots (⟨0,none⟩:QW))[k]? ≠ some ⟨g,some e⟩:=by
  intro k g e h;rw[getElem?_replicate] at h;split at h <;> cases h
 refine⟨rfl,rfl,?_,nodup_nil,rfl,?_,?_,fun k g e h=>absurd h (VK k g e),?_,nodup_nil⟩
 ·intro r q;constructor
  ·intro h;cases h
  ·rintro⟨k,_,h1,h2,_⟩;have:k < 1:=(List.getElem?_eq_some_iff.1 h2).1;omega
 ·intro o x k g h;cases h
 ·intro o x k g h;cases h
 ·intro o k g h;cases h
structure Co (s:CS) (told:List (Nat×Nat)):Prop where
 shape:∃ r,YH s.tab=List.replicate told.length (1,true)++List.replicate r (0,false)
 told:told=(List.range told.length).map fun i=>(i,1)
 inv:Inv s
theorem tS (n size slots:Nat):Co (Wd n size slots) []:=⟨⟨slots,by simp[YH,Wd]⟩,rfl,jV rfl jY⟩
theorem HA {ts:List QW} {n r k:Nat} {t:QW} (h:YH ts=List.replicate n (1,true)++List.replicate r (0,false)) (hk:ts[k]? = some t):(k < n∧t.gen=1∧t.ent.isSome=true)∨(n≤k∧k < n+r∧t.gen=0∧t.ent=none):=by
 have h1:(YH ts)[k]? = some (t.gen,t.ent.isSome):=by
  unfold YH;rw[getElem?_map,hk];rfl
 rw[h] at h1;by_cases U0:k < n
 ·rw[getElem?_append_left (by simpa using U0),getElem?_replicate,if_pos U0] at h1;injection h1 with h1
  injection h1 with h2 h3
  exact .inl ⟨U0,h2.symm,h3.symm⟩
 ·rw[getElem?_append_right (by simp;omega),length_replicate,getElem?_replicate] at h1;split at h1
  ·injection h1 with h1
   injection h1 with h2 h3
   refine .inr ⟨by omega,by omega,h2.symm,?_⟩;cases he:t.ent with
   | none=>rfl
   | some e=>rw[he] at h3;cases h3
  ·cases h1
theorem Co.step {s s':CS} {m m':MS} {told told':List (Nat×Nat)} (h:Co s told) (st:LO s m told s' m' told'):Co s' told':=by
 obtain⟨⟨r,hs⟩,ht,hI⟩:=h
 rcases st.tab with ⟨rfl,h1⟩|⟨k,g0,rfl,h1,h2,h3⟩
 ·exact⟨⟨r,by rw[h1];exact hs⟩,ht,st.inv hI⟩
 ·rcases HA hs h1 with ⟨_,_,h4⟩|⟨h4,h5,h6,_⟩
  ·cases h4
  ·have h6:g0=0:=h6;subst h6
   have hl:s.tab.length=told.length+r:=by
    have:=congrArg List.length hs;simpa [YH] using this
   have hk:k=told.length:=by
    refine Classical.byContradiction fun QA=>?_;have Q6:told.length < k:=by omega
    have hn:=getElem?_eq_getElem (l:=s.tab) (i:=told.length) (by omega);have hb:=h2 told.length _ Q6 hn
    rcases HA hs hn with ⟨h7,_⟩|⟨_,_,h7,h8⟩
    ·omega
    ·unfold busy at hb;rw[h7,h8] at hb;cases hb
   subst hk;refine⟨⟨r - 1,?_⟩,?_,st.inv hI⟩
   ·rw[h3,hs,length_append];obtain⟨r',rfl⟩:∃ r',r=r'+1:=⟨r - 1,by omega⟩;rw[set_append_right _ _ (by simp),length_replicate,Nat.sub_self,replicate_succ,set_cons_zero,Nat.add_sub_cancel];show _=List.replicate (told.length+1) (1,true)++_;rw[replicate_succ',append_assoc];rfl
   ·rw[length_append];show told++[(told.length,1)]=(List.range (told.length+1)).map _;rw[range_succ,map_append,← ht];rfl
theorem aG (x:Int):∃ X:Nat,(if x > 0 then x else 0)=(X:Int):=⟨x.toNat,by split <;> omega⟩
theorem tT [Q4] (z1 z2 z3:Int) {w:World} {fr:List Q2} (H:Q0 w fr) :
  Calls Tryz.prog 35 #[.agg #[.int .i64 z1,.int .i64 z2,.int .i64 z3]] w (ret fun v w'=>∃ p n size slots,v=pp p∧1≤n∧n≤20∧1≤size∧size≤16∧1≤slots∧slots≤16∧Q0 w' (Ua p (Wd n size slots) XZ []::fr)):=by
 obtain⟨X1,h1⟩:=aG z1;obtain⟨X2,h2⟩:=aG z2;obtain⟨X3,h3⟩:=aG z3;refine QQ Tryz.func35 rfl (by kernel_rfl) ?_;refine J8 H ?_;intro b1 w H;refine DE H ?_;refine F6 H ?_;rw[h1]
 refine Kn (v := .int .i64 ((X1 % 20:Nat):Int)) (by
  show some (Value.int IntKind.i64 (Int.tmod (X1:Int) 20))=_;rw[Int.tmod_eq_emod_of_nonneg (by omega)];rfl) rfl ?_
 refine Jv ?_;rw[show IntKind.i64.wrap (1+((X1 % 20:Nat):Int))=((X1 % 20+1:Nat):Int) by rw[Qh (by omega) (by omega)];omega];refine Gs H ?_;refine F6 H ?_;rw[h2]
 refine Kn (v := .int .i64 ((X2 % 16:Nat):Int)) (by
  show some (Value.int IntKind.i64 (Int.tmod (X2:Int) 16))=_;rw[Int.tmod_eq_emod_of_nonneg (by omega)];rfl) rfl ?_
 refine Jv ?_;rw[show IntKind.i64.wrap (1+((X2 % 16:Nat):Int))=((X2 % 16+1:Nat):Int) by rw[Qh (by omega) (by omega)];omega];refine Gs H ?_;refine F6 H ?_;rw[h3]
 refine Kn (v := .int .i64 ((X3 % 16:Nat):Int)) (by
  show some (Value.int IntKind.i64 (Int.tmod (X3:Int) 16))=_;rw[Int.tmod_eq_emod_of_nonneg (by omega)];rfl) rfl ?_
 refine Jv ?_;rw[show IntKind.i64.wrap (1+((X3 % 16:Nat):Int))=((X3 % 16+1:Nat):Int) by rw[Qh (by omega) (by omega)];omega]
 refine Jc rfl rfl (iR (X1 % 20+1) (X2 % 16+1) (X3 % 16+1) (by omega) (by omega) (by omega) (by omega) (by omega) (by omega) H) ?_;rintro v w ⟨c,rfl,H⟩;refine Gt H ?_;refine YJ H ?_;refine Zq H ?_;refine Ik H ?_;refine Z6 H ?_;refine Jc rfl rfl (rY H) ?_;rintro v w ⟨mo,rfl,H⟩;refine WG H ?_;intro b33 w H;refine J0 H ?_;have H:=GK (E:=69) (k:=2) H;replace H:=Js [1,2,1,0] 1 H;exact Q3 (Jy (Yw (told:=[]) H) rfl fun w' H'=>⟨_,X1 % 20+1,X2 % 16+1,X3 % 16+1,rfl,by omega,by omega,by omega,by omega,by omega,by omega,H'⟩)
def L0:Qa:=⟨2,[1],0,[]⟩
theorem tc:Gw [2,2,0]=some L0:=by rfl
theorem tf:YK L0:=by decide
theorem th:VF XZ:=⟨⟨by simp[XZ],by simp[XZ]⟩,⟨by simp[XZ],fun l h=>by simp[XZ] at h⟩,(fun x h=>by simp[XZ] at h),by simp[XZ]⟩
theorem jO {r1:Int} {s s':CS} {m:MS} {told:List (Nat×Nat)} {i g e:Nat} (R:Rel s m told) (hm:VF m) (F:Co s told) (hM:Tw s r1 1 0 i g e s') (Yt:YO m r1 1 0=(2,0)) (Va:s.size=8) (Qw:told.length < s.tab.length) (G2:∃ a,a < s.own.length∧s.own.getD a 0=0) :
  e=0∧i=told.length∧g=1∧Rel s' (BO m r1 1 0) (told++[(told.length,1)])∧Co s' (told++[(told.length,1)])∧s'.size=8∧OI s.own s'.own 1∧s'.tab.length=s.tab.length:=by
 obtain⟨ZQ,Zu⟩:=Ti R r1 1 0;rw[Yt] at ZQ;have hn:ZJ s 1 0=2:=by rw[Zu (by rw[Yt]),Yt]
 have hk:ZJ s 1 0 / s.size+1=1:=by rw[hn,Va]
 obtain⟨⟨r,hs⟩,ht,_⟩:=id F
 have Pf:∀ t,s.tab[told.length]? = some t→busy t=false:=by
  intro t h
  rcases HA hs h with ⟨h7,_⟩|⟨_,_,h7,h8⟩
  ·omega
  ·unfold busy;rw[h7,h8];rfl
 have GC:=getElem?_eq_getElem (l:=s.tab) (i:=told.length) Qw
 rcases hM with ⟨h1,_⟩|⟨h1,h2,_⟩|⟨h1,h2,_⟩|⟨h1,rfl,g0,addr,h2,h3,h4,rfl,h5,h6,h7,h8,h9,Ya,VD,tj⟩
 ·exact absurd ZQ h1
 ·have h3:=h2 _ (mem_of_getElem? GC);rw[Pf _ GC] at h3;cases h3
 ·obtain⟨a,ha,hz⟩:=G2;rw[hk] at h2;obtain⟨j,h3,h4,h5⟩:=h2 a (by omega);obtain rfl:j=a:=by omega
  exact absurd hz h5
 ·rw[hk] at VD
  have hi:i=told.length:=by
   rcases HA hs h2 with ⟨_,_,YE⟩|⟨YE,_⟩
   ·cases YE
   ·refine Classical.byContradiction fun QA=>?_;have KH:=h4 told.length _ (by omega) GC;rw[Pf _ GC] at KH;cases KH
  subst hi
  have hg:g0=0:=by
   rcases HA hs h2 with ⟨_,_,YE⟩|⟨_,_,YE,_⟩
   ·cases YE
   ·exact YE
  subst hg;obtain⟨_,R'⟩:=ig R hm (by rw[Yt]) h2 h6 h7 h8 Ya;refine⟨rfl,rfl,rfl,R',?_,by rw[h5,Va],VD,by rw[Ya,length_set]⟩;exact F.step (m:=m) (m':=BO m r1 1 0) ⟨by show m.P.length≤_;omega,by show (m.objs++[_]).length≤_;simp,.inr ⟨told.length,0,rfl,h2,h4,by rw[Ya];unfold YH;rw[map_set];rfl⟩,fun hI=>jQ hI h2 h6 h9 Ya rfl,fun hT=>by rw[h8];exact hT,tj⟩
end Go.Proofs.YtmjdnljneifpcaaGreatDoor
