/- Cells: what is proved on the way: every input of the statement; no condition. Texts joined: InvP InvQ TreP TreQ LawE LawF LawG LawH LawI LawJz LawK TreB. -/
import Derived.Test.YtmjdnljneifpcaaGreatDoorBck
import Derived.Test.YtmjdnljneifpcaaGreatDoorBcj
import Derived.Test.YtmjdnljneifpcaaGreatDoorBch
import Derived.Test.YtmjdnljneifpcaaGreatDoorBce
set_option linter.unusedVariables false
set_option linter.unusedSimpArgs false
set_option linter.unusedSectionVars false
namespace Go.Proofs.YtmjdnljneifpcaaGreatDoor
open List
open Go.SL
def Cq (s:CS) (r:Int×Int) (t:Int):Prop:=∃ (k p g:Nat) (e:Q7) (a b:Nat) (f:Q7),r=((k:Int),(p:Int))∧s.tab[k]? = some ⟨g,some e⟩∧p < e.ws.length∧VU (QN s e) p=true∧Vb e p = .obj a b∧Qd s.tab a b=some (a,f)∧f.region≠e.region∧t=a
structure Inv (s:CS):Prop where
 nd:(s.rem.map (·.1)).Nodup
 rem:∀ r t,QY s.rem r=some t↔Cq s r t
 link:∀ (k g:Nat) (e:Q7) (p a b:Nat),s.tab[k]? = some ⟨g,some e⟩→p < e.ws.length→VU (QN s e) p=true→Vb e p = .obj a b→∃ f,Qd s.tab a b=some (a,f)
theorem Gl {ts:List QX} {a b c:Nat} {f:Q7} (h:Qd ts a b=some (c,f)):c=a∧ts[a]? = some ⟨b,some f⟩:=by
 obtain⟨n,h1,h2,h3⟩:=Y8.1 h;obtain rfl:c=a:=by omega
 obtain rfl:n=b:=by omega
 exact⟨rfl,h3⟩
structure Cr (s:CS) (k g:Nat) (e e':Q7):Prop where
 at':s.tab[k]? = some ⟨g,some e⟩
 region:e'.region=e.region
 lay:e'.lay=e.lay
 len:e'.ws.length=e.ws.length
theorem O4 {s:CS} {k g:Nat} {e e':Q7} (h:s.tab[k]? = some ⟨g,some e⟩) (a b:Nat):Qd (VO s k g e').tab a b=(Qd s.tab a b).map fun q=>if q.1=k then (k,e') else q:=by
 have hkl:=(List.getElem?_eq_some_iff.1 h).1;cases hl:Qd s.tab a b with
 | some q=>
  obtain⟨c,f⟩:=q;obtain⟨rfl,hc⟩:=Gl hl;by_cases hk:c=k
  ·subst hk;rw[h] at hc;injection hc with hc
   injection hc with h1 h2
   subst h1;show _=some (if c=c then (c,e') else _);rw[if_pos rfl];exact Y8.2 ⟨g,rfl,rfl,getElem?_set_self hkl⟩
  ·show _=some (if c=k then (k,e') else (c,f));rw[if_neg hk];exact Y8.2 ⟨b,rfl,rfl,by show (s.tab.set k _)[c]? = _;rw[getElem?_set_ne (Ne.symm hk)];exact hc⟩
 | none=>
  show _=none;cases hl2:Qd (VO s k g e').tab a b with
  | none=>rfl
  | some q=>
   obtain⟨c,f⟩:=q;obtain⟨rfl,hc⟩:=Gl hl2;have hc:(s.tab.set k ⟨g,some e'⟩)[c]? = some ⟨b,some f⟩:=hc
   rcases V3 hc with ⟨rfl,h2,_⟩|⟨_,h2⟩
   ·injection h2 with h2 _
    subst h2;rw[Y8.2 ⟨b,rfl,rfl,h⟩] at hl;cases hl
   ·rw[Y8.2 ⟨b,rfl,rfl,h2⟩] at hl;cases hl
theorem O5 {s:CS} {k g:Nat} {e e':Q7} (h:Cr s k g e e') {a b:Nat}:(∃ f,Qd (VO s k g e').tab a b=some (a,f))↔∃ f,Qd s.tab a b=some (a,f):=by
 rw[O4 h.at'];constructor
 ·rintro⟨f,hf⟩;rw[Option.map_eq_some_iff] at hf;obtain⟨⟨c,f'⟩,h1,_⟩:=hf;obtain⟨rfl,_⟩:=Gl h1;exact⟨f',h1⟩
 ·rintro⟨f,hf⟩;rw[hf];by_cases hk:a=k
  ·exact⟨e',by show some (if a=k then (k,e') else (a,f))=_;rw[if_pos hk,hk]⟩
  ·exact⟨f,by show some (if a=k then (k,e') else (a,f))=_;rw[if_neg hk]⟩
theorem FE {s:CS} {k g:Nat} {e e':Q7} (h:Cr s k g e e') {a b:Nat} {P:Int→Prop}:(∃ f,Qd (VO s k g e').tab a b=some (a,f)∧P f.region)↔∃ f,Qd s.tab a b=some (a,f)∧P f.region:=by
 rw[O4 h.at'];constructor
 ·rintro⟨f,hf,hp⟩;rw[Option.map_eq_some_iff] at hf;obtain⟨⟨c,f'⟩,h1,h2⟩:=hf;obtain⟨rfl,h3⟩:=Gl h1;refine⟨f',h1,?_⟩;by_cases hk:c=k
  ·subst hk;rw[if_pos rfl] at h2;injection h2 with _ h2
   subst h2;rw[h.at'] at h3;injection h3 with h3
   injection h3 with _ h3
   injection h3 with h3
   subst h3;rw[h.region] at hp;exact hp
  ·rw[if_neg hk] at h2;injection h2 with _ h2
   subst h2;exact hp
 ·rintro⟨f,hf,hp⟩;rw[hf];by_cases hk:a=k
  ·subst hk;obtain⟨_,h3⟩:=Gl hf;rw[h.at'] at h3;injection h3 with h3
   injection h3 with _ h3
   injection h3 with h3
   subst h3;exact⟨e',by show some (if a=a then (a,e') else (a,e))=_;rw[if_pos rfl],by rw[h.region];exact hp⟩
  ·exact⟨f,by show some (if a=k then (k,e') else (a,f))=_;rw[if_neg hk],hp⟩
theorem O6 {s:CS} (hI:Inv s) {k g:Nat} {e e':Q7} (h:Cr s k g e e') (hl:∀ p,p < e.ws.length→VU (QN s e) p=true→Vb e' p=Vb e p):Inv (VO s k g e'):=by
 have hkl:=(List.getElem?_eq_some_iff.1 h.at').1;have hlay:∀ f,QN (VO s k g e') f=QN s f:=fun _=>rfl;have hle:QN s e'=QN s e:=by unfold QN;rw[h.lay]
 refine⟨hI.nd,fun r t=>?_,?_⟩
 ·show QY s.rem r=some t↔_;rw[hI.rem];constructor
  ·rintro⟨j,p,g1,e1,a,b,f,rfl,h1,h2,h3,h4,h5,h6,rfl⟩;obtain⟨f',h5',h6'⟩:=(FE (P:=fun r=>r≠e1.region) h).2 ⟨f,h5,h6⟩;by_cases hj:j=k
   ·subst hj;rw[h.at'] at h1;injection h1 with h1
    injection h1 with h0 h1
    injection h1 with h1
    subst h0 h1;exact⟨j,p,g,e',a,b,f',rfl,getElem?_set_self hkl,by rw[h.len];exact h2,by rw[hlay,hle];exact h3,by rw[hl p h2 h3];exact h4,h5',by rw[h.region];exact h6',rfl⟩
   ·exact⟨j,p,g1,e1,a,b,f',rfl,by show (s.tab.set k _)[j]? = _;rw[getElem?_set_ne (Ne.symm hj)];exact h1,h2,h3,h4,h5',h6',rfl⟩
  ·rintro⟨j,p,g1,e1,a,b,f,rfl,h1,h2,h3,h4,h5,h6,rfl⟩;have h1:(s.tab.set k ⟨g,some e'⟩)[j]? = some ⟨g1,some e1⟩:=h1;obtain⟨f',h5',h6'⟩:=(FE (P:=fun r=>r≠e1.region) h).1 ⟨f,h5,h6⟩
   rcases V3 h1 with ⟨rfl,h7,_⟩|⟨_,h7⟩
   ·injection h7 with h0 h7
    injection h7 with h7
    subst h0 h7;rw[hlay,hle] at h3;rw[h.len] at h2;rw[hl p h2 h3] at h4;rw[h.region] at h6';exact⟨j,p,g1,e,a,b,f',rfl,h.at',h2,h3,h4,h5',h6',rfl⟩
   ·exact⟨j,p,g1,e1,a,b,f',rfl,h7,h2,h3,h4,h5',h6',rfl⟩
 ·intro j g1 e1 p a b h1 h2 h3 h4;have h1:(s.tab.set k ⟨g,some e'⟩)[j]? = some ⟨g1,some e1⟩:=h1;rw[O5 h]
  rcases V3 h1 with ⟨rfl,h7,_⟩|⟨_,h7⟩
  ·injection h7 with h0 h7
   injection h7 with h7
   subst h0 h7;rw[hlay,hle] at h3;rw[h.len] at h2;rw[hl p h2 h3] at h4;exact hI.link j g1 e p a b h.at' h2 h3 h4
  ·exact hI.link j g1 e1 p a b h7 h2 h3 h4
theorem dh {s:CS} {k g:Nat} {e e':Q7} (h:Cr s k g e e') {r:Int×Int} {t:Int} (hl:∀ p:Nat,r=((k:Int),(p:Int))→Vb e' p=Vb e p):Cq (VO s k g e') r t↔Cq s r t:=by
 have hkl:=(List.getElem?_eq_some_iff.1 h.at').1;have hlay:∀ f,QN (VO s k g e') f=QN s f:=fun _=>rfl;have hle:QN s e'=QN s e:=by unfold QN;rw[h.lay]
 constructor
 ·rintro⟨j,p,g1,e1,a,b,f,rfl,h1,h2,h3,h4,h5,h6,rfl⟩;have h1:(s.tab.set k ⟨g,some e'⟩)[j]? = some ⟨g1,some e1⟩:=h1;obtain⟨f',h5',h6'⟩:=(FE (P:=fun r=>r≠e1.region) h).1 ⟨f,h5,h6⟩
  rcases V3 h1 with ⟨rfl,h7,_⟩|⟨_,h7⟩
  ·injection h7 with h0 h7
   injection h7 with h7
   subst h0 h7;rw[hlay,hle] at h3;rw[h.len] at h2;rw[hl p rfl] at h4;rw[h.region] at h6';exact⟨j,p,g1,e,a,b,f',rfl,h.at',h2,h3,h4,h5',h6',rfl⟩
  ·exact⟨j,p,g1,e1,a,b,f',rfl,h7,h2,h3,h4,h5',h6',rfl⟩
 ·rintro⟨j,p,g1,e1,a,b,f,rfl,h1,h2,h3,h4,h5,h6,rfl⟩;obtain⟨f',h5',h6'⟩:=(FE (P:=fun r=>r≠e1.region) h).2 ⟨f,h5,h6⟩;by_cases hj:j=k
  ·subst hj;rw[h.at'] at h1;injection h1 with h1
   injection h1 with h0 h1
   injection h1 with h1
   subst h0 h1;exact⟨j,p,g,e',a,b,f',rfl,getElem?_set_self hkl,by rw[h.len];exact h2,by rw[hlay,hle];exact h3,by rw[hl p rfl];exact h4,h5',by rw[h.region];exact h6',rfl⟩
  ·exact⟨j,p,g1,e1,a,b,f',rfl,by show (s.tab.set k _)[j]? = _;rw[getElem?_set_ne (Ne.symm hj)];exact h1,h2,h3,h4,h5',h6',rfl⟩
theorem Ip {e:Q7} {p q x:Nat} (h:q≠p):Vb { e with ws:=e.ws.set p x } q=Vb e q:=by
 unfold Vb;show ZF ((e.ws.set p x).getD q 0)=_;rw[getD_eq_getElem?_getD,getElem?_set_ne (Ne.symm h),getD_eq_getElem?_getD]
theorem Iq {e:Q7} {p:Nat} {l:Y4} (hl:Ga l) (hp:p < e.ws.length):Vb { e with ws:=e.ws.set p (VK l) } p=l:=by
 unfold Vb;show ZF ((e.ws.set p (VK l)).getD p 0)=_;rw[getD_eq_getElem?_getD,getElem?_set_self hp,Option.getD_some,NS hl]
theorem di {s:CS} (hI:Inv s) {k g p x:Nat} {e:Q7} (hk:s.tab[k]? = some ⟨g,some e⟩) (hr:VU (QN s e) p=false):Inv (VO s k g { e with ws:=e.ws.set p x }):=
 O6 (e':={ e with ws:=e.ws.set p x }) hI ⟨hk,rfl,rfl,by show (e.ws.set p x).length=_;rw[length_set]⟩ fun q hq hrq=>Ip (by rintro rfl;rw[hr] at hrq;cases hrq)
theorem Ir {s:CS} (hI:Inv s) {k g:Nat} {e e':Q7} (hk:s.tab[k]? = some ⟨g,some e⟩) (h1:e'.region=e.region) (h2:e'.lay=e.lay) (h3:e'.ws=e.ws):Inv (VO s k g e'):=
 O6 hI ⟨hk,h1,h2,by rw[h3]⟩ fun q _ _=>by unfold Vb;rw[h3]
theorem O7 {s:CS} (h:(s.rem.map (·.1)).Nodup) (k:Nat) (e:Q7) (p:Int) (l:Y4):((Yh s k e p l).map (·.1)).Nodup:=by
 unfold Yh
 repeat' split
 ·exact DD (XK h)
 ·exact XK h
 ·exact XK h
 ·exact XK h
theorem Is {s:CS} (h:(s.rem.map (·.1)).Nodup) {k:Nat} {e:Q7} {p:Int} {l:Y4} {r:Int×Int} (hr:r≠((k:Int),p)):QY (Yh s k e p l) r=QY s.rem r:=by
 have h1:QY (QD s.rem ((k:Int),p)) r=QY s.rem r:=by rw[Xm h,if_neg (Ne.symm hr)]
 unfold Yh
 repeat' split
 ·rw[U5,if_neg (Ne.symm hr),h1]
 ·exact h1
 ·exact h1
 ·exact h1
theorem O8 {s:CS} (h:(s.rem.map (·.1)).Nodup) {k:Nat} {e:Q7} {p:Int} {l:Y4} {t:Int}:QY (Yh s k e p l) ((k:Int),p)=some t↔∃ (a b:Nat) (f:Q7),l = .obj a b∧Qd s.tab a b=some (a,f)∧f.region≠e.region∧t=a:=by
 have h1:QY (QD s.rem ((k:Int),p)) ((k:Int),p)=none:=by rw[Xm h,if_pos rfl]
 cases l with
 | none=>rw[show Yh s k e p .none=QD s.rem ((k:Int),p) from rfl,h1];exact⟨fun h=>(by cases h),fun ⟨_,_,_,h,_⟩=>(by cases h)⟩
 | grave=>rw[show Yh s k e p .grave=QD s.rem ((k:Int),p) from rfl,h1];exact⟨fun h=>(by cases h),fun ⟨_,_,_,h,_⟩=>(by cases h)⟩
 | obj a b=>
  cases hl:Qd s.tab a b with
  | none=>
   rw[IS hl,h1];refine⟨fun h=>(by cases h),?_⟩;rintro⟨a',b',f,h2,h3,_⟩;injection h2 with h2 h2'
   subst h2 h2';rw[hl] at h3;cases h3
  | some q=>
   obtain⟨c,f⟩:=q;obtain⟨rfl,_⟩:=Gl hl;rw[Ch hl];split
   ·rename_i hne;rw[U5,if_pos rfl];constructor
    ·intro h2;injection h2 with h2
     exact⟨c,b,f,rfl,hl,hne,h2.symm⟩
    ·rintro⟨a',b',f',h2,h3,h4,rfl⟩;injection h2 with h2 h2'
     rw[h2]
   ·rename_i hne;rw[h1];refine⟨fun h=>(by cases h),?_⟩;rintro⟨a',b',f',h2,h3,h4,rfl⟩;injection h2 with h2 h2'
    subst h2 h2';rw[hl] at h3;injection h3 with h3
    injection h3 with _ h3
    subst h3;exact absurd h4 hne
theorem dj {s:CS} (hI:Inv s) {k g p:Nat} {e:Q7} {l:Y4} (hk:s.tab[k]? = some ⟨g,some e⟩) (hp:p < e.ws.length) (hr:VU (QN s e) p=true) (hl:Ga l) (ht:∀ a b,l = .obj a b→∃ f,Qd s.tab a b=some (a,f)) :
  Inv { VO s k g { e with ws:=e.ws.set p (VK l) } with rem:=Yh (VO s k g { e with ws:=e.ws.set p (VK l) }) k { e with ws:=e.ws.set p (VK l) } p l }:=by
 have hlen:({ e with ws:=e.ws.set p (VK l) }:Q7).ws.length=e.ws.length:=by show (e.ws.set p _).length=_;rw[length_set]
 have hS:Cr s k g e { e with ws:=e.ws.set p (VK l) }:=⟨hk,rfl,rfl,hlen⟩;have hkl:=(List.getElem?_eq_some_iff.1 hk).1;have hle:QN s { e with ws:=e.ws.set p (VK l) }=QN s e:=rfl;refine⟨O7 (s:=VO s k g _) hI.nd _ _ _ _,fun r t=>?_,?_⟩
 ·show QY (Yh _ k _ p l) r=some t↔Cq (VO s k g _) r t;by_cases hrp:r=((k:Int),(p:Int))
  ·subst hrp;rw[O8 (s:=VO s k g _) hI.nd];constructor
   ·rintro⟨a,b,f,rfl,h1,h2,rfl⟩;exact⟨k,p,g,_,a,b,f,rfl,getElem?_set_self hkl,by rw[hlen];exact hp,hr,Iq hl hp,h1,h2,rfl⟩
   ·rintro⟨j,q,g1,e1,a,b,f,hq,h1,h2,h3,h4,h5,h6,rfl⟩;injection hq with hq1 hq2
    obtain rfl:k=j:=by omega
    obtain rfl:p=q:=by omega
    replace h1:(s.tab.set k _)[k]? = some ⟨g1,some e1⟩:=h1;rw[getElem?_set_self hkl] at h1;injection h1 with h1
    injection h1 with h0 h1
    injection h1 with h1
    subst h0 h1;rw[Iq hl hp] at h4;exact⟨a,b,f,h4,h5,h6,rfl⟩
  ·rw[Is (s:=VO s k g _) hI.nd hrp,dh hS fun q hq=>Ip (by rintro rfl;exact hrp hq)];exact hI.rem r t
 ·intro j g1 e1 q a b h1 h2 h3 h4;have h1:(s.tab.set k _)[j]? = some ⟨g1,some e1⟩:=h1;show ∃ f,Qd (VO s k g _).tab a b=_;rw[O5 hS]
  rcases V3 h1 with ⟨rfl,h7,_⟩|⟨_,h7⟩
  ·injection h7 with h0 h7
   injection h7 with h7
   subst h0 h7;by_cases hq:q=p
   ·subst hq;rw[Iq hl hp] at h4;exact ht a b h4
   ·rw[Ip hq] at h4;exact hI.link j g1 e q a b hk (by rw[← hlen];exact h2) h3 h4
  ·exact hI.link j g1 e1 q a b h7 h2 h3 h4
theorem O9 {s:CS} (hI:Inv s) (i g p:Int) (x:Nat):Inv (Uf s i g p x).1:=by
 cases hv:Qr s.tab i g with
 | none=>rw[Ca hv];exact hI
 | some q=>
  obtain⟨k,e⟩:=q;obtain⟨n,rfl,rfl,hk,_⟩:=ZH hv;rw[Cb hv];split
  ·rename_i h0;obtain⟨j,rfl,hj,hr⟩:=Zm h0;exact di hI hk hr
  ·exact hI
theorem dl {s:CS} (hI:Inv s) (i g:Int):Inv (Ug s i g).1:=by
 cases hv:Qr s.tab i g with
 | none=>rw[Cd hv];exact hI
 | some q=>
  obtain⟨k,e⟩:=q;obtain⟨n,rfl,rfl,hk,_⟩:=ZH hv;rw[Ce hv,Int.toNat_natCast];exact Ir hI hk rfl rfl rfl
theorem dm {s:CS} (hI:Inv s) (i g:Int) (on:Bool):Inv (Uh s i g on).1:=by
 cases hv:Qr s.tab i g with
 | none=>rw[Cf hv];exact hI
 | some q=>
  obtain⟨k,e⟩:=q;obtain⟨n,rfl,rfl,hk,_⟩:=ZH hv;rw[Cg hv];split
  ·exact hI
  ·rw[Int.toNat_natCast];exact Ir hI hk rfl rfl rfl
theorem OQ {s:CS} (hI:Inv s) (i g p:Int) {l:Y4} (hl:Ga l) (ht:∀ a b,l = .obj a b→∃ f,Qd s.tab a b=some (a,f)):Inv (Gk s i g p l).1:=by
 cases hv:Qr s.tab i g with
 | none=>rw[Ci hv];exact hI
 | some q=>
  obtain⟨k,e⟩:=q;obtain⟨n,rfl,rfl,hk,_⟩:=ZH hv;rw[Wj hv];split
  ·rename_i h0;obtain⟨j,rfl,hj,hr⟩:=Zm h0;exact dj hI hk hj hr hl ht
  ·exact hI
theorem OV {s:CS} (hw:WF s) (hI:Inv s) (i g p u v:Int):Inv (Ys s i g p u v).1:=by
 unfold Ys;split
 ·exact hI
 ·split
  ·exact hI
  ·rename_i _ hn;cases hv:Qr s.tab u v with
   | none=>rw[hv] at hn;exact absurd rfl hn
   | some q=>
    obtain⟨k,e⟩:=q;obtain⟨n,rfl,rfl,hk,_⟩:=ZH hv;refine OQ hI i g p (IT hw hk) fun a b hab=>?_;injection hab with h1 h2
    rw[Int.toNat_natCast] at h1 h2;subst h1 h2;exact⟨e,Y8.2 ⟨n,rfl,rfl,hk⟩⟩
theorem dn {s:CS} (hI:Inv s) (i g p:Int):Inv (Zc s i g p):=by
 unfold Zc;split
 ·rename_i a b _;cases hl:Qd s.tab a b with
  | none=>rw[Cj hl];exact hI
  | some q=>
   obtain⟨k,e⟩:=q;obtain⟨n,h1,h2,hk⟩:=Y8.1 hl;obtain rfl:b=n:=by omega
   rw[Ck hl];exact Ir hI hk rfl rfl rfl
 ·exact hI
theorem dp {s:CS} (hw:WF s) (hI:Inv s) (x:QM):Inv { s with lays:=s.lays++[x] }:=by
 have hle:∀ (k g:Nat) (e:Q7),s.tab[k]? = some ⟨g,some e⟩→QN { s with lays:=s.lays++[x] } e=QN s e:=by
  intro k g e hk;obtain⟨⟨_,l,h1,_⟩,_⟩:=hw.obj k g e hk;show ((s.lays++[x])[e.lay - 1]?).getD _=_;unfold QN;rw[getElem?_append_left (List.getElem?_eq_some_iff.1 h1).1]
 refine⟨hI.nd,fun r t=>?_,fun j g1 e1 q a b h1 h2 h3 h4=>hI.link j g1 e1 q a b h1 h2 (by rw[hle _ _ _ h1] at h3;exact h3) h4⟩;show QY s.rem r=some t↔_;rw[hI.rem];constructor
 ·rintro⟨j,p,g1,e1,a,b,f,rfl,h1,h2,h3,h4⟩;exact⟨j,p,g1,e1,a,b,f,rfl,h1,h2,by rw[hle _ _ _ h1];exact h3,h4⟩
 ·rintro⟨j,p,g1,e1,a,b,f,rfl,h1,h2,h3,h4⟩;rw[hle _ _ _ h1] at h3;exact⟨j,p,g1,e1,a,b,f,rfl,h1,h2,h3,h4⟩
theorem dq {s:CS} (hw:WF s) (hI:Inv s) (ws:List Nat):Inv (Ui s ws).1:=by
 cases hd:ZD ws with
 | none=>rw[Cl hd];exact hI
 | some l=>
  rw[B4 hd];split
  ·exact hI
  ·exact dp hw hI l
theorem dr {s:CS} (hI:Inv s) (q:Int) (b b2:Nat):Inv (Wk s q b b2):=⟨hI.nd,hI.rem,hI.link⟩
theorem OY {s s':CS} (hI:Inv s) {k g0 n:Nat} {e0:Q7} (hk:s.tab[k]? = some ⟨g0,none⟩) (h1:s'.lays=s.lays) (h2:s'.rem=s.rem) (h3:s'.tab=s.tab.set k ⟨g0+1,some e0⟩) (h0:e0.ws=List.replicate n 0):Inv s':=by
 have hkl:=(List.getElem?_eq_some_iff.1 hk).1;have hle:∀ e,QN s' e=QN s e:=fun e=>by unfold QN;rw[h1]
 have hz:∀ p,Vb e0 p = .none:=fun p=>by
  unfold Vb;rw[h0,getD_eq_getElem?_getD,getElem?_replicate];split <;> rfl
 have hup:∀ {a b:Nat} {f:Q7},Qd s.tab a b=some (a,f)→Qd s'.tab a b=some (a,f):=fun {a b f} hf=>by
  obtain⟨_,hf'⟩:=Gl hf;refine Y8.2 ⟨b,rfl,rfl,?_⟩;rw[h3,getElem?_set_ne (by rintro rfl;rw[hk] at hf';cases hf')];exact hf'
 have hat:∀ {j g1:Nat} {e1:Q7},s.tab[j]? = some ⟨g1,some e1⟩→s'.tab[j]? = some ⟨g1,some e1⟩:=fun {j g1 e1} hj=>by
  rw[h3,getElem?_set_ne (by rintro rfl;rw[hk] at hj;cases hj)];exact hj
 refine⟨by rw[h2];exact hI.nd,fun r t=>?_,?_⟩
 ·rw[h2,hI.rem];constructor
  ·rintro⟨j,p,g1,e1,a,b,f,rfl,q1,q2,q3,q4,q5,q6,rfl⟩;exact⟨j,p,g1,e1,a,b,f,rfl,hat q1,q2,by rw[hle];exact q3,q4,hup q5,q6,rfl⟩
  ·rintro⟨j,p,g1,e1,a,b,f,rfl,q1,q2,q3,q4,q5,q6,rfl⟩;rw[h3] at q1
   rcases V3 q1 with ⟨rfl,q7,_⟩|⟨_,q7⟩
   ·injection q7 with _ q7
    injection q7 with q7
    subst q7;rw[hz] at q4;cases q4
   ·rw[hle] at q3;obtain⟨f',hf'⟩:=hI.link j g1 e1 p a b q7 q2 q3 q4;have h5:=hup hf';rw[q5] at h5;injection h5 with h5
    injection h5 with _ h5
    subst h5;exact⟨j,p,g1,e1,a,b,f,rfl,q7,q2,q3,q4,hf',q6,rfl⟩
 ·intro j g1 e1 p a b q1 q2 q3 q4;rw[h3] at q1
  rcases V3 q1 with ⟨rfl,q7,_⟩|⟨_,q7⟩
  ·injection q7 with _ q7
   injection q7 with q7
   subst q7;rw[hz] at q4;cases q4
  ·rw[hle] at q3;obtain⟨f',hf'⟩:=hI.link j g1 e1 p a b q7 q2 q3 q4;exact⟨f',hup hf'⟩
theorem OZ {s:CS} (h1:s.rem=[]) (h2:∀ (k g:Nat) (e:Q7),s.tab[k]? ≠ some ⟨g,some e⟩):Inv s:=
 ⟨by rw[h1];exact nodup_nil,fun r t=>⟨fun h=>(by rw[h1] at h;cases h),fun ⟨k,p,g,e,_,_,_,_,h,_⟩=>absurd h (h2 k g e)⟩,fun k g e _ _ _ h=>absurd h (h2 k g e)⟩
theorem OG {n:Nat} (k g:Nat) (e:Q7):(List.replicate n (⟨0,none⟩:QX))[k]? ≠ some ⟨g,some e⟩:=by
 intro h;rw[getElem?_replicate] at h;split at h
 ·injection h with h
  injection h with _ h
  cases h
 ·cases h
structure Z0 (par:List (Int×Int)):Prop where
 nd:(par.map (·.1)).Nodup
 up:∀ r q,QY par r=some q→0≤q∧q < r∧(q=0∨(QY par q).isSome=true)
inductive Zf (par:List (Int×Int)) (id:Int):Int→Prop
 | self:Zf par id id
 | kid {c k:Int}:Zf par id k→QY par c=some k→Zf par id c
theorem Zf.ge {par:List (Int×Int)} (h:Z0 par) {id c:Int} (d:Zf par id c):id≤c:=by
 induction d with
 | self=>exact Int.le_refl _
 | kid _ hf ih=>have:=(h.up _ _ hf).2.1;omega
theorem Zf.live {par:List (Int×Int)} {id c:Int} (hid:(QY par id).isSome=true) (d:Zf par id c):(QY par c).isSome=true:=by
 cases d with
 | self=>exact hid
 | kid _ hf=>rw[hf];rfl
theorem Zf.inv {par:List (Int×Int)} {id c:Int} (d:Zf par id c):c=id∨∃ k,QY par c=some k∧Zf par id k:=by
 cases d with
 | self=>exact .inl rfl
 | kid hk hf=>exact .inr ⟨_,hf,hk⟩
structure XV (par:List (Int×Int)) (id:Int) (l:List Int) (i:Nat):Prop where
 nd:l.Nodup
 le:i≤l.length
 desc:∀ c∈l,Zf par id c
 mem:∀ c,c∈l↔c=id∨∃ k∈l.take i,QY par c=some k
theorem XV.start (par:List (Int×Int)) (id:Int):XV par id [id] 0:=
 ⟨by simp,by simp,fun c hc=>by rw[mem_singleton] at hc;subst hc;exact .self,fun c=>by simp⟩
theorem XV.step {par:List (Int×Int)} (h:Z0 par) {id:Int} {l K:List Int} {i:Nat} (b:XV par id l i) {x:Int} (hx:l[i]? = some x) (hK:K.Nodup) (hm:∀ c,c∈K↔QY par c=some x):XV par id (l++K) (i+1):=by
 have hil:=(List.getElem?_eq_some_iff.1 hx).1
 have htk:(l++K).take (i+1)=l.take i++[x]:=by
  rw[take_append_of_le_length (by omega),take_add_one,hx];rfl
 have hxl:=mem_of_getElem? hx
 have hnt:x∉l.take i:=fun hh=>by
  obtain⟨j,hj⟩:=getElem?_of_mem hh;rw[getElem?_take] at hj;split at hj
  ·rename_i hji;obtain⟨hj1,hj2⟩:=List.getElem?_eq_some_iff.1 hj;obtain⟨_,hx2⟩:=List.getElem?_eq_some_iff.1 hx;exact(pairwise_iff_getElem.1 b.nd) j i hj1 hil hji (hj2.trans hx2.symm)
  ·cases hj
 refine⟨?_,by rw[length_append];omega,fun c hc=>?_,fun c=>?_⟩
 ·rw[nodup_append];refine⟨b.nd,hK,fun a ha c hc hac=>?_⟩;subst hac;have hf:=(hm a).1 hc
  rcases (b.mem a).1 ha with rfl|⟨k,hk,hk2⟩
  ·have:=(b.desc x hxl).ge h;have:=(h.up _ _ hf).2.1;omega
  ·rw[hf] at hk2;injection hk2 with hk2
   subst hk2;exact hnt hk
 ·rcases mem_append.1 hc with hc|hc
  ·exact b.desc c hc
  ·exact .kid (b.desc x hxl) ((hm c).1 hc)
 ·rw[htk,mem_append,b.mem,hm];constructor
  ·rintro((h1|⟨k,hk,h1⟩)|h1)
   ·exact .inl h1
   ·exact .inr ⟨k,mem_append.2 (.inl hk),h1⟩
   ·exact .inr ⟨x,by simp,h1⟩
  ·rintro(h1|⟨k,hk,h1⟩)
   ·exact .inl (.inl h1)
   ·rcases mem_append.1 hk with hk|hk
    ·exact .inl (.inr ⟨k,hk,h1⟩)
    ·rw[mem_singleton] at hk;subst hk;exact .inr h1
theorem XV.ends {par:List (Int×Int)} {id:Int} {l:List Int} (b:XV par id l l.length) (c:Int):c∈l↔Zf par id c:=by
 refine⟨b.desc c,fun d=>?_⟩
 induction d with
 | self=>exact(b.mem _).2 (.inl rfl)
 | kid _ hf ih=>exact(b.mem _).2 (.inr ⟨_,by rw[take_length];exact ih,hf⟩)
theorem XV.len {par:List (Int×Int)} {id:Int} (hid:(QY par id).isSome=true) {l:List Int} {i:Nat} (b:XV par id l i):l.length≤par.length:=by
 have:=ZS b.nd (l₂:=par.map (·.1)) (fun c hc=>by
  have h1:=(b.desc c hc).live hid;cases hf:QY par c with
  | none=>rw[hf] at h1;cases h1
  | some q=>exact mem_map.2 ⟨(c,q),UC hf,rfl⟩)
 rwa [length_map] at this
theorem OU {par:List (Int×Int)} (h:Z0 par) {last:Nat} {r:Int} (hr:r=0∨(QY par r).isSome=true) (h0:0≤r) (hl:∀ x q,(x,q)∈par→x≤(last:Int)) (hrl:r≤last):Z0 (par++[(((last+1:Nat):Int),r)]):=by
 have hn:((last+1:Nat):Int)∉par.map (·.1):=fun h1=>by
  obtain⟨⟨x,q⟩,h2,h3⟩:=mem_map.1 h1;have h3:x=((last+1:Nat):Int):=h3;have:=hl x q h2;omega
 have hf:∀ x,QY (par++[(((last+1:Nat):Int),r)]) x=if x=((last+1:Nat):Int) then some r else QY par x:=fun x=>by
  rw[← Xl hn,U5];by_cases h1:x=((last+1:Nat):Int)
  ·rw[if_pos h1,if_pos h1.symm]
  ·rw[if_neg h1,if_neg (fun h=>h1 h.symm)]
 have hlive:∀ x,(QY par x).isSome=true→(QY (par++[(((last+1:Nat):Int),r)]) x).isSome=true:=fun x h1=>by
  rw[hf];split
  ·rfl
  ·exact h1
 refine⟨?_,fun x q hx=>?_⟩
 ·rw[map_append,nodup_append];refine⟨h.nd,by simp,fun a ha b hb hab=>?_⟩;simp at hb;subst hab;subst hb;exact hn (by simpa using ha)
 ·rw[hf] at hx;split at hx
  ·injection hx with hx
   subst hx;rename_i h1;exact⟨h0,by omega,hr.imp id (hlive _)⟩
  ·obtain⟨a,b,c⟩:=h.up x q hx;exact⟨a,b,c.imp id (hlive _)⟩
theorem dt {par:List (Int×Int)} (h:Z0 par) {last:Nat} {r:Int} (he:Z9 par r=0) (hl:∀ x q,(x,q)∈par→1≤x∧x≤(last:Int)):Z0 (par++[(((last+1:Nat):Int),r)]):=by
 have hr:r=0∨(QY par r).isSome=true:=by
  unfold Z9 at he;split at he
  ·cases he
  ·rename_i h1;by_cases h2:r=0
   ·exact .inl h2
   ·cases hf:(QY par r).isSome with
    | true=>exact .inr rfl
    | false=>exact absurd ⟨h2,hf⟩ h1
 have h0:0≤r∧r≤(last:Int):=by
  rcases hr with h1|h1
  ·omega
  ·obtain⟨⟨x,q⟩,h2,h3⟩:=mem_map.1 (Wf h1);have h3:x=r:=h3;have:=hl x q h2;omega
 exact OU h hr h0.1 (fun x q hx=>(hl x q hx).2) h0.2
end Go.Proofs.YtmjdnljneifpcaaGreatDoor
namespace Go.SL
open List
section
variable {P:Program} {n:Nat} {r:Option Nat} {ops:Array Oper} {σ:QK} {w:World}
variable {ivs:List (List Nat×(World→Prop))} {T:QK→World→Prop} {f:Nat} {L:Array Bool}
variable {u:TypeId} {p:String} {af:Array Edge} {g:Option (Nat×Bool)} {d:Option Tmp} {x y:Operand}
end
end Go.SL
namespace Go.Proofs.YtmjdnljneifpcaaGreatDoor
open List
open Go.SL
def Vl (ts:List QX):List (Nat×Bool):=ts.map fun t=>(t.gen,t.ent.isSome)
theorem Cs {ts:List QX} {k g:Nat} {e e':Q7} (h:ts[k]? = some ⟨g,some e⟩):Vl (ts.set k ⟨g,some e'⟩)=Vl ts:=by
 unfold Vl;rw[map_set];apply ext_getElem?;intro i;rw[getElem?_set];split
 ·rename_i hi;subst hi;have:=(List.getElem?_eq_some_iff.1 h).1;rw[getElem?_map,h];simp[this]
 ·rfl
structure Ct (s:CS) (m:MS) (told:List (Nat×Nat)) (s':CS) (m':MS) (told':List (Nat×Nat)):Prop where
 P:m'.P.length≤m.P.length+1
 objs:m'.objs.length≤m.objs.length+1
 tab:(told'=told∧Vl s'.tab=Vl s.tab)∨∃ k g0:Nat,told'=told++[(k,g0+1)]∧s.tab[k]? = some ⟨g0,none⟩∧(∀ (j:Nat) (t:QX),j < k→s.tab[j]? = some t→busy t=true)∧Vl s'.tab=(Vl s.tab).set k (g0+1,true)
 inv:Inv s→Inv s'
 tree:Z0 s.par→Z0 s'.par:=by exact id
 part:Y1 s→Y1 s':=by exact id
def It (s:CS) (region id count:Int) (i g e:Nat) (s':CS):Prop:=
 (Ze s region id count≠0∧i=0∧g=0∧e=Ze s region id count∧s'=s) ∨
 (Ze s region id count=0∧(∀ t∈s.tab,busy t=true)∧i=0∧g=0∧e=12∧s'=s) ∨
 (Ze s region id count=0∧(∀ a,a+(YI s id count / s.size+1)≤s.own.length→∃ i,a≤i∧i < a+(YI s id count / s.size+1)∧s.own.getD i 0≠0)∧i=0∧g=0∧e=11∧s'=s) ∨
 (Ze s region id count = 0 ∧ e = 0 ∧ ∃ g0 addr, s.tab[i]? = some ⟨g0, none⟩ ∧ g0 ≤ 254 ∧ (∀ (j : Nat) (t : QX), j < i → s.tab[j]? = some t → busy t = true) ∧ g = g0 + 1 ∧
  s'.size=s.size∧s'.lays=s.lays∧s'.last=s.last∧s'.par=s.par∧s'.rem=s.rem∧s'.tab=s.tab.set i ⟨g0+1,some ⟨addr,region,true,false,id.toNat,count.toNat,List.replicate (YI s id count) 0⟩⟩∧FR s.own s'.own (YI s id count / s.size+1)∧(Y1 s→Y1 s'))
theorem du (x y:Int×Int):(if YC BinOp.eql=true then decide (x=y) else !decide (x=y))=decide (x=y):=if_pos rfl
theorem FF [Q4] (p:Nat) (s:CS) (region id count:Int) {w:World} {fr:List Q2} [hT:YX 0 Lib.deBruijn64tab fr] (H:Q0 w (QA p s::fr)) :
  Calls Tryz.prog 31 #[pp p,.int .i64 region,.int .i64 id,.int .i64 count] w (ret fun v w'=>∃ i g e s',v = .tuple #[Gw i g,.int .i64 (e:Nat)]∧It s region id count i g e s'∧Q0 w' (QA p s'::fr)):=by
 refine call (dR p s region id count H) ?_;rintro v w (⟨h1,rfl,H⟩|⟨h1,h2,rfl,H⟩|⟨h1,h2,rfl,H⟩|⟨h1,k,g0,addr,s',h2,h3,h4,rfl,h5,h6,h7,h8,h9,h10,h11,h12,H⟩)
 ·exact⟨0,0,Ze s region id count,s,rfl,.inl ⟨h1,rfl,rfl,rfl,rfl⟩,H⟩
 ·exact⟨0,0,12,s,rfl,.inr (.inl ⟨h1,h2,rfl,rfl,rfl,rfl⟩),H⟩
 ·exact⟨0,0,11,s,rfl,.inr (.inr (.inl ⟨h1,h2,rfl,rfl,rfl,rfl⟩)),H⟩
 ·exact⟨k,g0+1,0,s',rfl,.inr (.inr (.inr ⟨h1,rfl,g0,addr,h2,h3,h4,rfl,h5,h6,h7,h8,h9,h10,h11,h12⟩)),H⟩
theorem dv [Q4] (p c mo:Nat) (a:Option Addr) (cap:Nat) (s:CS) (m:MS) (told:List (Nat×Nat)) (R:Rel s m told) (hfew:m.objs.length < 100000) (k A B C X i g:Int) (kX:IntKind) (vW:Value) (raw:Bool) (hvW:vW.oneCell'=true) {w:World} {fr:List Q2} [hT:YX 0 Lib.deBruijn64tab fr]
  (H:Q0 w (YQ p c mo (.slice a told.length cap)::QA c s::Qs mo m::VW (.slice a told.length cap) told::fr)) :
  Calls Tryz.prog 163 #[pp p,.agg #[.int .i64 k,.int .i64 A,.int .i64 B,.int .i64 C,.int .u64 X,vW,.bool raw,.int .i64 i,.int .i64 g]] w (ret fun v w'=>v = .bool true∧∃ s' m' told' a' cap',Rel s' m' told'∧Ct s m told s' m' told'∧Q0 w' (YQ p c mo (.slice a' told'.length cap')::QA c s'::Qs mo m'::VW (.slice a' told'.length cap') told'::fr)):=by
 refine Q9 Tryz.func163 rfl (by kernel_rfl) ?_;refine J8 H ?_;clear H;intro b3 w H;refine YZ H ?_;refine Qo (fun ms σ w=>ms=[]∧∃ (b5 i' g' e:Nat) (s':CS),It s A B C i' g' e s'∧σ 0=pp p∧σ 3=pp b3∧σ 5=pp b5∧σ 6 = .int .i64 e∧Q0 w (pts b5 (row 69 [.int .i64 i',.int .i64 g'])::pts b3 (row 93 [.int .i64 k,.int .i64 A,.int .i64 B,.int .i64 C,.int .u64 X,vW,.bool raw,.int .i64 i,.int .i64 g])::YQ p c mo (.slice a told.length cap)::QA c s'::Qs mo m::VW (.slice a told.length cap) told::fr)) ?_ ?_
 ·replace H:=Js [2,0,0,0,0] 0 H;refine J1 H ?_;clear H;intro w H;refine Y3 H ?_;refine Jl 3 [10,15] H ?_;refine Jf 4 ?_;refine Jl 5 [10,15] H ?_;refine Jf 6 ?_;refine Jl 7 [10,15] H ?_;refine Jf 8 ?_;refine Jl 9 [10,15] H ?_;refine Jw 10 14 H rfl rfl (V1 (a:=[]) (b:=[]) rfl rfl (call (FF c s A B C H) ?_)) (Vo H rfl ?_)
  ·clear H;rintro v w ⟨i',g',e,s',rfl,hM,H⟩;refine Ja 11 ?_;refine Kd H ?_;refine Jo 14 H ?_;refine Vo H rfl ?_;clear H;intro b5 w H;refine Jo 15 H ?_;refine U9 H ?_;clear H;intro w H;refine Ja 16 ?_;refine Jx H ?_;replace H:=Js [0,1,1,0,0,0] 0 H;exact⟨rfl,rfl,b5,i',g',e,s',hM,rfl,rfl,rfl,rfl,H⟩
  ·clear H;intro b5 w H;refine Jo 10 H ?_;refine Jk rfl rfl (FF c s A B C H.swap) ?_;clear H;rintro v w ⟨i',g',e,s',rfl,hM,H⟩;refine Ja 11 ?_;refine Kd H ?_;refine Jo 15 H ?_;refine U9 H ?_;clear H;intro w H;refine Ja 16 ?_;refine Jx H ?_;replace H:=Js [1,1,1,0,0,0] 0 H;exact⟨rfl,rfl,b5,i',g',e,s',hM,rfl,rfl,rfl,rfl,H⟩
 clear H;rintro ms σ w ⟨rfl,b5,i',g',e,s',hM,g0,g3,g5,g6,H⟩;rw[Q1 g0,Q1 g3,Q1 g5,Q1 g6];obtain⟨hm1,hm2⟩:=Ii R A B C;replace H:=Js [4,0,0,0,0,0] 0 H;refine J1 H ?_;clear H;intro w H;refine Y3 H ?_;refine Jl 3 [10] H ?_;refine Jf 4 ?_;refine Jl 5 [10] H ?_;refine Jf 6 ?_;refine Jl 7 [10] H ?_;refine Jf 8 ?_;refine Jl 9 [10] H ?_;refine Jo 10 H ?_;refine Jk rfl rfl (NM mo m A B C H) ?_;clear H;rintro v w ⟨rfl,H⟩;refine Ja 11 ?_;refine Bh H ?_;refine GL H ?_
 rcases hM with ⟨h1,rfl,rfl,rfl,rfl⟩|⟨h1,h2,rfl,rfl,rfl,rfl⟩|⟨h1,h2,rfl,rfl,rfl,rfl⟩|⟨h1,rfl,g0',addr,h2,h3,h4,rfl,h5,h6,h7,h8,h9,h10,h11,h12⟩
 ·have hw':(Vr m A B C).2≠0:=by rw[← hm1];exact h1
  refine VX H ?_;rw[show ((((Vr m A B C).2:Nat):Int) != 0)=true by rw[bne_iff_ne];omega];refine ET H ?_;rw[show ((((Ze s' A B C:Nat):Int)) == (((Vr m A B C).2:Nat):Int))=true by rw[hm1];exact beq_self_eq_true _];refine Jv ?_;refine CG H ?_;refine QT rfl rfl rfl (H9 rfl rfl (.inl rfl) rfl ?_);refine J3 H ?_;replace H:=Js [3,3,0,2] 2 H;exact Q3 (Jy H rfl fun w' H'=>⟨rfl,s',m,told,a,cap,R,⟨by omega,by omega,.inl ⟨rfl,rfl⟩,id,id,id⟩,H'⟩)
 ·have hw':(Vr m A B C).2=0:=by rw[← hm1];exact h1
  rw[hw'];refine AE H ?_;refine XJ H ?_;replace H:=Js [4,0,0,0,0,0] 0 H;obtain⟨q,mem,hw,hm,H⟩:=Vv H;replace H:=Js [4,0,0,0,0,0,0,0,0,0,0,0,0,0,0,0] 0 H;refine EN H ?_;refine Jc rfl rfl (NN q.tp s'.tab H) ?_;clear H;rintro v w ⟨rfl,H⟩
  have hbt:s'.tab.length - Zx s'.tab=0:=by
   unfold Zx;rw[filter_eq_self.2 h2,Nat.sub_self]
  rw[hbt];refine YP H ?_;refine CG H ?_;refine QT rfl rfl rfl (H9 rfl rfl (.inl rfl) rfl ?_);refine J3 H ?_;replace H:=Js [1,1,1,1,0,0,0,0,0,0,0,0,0,0,0,0] 0 H;replace H:=VR hw hm H;replace H:=Js [4,0,0,2] 2 H;exact Q3 (Jy H rfl fun w' H'=>⟨rfl,s',m,told,a,cap,R,⟨by omega,by omega,.inl ⟨rfl,rfl⟩,id,id,id⟩,H'⟩)
 ·have hw':(Vr m A B C).2=0:=by rw[← hm1];exact h1
  have hn:=hm2 hw';rw[hw',← hn];refine AE H ?_;refine CX H ?_;refine XJ H ?_;replace H:=Js [4,0,0,0,0,0] 0 H;obtain⟨q,mem,hw,hm,H⟩:=Vv H;replace H:=Js [3,0,0,0,0,0,0,0,0,0,0,0,0,0,0,0] 0 H;refine EN H ?_;refine Jc rfl rfl (CB q.sp s'.size mem s'.own H) ?_;clear H;rintro v w ⟨rfl,H⟩;replace H:=Js [1,1,1,0,0,0,0,0,0,0,0,0,0,0,0,0] 0 H;replace H:=VR hw hm H;refine J0 H ?_;replace H:=Js [4,0,0,0,0,0] 0 H;have hsz:=hw.size;have hpos:s'.size > 0:=by omega
  have hmx:(if (1:Int) > ((s'.size:Nat):Int) then (1:Int) else ((s'.size:Nat):Int))=((s'.size:Nat):Int):=by split <;> omega
  have hnlt:YI s' B C < 100000:=by
   obtain⟨r,la,c',l,_,_,_,_,_,e1,e2,e3⟩:=FQ hw';rw[hn,e1,e2];show l.fixed+c'*l.record < _;omega
  refine J1 H ?_;clear H;intro w H;refine VP 0 [9,12] H rfl (Q8.none rfl) rfl (by repeat first|exact .nil _|apply QV.cons rfl) (by kernel_rfl) ?_;refine Zq 1 rfl (Q8.none rfl) rfl (by kernel_rfl) ?_;refine Sg 2 rfl (Q8.none rfl) rfl rfl (.inl rfl) (by kernel_rfl) ?_;rw[du,decide_eq_true (show (((0:Nat):Int),((0:Nat):Int))=((0:Int),(0:Int)) from rfl)];refine Ja 3 ?_;refine Us H ?_;rw[show decide ((s'.size:Int) > 0)=true from decide_eq_true (by omega)];refine Ja 6 ?_;refine Ja 7 ?_;refine Ja 8 ?_;refine Ja 10 ?_;refine Ja 11 ?_;refine Jw 9 12 H rfl rfl (V1 (a:=[]) (b:=[]) rfl rfl (call (Nw p c mo _ s' H) ?_)) (DO rfl rfl rfl ?_)
  ·clear H;rintro v w ⟨bb,rfl,hfr,H⟩
   have hlt:bb < YI s' B C / s'.size+1:=by
    refine Nat.lt_of_not_le fun hle=>?_;obtain⟨a0,ha,hz⟩:=hfr;obtain⟨i0,hi1,hi2,hi3⟩:=h2 a0 (by omega);exact hi3 (hz i0 hi1 (by omega))
   have hdl:YI s' B C / s'.size≤YI s' B C:=Nat.div_le_self _ _;refine Jo 12 H ?_;refine DO rfl rfl rfl ?_;rw[hmx]
   refine GC (v := .int .i64 ((YI s' B C / s'.size:Nat):Int)) 13 rfl (Q8.of rfl rfl rfl) (by
    show (if IntKind.i64=IntKind.i64 then (if ((s'.size:Nat):Int)=0 then none else some (Value.int IntKind.i64 (IntKind.i64.wrap (Int.tdiv ((YI s' B C:Nat):Int) ((s'.size:Nat):Int))))) else none)=_;rw[if_pos rfl,if_neg (by omega),Ri (by omega)]) (by kernel_rfl) ?_
   refine Ja 14 ?_;rw[Qc (by omega)];refine Ja 15 ?_;rw[show decide ((bb:Int) < ((YI s' B C / s'.size+1:Nat):Int))=true from decide_eq_true (by omega)];refine Ja 16 ?_;refine Ja 17 ?_;refine Jx H ?_;replace H:=Js [0,0,0,2] 2 H;exact Q3 (Jy H rfl fun w' H'=>⟨rfl,s',m,told,a,cap,R,⟨by omega,by omega,.inl ⟨rfl,rfl⟩,id,id,id⟩,H'⟩)
  ·rw[hmx];have hdl:YI s' B C / s'.size≤YI s' B C:=Nat.div_le_self _ _
   refine GC (v := .int .i64 ((YI s' B C / s'.size:Nat):Int)) 13 rfl (Q8.of rfl rfl rfl) (by
    show (if IntKind.i64=IntKind.i64 then (if ((s'.size:Nat):Int)=0 then none else some (Value.int IntKind.i64 (IntKind.i64.wrap (Int.tdiv ((YI s' B C:Nat):Int) ((s'.size:Nat):Int))))) else none)=_;rw[if_pos rfl,if_neg (by omega),Ri (by omega)]) (by kernel_rfl) ?_
   refine Ja 14 ?_;rw[Qc (by omega)];refine Jo 9 H ?_;refine Jk rfl rfl (Nw p c mo _ s' H) ?_;clear H;rintro v w ⟨bb,rfl,hfr,H⟩
   have hlt:bb < YI s' B C / s'.size+1:=by
    refine Nat.lt_of_not_le fun hle=>?_;obtain⟨a0,ha,hz⟩:=hfr;obtain⟨i0,hi1,hi2,hi3⟩:=h2 a0 (by omega);exact hi3 (hz i0 hi1 (by omega))
   refine Ja 15 ?_;rw[show decide ((bb:Int) < ((YI s' B C / s'.size+1:Nat):Int))=true from decide_eq_true (by omega)];refine Ja 16 ?_;refine Ja 17 ?_;refine Jx H ?_;replace H:=Js [0,0,0,2] 2 H;exact Q3 (Jy H rfl fun w' H'=>⟨rfl,s',m,told,a,cap,R,⟨by omega,by omega,.inl ⟨rfl,rfl⟩,id,id,id⟩,H'⟩)
 ·have hw':(Vr m A B C).2=0:=by rw[← hm1];exact h1
  rw[hw'];obtain⟨_,_,_,_,_,_,_,hmw,_⟩:=id (ZT H);obtain⟨hnew,R'⟩:=Nt R hmw hw' h2 h6 h7 h8 h10;have htl:told.length < 100000:=by rw[R.len];exact hfew
  refine AE H ?_;refine CX H ?_;refine CX H ?_;refine Y7 H ?_;replace H:=Js [3,0,0,0,0,0] 0 H;refine Yd H ?_;refine UN H ?_;replace H:=Js [5,2,2,0,1,0] 0 H;refine GL H ?_;refine Ql (fun ms σ w q=>ms=[]∧∃ j:Nat,j≤told.length∧q=told.length - j∧σ 0=pp p∧σ 3=pp b3∧σ 5=pp b5∧σ 102 = .slice a told.length cap∧σ 103 = .int .i64 told.length∧σ 104 = .int .i64 j∧Q0 w (VW (.slice a told.length cap) told::pts b5 (row 69 [.int .i64 (i':Nat),.int .i64 ((g0'+1:Nat):Int)])::pts b3 (row 93 [.int .i64 k,.int .i64 A,.int .i64 B,.int .i64 C,.int .u64 X,vW,.bool raw,.int .i64 i,.int .i64 g])::YQ p c mo (.slice a told.length cap)::QA c s'::Qs mo m::fr)) (m:=told.length) ⟨rfl,0,by omega,rfl,rfl,rfl,rfl,rfl,rfl,rfl,H⟩ ?_;clear H;rintro ms σ w q ⟨rfl,j,hj,rfl,g0,g3,g5,g102,g103,g104,H⟩;rw[Q1 g0,Q1 g3,Q1 g5,Q1 g102,Q1 g103,Q1 g104];refine J7 H ?_;refine Qk rfl (fun h=>QB ?_) (fun h=>Qq ?_)
  ·have hlt:j < told.length:=by omega
   have hn:=getElem?_eq_getElem hlt;generalize told[j]=xy at hn;obtain⟨x,y⟩:=xy;obtain⟨bT,sT,rfl,H,hcl⟩:=V5 H (by omega);refine YW H ?_;refine Jd ?_;refine Q5 rfl (VN H rfl (Ku hn) rfl ?_);refine VZ H ?_;clear H;intro b11 w H;refine J4 H ?_;clear H;intro w H;refine EM H ?_;refine J2 H ?_;replace H:=hcl _ _ H.drop;refine Qk (p:=((x:Int),(y:Int))=(((i':Nat):Int),((g0'+1:Nat):Int))) rfl (fun he=>?_) (fun he=>QB ?_)
   ·exfalso;injection he with e1 e2
    obtain rfl:x=i':=by omega
    obtain rfl:y=g0'+1:=by omega
    exact hnew j hn
   ·refine J5 H ?_;exact⟨_,⟨rfl,j+1,hlt,rfl,rfl,rfl,rfl,rfl,rfl,Qc (by omega),H⟩,by omega⟩
  ·replace H:=Js [5,0,0,0,0,0] 0 H;refine J1 H ?_;clear H;intro w H;refine Y3 H ?_;refine Jl 3 [10] H ?_;refine Jf 4 ?_;refine Jl 5 [10] H ?_;refine Jf 6 ?_;refine Jl 7 [10] H ?_;refine Jf 8 ?_;refine Jl 9 [10] H ?_;refine Jo 10 H ?_;refine Jk rfl rfl (cD mo m A B C hw' hfew H) ?_;clear H;rintro v w ⟨rfl,H⟩;refine Jx H ?_;replace H:=Js [1,1,2,0,0,0] 0 H;refine J1 H ?_;clear H;intro w H;refine RJ H ?_;refine Jl 4 [7,10] H ?_;refine HN H ?_;refine Jo 6 H ?_;refine WU H ?_;clear H;intro bS w H;replace H:=H.swap;refine Jo 7 H ?_;refine YO H rfl rfl (by repeat first|exact .nil _|apply QV.cons rfl) rfl (by decide) (by rw[Rv];simp only[length_cons,length_nil];omega) rfl rfl ?_;clear H;intro vS w H
   have e1:ZI told++[.int .i64 ((i':Nat):Int),.int .i64 ((g0'+1:Nat):Int)]=ZI (told++[(i',g0'+1)]):=by
    rw[Ik];rfl
   rw[e1] at H;obtain⟨aS,cS,rfl⟩:=QF H (m:=(told++[(i',g0'+1)]).length) (Rv _) (by decide);refine Ja 8 ?_;refine Jf 9 ?_;refine Jo 10 H ?_;refine UQ H ?_;clear H;intro w H;refine Bp H ?_;replace H:=Js [3,5,3,0] 3 H;refine Q3 (Jy H rfl fun w' H'=>⟨rfl,s',_,_,aS,cS,R',⟨?_,?_,.inr ⟨i',g0',rfl,h2,h4,?_⟩,fun hI=>OY hI h2 h6 h9 h10 rfl,fun hT=>by rw[h8];exact hT,h12⟩,H'⟩)
   ·show m.P.length≤_;omega
   ·show (m.objs++[_]).length≤_;simp
   ·rw[h10];unfold Vl;rw[map_set];rfl
theorem OX (s:CS) (i g p:Int) (x:Nat):Vl (Uf s i g p x).1.tab=Vl s.tab:=by
 cases hv:Qr s.tab i g with
 | none=>rw[Ca hv]
 | some q=>
  obtain⟨k,e⟩:=q;obtain⟨n,rfl,rfl,hk,_⟩:=ZH hv;rw[Cb hv];split
  ·rw[Int.toNat_natCast];exact Cs hk
  ·rfl
theorem dw (s:CS) (i g:Int):Vl (Ug s i g).1.tab=Vl s.tab:=by
 cases hv:Qr s.tab i g with
 | none=>rw[Cd hv]
 | some q=>
  obtain⟨k,e⟩:=q;obtain⟨n,rfl,rfl,hk,_⟩:=ZH hv;rw[Ce hv,Int.toNat_natCast];exact Cs hk
theorem dx (s:CS) (i g:Int) (on:Bool):Vl (Uh s i g on).1.tab=Vl s.tab:=by
 cases hv:Qr s.tab i g with
 | none=>rw[Cf hv]
 | some q=>
  obtain⟨k,e⟩:=q;obtain⟨n,rfl,rfl,hk,_⟩:=ZH hv;rw[Cg hv];split
  ·rfl
  ·rw[Int.toNat_natCast];exact Cs hk
theorem OK (s:CS) (i g p:Int) (l:Y4):Vl (Gk s i g p l).1.tab=Vl s.tab:=by
 cases hv:Qr s.tab i g with
 | none=>rw[Ci hv]
 | some q=>
  obtain⟨k,e⟩:=q;obtain⟨n,rfl,rfl,hk,_⟩:=ZH hv;rw[Wj hv];split
  ·rw[Int.toNat_natCast];exact Cs hk
  ·rfl
theorem OR (s:CS) (i g p u v:Int):Vl (Ys s i g p u v).1.tab=Vl s.tab:=by
 unfold Ys;split
 ·rfl
 ·split
  ·rfl
  ·exact OK s i g p _
theorem dy (s:CS) (i g p:Int):Vl (Zc s i g p).tab=Vl s.tab:=by
 unfold Zc;split
 ·rename_i a b _;cases hl:Qd s.tab a b with
  | none=>rw[Cj hl]
  | some q=>
   obtain⟨k,e⟩:=q;obtain⟨n,h1,h2,hk⟩:=Y8.1 hl;obtain rfl:b=n:=by omega
   rw[Ck hl];exact Cs hk
 ·rfl
theorem dz (s:CS) (ws:List Nat):Vl (Ui s ws).1.tab=Vl s.tab:=by
 cases hd:ZD ws with
 | none=>rw[Cl hd]
 | some l=>
  rw[B4 hd];split <;> rfl
theorem B6 (m:MS) (k:Nat) (x:QI):(Yr m k x).objs.length=m.objs.length:=length_set
theorem OW (m:MS) (o p:Int):(Ue m o p).1.objs.length=m.objs.length∧(Ue m o p).1.P=m.P:=by
 unfold Ue;split
 ·exact⟨rfl,rfl⟩
 ·split
  ·exact⟨B6 _ _ _,rfl⟩
  ·exact⟨rfl,rfl⟩
theorem OA (m:MS) (o p u:Int):(Yg m o p u).1.objs.length=m.objs.length∧(Yg m o p u).1.P=m.P:=by
 unfold Yg;split
 ·exact⟨rfl,rfl⟩
 ·split
  ·split
   ·exact⟨rfl,rfl⟩
   ·exact⟨B6 _ _ _,rfl⟩
  ·exact⟨rfl,rfl⟩
theorem OB (m:MS) (o:Int):(Gh m o).1.objs.length=m.objs.length∧(Gh m o).1.P=m.P:=by
 unfold Gh;split
 ·exact⟨rfl,rfl⟩
 ·exact⟨B6 _ _ _,rfl⟩
theorem OD (m:MS) (o:Int) (on:Bool):(Gi m o on).1.objs.length=m.objs.length∧(Gi m o on).1.P=m.P:=by
 unfold Gi;split
 ·exact⟨rfl,rfl⟩
 ·split
  ·exact⟨rfl,rfl⟩
  ·exact⟨B6 _ _ _,rfl⟩
theorem e9 (m:MS) (t:Nat):(K6 m t).objs.length=m.objs.length∧(K6 m t).P=m.P:=by
 unfold K6;split
 ·exact⟨B6 _ _ _,rfl⟩
 ·exact⟨rfl,rfl⟩
theorem OE (m:MS) (o p:Int):(YE m o p).1.objs.length=m.objs.length∧(YE m o p).1.P=m.P:=by
 unfold YE;split
 ·exact⟨rfl,rfl⟩
 ·split
  ·show (if _ then _ else _:MS).objs.length=_∧(if _ then _ else _:MS).P=_;split
   ·exact e9 m _
   ·exact⟨rfl,rfl⟩
  ·exact⟨rfl,rfl⟩
theorem eQ (m:MS) (o p:Int) (X:Nat):(Kt m o p X).objs.length=m.objs.length∧(Kt m o p X).P=m.P:=by
 unfold Kt;split
 ·exact⟨rfl,rfl⟩
 ·split
  ·exact⟨B6 _ _ _,rfl⟩
  ·exact⟨rfl,rfl⟩
theorem OF (m:MS) (ws:List Nat):(Za m ws).1.objs=m.objs∧(Za m ws).1.P=m.P:=by
 unfold Za;split
 ·exact⟨rfl,rfl⟩
 ·split <;> exact⟨rfl,rfl⟩
theorem OH (s:CS) (i g p:Int) (x:Nat):Y5 s (Uf s i g p x).1:=by
 cases hv:Qr s.tab i g with
 | none=>rw[Ca hv];exact Y5.refl s
 | some q=>
  obtain⟨k,e⟩:=q;obtain⟨n,rfl,rfl,hk,_⟩:=ZH hv;rw[Cb hv];split
  ·rw[Int.toNat_natCast];exact Y5.set (e':={ e with ws:=e.ws.set p.toNat x }) hk ⟨rfl,rfl,length_set⟩ s.rem
  ·exact Y5.refl s
theorem eV (s:CS) (i g:Int):Y5 s (Ug s i g).1:=by
 cases hv:Qr s.tab i g with
 | none=>rw[Cd hv];exact Y5.refl s
 | some q=>
  obtain⟨k,e⟩:=q;obtain⟨n,rfl,rfl,hk,_⟩:=ZH hv;rw[Ce hv,Int.toNat_natCast];exact Y5.set (e':={ e with held:=false }) hk ⟨rfl,rfl,rfl⟩ s.rem
theorem eY (s:CS) (i g:Int) (on:Bool):Y5 s (Uh s i g on).1:=by
 cases hv:Qr s.tab i g with
 | none=>rw[Cf hv];exact Y5.refl s
 | some q=>
  obtain⟨k,e⟩:=q;obtain⟨n,rfl,rfl,hk,_⟩:=ZH hv;rw[Cg hv];split
  ·exact Y5.refl s
  ·rw[Int.toNat_natCast];exact Y5.set (e':={ e with pinned:=on }) hk ⟨rfl,rfl,rfl⟩ s.rem
theorem OI (s:CS) (i g p:Int) (l:Y4):Y5 s (Gk s i g p l).1:=by
 cases hv:Qr s.tab i g with
 | none=>rw[Ci hv];exact Y5.refl s
 | some q=>
  obtain⟨k,e⟩:=q;obtain⟨n,rfl,rfl,hk,_⟩:=ZH hv;rw[Wj hv];split
  ·rw[Int.toNat_natCast];exact Y5.set (e':={ e with ws:=e.ws.set p.toNat (VK l) }) hk ⟨rfl,rfl,length_set⟩ _
  ·exact Y5.refl s
theorem eZ (s:CS) (i g p u v:Int):Y5 s (Ys s i g p u v).1:=by
 unfold Ys;split
 ·exact Y5.refl s
 ·split
  ·exact Y5.refl s
  ·exact OI s i g p _
theorem eG (s:CS) (i g p:Int):Y5 s (Zc s i g p):=by
 unfold Zc;split
 ·rename_i a b _;cases hl:Qd s.tab a b with
  | none=>rw[Cj hl];exact Y5.refl s
  | some q=>
   obtain⟨k,e⟩:=q;obtain⟨n,h1,h2,hk⟩:=Y8.1 hl;obtain rfl:b=n:=by omega
   rw[Ck hl];exact Y5.set (e':={ e with held:=true }) hk ⟨rfl,rfl,rfl⟩ s.rem
 ·exact Y5.refl s
theorem OJ (s:CS) (ws:List Nat):Y5 s (Ui s ws).1:=by
 cases hd:ZD ws with
 | none=>rw[Cl hd];exact Y5.refl s
 | some l=>
  rw[B4 hd];split
  ·exact Y5.refl s
  ·exact⟨rfl,rfl,rfl,fun k g e h=>⟨e,h,rfl,rfl,rfl⟩⟩
theorem eU (s:CS) (q:Int) (b b2:Nat) (hP:Y1 s):Y1 (Wk s q b b2):=fun k g e hk=>by
 obtain⟨x,x1,x2,x3⟩:=hP k g e hk;exact⟨x,mem_append.2 (.inl x1),x2,x3⟩
theorem UR {s s':CS} {m m':MS} {told:List (Nat×Nat)} (h1:m'.objs.length=m.objs.length) (h2:m'.P=m.P) (h3:Vl s'.tab=Vl s.tab) (h4:Inv s→Inv s':=by exact id) (h5:Y5 s s':=by exact Y5.refl _):Ct s m told s' m' told:=⟨by rw[h2];omega,by omega,.inl ⟨rfl,h3⟩,h4,fun h=>by rw[h5.par];exact h,h5.part⟩
theorem Gm (x:Int):(x == x)=true:=beq_self_eq_true x
theorem eX [Q4] (p:Nat) (s:CS) (m:MS) (told:List (Nat×Nat)) (R:Rel s m told) (hfew:m.objs.length < 100000) (hP:m.P.length < 100000) (k A B C i g:Int) (X:Nat) (hX:X < 18446744073709551616) (vW:Value) (ws:List Nat) (hws:∀ x∈ws,x < 18446744073709551616) (raw:Bool)
  {w:World} {fr:List Q2} [hT:YX 0 Lib.deBruijn64tab fr] (hrW:Vu fr vW ws.length 1 (Qa ws)) (H:Q0 w (GU p s m told::fr)) :
  Calls Tryz.prog 100 #[pp p,.agg #[.int .i64 k,.int .i64 A,.int .i64 B,.int .i64 C,.int .u64 X,vW,.bool raw,.int .i64 i,.int .i64 g]] w (ret fun v w'=>v = .bool true∧∃ s' m' told',Rel s' m' told'∧Ct s m told s' m' told'∧Q0 w' (GU p s' m' told'::fr)):=by
 obtain⟨_,adW,capW,rfl,_⟩:=id hrW;obtain⟨c,mo,a,cap,H⟩:=Co H;have hlen:told.length≤1000000:=by rw[R.len];omega
 obtain⟨_,_,hw,_,_⟩:=Vv H.swap;obtain⟨_,_,_,_,_,_,_,hmw,_⟩:=ZT (H.sel [2,0,0,0] 0);refine Q9 Tryz.func100 rfl (by kernel_rfl) ?_;refine J8 H ?_;clear H;intro b3 w H;refine YZ H ?_;refine Qo (fun ms σ w=>ms=[]∧∃ (b5:Nat) (i' g' o:Int),U1 told i' g' o∧σ 0=pp p∧σ 3=pp b3∧σ 5=pp b5∧σ 6 = .int .i64 o∧Q0 w (pts b5 (row 69 [.int .i64 i',.int .i64 g'])::pts b3 (row 93 [.int .i64 k,.int .i64 A,.int .i64 B,.int .i64 C,.int .u64 X,.slice adW ws.length capW,.bool raw,.int .i64 i,.int .i64 g])::YQ p c mo (.slice a told.length cap)::QA c s::Qs mo m::VW (.slice a told.length cap) told::fr)) ?_ ?_
 ·replace H:=Js [1,3,0,0,0] 0 H;refine EP H ?_;refine ZB H ?_;refine Ea H ?_;refine Jc rfl rfl (Nu p c mo a cap told hlen A i g raw H) ?_;clear H;rintro v w ⟨i',g',o,rfl,hp,_,_,H⟩;refine Vj H ?_;clear H;intro b5 w H;refine J4 H ?_;clear H;intro w H;refine J0 H ?_;replace H:=Js [0,2,0,1,1,0] 0 H;exact⟨rfl,rfl,_,i',g',o,hp,rfl,rfl,rfl,rfl,H⟩
 clear H;rintro ms σ w ⟨rfl,b5,i',g',o,hPk,g0,g3,g5,g6,H⟩;rw[Q1 g0,Q1 g3,Q1 g5,Q1 g6];refine AB H ?_;refine J2 H ?_;refine KT H ?_;by_cases hk0:k=0
 ·subst hk0;refine VM H ?_;replace H:=Js [3,0,0,0,0,0] 0 H;refine J1 H ?_;clear H;intro w H;refine Xx H ?_;refine Jk rfl rfl (Nh c s _ ws hws hrW.there.there.there.there.there H) ?_;clear H;rintro v w ⟨rfl,H⟩;obtain⟨hd,R'⟩:=Ns R hmw ws;rw[hd];refine UJ H ?_;replace H:=Js [4,0,0,0,0,0] 0 H;refine J1 H ?_;clear H;intro w H;refine Xx H ?_;refine Jk rfl rfl (cC mo m _ ws hws hrW.there.there.there.there.there H) ?_;clear H;rintro v w ⟨rfl,H⟩;refine UJ H ?_;refine Vq H ?_;rw[Gm (((Za m ws).2.1:Nat):Int)];refine WJ H ?_;rw[Gm (((Za m ws).2.2:Nat):Int)];refine J3 H ?_;replace H:=Js [4,1,0,2] 2 H;exact Q3 (Jy H rfl fun w' H'=>⟨rfl,_,_,_,R',⟨by rw[(OF m ws).2];omega,by rw[(OF m ws).1];omega,.inl ⟨rfl,dz s ws⟩,fun hI=>dq hw hI ws,fun hT=>by rw[(OJ s ws).par];exact hT,(OJ s ws).part⟩,YK H'⟩)
 rw[show (k == 0)=false by simpa using hk0];refine Zk H ?_;by_cases hk1:k=1
 ·subst hk1;refine VM H ?_;have hl:=R.last;have he:=dO R hw A;replace H:=Js [3,0,0,0,0,0] 0 H;refine J1 H ?_;clear H;intro w H;refine Xx H ?_;refine Jk rfl rfl (Ia c s A (by omega) H) ?_;clear H;rintro v w (⟨h1,rfl,H⟩|⟨h1,b,b2,rfl,H⟩)
  ·rw[he] at h1 ⊢;have ho:Xb m A=(m,0,ZV m.P A):=by unfold Xb;rw[if_neg h1]
   refine UJ H ?_;replace H:=Js [4,0,0,0,0,0] 0 H;refine J1 H ?_;clear H;intro w H;refine Xx H ?_;refine Jk rfl rfl (NJ mo m A hP H) ?_;clear H;rintro v w ⟨rfl,H⟩;rw[ho] at H ⊢;refine Eb H ?_;refine XD H ?_;rw[Gm ((ZV m.P A:Nat):Int)];refine J3 H ?_;replace H:=Js [4,1,0,2] 2 H;exact Q3 (Jy H rfl fun w' H'=>⟨rfl,_,_,_,R,UR rfl rfl rfl,YK H'⟩)
  ·rw[he] at h1;have ho:Xb m A=({ m with P:=m.P++[A] },m.P.length,0):=by unfold Xb;rw[if_pos h1]
   refine UJ H ?_;replace H:=Js [4,0,0,0,0,0] 0 H;refine J1 H ?_;clear H;intro w H;refine Xx H ?_;refine Jk rfl rfl (NJ mo m A hP H) ?_;clear H;rintro v w ⟨rfl,H⟩;rw[ho] at H ⊢;rw[hl];refine UJ H ?_;refine Vq H ?_;rw[Gm ((m.P.length:Nat):Int)];refine WJ H ?_;refine J3 H ?_;replace H:=Js [4,1,0,2] 2 H;exact Q3 (Jy H rfl fun w' H'=>⟨rfl,_,_,_,Ig R h1 b b2,⟨by show (m.P++[A]).length≤_;simp,by show m.objs.length≤_;omega,.inl ⟨rfl,rfl⟩,fun hI=>dr hI A b b2,fun hT=>dt hT (he.trans h1) hw.par.2.2,eU s A b b2⟩,YK H'⟩)
 rw[show (k == 1)=false by simpa using hk1];refine Zk H ?_;by_cases hk2:k=2
 ·subst hk2;refine VM H ?_;refine Gv H ?_;replace H:=Js [2,2,2,2,0,0] 0 H;refine Jc rfl rfl (dv p c mo a cap s m told R hfew _ A B C _ i g .i64 _ raw rfl H) ?_;clear H;rintro v w ⟨rfl,s',m',told',a',cap',R',S',H⟩;refine J0 H ?_;replace H:=Js [0,0,0,0] 2 H;exact Q3 (Jy H rfl fun w' H'=>⟨rfl,s',m',told',R',S',YK H'⟩)
 rw[show (k == 2)=false by simpa using hk2];refine Zk H ?_;by_cases hk3:k=3
 ·subst hk3;refine VM H ?_;replace H:=Js [3,0,0,0,0,0] 0 H;refine J1 H ?_;clear H;intro w H;refine Ja 0 ?_;refine Ja 1 ?_;refine Jf 2 ?_;refine Jl 3 [7] H ?_;refine VP 4 [7] H rfl (Q8.none rfl) rfl (by repeat first|exact .nil _|apply QV.cons rfl) (by kernel_rfl) ?_;refine Jf 5 ?_;refine Jl 6 [7] H ?_;refine Jo 7 H ?_;refine Jk rfl rfl (cd c s i' g' B H) ?_;clear H;rintro v w ⟨rfl,H⟩
  rcases dD R hPk B with ⟨h0,h1⟩|⟨h0,n,j,x,rfl,rfl,hx,hj,h1⟩
  ·rw[h1];refine Aj H ?_;replace H:=Js [4,0,0,0,0,0] 0 H;refine J1 H ?_;clear H;intro w H;refine CK H ?_;refine Jk rfl rfl (Rt mo m o B false H) ?_;clear H;rintro v w ⟨rfl,H⟩;refine XM H ?_;refine J5 H ?_;rw[show (((VI m o B false:Nat):Int) != 0)=true by rw[bne_iff_ne];omega];refine ET H ?_;rw[Gm ((VI m o B false:Nat):Int)];refine Uu H ?_;refine J3 H ?_;replace H:=Js [4,1,0,2] 2 H;exact Q3 (Jy H rfl fun w' H'=>⟨rfl,s,m,told,R,UR rfl rfl rfl,YK H'⟩)
  ·rw[h1];have hnl:=(List.getElem?_eq_some_iff.1 hx).1;have hjx:=getElem?_eq_getElem hj;have hjd:x.w.getD j 0=x.w[j]:=by rw[getD_eq_getElem?_getD,hjx];rfl
   have hsm:=Rs (w:=hmw) hx;rw[hjd];generalize x.w[j]=y at hjx;refine Aj H ?_;replace H:=Js [4,0,0,0,0,0] 0 H;refine J1 H ?_;clear H;intro w H;refine CK H ?_;refine Jk rfl rfl (Rt mo m n j false H) ?_;clear H;rintro v w ⟨rfl,H⟩;rw[h0];refine XM H ?_;refine U8 H ?_;obtain⟨t,lc,aL,cL,bO,cO,sO,ptrs,q,vw,vk,vt,rest,hm,h2,hp,H,hclose⟩:=Gg H hx;have hm':=Rr hx hm;obtain⟨aw,cw,rfl⟩:=QF H.drop (Z4 _) (by decide);obtain⟨bW,sW,rfl,H,hcw⟩:=V5 H.swap (by omega);refine J1 H ?_;clear H;intro w H;refine Ec H ?_;refine EV H ?_;refine Ja 8 ?_;refine Jf 9 ?_;refine Jl 10 [] H ?_;refine Ja 11 ?_;refine Ji 12 ?_;refine Vm 13 [] H rfl (Q8.of rfl rfl rfl) rfl hp (by kernel_rfl) ?_;refine Ja 14 ?_;refine Jf 15 ?_;refine Jl 16 [] H ?_;refine Jf 17 ?_;refine Jl 18 [] H ?_;refine Ji 19 ?_;refine Vm 20 [] H rfl (Q8.of rfl rfl rfl) rfl (Hf hjx) (by kernel_rfl) ?_;refine Ja 21 ?_;rw[Gm (y:Int)];refine Ja 22 ?_;refine Ja 23 ?_;refine Jx H ?_;replace H:=UX hx (hclose _ _ _ hm' (hcw _ _ H).swap);replace H:=Js [4,1,0,2] 2 H;exact Q3 (Jy H rfl fun w' H'=>⟨rfl,s,m,told,R,UR rfl rfl rfl,YK H'⟩)
 rw[show (k == 3)=false by simpa using hk3];refine Zk H ?_;by_cases hk4:k=4
 ·subst hk4;refine VM H ?_;replace H:=Js [3,0,0,0,0,0] 0 H;refine J1 H ?_;clear H;intro w H;refine Y3 H ?_;refine Jl 3 [9,17] H ?_;refine VP 4 [9,17] H rfl (Q8.none rfl) rfl (by repeat first|exact .nil _|apply QV.cons rfl) (by kernel_rfl) ?_;refine Jf 5 ?_;refine Jl 6 [9,17] H ?_;refine Jf 7 ?_;refine Jl 8 [9,17] H ?_;refine Ed H ?_;refine Jl 13 [17] H ?_;refine Ja 14 ?_;refine Jf 15 ?_;refine Jl 16 [17] H ?_;obtain⟨hd,R'⟩:=dE R hPk B X;refine Jo 9 H ?_;refine Jk rfl rfl (cj c s i' g' B X hX H) ?_;clear H;rintro v w ⟨rfl,H⟩;rw[hd];replace H:=Js [4,0,0,0,0,0] 0 H;refine Jo 17 H ?_;refine Jk rfl rfl (Rt mo m o B false H) ?_;clear H;rintro v w ⟨rfl,H⟩;refine Ja 18 ?_;refine Ja 19 ?_;refine Jx H ?_;refine J5 H ?_;have hob:=eQ m o B X;by_cases h0:VI m o B false=0
  ·obtain⟨n,x,hv⟩:∃ n x,V7 m o=some (n,x):=by
    cases hv:V7 m o with
    | none=>rw[Xa hv] at h0;cases h0
    | some kx=>exact⟨kx.1,kx.2,rfl⟩
   have h0':=h0;rw[Ud hv] at h0';rw[Ic hv,if_pos h0'] at R' hob;obtain⟨rfl,hx,hh,hg⟩:=K5 hv;obtain⟨j,rfl,hj,hr⟩:=Zm h0';rw[Int.toNat_natCast] at R' hob;rw[h0];have hnl:=(List.getElem?_eq_some_iff.1 hx).1;have hsm:=Rs (w:=hmw) hx;refine VM H ?_;obtain⟨t,lc,aL,cL,bO,cO,sO,ptrs,q,vw,vk,vt,rest,hm,h2,hp,H,hclose⟩:=Gg H hx;obtain⟨aw,cw,rfl⟩:=QF H.drop (Z4 _) (by decide);obtain⟨bW,sW,rfl,H,_,_,hcw⟩:=Z3 H.swap (by omega);have hmx:=hm.objs x (mem_of_getElem? hx)
   have hm':VY (Yr m n { x with w:=x.w.set j X }):=Wh hm (by
    obtain⟨a1,a2,a3,a4,a5⟩:=hmx;exact⟨by show ∃ l,_∧_∧VG l _=((x.w.set j X).length,0);rw[length_set];exact a1,a2,by show _=(x.w.set j X).length;rw[length_set];exact a3,by show _=(x.w.set j X).length;rw[length_set];exact a4,a5⟩)
   refine J1 H ?_;clear H;intro w H;refine Y3 H ?_;refine Jl 3 [18] H ?_;refine Ja 4 ?_;refine Jf 5 ?_;refine Jl 6 [18] H ?_;refine Ja 7 ?_;refine Ji 8 ?_;refine Vm 9 [18] H rfl (Q8.none rfl) rfl hp (by kernel_rfl) ?_;refine Ja 10 ?_;refine Jf 11 ?_;refine Jl 12 [18] H ?_;refine Jf 13 ?_;refine Jl 14 [18] H ?_;refine Jf 15 ?_;refine Jl 16 [18] H ?_;refine Ji 17 ?_;refine Jo 18 H ?_;refine Yj H rfl rfl inferInstance rfl (by simp only[length_append,Z4];omega) rfl ?_;clear H;intro w H;rw[Int.toNat_natCast,Mo (by omega)] at H;refine Jx H ?_;refine WM H ?_;replace H:=hcw _ _ (Qa (x.w.set j X)) (by simp[Qa]) H;replace H:=hclose _ _ { x with w:=x.w.set j X } hm' H.swap;replace H:=Js [4,1,0,2] 2 H;exact Q3 (Jy H rfl fun w' H'=>⟨rfl,_,_,_,R',UR hob.1 hob.2 (OX s i' g' j X) (fun hI=>O9 hI i' g' j X) (OH s i' g' j X),YK H'⟩)
  ·rw[show (((VI m o B false:Nat):Int) == 0)=false by simpa using h0]
   have hsw:Kt m o B X=m:=by
    cases hv:V7 m o with
    | none=>rw[Nm hv]
    | some kx=>
     obtain⟨n,x⟩:=kx;rw[Ud hv] at h0;rw[Ic hv,if_neg h0]
   rw[hsw] at R';refine V6 H ?_;refine Vq H ?_;rw[Gm ((VI m o B false:Nat):Int)];refine J0 H ?_;replace H:=Js [4,1,0,2] 2 H;exact Q3 (Jy H rfl fun w' H'=>⟨rfl,_,_,_,R',UR rfl rfl (OX s i' g' B X) (fun hI=>O9 hI i' g' B X) (OH s i' g' B X),YK H'⟩)
 rw[show (k == 4)=false by simpa using hk4];refine Zk H ?_;by_cases hk5:k=5
 ·subst hk5;refine VM H ?_;replace H:=Js [3,0,0,0,0,0] 0 H;obtain⟨hd,hln,hk2,hlt,R'⟩:=dM R hmw hPk B;obtain⟨l1,l2,l3,hlk⟩:=Gy (Y9 s i' g' B).1;have hRf:=fun (w:World) (fr:List Q2) (H:Q0 w (QA c s::fr))=>d6 c s i' g' B H;rw[hlk,hd] at hRf;rw[hln] at hlk;refine J6 H ?_;refine Qo (fun ms σ w=>ms=[]∧∃ b20,σ 0=pp p∧σ 3=pp b3∧σ 6 = .int .i64 o∧σ 20=pp b20∧σ 21 = .int .i64 ((YE m o B).2.2.2:Nat)∧Q0 w (pts b20 (row 88 [.int .i64 l1,.int .i64 l2,.int .i64 l3])::pts b3 (row 93 [.int .i64 5,.int .i64 A,.int .i64 B,.int .i64 C,.int .u64 X,.slice adW ws.length capW,.bool raw,.int .i64 i,.int .i64 g])::YQ p c mo (.slice a told.length cap)::QA c (Zc s i' g' B)::Qs mo m::VW (.slice a told.length cap) told::fr)) ?_ ?_
  ·refine J1 H ?_;clear H;intro w H;refine Y3 H ?_;refine Jl 3 [7,12] H ?_;refine Hd H ?_;refine Jf 5 ?_;refine Jl 6 [7,12] H ?_;refine Jw 7 11 H rfl rfl (V1 (a:=[]) (b:=[]) rfl rfl (call (hRf _ _ H) ?_)) (Vo H rfl ?_)
   ·clear H;rintro v w ⟨rfl,H⟩;refine Rc H ?_;refine Af H ?_;clear H;intro b20 w H;refine Uz H ?_;clear H;intro w H;refine RM H ?_;replace H:=Js [0,2,2,0,1,1] 1 H;exact⟨rfl,rfl,b20,rfl,rfl,rfl,rfl,rfl,H⟩
   ·clear H;intro b20 w H;refine Jo 7 H ?_;refine Jk rfl rfl (hRf _ _ H.swap) ?_;clear H;rintro v w ⟨rfl,H⟩;refine Rc H ?_;refine Uz H ?_;clear H;intro w H;refine RM H ?_;replace H:=Js [1,2,2,0,1,1] 1 H;exact⟨rfl,rfl,b20,rfl,rfl,rfl,rfl,rfl,H⟩
  clear H;rintro ms σ w ⟨rfl,b20,g0,g3,g6,g20,g21,H⟩;rw[Q1 g0,Q1 g3,Q1 g6,Q1 g20,Q1 g21];replace H:=Js [4,0,0,0,0,0] 0 H;refine J1 H ?_;clear H;intro w H;refine CK H ?_;refine Jk rfl rfl (cR mo m o B H) ?_;clear H;rintro v w ⟨rfl,H⟩;refine Ja 8 ?_;refine Ja 9 ?_;refine HM H ?_;refine Ja 14 ?_;refine Jx H ?_;refine Vq H ?_;rw[Gm (((YE m o B).2.2.2:Nat):Int)];replace H:=Js [3,4,1,1,1,0] 0 H;refine AQ H ?_;refine WZ H ?_;refine Zr H ?_;have hlink:=fun (w:World) (fr:List Q2) (H:Q0 w (YQ p c mo (.slice a told.length cap)::VW (.slice a told.length cap) told::fr))=>Nv p c mo a cap told (YE m o B).2.1 (YE m o B).2.2.1 hk2 hlt H;rw[hlk] at hlink;refine QT rfl rfl rfl (V1 (a:=[]) (b:=[]) rfl rfl (call (hlink _ _ H) ?_));clear H;rintro v w ⟨rfl,H⟩;refine J3 H ?_;replace H:=Js [0,3,3,0] 2 H;exact Q3 (Jy H rfl fun w' H'=>⟨rfl,_,_,_,R',UR (OE m o B).1 (OE m o B).2 (dy s i' g' B) (fun hI=>dn hI i' g' B) (eG s i' g' B),YK H'⟩)
 rw[show (k == 5)=false by simpa using hk5];refine Zk H ?_;by_cases hk6:k=6
 ·subst hk6;refine VM H ?_;replace H:=Js [2,4,0,0,0,0] 0 H;refine EP H ?_;refine Ea H ?_;refine Jc rfl rfl (Nu p c mo a cap told hlen C i g false H) ?_;clear H;rintro v w ⟨u',v',q,rfl,hQ,_,_,H⟩;refine Vj H ?_;clear H;intro b25 w H;refine J4 H ?_;clear H;intro w H;refine J0 H ?_;replace H:=Js [5,0,0,0,0,0,0] 0 H;refine J1 H ?_;clear H;intro w H;refine Y3 H ?_;refine Jl 3 [8,17] H ?_;refine VP 4 [8,17] H rfl (Q8.none rfl) rfl (by repeat first|exact .nil _|apply QV.cons rfl) (by kernel_rfl) ?_;refine Jf 5 ?_;refine Jl 6 [8,17] H ?_;refine VP 7 [8,17] H rfl (Q8.none rfl) rfl (by repeat first|exact .nil _|apply QV.cons rfl) (by kernel_rfl) ?_;refine Bo H ?_;refine Jl 12 [17] H ?_;refine Ja 13 ?_;refine Jf 14 ?_;refine Jl 15 [17] H ?_;refine Ja 16 ?_;obtain⟨hd,R'⟩:=Nq R hw hmw hPk hQ B;refine Jo 8 H ?_;refine Jk rfl rfl (Ng c s i' g' B u' v' H) ?_;clear H;rintro v w ⟨rfl,H⟩;rw[hd];replace H:=Js [6,0,0,0,0,0,0] 0 H;refine Jo 17 H ?_;refine Jk rfl rfl (cK mo m o B q H) ?_;clear H;rintro v w ⟨rfl,H⟩;refine Ja 18 ?_;rw[Gm (((Yg m o B q).2:Nat):Int)];refine Ja 19 ?_;refine Jx H ?_;replace H:=Js [3,1,0,1] 3 H;exact Q3 (Jy H rfl fun w' H'=>⟨rfl,_,_,_,R',UR (OA m o B q).1 (OA m o B q).2 (OR s i' g' B u' v') (fun hI=>OV hw hI i' g' B u' v') (eZ s i' g' B u' v'),YK H'⟩)
 rw[show (k == 6)=false by simpa using hk6];refine Zk H ?_;by_cases hk7:k=7
 ·subst hk7;refine VM H ?_;replace H:=Js [3,0,0,0,0,0] 0 H;refine J1 H ?_;clear H;intro w H;refine Y3 H ?_;refine Jl 3 [7,15] H ?_;refine VP 4 [7,15] H rfl (Q8.none rfl) rfl (by repeat first|exact .nil _|apply QV.cons rfl) (by kernel_rfl) ?_;refine Jf 5 ?_;refine Jl 6 [7,15] H ?_;refine EO H ?_;refine Jl 11 [15] H ?_;refine Ja 12 ?_;refine Jf 13 ?_;refine Jl 14 [15] H ?_;obtain⟨hd,R'⟩:=dL R hmw hPk B;refine Jo 7 H ?_;refine Jk rfl rfl (d5 c s i' g' B H) ?_;clear H;rintro v w ⟨rfl,H⟩;rw[hd];replace H:=Js [4,0,0,0,0,0] 0 H;refine Jo 15 H ?_;refine Jk rfl rfl (cX mo m o B H) ?_;clear H;rintro v w ⟨rfl,H⟩;refine Ja 16 ?_;rw[Gm (((Ue m o B).2:Nat):Int)];refine Ja 17 ?_;refine Jx H ?_;replace H:=Js [4,1,0,2] 2 H;exact Q3 (Jy H rfl fun w' H'=>⟨rfl,_,_,_,R',UR (OW m o B).1 (OW m o B).2 (OK s i' g' B .none) (fun hI=>OQ hI i' g' B trivial fun a b h=>by cases h) (OI s i' g' B .none),YK H'⟩)
 rw[show (k == 7)=false by simpa using hk7];refine Zk H ?_;by_cases hk8:k=8
 ·subst hk8;refine VM H ?_;replace H:=Js [3,0,0,0,0,0] 0 H;refine J1 H ?_;clear H;intro w H;refine Y3 H ?_;refine Jl 3 [5,11] H ?_;refine VP 4 [5,11] H rfl (Q8.none rfl) rfl (by repeat first|exact .nil _|apply QV.cons rfl) (by kernel_rfl) ?_;refine Ad H ?_;refine Jl 9 [11] H ?_;refine Ja 10 ?_;obtain⟨hd,R'⟩:=dH R hPk;refine Jo 5 H ?_;refine Jk rfl rfl (cm c s i' g' H) ?_;clear H;rintro v w ⟨rfl,H⟩;rw[hd];replace H:=Js [4,0,0,0,0,0] 0 H;refine Jo 11 H ?_;refine Jk rfl rfl (cZ mo m o H) ?_;clear H;rintro v w ⟨rfl,H⟩;refine Ja 12 ?_;rw[Gm (((Gh m o).2:Nat):Int)];refine RM H ?_;replace H:=Js [4,1,0,2] 2 H;exact Q3 (Jy H rfl fun w' H'=>⟨rfl,_,_,_,R',UR (OB m o).1 (OB m o).2 (dw s i' g') (fun hI=>dl hI i' g') (eV s i' g'),YK H'⟩)
 rw[show (k == 8)=false by simpa using hk8];refine Zk H ?_;by_cases hk9:k=9
 ·subst hk9;refine VM H ?_;replace H:=Js [3,0,0,0,0,0] 0 H;refine J1 H ?_;clear H;intro w H;refine Y3 H ?_;refine Jl 3 [9,19] H ?_;refine VP 4 [9,19] H rfl (Q8.none rfl) rfl (by repeat first|exact .nil _|apply QV.cons rfl) (by kernel_rfl) ?_;refine Jf 5 ?_;refine Jl 6 [9,19] H ?_;refine Ja 7 ?_;refine Ja 8 ?_;refine Ed H ?_;refine Jl 13 [19] H ?_;refine Ja 14 ?_;refine Jf 15 ?_;refine Jl 16 [19] H ?_;refine Ja 17 ?_;refine Ja 18 ?_;generalize hon:(YN .and .u64 (X:Int) 1 == 1)=on;obtain⟨hd,R'⟩:=dI R hPk on;refine Jo 9 H ?_;refine Jk rfl rfl (cn c s i' g' on H) ?_;clear H;rintro v w ⟨rfl,H⟩;rw[hd];replace H:=Js [4,0,0,0,0,0] 0 H;refine Jo 19 H ?_;refine Jk rfl rfl (cG mo m o on H) ?_;clear H;rintro v w ⟨rfl,H⟩;refine Ja 20 ?_;rw[Gm (((Gi m o on).2:Nat):Int)];refine Ja 21 ?_;refine Jx H ?_;replace H:=Js [4,1,0,2] 2 H;exact Q3 (Jy H rfl fun w' H'=>⟨rfl,_,_,_,R',UR (OD m o on).1 (OD m o on).2 (dx s i' g' on) (fun hI=>dm hI i' g' on) (eY s i' g' on),YK H'⟩)
 rw[show (k == 9)=false by simpa using hk9];refine Zk H ?_;by_cases hk10:k=10
 ·subst hk10;refine VM H ?_;refine Gv H ?_;refine Jv ?_;replace H:=Js [2,2,2,2,0,0] 0 H;refine Jc rfl rfl (dc p c mo _ s m told R.w i' g' o (K7 R hPk) H) ?_;clear H;rintro v w ⟨rfl,H⟩;refine J0 H ?_;replace H:=Js [0,0,0,0] 2 H;exact Q3 (Jy H rfl fun w' H'=>⟨rfl,s,m,told,R,UR rfl rfl rfl,YK H'⟩)
 rw[show (k == 10)=false by simpa using hk10];refine Zk H ?_;by_cases hk11:k=11
 ·subst hk11;refine VM H ?_;replace H:=Js [3,0,0,0,0,0] 0 H;have hLk:=fun (w:World) (fr:List Q2) (H:Q0 w (QA c s::fr))=>FU c s i' g' B H
  rcases Ie R hPk B with ⟨h0,h1⟩|⟨h0,n,j,x,rfl,rfl,hx,hv,hj,hr,hk2,h1⟩
  ·rw[h1] at hLk;obtain⟨l1,l2,l3,hlk⟩:=Gy .none;rw[hlk] at hLk;refine J6 H ?_;refine Qo (fun ms σ w=>ms=[]∧∃ b27,σ 0=pp p∧σ 3=pp b3∧σ 6 = .int .i64 o∧σ 27=pp b27∧σ 28 = .int .i64 (VI m o B true:Nat)∧Q0 w (pts b27 (row 88 [.int .i64 l1,.int .i64 l2,.int .i64 l3])::pts b3 (row 93 [.int .i64 11,.int .i64 A,.int .i64 B,.int .i64 C,.int .u64 X,.slice adW ws.length capW,.bool raw,.int .i64 i,.int .i64 g])::YQ p c mo (.slice a told.length cap)::QA c s::Qs mo m::VW (.slice a told.length cap) told::fr)) ?_ ?_
   ·refine J1 H ?_;clear H;intro w H;refine Y3 H ?_;refine Jl 3 [7,12] H ?_;refine Hd H ?_;refine Jf 5 ?_;refine Jl 6 [7,12] H ?_;refine Jw 7 11 H rfl rfl (V1 (a:=[]) (b:=[]) rfl rfl (call (hLk _ _ H) ?_)) (Vo H rfl ?_)
    ·clear H;rintro v w ⟨rfl,H⟩;refine Rc H ?_;refine Af H ?_;clear H;intro b27 w H;refine Uz H ?_;clear H;intro w H;refine RM H ?_;replace H:=Js [0,2,2,0,1,1] 1 H;exact⟨rfl,rfl,b27,rfl,rfl,rfl,rfl,rfl,H⟩
    ·clear H;intro b27 w H;refine Jo 7 H ?_;refine Jk rfl rfl (hLk _ _ H.swap) ?_;clear H;rintro v w ⟨rfl,H⟩;refine Rc H ?_;refine Uz H ?_;clear H;intro w H;refine RM H ?_;replace H:=Js [1,2,2,0,1,1] 1 H;exact⟨rfl,rfl,b27,rfl,rfl,rfl,rfl,rfl,H⟩
   clear H;rintro ms σ w ⟨rfl,b27,g0,g3,g6,g27,g28,H⟩;rw[Q1 g0,Q1 g3,Q1 g6,Q1 g27,Q1 g28];replace H:=Js [4,0,0,0,0,0] 0 H;refine J1 H ?_;clear H;intro w H;refine CK H ?_;refine Jk rfl rfl (Rt mo m o B true H) ?_;clear H;rintro v w ⟨rfl,H⟩;refine XM H ?_;refine J5 H ?_;rw[show (((VI m o B true:Nat):Int) != 0)=true by rw[bne_iff_ne];omega];refine VM H ?_;cases hlk;refine Vq H ?_;rw[Gm ((VI m o B true:Nat):Int)];refine Jv ?_;refine CG H ?_;refine QT rfl rfl rfl (BS rfl rfl rfl rfl (.inl rfl) rfl ?_);refine J3 H ?_;replace H:=Js [3,3,0,2] 2 H;exact Q3 (Jy H rfl fun w' H'=>⟨congrArg Value.bool ((Cp _ _).trans (Il 0 0 0)),s,m,told,R,UR rfl rfl rfl,YK H'⟩)
  ·have hnl:=(List.getElem?_eq_some_iff.1 hx).1;have hmx:=hmw.objs x (mem_of_getElem? hx);have hkn:=hmx.kind;have htn:=hmx.to;have hsm:=Rs (w:=hmw) hx;have hkj:=getElem?_eq_getElem (l:=x.kind) (i:=j) (by omega);have htj:=getElem?_eq_getElem (l:=x.to) (i:=j) (by omega);have hkd:x.kind.getD j 0=x.kind[j]:=by rw[getD_eq_getElem?_getD,hkj];rfl
   have htd:x.to.getD j 0=x.to[j]:=by rw[getD_eq_getElem?_getD,htj];rfl
   have hgo:=hmx.goes j;rw[htd] at hgo;rw[hkd] at hk2;rw[hkd,htd] at h1;generalize x.kind[j]=kd at *;generalize x.to[j]=td at *;have hlt:kd=2→td < told.length:=fun h=>by rw[R.len];exact hgo (by rw[hkj,h])
   rw[h1] at hLk;obtain⟨l1,l2,l3,hlk⟩:=Gy (ZY told kd td);rw[hlk] at hLk;have hlink:=fun (w:World) (fr:List Q2) (H:Q0 w (YQ p c mo (.slice a told.length cap)::VW (.slice a told.length cap) told::fr))=>Nv p c mo a cap told kd td hk2 hlt H;rw[hlk] at hlink;refine J6 H ?_;refine Qo (fun ms σ w=>ms=[]∧∃ b27,σ 0=pp p∧σ 3=pp b3∧σ 6 = .int .i64 n∧σ 27=pp b27∧σ 28 = .int .i64 (0:Nat)∧Q0 w (pts b27 (row 88 [.int .i64 l1,.int .i64 l2,.int .i64 l3])::pts b3 (row 93 [.int .i64 11,.int .i64 A,.int .i64 (j:Nat),.int .i64 C,.int .u64 X,.slice adW ws.length capW,.bool raw,.int .i64 i,.int .i64 g])::YQ p c mo (.slice a told.length cap)::QA c s::Qs mo m::VW (.slice a told.length cap) told::fr)) ?_ ?_
   ·refine J1 H ?_;clear H;intro w H;refine Y3 H ?_;refine Jl 3 [7,12] H ?_;refine Hd H ?_;refine Jf 5 ?_;refine Jl 6 [7,12] H ?_;refine Jw 7 11 H rfl rfl (V1 (a:=[]) (b:=[]) rfl rfl (call (hLk _ _ H) ?_)) (Vo H rfl ?_)
    ·clear H;rintro v w ⟨rfl,H⟩;refine Rc H ?_;refine Af H ?_;clear H;intro b27 w H;refine Uz H ?_;clear H;intro w H;refine RM H ?_;replace H:=Js [0,2,2,0,1,1] 1 H;exact⟨rfl,rfl,b27,rfl,rfl,rfl,rfl,rfl,H⟩
    ·clear H;intro b27 w H;refine Jo 7 H ?_;refine Jk rfl rfl (hLk _ _ H.swap) ?_;clear H;rintro v w ⟨rfl,H⟩;refine Rc H ?_;refine Uz H ?_;clear H;intro w H;refine RM H ?_;replace H:=Js [1,2,2,0,1,1] 1 H;exact⟨rfl,rfl,b27,rfl,rfl,rfl,rfl,rfl,H⟩
   clear H;rintro ms σ w ⟨rfl,b27,g0,g3,g6,g27,g28,H⟩;rw[Q1 g0,Q1 g3,Q1 g6,Q1 g27,Q1 g28];replace H:=Js [4,0,0,0,0,0] 0 H;refine J1 H ?_;clear H;intro w H;refine CK H ?_;refine Jk rfl rfl (Rt mo m n j true H) ?_;clear H;rintro v w ⟨rfl,H⟩;rw[h0];refine XM H ?_;refine U8 H ?_;obtain⟨t,lc,aL,cL,bO,cO,sO,ptrs,q,vw,vk,vt,rest,hm,h2,hp,H,hclose⟩:=Gg H hx;have hm':=Rr hx hm;obtain⟨ak,ck,rfl⟩:=QF H.drop.drop (QH _) (by decide);obtain⟨at',ct,rfl⟩:=QF H.drop.drop.drop (QH _) (by decide);replace H:=Js [2,0,0,0] 0 H;obtain⟨bk,sk,rfl,H,hck⟩:=V5 H (by omega);replace H:=Js [3,0,0,0] 0 H;obtain⟨bt,st,rfl,H,hct⟩:=V5 H (by omega);refine J1 H ?_;clear H;intro w H;refine Ec H ?_;refine VP 4 [39] H rfl (Q8.of rfl rfl rfl) rfl (by repeat first|exact .nil _|apply QV.cons rfl) (by kernel_rfl) ?_;refine Bm H ?_;refine Jl 8 [39] H ?_;refine Ja 9 ?_;refine Jf 10 ?_;refine Jl 11 [39] H ?_;refine Ja 12 ?_;refine Ji 13 ?_;refine Vm 14 [39] H rfl (Q8.of rfl rfl rfl) rfl hp (by kernel_rfl) ?_;refine Ja 15 ?_;refine Jf 16 ?_;refine Jl 17 [39] H ?_;refine Jf 18 ?_;refine Jl 19 [39] H ?_;refine Ji 20 ?_;refine Vm 21 [39] H rfl (Q8.of rfl rfl rfl) rfl (G8 hkj) (by kernel_rfl) ?_;refine Ja 22 ?_;refine Ja 23 ?_;refine Jf 24 ?_;refine Jl 25 [39] H ?_;refine Ja 26 ?_;refine Jf 27 ?_;refine Jl 28 [39] H ?_;refine Ja 29 ?_;refine Ji 30 ?_;refine Vm 31 [39] H rfl (Q8.of rfl rfl rfl) rfl hp (by kernel_rfl) ?_;refine Ja 32 ?_;refine Jf 33 ?_;refine Jl 34 [39] H ?_;refine Jf 35 ?_;refine Jl 36 [39] H ?_;refine Ji 37 ?_;refine Vm 38 [39] H rfl (Q8.of rfl rfl rfl) rfl (G8 htj) (by kernel_rfl) ?_;replace H:=Js [12,13,0,0,0,0,0,0,0,0,0,0,0,0,0] 0 H;refine Jo 39 H ?_;refine Jk rfl rfl (hlink _ _ H) ?_;clear H;rintro v w ⟨rfl,H⟩;refine Ja 40 ?_;refine Ja 41 ?_;refine Jx H ?_;replace H:=Js [3,2,2,2,2,2,2,2,2,2,2,2,2,0,0] 0 H;replace H:=hck _ _ H;replace H:=Js [1,0,0,0] 0 H;replace H:=hct _ _ H;replace H:=Js [2,2,1,0] 0 H;replace H:=UX hx (hclose _ _ x hm' H);replace H:=Js [4,3,0,2] 2 H;exact Q3 (Jy H rfl fun w' H'=>⟨rfl,s,m,told,R,UR rfl rfl rfl,YK H'⟩)
 rw[show (k == 11)=false by simpa using hk11];refine Kb H ?_;replace H:=Js [2,2,2,2] 2 H;exact Q3 (Jy H rfl fun w' H'=>⟨rfl,s,m,told,R,UR rfl rfl rfl,YK H'⟩)
structure Ac where
 k:Int
 A:Int
 B:Int
 C:Int
 X:Nat
 vW:Value
 ws:List Nat
 raw:Bool
 i:Int
 g:Int
def Xd (x:Ac):List Value:=[.int .i64 x.k,.int .i64 x.A,.int .i64 x.B,.int .i64 x.C,.int .u64 x.X,x.vW,.bool x.raw,.int .i64 x.i,.int .i64 x.g]
def K9 (l:List Ac):List Value:=l.flatMap Xd
def FH (fr:List Q2) (x:Ac):Prop:=x.X < 18446744073709551616∧(∀ y∈x.ws,y < 18446744073709551616)∧Vu fr x.vW x.ws.length 1 (Qa x.ws)
theorem Iu (l:List Ac):(K9 l).length=l.length*9:=by
 induction l with
 | nil=>rfl
 | cons p L ih=>simp only[K9,Xd,flatMap_cons,length_append,length_cons,length_nil] at ih ⊢;omega
theorem eK {L:List Ac} {i:Nat} {x:Ac} (h:L[i]? = some x):∀ j v,(Xd x)[j]? = some v→(K9 L)[i*9+j]? = some v:=by
 induction L generalizing i with
 | nil=>simp at h
 | cons y L ih=>
  intro j v hj;have hj9:j < 9:=(List.getElem?_eq_some_iff.1 hj).1;cases i with
  | zero=>
   simp at h;subst h;show (Xd y++L.flatMap Xd)[0*9+j]? = _;rw[Nat.zero_mul,Nat.zero_add,getElem?_append_left hj9];exact hj
  | succ i=>
   have:=ih (i:=i) (by simpa using h) j v hj;show (Xd y++L.flatMap Xd)[(i+1)*9+j]? = _;rw[getElem?_append_right (by show 9≤_;omega)];show (L.flatMap Xd)[(i+1)*9+j - 9]? = _;rw[show (i+1)*9+j - 9=i*9+j by omega];exact this
theorem eR {c:List Value} {o n:Nat} {L:List Ac} (h:QV c o n (K9 L)) {i:Nat} {x:Ac} (hp:L[i]? = some x):QV c (o+i*9) 9 (Xd x):=
 h.part (es:=Xd x) fun j v hj=>eK hp j v hj
theorem eW [Q4] (v:Value) (l:List Ac) (hl:l.length≤9223372036854775807) {w:World} {fr:List Q2} (hr:Vu fr v l.length 9 (K9 l)) (hok:∀ x∈l,FH fr x) (H:Q0 w fr) :
  Calls Tryz.prog 98 #[v] w (ret fun r w'=>∃ b,r = .bool b∧(b=false→l.length≤60)∧Q0 w' fr):=by
 obtain⟨h0,ad,cap,rfl,hrd⟩:=hr;refine Q9 Tryz.func98 rfl (by kernel_rfl) ?_;refine VB H ?_;refine UV H ?_;by_cases h60:(l.length:Int) > 60
 ·rw[show decide ((l.length:Int) > 60)=true from decide_eq_true (by omega)];refine YD H ?_;exact Q3 (Jy H rfl fun w' H'=>⟨true,rfl,(fun h=>by cases h),H'⟩)
 rw[show decide ((l.length:Int) > 60)=false from decide_eq_false (by omega)];refine AR H ?_;refine Ka H ?_;refine Ql (fun ms σ w n=>ms=[]∧∃ i:Nat,i≤l.length∧n=l.length - i∧σ 8 = .slice ad l.length cap∧σ 9 = .int .i64 l.length∧σ 10 = .int .i64 i∧Q0 w fr) (m:=l.length) ⟨rfl,0,by omega,rfl,rfl,rfl,rfl,H⟩ ?_;clear H;rintro ms σ w n ⟨rfl,i,hi,rfl,g8,g9,g10,H⟩;rw[Q1 g8,Q1 g9,Q1 g10];refine J7 H ?_;refine Qk rfl (fun h=>QB ?_) (fun h=>Qq ?_)
 ·have hlt:i < l.length:=by omega
  have hy:=getElem?_eq_getElem hlt;generalize l[i]=y at hy;have hym:=hok y (mem_of_getElem? hy)
  rcases hrd with hz|⟨b,o,E,fz,c,rfl,hA,hrd⟩
  ·omega
  haveI:=hA;obtain⟨k,A,B,C,X,vW,ws,raw,i1,g1⟩:=y;obtain⟨_,_,_,adW,capW,hvW,_⟩:=hym;replace hvW:vW = .slice adW ws.length capW:=hvW;subst hvW;refine YW H ?_;refine Jd ?_;refine Q5 rfl (VN H rfl (eR hrd hy) rfl ?_);refine VZ H ?_;clear H;intro b4 w H;refine J4 H ?_;clear H;intro w H;refine J2 H ?_;refine Xq H ?_;by_cases hk:k=2
  ·subst hk;refine A8 H ?_;by_cases hC:C > 40
   ·rw[show decide (C > 40)=true from decide_eq_true (by omega)];refine Ym H ?_;refine KL H ?_;refine Ym H ?_;refine XI H ?_;refine UO H ?_;exact Q3 (Jy H.drop rfl fun w' H'=>⟨true,rfl,(fun h=>by cases h),H'⟩)
   ·rw[show decide (C > 40)=false from decide_eq_false (by omega)];refine Bv H ?_;by_cases hB:B > 64
    ·rw[show decide (B > 64)=true from decide_eq_true (by omega)];refine Ym H ?_;refine XI H ?_;refine UO H ?_;exact Q3 (Jy H.drop rfl fun w' H'=>⟨true,rfl,(fun h=>by cases h),H'⟩)
    ·rw[show decide (B > 64)=false from decide_eq_false (by omega)];by_cases hw:(ws.length:Int) > 10
     ·first|refine V2 rfl rfl rfl rfl ?_|refine Qm rfl rfl rfl ?_|refine Xp rfl rfl ?_
      refine Ee H ?_;rw[show decide ((ws.length:Int) > 10)=true from decide_eq_true (by omega)];refine UO H ?_;exact Q3 (Jy H.drop rfl fun w' H'=>⟨true,rfl,(fun h=>by cases h),H'⟩)
     ·first|refine V2 rfl rfl rfl rfl ?_|refine Qm rfl rfl rfl ?_|refine Xp rfl rfl ?_
      refine Ee H ?_;rw[show decide ((ws.length:Int) > 10)=false from decide_eq_false (by omega)];refine Rd H ?_;exact⟨_,⟨rfl,i+1,hlt,rfl,rfl,rfl,Qc (by omega),H.drop⟩,by omega⟩
  ·rw[show (k == 2)=false by simpa using hk];by_cases hw:(ws.length:Int) > 10
   ·first|refine Jv ?_|refine XR rfl rfl ?_
    refine Ha H ?_;refine Dt H ?_;refine Ee H ?_;rw[show decide ((ws.length:Int) > 10)=true from decide_eq_true (by omega)];refine UO H ?_;exact Q3 (Jy H.drop rfl fun w' H'=>⟨true,rfl,(fun h=>by cases h),H'⟩)
   ·first|refine Jv ?_|refine XR rfl rfl ?_
    refine Ha H ?_;refine Dt H ?_;refine Ee H ?_;rw[show decide ((ws.length:Int) > 10)=false from decide_eq_false (by omega)];refine Rd H ?_;exact⟨_,⟨rfl,i+1,hlt,rfl,rfl,rfl,Qc (by omega),H.drop⟩,by omega⟩
 ·have hge:i=l.length:=by omega
  refine VB H ?_;exact Q3 (Jy H rfl fun w' H'=>⟨false,rfl,fun _=>by omega,H'⟩)
def Xe (n size slots:Nat):CS:=⟨size,List.replicate n 0,[],List.replicate slots ⟨0,none⟩,0,[],[],[],[]⟩
theorem OM (n size slots:Nat):Rel (Xe n size slots) GV []:=by
 have hno:∀ (k g:Nat) (e:Q7),(List.replicate slots (⟨0,none⟩:QX))[k]? ≠ some ⟨g,some e⟩:=by
  intro k g e h;rw[getElem?_replicate] at h;split at h <;> cases h
 refine⟨rfl,rfl,?_,nodup_nil,rfl,?_,?_,fun k g e h=>absurd h (hno k g e),?_,nodup_nil⟩
 ·intro r q;constructor
  ·intro h;cases h
  ·rintro⟨k,_,h1,h2,_⟩;have:k < 1:=(List.getElem?_eq_some_iff.1 h2).1;omega
 ·intro o x k g h;cases h
 ·intro o x k g h;cases h
 ·intro o k g h;cases h
structure Rw (s:CS) (told:List (Nat×Nat)):Prop where
 shape:∃ r,Vl s.tab=List.replicate told.length (1,true)++List.replicate r (0,false)
 told:told=(List.range told.length).map fun i=>(i,1)
 inv:Inv s
theorem eA (n size slots:Nat):Rw (Xe n size slots) []:=⟨⟨slots,by simp[Vl,Xe]⟩,rfl,OZ rfl OG⟩
theorem B7 {ts:List QX} {n r k:Nat} {t:QX} (h:Vl ts=List.replicate n (1,true)++List.replicate r (0,false)) (hk:ts[k]? = some t):(k < n∧t.gen=1∧t.ent.isSome=true)∨(n≤k∧k < n+r∧t.gen=0∧t.ent=none):=by
 have h1:(Vl ts)[k]? = some (t.gen,t.ent.isSome):=by
  unfold Vl;rw[getElem?_map,hk];rfl
 rw[h] at h1;by_cases hkn:k < n
 ·rw[getElem?_append_left (by simpa using hkn),getElem?_replicate,if_pos hkn] at h1;injection h1 with h1
  injection h1 with h2 h3
  exact .inl ⟨hkn,h2.symm,h3.symm⟩
 ·rw[getElem?_append_right (by simp;omega),length_replicate,getElem?_replicate] at h1;split at h1
  ·injection h1 with h1
   injection h1 with h2 h3
   refine .inr ⟨by omega,by omega,h2.symm,?_⟩;cases he:t.ent with
   | none=>rfl
   | some e=>rw[he] at h3;cases h3
  ·cases h1
theorem Rw.step {s s':CS} {m m':MS} {told told':List (Nat×Nat)} (h:Rw s told) (st:Ct s m told s' m' told'):Rw s' told':=by
 obtain⟨⟨r,hs⟩,ht,hI⟩:=h
 rcases st.tab with ⟨rfl,h1⟩|⟨k,g0,rfl,h1,h2,h3⟩
 ·exact⟨⟨r,by rw[h1];exact hs⟩,ht,st.inv hI⟩
 ·rcases B7 hs h1 with ⟨_,_,h4⟩|⟨h4,h5,h6,_⟩
  ·cases h4
  ·have h6:g0=0:=h6;subst h6
   have hl:s.tab.length=told.length+r:=by
    have:=congrArg List.length hs;simpa [Vl] using this
   have hk:k=told.length:=by
    refine Classical.byContradiction fun hne=>?_;have hlt:told.length < k:=by omega
    have hn:=getElem?_eq_getElem (l:=s.tab) (i:=told.length) (by omega);have hb:=h2 told.length _ hlt hn
    rcases B7 hs hn with ⟨h7,_⟩|⟨_,_,h7,h8⟩
    ·omega
    ·unfold busy at hb;rw[h7,h8] at hb;cases hb
   subst hk;refine⟨⟨r - 1,?_⟩,?_,st.inv hI⟩
   ·rw[h3,hs,length_append];obtain⟨r',rfl⟩:∃ r',r=r'+1:=⟨r - 1,by omega⟩;rw[set_append_right _ _ (by simp),length_replicate,Nat.sub_self,replicate_succ,set_cons_zero,Nat.add_sub_cancel];show _=List.replicate (told.length+1) (1,true)++_;rw[replicate_succ',append_assoc];rfl
   ·rw[length_append];show told++[(told.length,1)]=(List.range (told.length+1)).map _;rw[range_succ,map_append,← ht];rfl
theorem Iv (x:Int):∃ X:Nat,(if x > 0 then x else 0)=(X:Int):=⟨x.toNat,by split <;> omega⟩
theorem eB [Q4] (z1 z2 z3:Int) {w:World} {fr:List Q2} (H:Q0 w fr) :
  Calls Tryz.prog 35 #[.agg #[.int .i64 z1,.int .i64 z2,.int .i64 z3]] w (ret fun v w'=>∃ p n size slots,v=pp p∧1≤n∧n≤20∧1≤size∧size≤16∧1≤slots∧slots≤16∧Q0 w' (GU p (Xe n size slots) GV []::fr)):=by
 obtain⟨X1,h1⟩:=Iv z1;obtain⟨X2,h2⟩:=Iv z2;obtain⟨X3,h3⟩:=Iv z3;refine Q9 Tryz.func35 rfl (by kernel_rfl) ?_;refine J8 H ?_;clear H;intro b1 w H;refine WK H ?_;refine AX H ?_;rw[h1]
 refine UD (v := .int .i64 ((X1 % 20:Nat):Int)) (by
  show some (Value.int IntKind.i64 (Int.tmod (X1:Int) 20))=_;rw[Int.tmod_eq_emod_of_nonneg (by omega)];rfl) rfl ?_
 refine Jv ?_;rw[show IntKind.i64.wrap (1+((X1 % 20:Nat):Int))=((X1 % 20+1:Nat):Int) by rw[Qb (by omega) (by omega)];omega];refine ZB H ?_;refine AX H ?_;rw[h2]
 refine UD (v := .int .i64 ((X2 % 16:Nat):Int)) (by
  show some (Value.int IntKind.i64 (Int.tmod (X2:Int) 16))=_;rw[Int.tmod_eq_emod_of_nonneg (by omega)];rfl) rfl ?_
 refine Jv ?_;rw[show IntKind.i64.wrap (1+((X2 % 16:Nat):Int))=((X2 % 16+1:Nat):Int) by rw[Qb (by omega) (by omega)];omega];refine ZB H ?_;refine AX H ?_;rw[h3]
 refine UD (v := .int .i64 ((X3 % 16:Nat):Int)) (by
  show some (Value.int IntKind.i64 (Int.tmod (X3:Int) 16))=_;rw[Int.tmod_eq_emod_of_nonneg (by omega)];rfl) rfl ?_
 refine Jv ?_;rw[show IntKind.i64.wrap (1+((X3 % 16:Nat):Int))=((X3 % 16+1:Nat):Int) by rw[Qb (by omega) (by omega)];omega]
 refine Jc rfl rfl (Ni (X1 % 20+1) (X2 % 16+1) (X3 % 16+1) (by omega) (by omega) (by omega) (by omega) (by omega) (by omega) H) ?_;clear H;rintro v w ⟨c,rfl,H⟩;refine Zs H ?_;refine Vq H ?_;refine Ym H ?_;refine C6 H ?_;refine YY H ?_;refine Jc rfl rfl (cW H) ?_;clear H;rintro v w ⟨mo,rfl,H⟩;refine XE H ?_;clear H;intro b33 w H;refine J0 H ?_;have H:=Z2 (E:=69) (k:=2) H;replace H:=Js [1,2,1,0] 1 H;exact Q3 (Jy (YK (told:=[]) H) rfl fun w' H'=>⟨_,X1 % 20+1,X2 % 16+1,X3 % 16+1,rfl,by omega,by omega,by omega,by omega,by omega,by omega,H'⟩)
def L0:QM:=⟨2,[1],0,[]⟩
theorem eC:ZD [2,2,0]=some L0:=by rfl
theorem eD:Vf L0:=by decide
theorem eE:VY GV:=⟨⟨by simp[GV],by simp[GV]⟩,⟨by simp[GV],fun l h=>by simp[GV] at h⟩,(fun x h=>by simp[GV] at h),by simp[GV]⟩
theorem ON {r1:Int} {s s':CS} {m:MS} {told:List (Nat×Nat)} {i g e:Nat} (R:Rel s m told) (hm:VY m) (F:Rw s told) (hM:It s r1 1 0 i g e s') (hmay:Vr m r1 1 0=(2,0)) (hsz:s.size=8) (hlen:told.length < s.tab.length) (hfree:∃ a,a < s.own.length∧s.own.getD a 0=0) :
  e=0∧i=told.length∧g=1∧Rel s' (Ko m r1 1 0) (told++[(told.length,1)])∧Rw s' (told++[(told.length,1)])∧s'.size=8∧FR s.own s'.own 1∧s'.tab.length=s.tab.length:=by
 obtain⟨hm1,hm2⟩:=Ii R r1 1 0;rw[hmay] at hm1;have hn:YI s 1 0=2:=by rw[hm2 (by rw[hmay]),hmay]
 have hk:YI s 1 0 / s.size+1=1:=by rw[hn,hsz]
 obtain⟨⟨r,hs⟩,ht,_⟩:=id F
 have hnb:∀ t,s.tab[told.length]? = some t→busy t=false:=by
  intro t h
  rcases B7 hs h with ⟨h7,_⟩|⟨_,_,h7,h8⟩
  ·omega
  ·unfold busy;rw[h7,h8];rfl
 have hat:=getElem?_eq_getElem (l:=s.tab) (i:=told.length) hlen
 rcases hM with ⟨h1,_⟩|⟨h1,h2,_⟩|⟨h1,h2,_⟩|⟨h1,rfl,g0,addr,h2,h3,h4,rfl,h5,h6,h7,h8,h9,h10,h11,h12P⟩
 ·exact absurd hm1 h1
 ·have h3:=h2 _ (mem_of_getElem? hat);rw[hnb _ hat] at h3;cases h3
 ·obtain⟨a,ha,hz⟩:=hfree;rw[hk] at h2;obtain⟨j,h3,h4,h5⟩:=h2 a (by omega);obtain rfl:j=a:=by omega
  exact absurd hz h5
 ·rw[hk] at h11
  have hi:i=told.length:=by
   rcases B7 hs h2 with ⟨_,_,h12⟩|⟨h12,_⟩
   ·cases h12
   ·refine Classical.byContradiction fun hne=>?_;have h13:=h4 told.length _ (by omega) hat;rw[hnb _ hat] at h13;cases h13
  subst hi
  have hg:g0=0:=by
   rcases B7 hs h2 with ⟨_,_,h12⟩|⟨_,_,h12,_⟩
   ·cases h12
   ·exact h12
  subst hg;obtain⟨_,R'⟩:=Nt R hm (by rw[hmay]) h2 h6 h7 h8 h10;refine⟨rfl,rfl,rfl,R',?_,by rw[h5,hsz],h11,by rw[h10,length_set]⟩;exact F.step (m:=m) (m':=Ko m r1 1 0) ⟨by show m.P.length≤_;omega,by show (m.objs++[_]).length≤_;simp,.inr ⟨told.length,0,rfl,h2,h4,by rw[h10];unfold Vl;rw[map_set];rfl⟩,fun hI=>OY hI h2 h6 h9 h10 rfl,fun hT=>by rw[h8];exact hT,h12P⟩
end Go.Proofs.YtmjdnljneifpcaaGreatDoor
namespace Go.Proofs.YtmjdnljneifpcaaGreatDoor
open List
open Go.SL
theorem Uk {l:List Int} {s:List Value} {i:Nat} {x:Int} (h:l[i]? = some x):(Qg l++s)[0+i*1]? = some (.int .i64 x):=by
 have hi:=(List.getElem?_eq_some_iff.1 h).1;rw[Nat.zero_add,Nat.mul_one,getElem?_append_left (by rw[Vn];omega)];unfold Qg;rw[getElem?_map,h];rfl
theorem eF (l:List Int):(Qg l).all (·.oneCell')=true:=by simp[Qg,all_eq_true,Value.oneCell']
theorem eH [Q4] (p last:Nat) (par:List (Int×Int)) (id:Int) (hT:Z0 par) (hid:(QY par id).isSome=true) (hl:par.length≤1000) {w:World} {fr:List Q2} (H:Q0 w (Qf p last par::fr)) :
  Calls Tryz.prog 117 #[pp p,.int .i64 id] w (ret fun v w'=>∃ u L,v = .tuple #[u,.int .i64 0]∧L.Nodup∧L.Pairwise (·≤·)∧(∀ c,c∈L↔Zf par id c)∧L.length≤par.length∧Q0 w' (IL u L::Qf p last par::fr)):=by
 refine Q9 Tryz.func117 rfl (by kernel_rfl) ?_;refine XL H ?_;refine Jc rfl rfl (I8 p last par id H) ?_;clear H;rintro v w ⟨rfl,H⟩;rw[if_pos hid];refine Yv H ?_;refine YY H ?_;refine GN H ?_;clear H;intro b18 w H;refine J0 H ?_;replace H:Q0 w (IL _ [id]::_):=Ur (c:=Qg [id]) rfl H;refine J7 H ?_;refine Qo (fun ms σ w=>ms=[]∧∃ (l:List Int) (a:Option Addr) (c:Nat),XV par id l l.length∧σ 7 = .slice a l.length c∧Q0 w (IL (.slice a l.length c) l::Qf p last par::fr)) ?_ ?_
 ·refine QP ?_;refine Ql (fun ms σ w n=>ms=[]∧∃ (i:Nat) (l:List Int) (a:Option Addr) (c:Nat),XV par id l i∧n=par.length - i∧σ 0=pp p∧σ 7 = .slice a l.length c∧σ 8 = .int .i64 i∧Q0 w (IL (.slice a l.length c) l::Qf p last par::fr)) (m:=par.length) ⟨rfl,0,[id],_,_,XV.start par id,rfl,rfl,rfl,rfl,H⟩ ?_;clear H;rintro ms σ w n ⟨rfl,i,l,a,c,hB,rfl,g0,g7,g8,H⟩;rw[Q1 g0,Q1 g7,Q1 g8];have hll:=hB.len hid;have hil:=hB.le;refine KO H ?_;refine Qk rfl (fun h=>QB ?_) (fun h=>Qq ?_)
  ·have hlt:i < l.length:=by omega
   have hx:=getElem?_eq_getElem hlt;have hxd:=hB.desc _ (getElem_mem hlt);generalize l[i]=x at hx hxd;obtain⟨bT,sT,rfl,H,hcl⟩:=V5 H (by omega);refine WA H ?_;refine Jd ?_;refine Q5 rfl (QR H rfl (by simpa using Uk hx) rfl ?_);replace H:=hcl _ _ H;refine Jc rfl rfl (bd p last par x (.inr (hxd.live hid)) hl H.swap) ?_;clear H;rintro v w ⟨u,K,rfl,hK,hKs,H⟩;obtain⟨au,mu,cu,rfl⟩:=Qw H;refine Zs H ?_
   have hKm:∀ c,c∈K↔QY par c=some x:=fun c=>by
    rw[hK.mem_iff,mem_filter];unfold UU;constructor
    ·rintro⟨_,h1⟩;simpa using h1
    ·intro h1;exact⟨mem_map.2 ⟨(c,x),UC h1,rfl⟩,by simpa using h1⟩
   have hKn:K.Nodup:=hK.nodup_iff.2 (hT.nd.filter _);have hB2:=hB.step hT hx hKn hKm;have hl2:=hB2.len hid;rw[length_append] at hl2;refine J9 H ?_;replace H:=Js [0,1,0] 0 H;obtain⟨DK,H,hDK,hCK⟩:=sls_rd H (Vn K) (by decide);replace H:=Js [1,0] 0 H;refine Q5 rfl (HA H rfl rfl (hDK _) (eF K) (by rw[Vn,Vn];omega) rfl rfl ?_);clear H;intro v36 w H;rw[← Au] at H;obtain⟨a36,c36,rfl⟩:=QF H (Vn _) (by decide);refine Bz H ?_;replace H:=Js [0,1] 1 H;exact⟨_,⟨rfl,i+1,l++K,a36,c36,hB2,rfl,rfl,rfl,Qc (by omega),H⟩,by omega⟩
  ·have hge:i=l.length:=by omega
   subst hge;exact⟨rfl,rfl,l,a,c,hB,rfl,H⟩
 clear H;rintro ms σ w ⟨rfl,l,a,c,hB,g7,H⟩;rw[Q1 g7];have hll:=hB.len hid;refine YY H ?_;refine Jc rfl rfl (F5 _ l (by omega) H) ?_;clear H;rintro v w ⟨rfl,H⟩;refine WB H ?_;have hp:(l.mergeSort fun x y=>decide (x≤y)).Perm l:=mergeSort_perm l _;refine Q3 (Jy H rfl fun w' H'=>⟨_,l.mergeSort fun x y=>decide (x≤y),rfl,hp.nodup_iff.2 hB.nd,?_,fun c=>?_,?_,H'⟩)
 ·have:=pairwise_mergeSort (le:=fun x y:Int=>decide (x≤y)) (fun a b c h1 h2=>by simp at *;omega) (fun a b=>by simp;omega) l;exact this.imp fun h=>by simpa using h
 ·rw[hp.mem_iff];exact hB.ends c
 ·rw[hp.length_eq];exact hll
theorem eI [Q4] (p last:Nat) (par:List (Int×Int)) (id:Int) (hT:Z0 par) (hid:(QY par id).isSome=true) (hl:par.length≤1000) {w:World} {fr:List Q2} (H:Q0 w (Qf p last par::fr)) :
  Calls Tryz.prog 55 #[pp p,.int .i64 id] w (ret fun v w'=>∃ u L,v = .tuple #[u,.int .i64 0]∧L.Nodup∧L.Pairwise (·≤·)∧(∀ c,c∈L↔Zf par id c)∧L.length≤par.length∧Q0 w' (IL u L::Qf p last (L.foldl QD par)::fr)):=by
 refine Q9 Tryz.func55 rfl (by kernel_rfl) ?_;refine XL H ?_;refine Jc rfl rfl (eH p last par id hT hid hl H) ?_;clear H;rintro v w ⟨u,L,rfl,h1,h2,h3,h4,H⟩;obtain⟨a,c,rfl⟩:=QF H (Vn _) (by decide);refine Zs H ?_;refine YY H ?_;refine C9 H ?_;refine Qo (fun ms σ w=>ms=[]∧σ 6 = .slice a L.length c∧σ 7 = .int .i64 0∧Q0 w (IL (.slice a L.length c) L::Qf p last (L.foldl QD par)::fr)) ?_ ?_
 ·refine QP ?_;refine Ql (fun ms σ w n=>ms=[]∧∃ i:Nat,i≤L.length∧n=L.length - i∧σ 0=pp p∧σ 6 = .slice a L.length c∧σ 7 = .int .i64 0∧σ 16 = .slice a L.length c∧σ 17 = .int .i64 L.length∧σ 18 = .int .i64 i∧Q0 w (IL (.slice a L.length c) L::Qf p last ((L.take i).foldl QD par)::fr)) (m:=L.length) ⟨rfl,0,by omega,rfl,rfl,rfl,rfl,rfl,rfl,rfl,H⟩ ?_;clear H;rintro ms σ w n ⟨rfl,i,hi,rfl,g0,g6,g7,g16,g17,g18,H⟩;rw[Q1 g0,Q1 g6,Q1 g7,Q1 g16,Q1 g17,Q1 g18];refine J7 H ?_;refine Qk rfl (fun h=>QB ?_) (fun h=>Qq ?_)
  ·have hlt:i < L.length:=by omega
   have hx:=getElem?_eq_getElem hlt;generalize L[i]=x at hx;have htk:L.take (i+1)=L.take i++[x]:=by rw[take_add_one,hx];rfl
   obtain⟨bT,sT,rfl,H,hcl⟩:=V5 H (by omega);refine YW H ?_;refine Jd ?_;refine Q5 rfl (QR H rfl (by simpa using Uk hx) rfl ?_);refine J0 H ?_;replace H:=(hcl _ _ H).swap;obtain⟨bm,H⟩:=Kk H;refine VQ H ?_;refine Q5 rfl (Xo (key:=x) H.swap rfl rfl VC rfl ?_);clear H;intro w H;refine J2 H ?_;replace H:=K1 H.swap;refine J5 H ?_;exact⟨_,⟨rfl,i+1,hlt,rfl,rfl,rfl,rfl,rfl,rfl,Qc (by omega),by rw[htk,foldl_append];exact H.swap⟩,by omega⟩
  ·have hge:i=L.length:=by omega
   subst hge;rw[take_length] at H;exact⟨rfl,rfl,rfl,rfl,H⟩
 clear H;rintro ms σ w ⟨rfl,g6,g7,H⟩;rw[Q1 g6,Q1 g7];refine WM H ?_;exact Q3 (Jy H rfl fun w' H'=>⟨_,L,rfl,h1,h2,h3,h4,H'⟩)
end Go.Proofs.YtmjdnljneifpcaaGreatDoor
