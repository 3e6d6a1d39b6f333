/- Cells: what is proved on the way: every input of the statement; no condition. Texts joined: InvP InvQ TreP TreQ LawE LawF LawG LawH LawI LawJz. -/
import Derived.Test.YtmjdnljneifpcaaGreatDoorBek
import Derived.Test.YtmjdnljneifpcaaGreatDoorBej
import Derived.Test.YtmjdnljneifpcaaGreatDoorBeh
import Derived.Test.YtmjdnljneifpcaaGreatDoorBee
set_option linter.unusedVariables false
set_option linter.unusedSimpArgs false
set_option linter.unusedSectionVars false
namespace Go.Proofs.YtmjdnljneifpcaaGreatDoor
open List
open Go.SL
def LQ (s:CS) (r:Int×Int) (t:Int):Prop:=∃ (k p g:Nat) (e:Q8) (a b:Nat) (f:Q8),r=((k:Int),(p:Int))∧s.tab[k]? = some ⟨g,some e⟩∧p < e.ws.length∧Va (Qd s e) p=true∧YQ e p = .obj a b∧Qk s.tab a b=some (a,f)∧f.region≠e.region∧t=a
structure Inv (s:CS):Prop where
 nd:(s.rem.map (·.1)).Nodup
 rem:∀ r t,QV s.rem r=some t↔LQ s r t
 link:∀ (k g:Nat) (e:Q8) (p a b:Nat),s.tab[k]? = some ⟨g,some e⟩→p < e.ws.length→Va (Qd s e) p=true→YQ e p = .obj a b→∃ f,Qk s.tab a b=some (a,f)
theorem Xk {ts:List QW} {a b c:Nat} {f:Q8} (h:Qk ts a b=some (c,f)):c=a∧ts[a]? = some ⟨b,some f⟩:=by
 obtain⟨n,h1,h2,h3⟩:=Yz.1 h;obtain rfl:c=a:=by omega
 obtain rfl:n=b:=by omega
 exact⟨rfl,h3⟩
structure LV (s:CS) (k g:Nat) (e e':Q8):Prop where
 at':s.tab[k]? = some ⟨g,some e⟩
 region:e'.region=e.region
 lay:e'.lay=e.lay
 len:e'.ws.length=e.ws.length
theorem ib {s:CS} {k g:Nat} {e e':Q8} (h:s.tab[k]? = some ⟨g,some e⟩) (a b:Nat):Qk (Y3 s k g e').tab a b=(Qk s.tab a b).map fun q=>if q.1=k then (k,e') else q:=by
 have VB:=(List.getElem?_eq_some_iff.1 h).1;cases hl:Qk s.tab a b with
 | some q=>
  obtain⟨c,f⟩:=q;obtain⟨rfl,hc⟩:=Xk hl;by_cases hk:c=k
  ·subst hk;rw[h] at hc;injection hc with hc
   injection hc with h1 h2
   subst h1;show _=some (if c=c then (c,e') else _);rw[if_pos rfl];exact Yz.2 ⟨g,rfl,rfl,getElem?_set_self VB⟩
  ·show _=some (if c=k then (k,e') else (c,f));rw[if_neg hk];exact Yz.2 ⟨b,rfl,rfl,by show (s.tab.set k _)[c]? = _;rw[getElem?_set_ne (Ne.symm hk)];exact hc⟩
 | none=>
  show _=none;cases Y5:Qk (Y3 s k g e').tab a b with
  | none=>rfl
  | some q=>
   obtain⟨c,f⟩:=q;obtain⟨rfl,hc⟩:=Xk Y5;have hc:(s.tab.set k ⟨g,some e'⟩)[c]? = some ⟨b,some f⟩:=hc
   rcases VE hc with ⟨rfl,h2,_⟩|⟨_,h2⟩
   ·injection h2 with h2 _
    subst h2;rw[Yz.2 ⟨b,rfl,rfl,h⟩] at hl;cases hl
   ·rw[Yz.2 ⟨b,rfl,rfl,h2⟩] at hl;cases hl
theorem ic {s:CS} {k g:Nat} {e e':Q8} (h:LV s k g e e') {a b:Nat}:(∃ f,Qk (Y3 s k g e').tab a b=some (a,f))↔∃ f,Qk s.tab a b=some (a,f):=by
 rw[ib h.at'];constructor
 ·rintro⟨f,hf⟩;rw[Option.map_eq_some_iff] at hf;obtain⟨⟨c,f'⟩,h1,_⟩:=hf;obtain⟨rfl,_⟩:=Xk h1;exact⟨f',h1⟩
 ·rintro⟨f,hf⟩;rw[hf];by_cases hk:a=k
  ·exact⟨e',by show some (if a=k then (k,e') else (a,f))=_;rw[if_pos hk,hk]⟩
  ·exact⟨f,by show some (if a=k then (k,e') else (a,f))=_;rw[if_neg hk]⟩
theorem OU {s:CS} {k g:Nat} {e e':Q8} (h:LV s k g e e') {a b:Nat} {P:Int→Prop}:(∃ f,Qk (Y3 s k g e').tab a b=some (a,f)∧P f.region)↔∃ f,Qk s.tab a b=some (a,f)∧P f.region:=by
 rw[ib h.at'];constructor
 ·rintro⟨f,hf,hp⟩;rw[Option.map_eq_some_iff] at hf;obtain⟨⟨c,f'⟩,h1,h2⟩:=hf;obtain⟨rfl,h3⟩:=Xk h1;refine⟨f',h1,?_⟩;by_cases hk:c=k
  ·subst hk;rw[if_pos rfl] at h2;injection h2 with _ h2
   subst h2;rw[h.at'] at h3;injection h3 with h3
   injection h3 with _ h3
   injection h3 with h3
   subst h3;rw[h.region] at hp;exact hp
  ·rw[if_neg hk] at h2;injection h2 with _ h2
   subst h2;exact hp
 ·rintro⟨f,hf,hp⟩;rw[hf];by_cases hk:a=k
  ·subst hk;obtain⟨_,h3⟩:=Xk hf;rw[h.at'] at h3;injection h3 with h3
   injection h3 with _ h3
   injection h3 with h3
   subst h3;exact⟨e',by show some (if a=a then (a,e') else (a,e))=_;rw[if_pos rfl],by rw[h.region];exact hp⟩
  ·exact⟨f,by show some (if a=k then (k,e') else (a,f))=_;rw[if_neg hk],hp⟩
theorem ie {s:CS} (hI:Inv s) {k g:Nat} {e e':Q8} (h:LV s k g e e') (hl:∀ p,p < e.ws.length→Va (Qd s e) p=true→YQ e' p=YQ e p):Inv (Y3 s k g e'):=by
 have VB:=(List.getElem?_eq_some_iff.1 h.at').1;have BE:∀ f,Qd (Y3 s k g e') f=Qd s f:=fun _=>rfl;have VO:Qd s e'=Qd s e:=by unfold Qd;rw[h.lay]
 refine⟨hI.nd,fun r t=>?_,?_⟩
 ·show QV s.rem r=some t↔_;rw[hI.rem];constructor
  ·rintro⟨j,p,g1,e1,a,b,f,rfl,h1,h2,h3,h4,h5,h6,rfl⟩;obtain⟨f',WM,RY⟩:=(OU (P:=fun r=>r≠e1.region) h).2 ⟨f,h5,h6⟩;by_cases hj:j=k
   ·subst hj;rw[h.at'] at h1;injection h1 with h1
    injection h1 with h0 h1
    injection h1 with h1
    subst h0 h1;exact⟨j,p,g,e',a,b,f',rfl,getElem?_set_self VB,by rw[h.len];exact h2,by rw[BE,VO];exact h3,by rw[hl p h2 h3];exact h4,WM,by rw[h.region];exact RY,rfl⟩
   ·exact⟨j,p,g1,e1,a,b,f',rfl,by show (s.tab.set k _)[j]? = _;rw[getElem?_set_ne (Ne.symm hj)];exact h1,h2,h3,h4,WM,RY,rfl⟩
  ·rintro⟨j,p,g1,e1,a,b,f,rfl,h1,h2,h3,h4,h5,h6,rfl⟩;have h1:(s.tab.set k ⟨g,some e'⟩)[j]? = some ⟨g1,some e1⟩:=h1;obtain⟨f',WM,RY⟩:=(OU (P:=fun r=>r≠e1.region) h).1 ⟨f,h5,h6⟩
   rcases VE h1 with ⟨rfl,h7,_⟩|⟨_,h7⟩
   ·injection h7 with h0 h7
    injection h7 with h7
    subst h0 h7;rw[BE,VO] at h3;rw[h.len] at h2;rw[hl p h2 h3] at h4;rw[h.region] at RY;exact⟨j,p,g1,e,a,b,f',rfl,h.at',h2,h3,h4,WM,RY,rfl⟩
   ·exact⟨j,p,g1,e1,a,b,f',rfl,h7,h2,h3,h4,WM,RY,rfl⟩
 ·intro j g1 e1 p a b h1 h2 h3 h4;have h1:(s.tab.set k ⟨g,some e'⟩)[j]? = some ⟨g1,some e1⟩:=h1;rw[ic h]
  rcases VE h1 with ⟨rfl,h7,_⟩|⟨_,h7⟩
  ·injection h7 with h0 h7
   injection h7 with h7
   subst h0 h7;rw[BE,VO] at h3;rw[h.len] at h2;rw[hl p h2 h3] at h4;exact hI.link j g1 e p a b h.at' h2 h3 h4
  ·exact hI.link j g1 e1 p a b h7 h2 h3 h4
theorem sV {s:CS} {k g:Nat} {e e':Q8} (h:LV s k g e e') {r:Int×Int} {t:Int} (hl:∀ p:Nat,r=((k:Int),(p:Int))→YQ e' p=YQ e p):LQ (Y3 s k g e') r t↔LQ s r t:=by
 have VB:=(List.getElem?_eq_some_iff.1 h.at').1;have BE:∀ f,Qd (Y3 s k g e') f=Qd s f:=fun _=>rfl;have VO:Qd s e'=Qd s e:=by unfold Qd;rw[h.lay]
 constructor
 ·rintro⟨j,p,g1,e1,a,b,f,rfl,h1,h2,h3,h4,h5,h6,rfl⟩;have h1:(s.tab.set k ⟨g,some e'⟩)[j]? = some ⟨g1,some e1⟩:=h1;obtain⟨f',WM,RY⟩:=(OU (P:=fun r=>r≠e1.region) h).1 ⟨f,h5,h6⟩
  rcases VE h1 with ⟨rfl,h7,_⟩|⟨_,h7⟩
  ·injection h7 with h0 h7
   injection h7 with h7
   subst h0 h7;rw[BE,VO] at h3;rw[h.len] at h2;rw[hl p rfl] at h4;rw[h.region] at RY;exact⟨j,p,g1,e,a,b,f',rfl,h.at',h2,h3,h4,WM,RY,rfl⟩
  ·exact⟨j,p,g1,e1,a,b,f',rfl,h7,h2,h3,h4,WM,RY,rfl⟩
 ·rintro⟨j,p,g1,e1,a,b,f,rfl,h1,h2,h3,h4,h5,h6,rfl⟩;obtain⟨f',WM,RY⟩:=(OU (P:=fun r=>r≠e1.region) h).2 ⟨f,h5,h6⟩;by_cases hj:j=k
  ·subst hj;rw[h.at'] at h1;injection h1 with h1
   injection h1 with h0 h1
   injection h1 with h1
   subst h0 h1;exact⟨j,p,g,e',a,b,f',rfl,getElem?_set_self VB,by rw[h.len];exact h2,by rw[BE,VO];exact h3,by rw[hl p rfl];exact h4,WM,by rw[h.region];exact RY,rfl⟩
  ·exact⟨j,p,g1,e1,a,b,f',rfl,by show (s.tab.set k _)[j]? = _;rw[getElem?_set_ne (Ne.symm hj)];exact h1,h2,h3,h4,WM,RY,rfl⟩
theorem Tg {e:Q8} {p q x:Nat} (h:q≠p):YQ { e with ws:=e.ws.set p x } q=YQ e q:=by
 unfold YQ;show Gu ((e.ws.set p x).getD q 0)=_;rw[getD_eq_getElem?_getD,getElem?_set_ne (Ne.symm h),getD_eq_getElem?_getD]
theorem Th {e:Q8} {p:Nat} {l:Yn} (hl:XL l) (hp:p < e.ws.length):YQ { e with ws:=e.ws.set p (Vm l) } p=l:=by
 unfold YQ;show Gu ((e.ws.set p (Vm l)).getD p 0)=_;rw[getD_eq_getElem?_getD,getElem?_set_self hp,Option.getD_some,gd hl]
theorem sY {s:CS} (hI:Inv s) {k g p x:Nat} {e:Q8} (hk:s.tab[k]? = some ⟨g,some e⟩) (hr:Va (Qd s e) p=false):Inv (Y3 s k g { e with ws:=e.ws.set p x }):=
 ie (e':={ e with ws:=e.ws.set p x }) hI ⟨hk,rfl,rfl,by show (e.ws.set p x).length=_;rw[length_set]⟩ fun q hq Cd=>Tg (by rintro rfl;rw[hr] at Cd;cases Cd)
theorem Ti {s:CS} (hI:Inv s) {k g:Nat} {e e':Q8} (hk:s.tab[k]? = some ⟨g,some e⟩) (h1:e'.region=e.region) (h2:e'.lay=e.lay) (h3:e'.ws=e.ws):Inv (Y3 s k g e'):=
 ie hI ⟨hk,h1,h2,by rw[h3]⟩ fun q _ _=>by unfold YQ;rw[h3]
theorem ig {s:CS} (h:(s.rem.map (·.1)).Nodup) (k:Nat) (e:Q8) (p:Int) (l:Yn):((Zs s k e p l).map (·.1)).Nodup:=by
 unfold Zs
 repeat' split
 ·exact M7 (Rw h)
 ·exact Rw h
 ·exact Rw h
 ·exact Rw h
theorem Tj {s:CS} (h:(s.rem.map (·.1)).Nodup) {k:Nat} {e:Q8} {p:Int} {l:Yn} {r:Int×Int} (hr:r≠((k:Int),p)):QV (Zs s k e p l) r=QV s.rem r:=by
 have h1:QV (QN s.rem ((k:Int),p)) r=QV s.rem r:=by rw[Wi h,if_neg (Ne.symm hr)]
 unfold Zs
 repeat' split
 ·rw[KX,if_neg (Ne.symm hr),h1]
 ·exact h1
 ·exact h1
 ·exact h1
theorem ii {s:CS} (h:(s.rem.map (·.1)).Nodup) {k:Nat} {e:Q8} {p:Int} {l:Yn} {t:Int}:QV (Zs s k e p l) ((k:Int),p)=some t↔∃ (a b:Nat) (f:Q8),l = .obj a b∧Qk s.tab a b=some (a,f)∧f.region≠e.region∧t=a:=by
 have h1:QV (QN s.rem ((k:Int),p)) ((k:Int),p)=none:=by rw[Wi h,if_pos rfl]
 cases l with
 | none=>rw[show Zs s k e p .none=QN s.rem ((k:Int),p) from rfl,h1];exact⟨fun h=>(by cases h),fun ⟨_,_,_,h,_⟩=>(by cases h)⟩
 | grave=>rw[show Zs s k e p .grave=QN s.rem ((k:Int),p) from rfl,h1];exact⟨fun h=>(by cases h),fun ⟨_,_,_,h,_⟩=>(by cases h)⟩
 | obj a b=>
  cases hl:Qk s.tab a b with
  | none=>
   rw[TX hl,h1];refine⟨fun h=>(by cases h),?_⟩;rintro⟨a',b',f,h2,h3,_⟩;injection h2 with h2 Yj
   subst h2 Yj;rw[hl] at h3;cases h3
  | some q=>
   obtain⟨c,f⟩:=q;obtain⟨rfl,_⟩:=Xk hl;rw[JL hl];split
   ·rename_i QB;rw[KX,if_pos rfl];constructor
    ·intro h2;injection h2 with h2
     exact⟨c,b,f,rfl,hl,QB,h2.symm⟩
    ·rintro⟨a',b',f',h2,h3,h4,rfl⟩;injection h2 with h2 Yj
     rw[h2]
   ·rename_i QB;rw[h1];refine⟨fun h=>(by cases h),?_⟩;rintro⟨a',b',f',h2,h3,h4,rfl⟩;injection h2 with h2 Yj
    subst h2 Yj;rw[hl] at h3;injection h3 with h3
    injection h3 with _ h3
    subst h3;exact absurd h4 QB
theorem sZ {s:CS} (hI:Inv s) {k g p:Nat} {e:Q8} {l:Yn} (hk:s.tab[k]? = some ⟨g,some e⟩) (hp:p < e.ws.length) (hr:Va (Qd s e) p=true) (hl:XL l) (ht:∀ a b,l = .obj a b→∃ f,Qk s.tab a b=some (a,f)) :
  Inv { Y3 s k g { e with ws:=e.ws.set p (Vm l) } with rem:=Zs (Y3 s k g { e with ws:=e.ws.set p (Vm l) }) k { e with ws:=e.ws.set p (Vm l) } p l }:=by
 have Qw:({ e with ws:=e.ws.set p (Vm l) }:Q8).ws.length=e.ws.length:=by show (e.ws.set p _).length=_;rw[length_set]
 have hS:LV s k g e { e with ws:=e.ws.set p (Vm l) }:=⟨hk,rfl,rfl,Qw⟩;have VB:=(List.getElem?_eq_some_iff.1 hk).1;have VO:Qd s { e with ws:=e.ws.set p (Vm l) }=Qd s e:=rfl;refine⟨ig (s:=Y3 s k g _) hI.nd _ _ _ _,fun r t=>?_,?_⟩
 ·show QV (Zs _ k _ p l) r=some t↔LQ (Y3 s k g _) r t;by_cases L8:r=((k:Int),(p:Int))
  ·subst L8;rw[ii (s:=Y3 s k g _) hI.nd];constructor
   ·rintro⟨a,b,f,rfl,h1,h2,rfl⟩;exact⟨k,p,g,_,a,b,f,rfl,getElem?_set_self VB,by rw[Qw];exact hp,hr,Th hl hp,h1,h2,rfl⟩
   ·rintro⟨j,q,g1,e1,a,b,f,hq,h1,h2,h3,h4,h5,h6,rfl⟩;injection hq with JV OG
    obtain rfl:k=j:=by omega
    obtain rfl:p=q:=by omega
    replace h1:(s.tab.set k _)[k]? = some ⟨g1,some e1⟩:=h1;rw[getElem?_set_self VB] at h1;injection h1 with h1
    injection h1 with h0 h1
    injection h1 with h1
    subst h0 h1;rw[Th hl hp] at h4;exact⟨a,b,f,h4,h5,h6,rfl⟩
  ·rw[Tj (s:=Y3 s k g _) hI.nd L8,sV hS fun q hq=>Tg (by rintro rfl;exact L8 hq)];exact hI.rem r t
 ·intro j g1 e1 q a b h1 h2 h3 h4;have h1:(s.tab.set k _)[j]? = some ⟨g1,some e1⟩:=h1;show ∃ f,Qk (Y3 s k g _).tab a b=_;rw[ic hS]
  rcases VE h1 with ⟨rfl,h7,_⟩|⟨_,h7⟩
  ·injection h7 with h0 h7
   injection h7 with h7
   subst h0 h7;by_cases hq:q=p
   ·subst hq;rw[Th hl hp] at h4;exact ht a b h4
   ·rw[Tg hq] at h4;exact hI.link j g1 e q a b hk (by rw[← Qw];exact h2) h3 h4
  ·exact hI.link j g1 e1 q a b h7 h2 h3 h4
theorem ij {s:CS} (hI:Inv s) (i g p:Int) (x:Nat):Inv (Kz s i g p x).1:=by
 cases hv:V3 s.tab i g with
 | none=>rw[JA hv];exact hI
 | some q=>
  obtain⟨k,e⟩:=q;obtain⟨n,rfl,rfl,hk,_⟩:=Gv hv;rw[JB hv];split
  ·rename_i h0;obtain⟨j,rfl,hj,hr⟩:=UI h0;exact sY hI hk hr
  ·exact hI
theorem sG {s:CS} (hI:Inv s) (i g:Int):Inv (R3 s i g).1:=by
 cases hv:V3 s.tab i g with
 | none=>rw[JE hv];exact hI
 | some q=>
  obtain⟨k,e⟩:=q;obtain⟨n,rfl,rfl,hk,_⟩:=Gv hv;rw[JF hv,Int.toNat_natCast];exact Ti hI hk rfl rfl rfl
theorem sX {s:CS} (hI:Inv s) (i g:Int) (on:Bool):Inv (R4 s i g on).1:=by
 cases hv:V3 s.tab i g with
 | none=>rw[JH hv];exact hI
 | some q=>
  obtain⟨k,e⟩:=q;obtain⟨n,rfl,rfl,hk,_⟩:=Gv hv;rw[JI hv];split
  ·exact hI
  ·rw[Int.toNat_natCast];exact Ti hI hk rfl rfl rfl
theorem ik {s:CS} (hI:Inv s) (i g p:Int) {l:Yn} (hl:XL l) (ht:∀ a b,l = .obj a b→∃ f,Qk s.tab a b=some (a,f)):Inv (Xg s i g p l).1:=by
 cases hv:V3 s.tab i g with
 | none=>rw[JM hv];exact hI
 | some q=>
  obtain⟨k,e⟩:=q;obtain⟨n,rfl,rfl,hk,_⟩:=Gv hv;rw[Dq hv];split
  ·rename_i h0;obtain⟨j,rfl,hj,hr⟩:=UI h0;exact sZ hI hk hj hr hl ht
  ·exact hI
theorem il {s:CS} (hw:WF s) (hI:Inv s) (i g p u v:Int):Inv (G6 s i g p u v).1:=by
 unfold G6;split
 ·exact hI
 ·split
  ·exact hI
  ·rename_i _ hn;cases hv:V3 s.tab u v with
   | none=>rw[hv] at hn;exact absurd rfl hn
   | some q=>
    obtain⟨k,e⟩:=q;obtain⟨n,rfl,rfl,hk,_⟩:=Gv hv;refine ik hI i g p (TW hw hk) fun a b Xx=>?_;injection Xx with h1 h2
    rw[Int.toNat_natCast] at h1 h2;subst h1 h2;exact⟨e,Yz.2 ⟨n,rfl,rfl,hk⟩⟩
theorem sK {s:CS} (hI:Inv s) (i g p:Int):Inv (UV s i g p):=by
 unfold UV;split
 ·rename_i a b _;cases hl:Qk s.tab a b with
  | none=>rw[JN hl];exact hI
  | some q=>
   obtain⟨k,e⟩:=q;obtain⟨n,h1,h2,hk⟩:=Yz.1 hl;obtain rfl:b=n:=by omega
   rw[JO hl];exact Ti hI hk rfl rfl rfl
 ·exact hI
theorem sR {s:CS} (hw:WF s) (hI:Inv s) (x:Qb):Inv { s with lays:=s.lays++[x] }:=by
 have VO:∀ (k g:Nat) (e:Q8),s.tab[k]? = some ⟨g,some e⟩→Qd { s with lays:=s.lays++[x] } e=Qd s e:=by
  intro k g e hk;obtain⟨⟨_,l,h1,_⟩,_⟩:=hw.obj k g e hk;show ((s.lays++[x])[e.lay - 1]?).getD _=_;unfold Qd;rw[getElem?_append_left (List.getElem?_eq_some_iff.1 h1).1]
 refine⟨hI.nd,fun r t=>?_,fun j g1 e1 q a b h1 h2 h3 h4=>hI.link j g1 e1 q a b h1 h2 (by rw[VO _ _ _ h1] at h3;exact h3) h4⟩;show QV s.rem r=some t↔_;rw[hI.rem];constructor
 ·rintro⟨j,p,g1,e1,a,b,f,rfl,h1,h2,h3,h4⟩;exact⟨j,p,g1,e1,a,b,f,rfl,h1,h2,by rw[VO _ _ _ h1];exact h3,h4⟩
 ·rintro⟨j,p,g1,e1,a,b,f,rfl,h1,h2,h3,h4⟩;rw[VO _ _ _ h1] at h3;exact⟨j,p,g1,e1,a,b,f,rfl,h1,h2,h3,h4⟩
theorem sH {s:CS} (hw:WF s) (hI:Inv s) (ws:List Nat):Inv (R5 s ws).1:=by
 cases hd:Gq ws with
 | none=>rw[JP hd];exact hI
 | some l=>
  rw[Fr hd];split
  ·exact hI
  ·exact sR hw hI l
theorem sI {s:CS} (hI:Inv s) (q:Int) (b b2:Nat):Inv (Dr s q b b2):=⟨hI.nd,hI.rem,hI.link⟩
theorem im {s s':CS} (hI:Inv s) {k g0 n:Nat} {e0:Q8} (hk:s.tab[k]? = some ⟨g0,none⟩) (h1:s'.lays=s.lays) (h2:s'.rem=s.rem) (h3:s'.tab=s.tab.set k ⟨g0+1,some e0⟩) (h0:e0.ws=List.replicate n 0):Inv s':=by
 have VB:=(List.getElem?_eq_some_iff.1 hk).1;have VO:∀ e,Qd s' e=Qd s e:=fun e=>by unfold Qd;rw[h1]
 have hz:∀ p,YQ e0 p = .none:=fun p=>by
  unfold YQ;rw[h0,getD_eq_getElem?_getD,getElem?_replicate];split <;> rfl
 have GK:∀ {a b:Nat} {f:Q8},Qk s.tab a b=some (a,f)→Qk s'.tab a b=some (a,f):=fun {a b f} hf=>by
  obtain⟨_,Ze⟩:=Xk hf;refine Yz.2 ⟨b,rfl,rfl,?_⟩;rw[h3,getElem?_set_ne (by rintro rfl;rw[hk] at Ze;cases Ze)];exact Ze
 have GG:∀ {j g1:Nat} {e1:Q8},s.tab[j]? = some ⟨g1,some e1⟩→s'.tab[j]? = some ⟨g1,some e1⟩:=fun {j g1 e1} hj=>by
  rw[h3,getElem?_set_ne (by rintro rfl;rw[hk] at hj;cases hj)];exact hj
 refine⟨by rw[h2];exact hI.nd,fun r t=>?_,?_⟩
 ·rw[h2,hI.rem];constructor
  ·rintro⟨j,p,g1,e1,a,b,f,rfl,q1,q2,q3,q4,q5,q6,rfl⟩;exact⟨j,p,g1,e1,a,b,f,rfl,GG q1,q2,by rw[VO];exact q3,q4,GK q5,q6,rfl⟩
  ·rintro⟨j,p,g1,e1,a,b,f,rfl,q1,q2,q3,q4,q5,q6,rfl⟩;rw[h3] at q1
   rcases VE q1 with ⟨rfl,q7,_⟩|⟨_,q7⟩
   ·injection q7 with _ q7
    injection q7 with q7
    subst q7;rw[hz] at q4;cases q4
   ·rw[VO] at q3;obtain⟨f',Ze⟩:=hI.link j g1 e1 p a b q7 q2 q3 q4;have h5:=GK Ze;rw[q5] at h5;injection h5 with h5
    injection h5 with _ h5
    subst h5;exact⟨j,p,g1,e1,a,b,f,rfl,q7,q2,q3,q4,Ze,q6,rfl⟩
 ·intro j g1 e1 p a b q1 q2 q3 q4;rw[h3] at q1
  rcases VE q1 with ⟨rfl,q7,_⟩|⟨_,q7⟩
  ·injection q7 with _ q7
   injection q7 with q7
   subst q7;rw[hz] at q4;cases q4
  ·rw[VO] at q3;obtain⟨f',Ze⟩:=hI.link j g1 e1 p a b q7 q2 q3 q4;exact⟨f',GK Ze⟩
theorem io {s:CS} (h1:s.rem=[]) (h2:∀ (k g:Nat) (e:Q8),s.tab[k]? ≠ some ⟨g,some e⟩):Inv s:=
 ⟨by rw[h1];exact nodup_nil,fun r t=>⟨fun h=>(by rw[h1] at h;cases h),fun ⟨k,p,g,e,_,_,_,_,h,_⟩=>absurd h (h2 k g e)⟩,fun k g e _ _ _ h=>absurd h (h2 k g e)⟩
theorem iq {n:Nat} (k g:Nat) (e:Q8):(List.replicate n (⟨0,none⟩:QW))[k]? ≠ some ⟨g,some e⟩:=by
 intro h;rw[getElem?_replicate] at h;split at h
 ·injection h with h
  injection h with _ h
  cases h
 ·cases h
structure ZJ (par:List (Int×Int)):Prop where
 nd:(par.map (·.1)).Nodup
 up:∀ r q,QV par r=some q→0≤q∧q < r∧(q=0∨(QV par q).isSome=true)
inductive Ge (par:List (Int×Int)) (id:Int):Int→Prop
 | self:Ge par id id
 | kid {c k:Int}:Ge par id k→QV par c=some k→Ge par id c
theorem Ge.ge {par:List (Int×Int)} (h:ZJ par) {id c:Int} (d:Ge par id c):id≤c:=by
 induction d with
 | self=>exact Int.le_refl _
 | kid _ hf ih=>have:=(h.up _ _ hf).2.1;omega
theorem Ge.live {par:List (Int×Int)} {id c:Int} (Qx:(QV par id).isSome=true) (d:Ge par id c):(QV par c).isSome=true:=by
 cases d with
 | self=>exact Qx
 | kid _ hf=>rw[hf];rfl
theorem Ge.inv {par:List (Int×Int)} {id c:Int} (d:Ge par id c):c=id∨∃ k,QV par c=some k∧Ge par id k:=by
 cases d with
 | self=>exact .inl rfl
 | kid hk hf=>exact .inr ⟨_,hf,hk⟩
structure Rm (par:List (Int×Int)) (id:Int) (l:List Int) (i:Nat):Prop where
 nd:l.Nodup
 le:i≤l.length
 desc:∀ c∈l,Ge par id c
 mem:∀ c,c∈l↔c=id∨∃ k∈l.take i,QV par c=some k
theorem Rm.start (par:List (Int×Int)) (id:Int):Rm par id [id] 0:=
 ⟨by simp,by simp,fun c hc=>by rw[mem_singleton] at hc;subst hc;exact .self,fun c=>by simp⟩
theorem Rm.step {par:List (Int×Int)} (h:ZJ par) {id:Int} {l K:List Int} {i:Nat} (b:Rm par id l i) {x:Int} (hx:l[i]? = some x) (hK:K.Nodup) (hm:∀ c,c∈K↔QV par c=some x):Rm par id (l++K) (i+1):=by
 have UE:=(List.getElem?_eq_some_iff.1 hx).1
 have Qj:(l++K).take (i+1)=l.take i++[x]:=by
  rw[take_append_of_le_length (by omega),take_add_one,hx];rfl
 have FT:=mem_of_getElem? hx
 have KT:x∉l.take i:=fun hh=>by
  obtain⟨j,hj⟩:=getElem?_of_mem hh;rw[getElem?_take] at hj;split at hj
  ·rename_i Yf;obtain⟨BI,Ka⟩:=List.getElem?_eq_some_iff.1 hj;obtain⟨_,LY⟩:=List.getElem?_eq_some_iff.1 hx;exact(pairwise_iff_getElem.1 b.nd) j i BI UE Yf (Ka.trans LY.symm)
  ·cases hj
 refine⟨?_,by rw[length_append];omega,fun c hc=>?_,fun c=>?_⟩
 ·rw[nodup_append];refine⟨b.nd,hK,fun a ha c hc sJ=>?_⟩;subst sJ;have hf:=(hm a).1 hc
  rcases (b.mem a).1 ha with rfl|⟨k,hk,VN⟩
  ·have:=(b.desc x FT).ge h;have:=(h.up _ _ hf).2.1;omega
  ·rw[hf] at VN;injection VN with VN
   subst VN;exact KT hk
 ·rcases mem_append.1 hc with hc|hc
  ·exact b.desc c hc
  ·exact .kid (b.desc x FT) ((hm c).1 hc)
 ·rw[Qj,mem_append,b.mem,hm];constructor
  ·rintro((h1|⟨k,hk,h1⟩)|h1)
   ·exact .inl h1
   ·exact .inr ⟨k,mem_append.2 (.inl hk),h1⟩
   ·exact .inr ⟨x,by simp,h1⟩
  ·rintro(h1|⟨k,hk,h1⟩)
   ·exact .inl (.inl h1)
   ·rcases mem_append.1 hk with hk|hk
    ·exact .inl (.inr ⟨k,hk,h1⟩)
    ·rw[mem_singleton] at hk;subst hk;exact .inr h1
theorem Rm.ends {par:List (Int×Int)} {id:Int} {l:List Int} (b:Rm par id l l.length) (c:Int):c∈l↔Ge par id c:=by
 refine⟨b.desc c,fun d=>?_⟩
 induction d with
 | self=>exact(b.mem _).2 (.inl rfl)
 | kid _ hf ih=>exact(b.mem _).2 (.inr ⟨_,by rw[take_length];exact ih,hf⟩)
theorem Rm.len {par:List (Int×Int)} {id:Int} (Qx:(QV par id).isSome=true) {l:List Int} {i:Nat} (b:Rm par id l i):l.length≤par.length:=by
 have:=U5 b.nd (l₂:=par.map (·.1)) (fun c hc=>by
  have h1:=(b.desc c hc).live Qx;cases hf:QV par c with
  | none=>rw[hf] at h1;cases h1
  | some q=>exact mem_map.2 ⟨(c,q),KK hf,rfl⟩)
 rwa [length_map] at this
theorem Tk {par:List (Int×Int)} (h:ZJ par) {last:Nat} {r:Int} (hr:r=0∨(QV par r).isSome=true) (h0:0≤r) (hl:∀ x q,(x,q)∈par→x≤(last:Int)) (AK:r≤last):ZJ (par++[(((last+1:Nat):Int),r)]):=by
 have hn:((last+1:Nat):Int)∉par.map (·.1):=fun h1=>by
  obtain⟨⟨x,q⟩,h2,h3⟩:=mem_map.1 h1;have h3:x=((last+1:Nat):Int):=h3;have:=hl x q h2;omega
 have hf:∀ x,QV (par++[(((last+1:Nat):Int),r)]) x=if x=((last+1:Nat):Int) then some r else QV par x:=fun x=>by
  rw[← Wh hn,KX];by_cases h1:x=((last+1:Nat):Int)
  ·rw[if_pos h1,if_pos h1.symm]
  ·rw[if_neg h1,if_neg (fun h=>h1 h.symm)]
 have X0:∀ x,(QV par x).isSome=true→(QV (par++[(((last+1:Nat):Int),r)]) x).isSome=true:=fun x h1=>by
  rw[hf];split
  ·rfl
  ·exact h1
 refine⟨?_,fun x q hx=>?_⟩
 ·rw[map_append,nodup_append];refine⟨h.nd,by simp,fun a ha b hb Xx=>?_⟩;simp at hb;subst Xx;subst hb;exact hn (by simpa using ha)
 ·rw[hf] at hx;split at hx
  ·injection hx with hx
   subst hx;rename_i h1;exact⟨h0,by omega,hr.imp id (X0 _)⟩
  ·obtain⟨a,b,c⟩:=h.up x q hx;exact⟨a,b,c.imp id (X0 _)⟩
theorem sM {par:List (Int×Int)} (h:ZJ par) {last:Nat} {r:Int} (he:Ga par r=0) (hl:∀ x q,(x,q)∈par→1≤x∧x≤(last:Int)):ZJ (par++[(((last+1:Nat):Int),r)]):=by
 have hr:r=0∨(QV par r).isSome=true:=by
  unfold Ga at he;split at he
  ·cases he
  ·rename_i h1;by_cases h2:r=0
   ·exact .inl h2
   ·cases hf:(QV par r).isSome with
    | true=>exact .inr rfl
    | false=>exact absurd ⟨h2,hf⟩ h1
 have h0:0≤r∧r≤(last:Int):=by
  rcases hr with h1|h1
  ·omega
  ·obtain⟨⟨x,q⟩,h2,h3⟩:=mem_map.1 (Di h1);have h3:x=r:=h3;have:=hl x q h2;omega
 exact Tk h hr h0.1 (fun x q hx=>(hl x q hx).2) h0.2
end Go.Proofs.YtmjdnljneifpcaaGreatDoor
namespace Go.SL
open List
section
variable {P:Program} {n:Nat} {r:Option Nat} {ops:Array Oper} {σ:QC} {w:World}
variable {ivs:List (List Nat×(World→Prop))} {T:QC→World→Prop} {f:Nat} {L:Array Bool}
variable {u:TypeId} {p:String} {af:Array Edge} {g:Option (Nat×Bool)} {d:Option Tmp} {x y:Operand}
end
end Go.SL
namespace Go.Proofs.YtmjdnljneifpcaaGreatDoor
open List
open Go.SL
def YF (ts:List QW):List (Nat×Bool):=ts.map fun t=>(t.gen,t.ent.isSome)
theorem LZ {ts:List QW} {k g:Nat} {e e':Q8} (h:ts[k]? = some ⟨g,some e⟩):YF (ts.set k ⟨g,some e'⟩)=YF ts:=by
 unfold YF;rw[map_set];apply ext_getElem?;intro i;rw[getElem?_set];split
 ·rename_i hi;subst hi;have:=(List.getElem?_eq_some_iff.1 h).1;rw[getElem?_map,h];simp[this]
 ·rfl
structure LG (s:CS) (m:MS) (told:List (Nat×Nat)) (s':CS) (m':MS) (told':List (Nat×Nat)):Prop where
 P:m'.P.length≤m.P.length+1
 objs:m'.objs.length≤m.objs.length+1
 tab:(told'=told∧YF s'.tab=YF s.tab)∨∃ k g0:Nat,told'=told++[(k,g0+1)]∧s.tab[k]? = some ⟨g0,none⟩∧(∀ (j:Nat) (t:QW),j < k→s.tab[j]? = some t→busy t=true)∧YF s'.tab=(YF s.tab).set k (g0+1,true)
 inv:Inv s→Inv s'
 tree:ZJ s.par→ZJ s'.par:=by exact id
 part:Yi s→Yi s':=by exact id
def Tl (s:CS) (region id count:Int) (i g e:Nat) (s':CS):Prop:=
 (UY s region id count≠0∧i=0∧g=0∧e=UY s region id count∧s'=s) ∨
 (UY s region id count=0∧(∀ t∈s.tab,busy t=true)∧i=0∧g=0∧e=12∧s'=s) ∨
 (UY s region id count=0∧(∀ a,a+(ZI s id count / s.size+1)≤s.own.length→∃ i,a≤i∧i < a+(ZI s id count / s.size+1)∧s.own.getD i 0≠0)∧i=0∧g=0∧e=11∧s'=s) ∨
 (UY s region id count = 0 ∧ e = 0 ∧ ∃ g0 addr, s.tab[i]? = some ⟨g0, none⟩ ∧ g0 ≤ 254 ∧ (∀ (j : Nat) (t : QW), j < i → s.tab[j]? = some t → busy t = true) ∧ g = g0 + 1 ∧
  s'.size=s.size∧s'.lays=s.lays∧s'.last=s.last∧s'.par=s.par∧s'.rem=s.rem∧s'.tab=s.tab.set i ⟨g0+1,some ⟨addr,region,true,false,id.toNat,count.toNat,List.replicate (ZI s id count) 0⟩⟩∧OY s.own s'.own (ZI s id count / s.size+1)∧(Yi s→Yi s'))
theorem sN (x y:Int×Int):(if ZC BinOp.eql=true then decide (x=y) else !decide (x=y))=decide (x=y):=if_pos rfl
theorem OX [Q4] (p:Nat) (s:CS) (region id count:Int) {w:World} {fr:List Q2} [hT:Z6 0 Lib.deBruijn64tab fr] (H:Q0 w (QD p s::fr)) :
  Calls Tryz.prog 31 #[pp p,.int .i64 region,.int .i64 id,.int .i64 count] w (ret fun v w'=>∃ i g e s',v = .tuple #[Xv i g,.int .i64 (e:Nat)]∧Tl s region id count i g e s'∧Q0 w' (QD p s'::fr)):=by
 refine call (rJ p s region id count H) ?_;rintro v w (⟨h1,rfl,H⟩|⟨h1,h2,rfl,H⟩|⟨h1,h2,rfl,H⟩|⟨h1,k,g0,addr,s',h2,h3,h4,rfl,h5,h6,h7,h8,h9,YT,VC,YD,H⟩)
 ·exact⟨0,0,UY s region id count,s,rfl,.inl ⟨h1,rfl,rfl,rfl,rfl⟩,H⟩
 ·exact⟨0,0,12,s,rfl,.inr (.inl ⟨h1,h2,rfl,rfl,rfl,rfl⟩),H⟩
 ·exact⟨0,0,11,s,rfl,.inr (.inr (.inl ⟨h1,h2,rfl,rfl,rfl,rfl⟩)),H⟩
 ·exact⟨k,g0+1,0,s',rfl,.inr (.inr (.inr ⟨h1,rfl,g0,addr,h2,h3,h4,rfl,h5,h6,h7,h8,h9,YT,VC,YD⟩)),H⟩
theorem sP [Q4] (p c mo:Nat) (a:Option Addr) (cap:Nat) (s:CS) (m:MS) (told:List (Nat×Nat)) (R:Rel s m told) (Ce:m.objs.length < 100000) (k A B C X i g:Int) (kX:IntKind) (vW:Value) (raw:Bool) (Rn:vW.oneCell'=true) {w:World} {fr:List Q2} [hT:Z6 0 Lib.deBruijn64tab fr]
  (H:Q0 w (YK p c mo (.slice a told.length cap)::QD c s::V0 mo m::VD (.slice a told.length cap) told::fr)) :
  Calls Tryz.prog 163 #[pp p,.agg #[.int .i64 k,.int .i64 A,.int .i64 B,.int .i64 C,.int .u64 X,vW,.bool raw,.int .i64 i,.int .i64 g]] w (ret fun v w'=>v = .bool true∧∃ s' m' told' a' cap',Rel s' m' told'∧LG s m told s' m' told'∧Q0 w' (YK p c mo (.slice a' told'.length cap')::QD c s'::V0 mo m'::VD (.slice a' told'.length cap') told'::fr)):=by
 refine QQ Tryz.func163 rfl (by kernel_rfl) ?_;refine J8 H ?_;clear H;intro b3 w H;refine Yy H ?_;refine Qt (fun ms σ w=>ms=[]∧∃ (b5 i' g' e:Nat) (s':CS),Tl s A B C i' g' e s'∧σ 0=pp p∧σ 3=pp b3∧σ 5=pp b5∧σ 6 = .int .i64 e∧Q0 w (pts b5 (row 69 [.int .i64 i',.int .i64 g'])::pts b3 (row 93 [.int .i64 k,.int .i64 A,.int .i64 B,.int .i64 C,.int .u64 X,vW,.bool raw,.int .i64 i,.int .i64 g])::YK p c mo (.slice a told.length cap)::QD c s'::V0 mo m::VD (.slice a told.length cap) told::fr)) ?_ ?_
 ·replace H:=Js [2,0,0,0,0] 0 H;refine J1 H ?_;clear H;intro w H;refine YN H ?_;refine Jl 3 [10,15] H ?_;refine Jf 4 ?_;refine Jl 5 [10,15] H ?_;refine Jf 6 ?_;refine Jl 7 [10,15] H ?_;refine Jf 8 ?_;refine Jl 9 [10,15] H ?_;refine Jw 10 14 H rfl rfl (V1 (a:=[]) (b:=[]) rfl rfl (call (OX c s A B C H) ?_)) (YH H rfl ?_)
  ·clear H;rintro v w ⟨i',g',e,s',rfl,hM,H⟩;refine Ja 11 ?_;refine Ww H ?_;refine Jo 14 H ?_;refine YH H rfl ?_;clear H;intro b5 w H;refine Jo 15 H ?_;refine KD H ?_;clear H;intro w H;refine Ja 16 ?_;refine Jx H ?_;replace H:=Js [0,1,1,0,0,0] 0 H;exact⟨rfl,rfl,b5,i',g',e,s',hM,rfl,rfl,rfl,rfl,H⟩
  ·clear H;intro b5 w H;refine Jo 10 H ?_;refine Jk rfl rfl (OX c s A B C H.swap) ?_;clear H;rintro v w ⟨i',g',e,s',rfl,hM,H⟩;refine Ja 11 ?_;refine Ww H ?_;refine Jo 15 H ?_;refine KD H ?_;clear H;intro w H;refine Ja 16 ?_;refine Jx H ?_;replace H:=Js [1,1,1,0,0,0] 0 H;exact⟨rfl,rfl,b5,i',g',e,s',hM,rfl,rfl,rfl,rfl,H⟩
 clear H;rintro ms σ w ⟨rfl,b5,i',g',e,s',hM,g0,g3,g5,g6,H⟩;rw[Q1 g0,Q1 g3,Q1 g5,Q1 g6];obtain⟨ZY,Zo⟩:=TS R A B C;replace H:=Js [4,0,0,0,0,0] 0 H;refine J1 H ?_;clear H;intro w H;refine YN H ?_;refine Jl 3 [10] H ?_;refine Jf 4 ?_;refine Jl 5 [10] H ?_;refine Jf 6 ?_;refine Jl 7 [10] H ?_;refine Jf 8 ?_;refine Jl 9 [10] H ?_;refine Jo 10 H ?_;refine Jk rfl rfl (gP mo m A B C H) ?_;clear H;rintro v w ⟨rfl,H⟩;refine Ja 11 ?_;refine I0 H ?_;refine XE H ?_
 rcases hM with ⟨h1,rfl,rfl,rfl,rfl⟩|⟨h1,h2,rfl,rfl,rfl,rfl⟩|⟨h1,h2,rfl,rfl,rfl,rfl⟩|⟨h1,rfl,g0',addr,h2,h3,h4,rfl,h5,h6,h7,h8,h9,YT,VC,YD⟩
 ·have VI:(YO m A B C).2≠0:=by rw[← ZY];exact h1
  refine Vj H ?_;rw[show ((((YO m A B C).2:Nat):Int) != 0)=true by rw[bne_iff_ne];omega];refine NK H ?_;rw[show ((((UY s' A B C:Nat):Int)) == (((YO m A B C).2:Nat):Int))=true by rw[ZY];exact beq_self_eq_true _];refine Jv ?_;refine Ie H ?_;refine QS rfl rfl rfl (PO rfl rfl (.inl rfl) rfl ?_);refine J4 H ?_;replace H:=Js [3,3,0,2] 2 H;exact Q3 (Jy H rfl fun w' H'=>⟨rfl,s',m,told,a,cap,R,⟨by omega,by omega,.inl ⟨rfl,rfl⟩,id,id,id⟩,H'⟩)
 ·have VI:(YO m A B C).2=0:=by rw[← ZY];exact h1
  rw[VI];refine Ez H ?_;refine WQ H ?_;replace H:=Js [4,0,0,0,0,0] 0 H;obtain⟨q,mem,hw,hm,H⟩:=Y9 H;replace H:=Js [4,0,0,0,0,0,0,0,0,0,0,0,0,0,0,0] 0 H;refine Ib H ?_;refine Jc rfl rfl (gS q.tp s'.tab H) ?_;clear H;rintro v w ⟨rfl,H⟩
  have iQ:s'.tab.length - U8 s'.tab=0:=by
   unfold U8;rw[filter_eq_self.2 h2,Nat.sub_self]
  rw[iQ];refine ZS H ?_;refine Ie H ?_;refine QS rfl rfl rfl (PO rfl rfl (.inl rfl) rfl ?_);refine J4 H ?_;replace H:=Js [1,1,1,1,0,0,0,0,0,0,0,0,0,0,0,0] 0 H;replace H:=VJ hw hm H;replace H:=Js [4,0,0,2] 2 H;exact Q3 (Jy H rfl fun w' H'=>⟨rfl,s',m,told,a,cap,R,⟨by omega,by omega,.inl ⟨rfl,rfl⟩,id,id,id⟩,H'⟩)
 ·have VI:(YO m A B C).2=0:=by rw[← ZY];exact h1
  have hn:=Zo VI;rw[VI,← hn];refine Ez H ?_;refine Ig H ?_;refine WQ H ?_;replace H:=Js [4,0,0,0,0,0] 0 H;obtain⟨q,mem,hw,hm,H⟩:=Y9 H;replace H:=Js [3,0,0,0,0,0,0,0,0,0,0,0,0,0,0,0] 0 H;refine Ib H ?_;refine Jc rfl rfl (Io q.sp s'.size mem s'.own H) ?_;clear H;rintro v w ⟨rfl,H⟩;replace H:=Js [1,1,1,0,0,0,0,0,0,0,0,0,0,0,0,0] 0 H;replace H:=VJ hw hm H;refine J0 H ?_;replace H:=Js [4,0,0,0,0,0] 0 H;have Ve:=hw.size;have BU:s'.size > 0:=by omega
  have Kb:(if (1:Int) > ((s'.size:Nat):Int) then (1:Int) else ((s'.size:Nat):Int))=((s'.size:Nat):Int):=by split <;> omega
  have Q0q:ZI s' B C < 100000:=by
   obtain⟨r,la,c',l,_,_,_,_,_,e1,e2,e3⟩:=O3 VI;rw[hn,e1,e2];show l.fixed+c'*l.record < _;omega
  refine J1 H ?_;clear H;intro w H;refine Vw 0 [9,12] H rfl (Q9.none rfl) rfl (by repeat first|exact .nil _|apply QY.cons rfl) (by kernel_rfl) ?_;refine Uc 1 rfl (Q9.none rfl) rfl (by kernel_rfl) ?_;refine nL 2 rfl (Q9.none rfl) rfl rfl (.inl rfl) (by kernel_rfl) ?_;rw[sN,decide_eq_true (show (((0:Nat):Int),((0:Nat):Int))=((0:Int),(0:Int)) from rfl)];refine Ja 3 ?_;refine KI H ?_;rw[show decide ((s'.size:Int) > 0)=true from decide_eq_true (by omega)];refine Ja 6 ?_;refine Ja 7 ?_;refine Ja 8 ?_;refine Ja 10 ?_;refine Ja 11 ?_;refine Jw 9 12 H rfl rfl (V1 (a:=[]) (b:=[]) rfl rfl (call (iH p c mo _ s' H) ?_)) (MR rfl rfl rfl ?_)
  ·clear H;rintro v w ⟨bb,rfl,AY,H⟩
   have Q6:bb < ZI s' B C / s'.size+1:=by
    refine Nat.lt_of_not_le fun VO=>?_;obtain⟨a0,ha,hz⟩:=AY;obtain⟨i0,RT,AQ,Tn⟩:=h2 a0 (by omega);exact Tn (hz i0 RT (by omega))
   have Ee:ZI s' B C / s'.size≤ZI s' B C:=Nat.div_le_self _ _;refine Jo 12 H ?_;refine MR rfl rfl rfl ?_;rw[Kb]
   refine XW (v := .int .i64 ((ZI s' B C / s'.size:Nat):Int)) 13 rfl (Q9.of rfl rfl rfl) (by
    show (if IntKind.i64=IntKind.i64 then (if ((s'.size:Nat):Int)=0 then none else some (Value.int IntKind.i64 (IntKind.i64.wrap (Int.tdiv ((ZI s' B C:Nat):Int) ((s'.size:Nat):Int))))) else none)=_;rw[if_pos rfl,if_neg (by omega),CK (by omega)]) (by kernel_rfl) ?_
   refine Ja 14 ?_;rw[Qh (by omega)];refine Ja 15 ?_;rw[show decide ((bb:Int) < ((ZI s' B C / s'.size+1:Nat):Int))=true from decide_eq_true (by omega)];refine Ja 16 ?_;refine DS H ?_;replace H:=Js [0,0,0,2] 2 H;exact Q3 (Jy H rfl fun w' H'=>⟨rfl,s',m,told,a,cap,R,⟨by omega,by omega,.inl ⟨rfl,rfl⟩,id,id,id⟩,H'⟩)
  ·rw[Kb];have Ee:ZI s' B C / s'.size≤ZI s' B C:=Nat.div_le_self _ _
   refine XW (v := .int .i64 ((ZI s' B C / s'.size:Nat):Int)) 13 rfl (Q9.of rfl rfl rfl) (by
    show (if IntKind.i64=IntKind.i64 then (if ((s'.size:Nat):Int)=0 then none else some (Value.int IntKind.i64 (IntKind.i64.wrap (Int.tdiv ((ZI s' B C:Nat):Int) ((s'.size:Nat):Int))))) else none)=_;rw[if_pos rfl,if_neg (by omega),CK (by omega)]) (by kernel_rfl) ?_
   refine Ja 14 ?_;rw[Qh (by omega)];refine Jo 9 H ?_;refine Jk rfl rfl (iH p c mo _ s' H) ?_;clear H;rintro v w ⟨bb,rfl,AY,H⟩
   have Q6:bb < ZI s' B C / s'.size+1:=by
    refine Nat.lt_of_not_le fun VO=>?_;obtain⟨a0,ha,hz⟩:=AY;obtain⟨i0,RT,AQ,Tn⟩:=h2 a0 (by omega);exact Tn (hz i0 RT (by omega))
   refine Ja 15 ?_;rw[show decide ((bb:Int) < ((ZI s' B C / s'.size+1:Nat):Int))=true from decide_eq_true (by omega)];refine Ja 16 ?_;refine DS H ?_;replace H:=Js [0,0,0,2] 2 H;exact Q3 (Jy H rfl fun w' H'=>⟨rfl,s',m,told,a,cap,R,⟨by omega,by omega,.inl ⟨rfl,rfl⟩,id,id,id⟩,H'⟩)
 ·have VI:(YO m A B C).2=0:=by rw[← ZY];exact h1
  rw[VI];obtain⟨_,_,_,_,_,_,_,Ul,_⟩:=id (GA H);obtain⟨L5,R'⟩:=iE R Ul VI h2 h6 h7 h8 YT;have Bt:told.length < 100000:=by rw[R.len];exact Ce
  refine Ez H ?_;refine Ig H ?_;refine Ig H ?_;refine YS H ?_;replace H:=Js [3,0,0,0,0,0] 0 H;refine N5 H ?_;replace H:=Js [5,2,2,0,1,0] 0 H;refine XE H ?_;refine Qq (fun ms σ w q=>ms=[]∧∃ j:Nat,j≤told.length∧q=told.length - j∧σ 0=pp p∧σ 3=pp b3∧σ 5=pp b5∧σ 102 = .slice a told.length cap∧σ 103 = .int .i64 told.length∧σ 104 = .int .i64 j∧Q0 w (VD (.slice a told.length cap) told::pts b5 (row 69 [.int .i64 (i':Nat),.int .i64 ((g0'+1:Nat):Int)])::pts b3 (row 93 [.int .i64 k,.int .i64 A,.int .i64 B,.int .i64 C,.int .u64 X,vW,.bool raw,.int .i64 i,.int .i64 g])::YK p c mo (.slice a told.length cap)::QD c s'::V0 mo m::fr)) (m:=told.length) ⟨rfl,0,by omega,rfl,rfl,rfl,rfl,rfl,rfl,rfl,H⟩ ?_;clear H;rintro ms σ w q ⟨rfl,j,hj,rfl,g0,g3,g5,g102,g103,g104,H⟩;rw[Q1 g0,Q1 g3,Q1 g5,Q1 g102,Q1 g103,Q1 g104];refine J7 H ?_;refine Qm rfl (fun h=>QF ?_) (fun h=>Qv ?_)
  ·have Q6:j < told.length:=by omega
   have hn:=getElem?_eq_getElem Q6;generalize told[j]=xy at hn;obtain⟨x,y⟩:=xy;obtain⟨bT,sT,rfl,H,QM⟩:=VX H (by omega);refine Z7 H ?_;refine Jd ?_;refine Q5 rfl (Vz H rfl (AG hn) rfl ?_);refine VS H ?_;clear H;intro b11 w H;refine J5 H ?_;clear H;intro w H;refine NG H ?_;refine J2 H ?_;replace H:=QM _ _ H.drop;refine Qm (p:=((x:Int),(y:Int))=(((i':Nat):Int),((g0'+1:Nat):Int))) rfl (fun he=>?_) (fun he=>QF ?_)
   ·exfalso;injection he with e1 e2
    obtain rfl:x=i':=by omega
    obtain rfl:y=g0'+1:=by omega
    exact L5 j hn
   ·refine J3 H ?_;exact⟨_,⟨rfl,j+1,Q6,rfl,rfl,rfl,rfl,rfl,rfl,Qh (by omega),H⟩,by omega⟩
  ·replace H:=Js [5,0,0,0,0,0] 0 H;refine J1 H ?_;clear H;intro w H;refine YN H ?_;refine Jl 3 [10] H ?_;refine Jf 4 ?_;refine Jl 5 [10] H ?_;refine Jf 6 ?_;refine Jl 7 [10] H ?_;refine Jf 8 ?_;refine Jl 9 [10] H ?_;refine Jo 10 H ?_;refine Jk rfl rfl (qj mo m A B C VI Ce H) ?_;clear H;rintro v w ⟨rfl,H⟩;refine Jx H ?_;replace H:=Js [1,1,2,0,0,0] 0 H;refine J1 H ?_;clear H;intro w H;refine C0 H ?_;refine Jl 4 [7,10] H ?_;refine S0 H ?_;refine Jo 6 H ?_;refine DX H ?_;clear H;intro bS w H;replace H:=H.swap;refine Jo 7 H ?_;refine ZU H rfl rfl (by repeat first|exact .nil _|apply QY.cons rfl) rfl (by decide) (by rw[Cc];simp only[length_cons,length_nil];omega) rfl rfl ?_;clear H;intro vS w H
   have e1:Gw told++[.int .i64 ((i':Nat):Int),.int .i64 ((g0'+1:Nat):Int)]=Gw (told++[(i',g0'+1)]):=by
    rw[Ta];rfl
   rw[e1] at H;obtain⟨aS,cS,rfl⟩:=QI H (m:=(told++[(i',g0'+1)]).length) (Cc _) (by decide);refine Ja 8 ?_;refine Jf 9 ?_;refine Jo 10 H ?_;refine KE H ?_;clear H;intro w H;refine I7 H ?_;replace H:=Js [3,5,3,0] 3 H;refine Q3 (Jy H rfl fun w' H'=>⟨rfl,s',_,_,aS,cS,R',⟨?_,?_,.inr ⟨i',g0',rfl,h2,h4,?_⟩,fun hI=>im hI h2 h6 h9 YT rfl,fun hT=>by rw[h8];exact hT,YD⟩,H'⟩)
   ·show m.P.length≤_;omega
   ·show (m.objs++[_]).length≤_;simp
   ·rw[YT];unfold YF;rw[map_set];rfl
theorem ir (s:CS) (i g p:Int) (x:Nat):YF (Kz s i g p x).1.tab=YF s.tab:=by
 cases hv:V3 s.tab i g with
 | none=>rw[JA hv]
 | some q=>
  obtain⟨k,e⟩:=q;obtain⟨n,rfl,rfl,hk,_⟩:=Gv hv;rw[JB hv];split
  ·rw[Int.toNat_natCast];exact LZ hk
  ·rfl
theorem sS (s:CS) (i g:Int):YF (R3 s i g).1.tab=YF s.tab:=by
 cases hv:V3 s.tab i g with
 | none=>rw[JE hv]
 | some q=>
  obtain⟨k,e⟩:=q;obtain⟨n,rfl,rfl,hk,_⟩:=Gv hv;rw[JF hv,Int.toNat_natCast];exact LZ hk
theorem sc (s:CS) (i g:Int) (on:Bool):YF (R4 s i g on).1.tab=YF s.tab:=by
 cases hv:V3 s.tab i g with
 | none=>rw[JH hv]
 | some q=>
  obtain⟨k,e⟩:=q;obtain⟨n,rfl,rfl,hk,_⟩:=Gv hv;rw[JI hv];split
  ·rfl
  ·rw[Int.toNat_natCast];exact LZ hk
theorem iu (s:CS) (i g p:Int) (l:Yn):YF (Xg s i g p l).1.tab=YF s.tab:=by
 cases hv:V3 s.tab i g with
 | none=>rw[JM hv]
 | some q=>
  obtain⟨k,e⟩:=q;obtain⟨n,rfl,rfl,hk,_⟩:=Gv hv;rw[Dq hv];split
  ·rw[Int.toNat_natCast];exact LZ hk
  ·rfl
theorem iv (s:CS) (i g p u v:Int):YF (G6 s i g p u v).1.tab=YF s.tab:=by
 unfold G6;split
 ·rfl
 ·split
  ·rfl
  ·exact iu s i g p _
theorem sd (s:CS) (i g p:Int):YF (UV s i g p).tab=YF s.tab:=by
 unfold UV;split
 ·rename_i a b _;cases hl:Qk s.tab a b with
  | none=>rw[JN hl]
  | some q=>
   obtain⟨k,e⟩:=q;obtain⟨n,h1,h2,hk⟩:=Yz.1 hl;obtain rfl:b=n:=by omega
   rw[JO hl];exact LZ hk
 ·rfl
theorem se (s:CS) (ws:List Nat):YF (R5 s ws).1.tab=YF s.tab:=by
 cases hd:Gq ws with
 | none=>rw[JP hd]
 | some l=>
  rw[Fr hd];split <;> rfl
theorem Fw (m:MS) (k:Nat) (x:QT):(G4 m k x).objs.length=m.objs.length:=length_set
theorem iw (m:MS) (o p:Int):(Kx m o p).1.objs.length=m.objs.length∧(Kx m o p).1.P=m.P:=by
 unfold Kx;split
 ·exact⟨rfl,rfl⟩
 ·split
  ·exact⟨Fw _ _ _,rfl⟩
  ·exact⟨rfl,rfl⟩
theorem iy (m:MS) (o p u:Int):(Zr m o p u).1.objs.length=m.objs.length∧(Zr m o p u).1.P=m.P:=by
 unfold Zr;split
 ·exact⟨rfl,rfl⟩
 ·split
  ·split
   ·exact⟨rfl,rfl⟩
   ·exact⟨Fw _ _ _,rfl⟩
  ·exact⟨rfl,rfl⟩
theorem iz (m:MS) (o:Int):(Xc m o).1.objs.length=m.objs.length∧(Xc m o).1.P=m.P:=by
 unfold Xc;split
 ·exact⟨rfl,rfl⟩
 ·exact⟨Fw _ _ _,rfl⟩
theorem j0 (m:MS) (o:Int) (on:Bool):(Xd m o on).1.objs.length=m.objs.length∧(Xd m o on).1.P=m.P:=by
 unfold Xd;split
 ·exact⟨rfl,rfl⟩
 ·split
  ·exact⟨rfl,rfl⟩
  ·exact⟨Fw _ _ _,rfl⟩
theorem sf (m:MS) (t:Nat):(AV m t).objs.length=m.objs.length∧(AV m t).P=m.P:=by
 unfold AV;split
 ·exact⟨Fw _ _ _,rfl⟩
 ·exact⟨rfl,rfl⟩
theorem j4 (m:MS) (o p:Int):(ZF m o p).1.objs.length=m.objs.length∧(ZF m o p).1.P=m.P:=by
 unfold ZF;split
 ·exact⟨rfl,rfl⟩
 ·split
  ·show (if _ then _ else _:MS).objs.length=_∧(if _ then _ else _:MS).P=_;split
   ·exact sf m _
   ·exact⟨rfl,rfl⟩
  ·exact⟨rfl,rfl⟩
theorem sg (m:MS) (o p:Int) (X:Nat):(BH m o p X).objs.length=m.objs.length∧(BH m o p X).P=m.P:=by
 unfold BH;split
 ·exact⟨rfl,rfl⟩
 ·split
  ·exact⟨Fw _ _ _,rfl⟩
  ·exact⟨rfl,rfl⟩
theorem j5 (m:MS) (ws:List Nat):(U7 m ws).1.objs=m.objs∧(U7 m ws).1.P=m.P:=by
 unfold U7;split
 ·exact⟨rfl,rfl⟩
 ·split <;> exact⟨rfl,rfl⟩
theorem j6 (s:CS) (i g p:Int) (x:Nat):Yt s (Kz s i g p x).1:=by
 cases hv:V3 s.tab i g with
 | none=>rw[JA hv];exact Yt.refl s
 | some q=>
  obtain⟨k,e⟩:=q;obtain⟨n,rfl,rfl,hk,_⟩:=Gv hv;rw[JB hv];split
  ·rw[Int.toNat_natCast];exact Yt.set (e':={ e with ws:=e.ws.set p.toNat x }) hk ⟨rfl,rfl,length_set⟩ s.rem
  ·exact Yt.refl s
theorem sh (s:CS) (i g:Int):Yt s (R3 s i g).1:=by
 cases hv:V3 s.tab i g with
 | none=>rw[JE hv];exact Yt.refl s
 | some q=>
  obtain⟨k,e⟩:=q;obtain⟨n,rfl,rfl,hk,_⟩:=Gv hv;rw[JF hv,Int.toNat_natCast];exact Yt.set (e':={ e with held:=false }) hk ⟨rfl,rfl,rfl⟩ s.rem
theorem si (s:CS) (i g:Int) (on:Bool):Yt s (R4 s i g on).1:=by
 cases hv:V3 s.tab i g with
 | none=>rw[JH hv];exact Yt.refl s
 | some q=>
  obtain⟨k,e⟩:=q;obtain⟨n,rfl,rfl,hk,_⟩:=Gv hv;rw[JI hv];split
  ·exact Yt.refl s
  ·rw[Int.toNat_natCast];exact Yt.set (e':={ e with pinned:=on }) hk ⟨rfl,rfl,rfl⟩ s.rem
theorem j7 (s:CS) (i g p:Int) (l:Yn):Yt s (Xg s i g p l).1:=by
 cases hv:V3 s.tab i g with
 | none=>rw[JM hv];exact Yt.refl s
 | some q=>
  obtain⟨k,e⟩:=q;obtain⟨n,rfl,rfl,hk,_⟩:=Gv hv;rw[Dq hv];split
  ·rw[Int.toNat_natCast];exact Yt.set (e':={ e with ws:=e.ws.set p.toNat (Vm l) }) hk ⟨rfl,rfl,length_set⟩ _
  ·exact Yt.refl s
theorem sj (s:CS) (i g p u v:Int):Yt s (G6 s i g p u v).1:=by
 unfold G6;split
 ·exact Yt.refl s
 ·split
  ·exact Yt.refl s
  ·exact j7 s i g p _
theorem sn (s:CS) (i g p:Int):Yt s (UV s i g p):=by
 unfold UV;split
 ·rename_i a b _;cases hl:Qk s.tab a b with
  | none=>rw[JN hl];exact Yt.refl s
  | some q=>
   obtain⟨k,e⟩:=q;obtain⟨n,h1,h2,hk⟩:=Yz.1 hl;obtain rfl:b=n:=by omega
   rw[JO hl];exact Yt.set (e':={ e with held:=true }) hk ⟨rfl,rfl,rfl⟩ s.rem
 ·exact Yt.refl s
theorem j8 (s:CS) (ws:List Nat):Yt s (R5 s ws).1:=by
 cases hd:Gq ws with
 | none=>rw[JP hd];exact Yt.refl s
 | some l=>
  rw[Fr hd];split
  ·exact Yt.refl s
  ·exact⟨rfl,rfl,rfl,fun k g e h=>⟨e,h,rfl,rfl,rfl⟩⟩
theorem sq (s:CS) (q:Int) (b b2:Nat) (hP:Yi s):Yi (Dr s q b b2):=fun k g e hk=>by
 obtain⟨x,x1,x2,x3⟩:=hP k g e hk;exact⟨x,mem_append.2 (.inl x1),x2,x3⟩
theorem Kc {s s':CS} {m m':MS} {told:List (Nat×Nat)} (h1:m'.objs.length=m.objs.length) (h2:m'.P=m.P) (h3:YF s'.tab=YF s.tab) (h4:Inv s→Inv s':=by exact id) (h5:Yt s s':=by exact Yt.refl _):LG s m told s' m' told:=⟨by rw[h2];omega,by omega,.inl ⟨rfl,h3⟩,h4,fun h=>by rw[h5.par];exact h,h5.part⟩
theorem XQ (x:Int):(x == x)=true:=beq_self_eq_true x
theorem sr [Q4] (p:Nat) (s:CS) (m:MS) (told:List (Nat×Nat)) (R:Rel s m told) (Ce:m.objs.length < 100000) (hP:m.P.length < 100000) (k A B C i g:Int) (X:Nat) (hX:X < 18446744073709551616) (vW:Value) (ws:List Nat) (Yq:∀ x∈ws,x < 18446744073709551616) (raw:Bool)
  {w:World} {fr:List Q2} [hT:Z6 0 Lib.deBruijn64tab fr] (Kd:Ya fr vW ws.length 1 (Qi ws)) (H:Q0 w (UO p s m told::fr)) :
  Calls Tryz.prog 100 #[pp p,.agg #[.int .i64 k,.int .i64 A,.int .i64 B,.int .i64 C,.int .u64 X,vW,.bool raw,.int .i64 i,.int .i64 g]] w (ret fun v w'=>v = .bool true∧∃ s' m' told',Rel s' m' told'∧LG s m told s' m' told'∧Q0 w' (UO p s' m' told'::fr)):=by
 obtain⟨_,adW,capW,rfl,_⟩:=id Kd;obtain⟨c,mo,a,cap,H⟩:=Dx H;have Qw:told.length≤1000000:=by rw[R.len];omega
 obtain⟨_,_,hw,_,_⟩:=Y9 H.swap;obtain⟨_,_,_,_,_,_,_,Ul,_⟩:=GA (H.sel [2,0,0,0] 0);refine QQ Tryz.func100 rfl (by kernel_rfl) ?_;refine J8 H ?_;clear H;intro b3 w H;refine Yy H ?_;refine Qt (fun ms σ w=>ms=[]∧∃ (b5:Nat) (i' g' o:Int),K8 told i' g' o∧σ 0=pp p∧σ 3=pp b3∧σ 5=pp b5∧σ 6 = .int .i64 o∧Q0 w (pts b5 (row 69 [.int .i64 i',.int .i64 g'])::pts b3 (row 93 [.int .i64 k,.int .i64 A,.int .i64 B,.int .i64 C,.int .u64 X,.slice adW ws.length capW,.bool raw,.int .i64 i,.int .i64 g])::YK p c mo (.slice a told.length cap)::QD c s::V0 mo m::VD (.slice a told.length cap) told::fr)) ?_ ?_
 ·replace H:=Js [1,3,0,0,0] 0 H;refine NU H ?_;refine Gm H ?_;refine NR H ?_;refine Jc rfl rfl (iF p c mo a cap told Qw A i g raw H) ?_;clear H;rintro v w ⟨i',g',o,rfl,hp,_,_,H⟩;refine YA H ?_;clear H;intro b5 w H;refine J5 H ?_;clear H;intro w H;refine J0 H ?_;replace H:=Js [0,2,0,1,1,0] 0 H;exact⟨rfl,rfl,_,i',g',o,hp,rfl,rfl,rfl,rfl,H⟩
 clear H;rintro ms σ w ⟨rfl,b5,i',g',o,XV,g0,g3,g5,g6,H⟩;rw[Q1 g0,Q1 g3,Q1 g5,Q1 g6];refine Ew H ?_;refine J2 H ?_;refine F8 H ?_;by_cases Xl:k=0
 ·subst Xl;refine Vr H ?_;replace H:=Js [3,0,0,0,0,0] 0 H;refine J1 H ?_;clear H;intro w H;refine Wx H ?_;refine Jk rfl rfl (gr c s _ ws Yq Kd.there.there.there.there.there H) ?_;clear H;rintro v w ⟨rfl,H⟩;obtain⟨hd,R'⟩:=iD R Ul ws;rw[hd];refine KB H ?_;replace H:=Js [4,0,0,0,0,0] 0 H;refine J1 H ?_;clear H;intro w H;refine Wx H ?_;refine Jk rfl rfl (qi mo m _ ws Yq Kd.there.there.there.there.there H) ?_;clear H;rintro v w ⟨rfl,H⟩;refine KB H ?_;refine Y7 H ?_;rw[XQ (((U7 m ws).2.1:Nat):Int)];refine DL H ?_;rw[XQ (((U7 m ws).2.2:Nat):Int)];refine J4 H ?_;replace H:=Js [4,1,0,2] 2 H;exact Q3 (Jy H rfl fun w' H'=>⟨rfl,_,_,_,R',⟨by rw[(j5 m ws).2];omega,by rw[(j5 m ws).1];omega,.inl ⟨rfl,se s ws⟩,fun hI=>sH hw hI ws,fun hT=>by rw[(j8 s ws).par];exact hT,(j8 s ws).part⟩,Z1 H'⟩)
 rw[show (k == 0)=false by simpa using Xl];refine UW H ?_;by_cases XT:k=1
 ·subst XT;refine Vr H ?_;have hl:=R.last;have he:=rn R hw A;replace H:=Js [3,0,0,0,0,0] 0 H;refine J1 H ?_;clear H;intro w H;refine Wx H ?_;refine Jk rfl rfl (TA c s A (by omega) H) ?_;clear H;rintro v w (⟨h1,rfl,H⟩|⟨h1,b,b2,rfl,H⟩)
  ·rw[he] at h1 ⊢;have ho:WI m A=(m,0,Gc m.P A):=by unfold WI;rw[if_neg h1]
   refine KB H ?_;replace H:=Js [4,0,0,0,0,0] 0 H;refine J1 H ?_;clear H;intro w H;refine Wx H ?_;refine Jk rfl rfl (gO mo m A hP H) ?_;clear H;rintro v w ⟨rfl,H⟩;rw[ho] at H ⊢;refine NW H ?_;refine Wq H ?_;rw[XQ ((Gc m.P A:Nat):Int)];refine J4 H ?_;replace H:=Js [4,1,0,2] 2 H;exact Q3 (Jy H rfl fun w' H'=>⟨rfl,_,_,_,R,Kc rfl rfl rfl,Z1 H'⟩)
  ·rw[he] at h1;have ho:WI m A=({ m with P:=m.P++[A] },m.P.length,0):=by unfold WI;rw[if_pos h1]
   refine KB H ?_;replace H:=Js [4,0,0,0,0,0] 0 H;refine J1 H ?_;clear H;intro w H;refine Wx H ?_;refine Jk rfl rfl (gO mo m A hP H) ?_;clear H;rintro v w ⟨rfl,H⟩;rw[ho] at H ⊢;rw[hl];refine KB H ?_;refine Y7 H ?_;rw[XQ ((m.P.length:Nat):Int)];refine DL H ?_;refine J4 H ?_;replace H:=Js [4,1,0,2] 2 H;exact Q3 (Jy H rfl fun w' H'=>⟨rfl,_,_,_,TO R h1 b b2,⟨by show (m.P++[A]).length≤_;simp,by show m.objs.length≤_;omega,.inl ⟨rfl,rfl⟩,fun hI=>sI hI A b b2,fun hT=>sM hT (he.trans h1) hw.par.2.2,sq s A b b2⟩,Z1 H'⟩)
 rw[show (k == 1)=false by simpa using XT];refine UW H ?_;by_cases VN:k=2
 ·subst VN;refine Vr H ?_;refine Xt H ?_;replace H:=Js [2,2,2,2,0,0] 0 H;refine Jc rfl rfl (sP p c mo a cap s m told R Ce _ A B C _ i g .i64 _ raw rfl H) ?_;clear H;rintro v w ⟨rfl,s',m',told',a',cap',R',S',H⟩;refine J0 H ?_;replace H:=Js [0,0,0,0] 2 H;exact Q3 (Jy H rfl fun w' H'=>⟨rfl,s',m',told',R',S',Z1 H'⟩)
 rw[show (k == 2)=false by simpa using VN];refine UW H ?_;by_cases CI:k=3
 ·subst CI;refine Vr H ?_;replace H:=Js [3,0,0,0,0,0] 0 H;refine J1 H ?_;clear H;intro w H;refine Ja 0 ?_;refine Ja 1 ?_;refine Jf 2 ?_;refine Jl 3 [7] H ?_;refine Vw 4 [7] H rfl (Q9.none rfl) rfl (by repeat first|exact .nil _|apply QY.cons rfl) (by kernel_rfl) ?_;refine Jf 5 ?_;refine Jl 6 [7] H ?_;refine Jo 7 H ?_;refine Jk rfl rfl (gk c s i' g' B H) ?_;clear H;rintro v w ⟨rfl,H⟩
  rcases rT R XV B with ⟨h0,h1⟩|⟨h0,n,j,x,rfl,rfl,hx,hj,h1⟩
  ·rw[h1];refine FF H ?_;replace H:=Js [4,0,0,0,0,0] 0 H;refine J1 H ?_;clear H;intro w H;refine Ih H ?_;refine Jk rfl rfl (CO mo m o B false H) ?_;clear H;rintro v w ⟨rfl,H⟩;refine WY H ?_;refine J3 H ?_;rw[show (((Vs m o B false:Nat):Int) != 0)=true by rw[bne_iff_ne];omega];refine NK H ?_;rw[XQ ((Vs m o B false:Nat):Int)];refine Rb H ?_;refine J4 H ?_;replace H:=Js [4,1,0,2] 2 H;exact Q3 (Jy H rfl fun w' H'=>⟨rfl,s,m,told,R,Kc rfl rfl rfl,Z1 H'⟩)
  ·rw[h1];have Z3:=(List.getElem?_eq_some_iff.1 hx).1;have Dy:=getElem?_eq_getElem hj;have To:x.w.getD j 0=x.w[j]:=by rw[getD_eq_getElem?_getD,Dy];rfl
   have Zg:=BR (w:=Ul) hx;rw[To];generalize x.w[j]=y at Dy;refine FF H ?_;replace H:=Js [4,0,0,0,0,0] 0 H;refine J1 H ?_;clear H;intro w H;refine Ih H ?_;refine Jk rfl rfl (CO mo m n j false H) ?_;clear H;rintro v w ⟨rfl,H⟩;rw[h0];refine WY H ?_;refine KC H ?_;obtain⟨t,lc,aL,cL,bO,cO,sO,ptrs,q,vw,vk,vt,rest,hm,h2,hp,H,QK⟩:=X5 H hx;have V7:=BK hx hm;obtain⟨aw,cw,rfl⟩:=QI H.drop (GY _) (by decide);obtain⟨bW,sW,rfl,H,LU⟩:=VX H.swap (by omega);refine J1 H ?_;clear H;intro w H;refine Ii H ?_;refine Mw H ?_;refine Ja 8 ?_;refine Jf 9 ?_;refine Jl 10 [] H ?_;refine Ja 11 ?_;refine Ji 12 ?_;refine YZ 13 [] H rfl (Q9.of rfl rfl rfl) rfl hp (by kernel_rfl) ?_;refine Ja 14 ?_;refine Jf 15 ?_;refine Jl 16 [] H ?_;refine Jf 17 ?_;refine Jl 18 [] H ?_;refine Ji 19 ?_;refine YZ 20 [] H rfl (Q9.of rfl rfl rfl) rfl (NI Dy) (by kernel_rfl) ?_;refine Ja 21 ?_;rw[XQ (y:Int)];refine Ja 22 ?_;refine Ja 23 ?_;refine Jx H ?_;replace H:=K2 hx (QK _ _ _ V7 (LU _ _ H).swap);replace H:=Js [4,1,0,2] 2 H;exact Q3 (Jy H rfl fun w' H'=>⟨rfl,s,m,told,R,Kc rfl rfl rfl,Z1 H'⟩)
 rw[show (k == 3)=false by simpa using CI];refine UW H ?_;by_cases Nt:k=4
 ·subst Nt;refine Vr H ?_;replace H:=Js [3,0,0,0,0,0] 0 H;refine J1 H ?_;clear H;intro w H;refine YN H ?_;refine Jl 3 [9,17] H ?_;refine Vw 4 [9,17] H rfl (Q9.none rfl) rfl (by repeat first|exact .nil _|apply QY.cons rfl) (by kernel_rfl) ?_;refine Jf 5 ?_;refine Jl 6 [9,17] H ?_;refine Jf 7 ?_;refine Jl 8 [9,17] H ?_;refine NA H ?_;refine Jl 13 [17] H ?_;refine Ja 14 ?_;refine Jf 15 ?_;refine Jl 16 [17] H ?_;obtain⟨hd,R'⟩:=rc R XV B X;refine Jo 9 H ?_;refine Jk rfl rfl (r5 c s i' g' B X hX H) ?_;clear H;rintro v w ⟨rfl,H⟩;rw[hd];replace H:=Js [4,0,0,0,0,0] 0 H;refine Jo 17 H ?_;refine Jk rfl rfl (CO mo m o B false H) ?_;clear H;rintro v w ⟨rfl,H⟩;refine Ja 18 ?_;refine Ja 19 ?_;refine Jx H ?_;refine J3 H ?_;have Uj:=sg m o B X;by_cases h0:Vs m o B false=0
  ·obtain⟨n,x,hv⟩:∃ n x,VH m o=some (n,x):=by
    cases hv:VH m o with
    | none=>rw[WE hv] at h0;cases h0
    | some kx=>exact⟨kx.1,kx.2,rfl⟩
   have LX:=h0;rw[K3 hv] at LX;rw[TI hv,if_pos LX] at R' Uj;obtain⟨rfl,hx,hh,hg⟩:=WD hv;obtain⟨j,rfl,hj,hr⟩:=UI LX;rw[Int.toNat_natCast] at R' Uj;rw[h0];have Z3:=(List.getElem?_eq_some_iff.1 hx).1;have Zg:=BR (w:=Ul) hx;refine Vr H ?_;obtain⟨t,lc,aL,cL,bO,cO,sO,ptrs,q,vw,vk,vt,rest,hm,h2,hp,H,QK⟩:=X5 H hx;obtain⟨aw,cw,rfl⟩:=QI H.drop (GY _) (by decide);obtain⟨bW,sW,rfl,H,_,_,LU⟩:=GJ H.swap (by omega);have Kb:=hm.objs x (mem_of_getElem? hx)
   have V7:Vc (G4 m n { x with w:=x.w.set j X }):=Dm hm (by
    obtain⟨a1,a2,a3,a4,a5⟩:=Kb;exact⟨by show ∃ l,_∧_∧Vg l _=((x.w.set j X).length,0);rw[length_set];exact a1,a2,by show _=(x.w.set j X).length;rw[length_set];exact a3,by show _=(x.w.set j X).length;rw[length_set];exact a4,a5⟩)
   refine J1 H ?_;clear H;intro w H;refine YN H ?_;refine Jl 3 [18] H ?_;refine Ja 4 ?_;refine Jf 5 ?_;refine Jl 6 [18] H ?_;refine Ja 7 ?_;refine Ji 8 ?_;refine YZ 9 [18] H rfl (Q9.none rfl) rfl hp (by kernel_rfl) ?_;refine Ja 10 ?_;refine Jf 11 ?_;refine Jl 12 [18] H ?_;refine Jf 13 ?_;refine Jl 14 [18] H ?_;refine Jf 15 ?_;refine Jl 16 [18] H ?_;refine Ji 17 ?_;refine Jo 18 H ?_;refine Zv H rfl rfl inferInstance rfl (by simp only[length_append,GY];omega) rfl ?_;clear H;intro w H;rw[Int.toNat_natCast,fD (by omega)] at H;refine Jx H ?_;refine DN H ?_;replace H:=LU _ _ (Qi (x.w.set j X)) (by simp[Qi]) H;replace H:=QK _ _ { x with w:=x.w.set j X } V7 H.swap;replace H:=Js [4,1,0,2] 2 H;exact Q3 (Jy H rfl fun w' H'=>⟨rfl,_,_,_,R',Kc Uj.1 Uj.2 (ir s i' g' j X) (fun hI=>ij hI i' g' j X) (j6 s i' g' j X),Z1 H'⟩)
  ·rw[show (((Vs m o B false:Nat):Int) == 0)=false by simpa using h0]
   have ss:BH m o B X=m:=by
    cases hv:VH m o with
    | none=>rw[iU hv]
    | some kx=>
     obtain⟨n,x⟩:=kx;rw[K3 hv] at h0;rw[TI hv,if_neg h0]
   rw[ss] at R';refine Vf H ?_;refine Y7 H ?_;rw[XQ ((Vs m o B false:Nat):Int)];refine J0 H ?_;replace H:=Js [4,1,0,2] 2 H;exact Q3 (Jy H rfl fun w' H'=>⟨rfl,_,_,_,R',Kc rfl rfl (ir s i' g' B X) (fun hI=>ij hI i' g' B X) (j6 s i' g' B X),Z1 H'⟩)
 rw[show (k == 4)=false by simpa using Nt];refine UW H ?_;by_cases hk5:k=5
 ·subst hk5;refine Vr H ?_;replace H:=Js [3,0,0,0,0,0] 0 H;obtain⟨hd,Dw,VN,Q6,R'⟩:=rl R Ul XV B;obtain⟨l1,l2,l3,ZE⟩:=Xa (Ys s i' g' B).1;have Tp:=fun (w:World) (fr:List Q2) (H:Q0 w (QD c s::fr))=>rG c s i' g' B H;rw[ZE,hd] at Tp;rw[Dw] at ZE;refine J6 H ?_;refine Qt (fun ms σ w=>ms=[]∧∃ b20,σ 0=pp p∧σ 3=pp b3∧σ 6 = .int .i64 o∧σ 20=pp b20∧σ 21 = .int .i64 ((ZF m o B).2.2.2:Nat)∧Q0 w (pts b20 (row 88 [.int .i64 l1,.int .i64 l2,.int .i64 l3])::pts b3 (row 93 [.int .i64 5,.int .i64 A,.int .i64 B,.int .i64 C,.int .u64 X,.slice adW ws.length capW,.bool raw,.int .i64 i,.int .i64 g])::YK p c mo (.slice a told.length cap)::QD c (UV s i' g' B)::V0 mo m::VD (.slice a told.length cap) told::fr)) ?_ ?_
  ·refine J1 H ?_;clear H;intro w H;refine YN H ?_;refine Jl 3 [7,12] H ?_;refine S6 H ?_;refine Jf 5 ?_;refine Jl 6 [7,12] H ?_;refine Jw 7 11 H rfl rfl (V1 (a:=[]) (b:=[]) rfl rfl (call (Tp _ _ H) ?_)) (YH H rfl ?_)
   ·clear H;rintro v w ⟨rfl,H⟩;refine CQ H ?_;refine FK H ?_;clear H;intro b20 w H;refine Rg H ?_;clear H;intro w H;refine C4 H ?_;replace H:=Js [0,2,2,0,1,1] 1 H;exact⟨rfl,rfl,b20,rfl,rfl,rfl,rfl,rfl,H⟩
   ·clear H;intro b20 w H;refine Jo 7 H ?_;refine Jk rfl rfl (Tp _ _ H.swap) ?_;clear H;rintro v w ⟨rfl,H⟩;refine CQ H ?_;refine Rg H ?_;clear H;intro w H;refine C4 H ?_;replace H:=Js [1,2,2,0,1,1] 1 H;exact⟨rfl,rfl,b20,rfl,rfl,rfl,rfl,rfl,H⟩
  clear H;rintro ms σ w ⟨rfl,b20,g0,g3,g6,g20,g21,H⟩;rw[Q1 g0,Q1 g3,Q1 g6,Q1 g20,Q1 g21];replace H:=Js [4,0,0,0,0,0] 0 H;refine J1 H ?_;clear H;intro w H;refine Ih H ?_;refine Jk rfl rfl (qe mo m o B H) ?_;clear H;rintro v w ⟨rfl,H⟩;refine Ja 8 ?_;refine Ja 9 ?_;refine Pz H ?_;refine Ja 14 ?_;refine Jx H ?_;refine Y7 H ?_;rw[XQ (((ZF m o B).2.2.2:Nat):Int)];replace H:=Js [3,4,1,1,1,0] 0 H;refine Ej H ?_;refine DG H ?_;refine GL H ?_;have Cf:=fun (w:World) (fr:List Q2) (H:Q0 w (YK p c mo (.slice a told.length cap)::VD (.slice a told.length cap) told::fr))=>Tc p c mo a cap told (ZF m o B).2.1 (ZF m o B).2.2.1 VN Q6 H;rw[ZE] at Cf;refine QS rfl rfl rfl (V1 (a:=[]) (b:=[]) rfl rfl (call (Cf _ _ H) ?_));clear H;rintro v w ⟨rfl,H⟩;refine J4 H ?_;replace H:=Js [0,3,3,0] 2 H;exact Q3 (Jy H rfl fun w' H'=>⟨rfl,_,_,_,R',Kc (j4 m o B).1 (j4 m o B).2 (sd s i' g' B) (fun hI=>sK hI i' g' B) (sn s i' g' B),Z1 H'⟩)
 rw[show (k == 5)=false by simpa using hk5];refine UW H ?_;by_cases hk6:k=6
 ·subst hk6;refine Vr H ?_;replace H:=Js [2,4,0,0,0,0] 0 H;refine NU H ?_;refine NR H ?_;refine Jc rfl rfl (iF p c mo a cap told Qw C i g false H) ?_;clear H;rintro v w ⟨u',v',q,rfl,hQ,_,_,H⟩;refine YA H ?_;clear H;intro b25 w H;refine J5 H ?_;clear H;intro w H;refine J0 H ?_;replace H:=Js [5,0,0,0,0,0,0] 0 H;refine J1 H ?_;clear H;intro w H;refine YN H ?_;refine Jl 3 [8,17] H ?_;refine Vw 4 [8,17] H rfl (Q9.none rfl) rfl (by repeat first|exact .nil _|apply QY.cons rfl) (by kernel_rfl) ?_;refine Jf 5 ?_;refine Jl 6 [8,17] H ?_;refine Vw 7 [8,17] H rfl (Q9.none rfl) rfl (by repeat first|exact .nil _|apply QY.cons rfl) (by kernel_rfl) ?_;refine I6 H ?_;refine Jl 12 [17] H ?_;refine Ja 13 ?_;refine Jf 14 ?_;refine Jl 15 [17] H ?_;refine Ja 16 ?_;obtain⟨hd,R'⟩:=iW R hw Ul XV hQ B;refine Jo 8 H ?_;refine Jk rfl rfl (gp c s i' g' B u' v' H) ?_;clear H;rintro v w ⟨rfl,H⟩;rw[hd];replace H:=Js [6,0,0,0,0,0,0] 0 H;refine Jo 17 H ?_;refine Jk rfl rfl (qb mo m o B q H) ?_;clear H;rintro v w ⟨rfl,H⟩;refine Ja 18 ?_;rw[XQ (((Zr m o B q).2:Nat):Int)];refine Ja 19 ?_;refine Jx H ?_;replace H:=Js [3,1,0,1] 3 H;exact Q3 (Jy H rfl fun w' H'=>⟨rfl,_,_,_,R',Kc (iy m o B q).1 (iy m o B q).2 (iv s i' g' B u' v') (fun hI=>il hw hI i' g' B u' v') (sj s i' g' B u' v'),Z1 H'⟩)
 rw[show (k == 6)=false by simpa using hk6];refine UW H ?_;by_cases hk7:k=7
 ·subst hk7;refine Vr H ?_;replace H:=Js [3,0,0,0,0,0] 0 H;refine J1 H ?_;clear H;intro w H;refine YN H ?_;refine Jl 3 [7,15] H ?_;refine Vw 4 [7,15] H rfl (Q9.none rfl) rfl (by repeat first|exact .nil _|apply QY.cons rfl) (by kernel_rfl) ?_;refine Jf 5 ?_;refine Jl 6 [7,15] H ?_;refine FE H ?_;refine Jl 11 [15] H ?_;refine Ja 12 ?_;refine Jf 13 ?_;refine Jl 14 [15] H ?_;obtain⟨hd,R'⟩:=rj R Ul XV B;refine Jo 7 H ?_;refine Jk rfl rfl (rZ c s i' g' B H) ?_;clear H;rintro v w ⟨rfl,H⟩;rw[hd];replace H:=Js [4,0,0,0,0,0] 0 H;refine Jo 15 H ?_;refine Jk rfl rfl (qa mo m o B H) ?_;clear H;rintro v w ⟨rfl,H⟩;refine Ja 16 ?_;rw[XQ (((Kx m o B).2:Nat):Int)];refine DS H ?_;replace H:=Js [4,1,0,2] 2 H;exact Q3 (Jy H rfl fun w' H'=>⟨rfl,_,_,_,R',Kc (iw m o B).1 (iw m o B).2 (iu s i' g' B .none) (fun hI=>ik hI i' g' B trivial fun a b h=>by cases h) (j7 s i' g' B .none),Z1 H'⟩)
 rw[show (k == 7)=false by simpa using hk7];refine UW H ?_;by_cases hk8:k=8
 ·subst hk8;refine Vr H ?_;replace H:=Js [3,0,0,0,0,0] 0 H;refine J1 H ?_;clear H;intro w H;refine YN H ?_;refine Jl 3 [5,11] H ?_;refine Vw 4 [5,11] H rfl (Q9.none rfl) rfl (by repeat first|exact .nil _|apply QY.cons rfl) (by kernel_rfl) ?_;refine FU H ?_;refine Jl 9 [11] H ?_;refine Ja 10 ?_;obtain⟨hd,R'⟩:=rh R XV;refine Jo 5 H ?_;refine Jk rfl rfl (r8 c s i' g' H) ?_;clear H;rintro v w ⟨rfl,H⟩;rw[hd];replace H:=Js [4,0,0,0,0,0] 0 H;refine Jo 11 H ?_;refine Jk rfl rfl (qS mo m o H) ?_;clear H;rintro v w ⟨rfl,H⟩;refine Ja 12 ?_;rw[XQ (((Xc m o).2:Nat):Int)];refine C4 H ?_;replace H:=Js [4,1,0,2] 2 H;exact Q3 (Jy H rfl fun w' H'=>⟨rfl,_,_,_,R',Kc (iz m o).1 (iz m o).2 (sS s i' g') (fun hI=>sG hI i' g') (sh s i' g'),Z1 H'⟩)
 rw[show (k == 8)=false by simpa using hk8];refine UW H ?_;by_cases hk9:k=9
 ·subst hk9;refine Vr H ?_;replace H:=Js [3,0,0,0,0,0] 0 H;refine J1 H ?_;clear H;intro w H;refine YN H ?_;refine Jl 3 [9,19] H ?_;refine Vw 4 [9,19] H rfl (Q9.none rfl) rfl (by repeat first|exact .nil _|apply QY.cons rfl) (by kernel_rfl) ?_;refine Jf 5 ?_;refine Jl 6 [9,19] H ?_;refine Ja 7 ?_;refine Ja 8 ?_;refine NA H ?_;refine Jl 13 [19] H ?_;refine Ja 14 ?_;refine Jf 15 ?_;refine Jl 16 [19] H ?_;refine Ja 17 ?_;refine Ja 18 ?_;generalize Xj:(ZO .and .u64 (X:Int) 1 == 1)=on;obtain⟨hd,R'⟩:=ri R XV on;refine Jo 9 H ?_;refine Jk rfl rfl (r9 c s i' g' on H) ?_;clear H;rintro v w ⟨rfl,H⟩;rw[hd];replace H:=Js [4,0,0,0,0,0] 0 H;refine Jo 19 H ?_;refine Jk rfl rfl (qT mo m o on H) ?_;clear H;rintro v w ⟨rfl,H⟩;refine Ja 20 ?_;rw[XQ (((Xd m o on).2:Nat):Int)];refine Ja 21 ?_;refine Jx H ?_;replace H:=Js [4,1,0,2] 2 H;exact Q3 (Jy H rfl fun w' H'=>⟨rfl,_,_,_,R',Kc (j0 m o on).1 (j0 m o on).2 (sc s i' g' on) (fun hI=>sX hI i' g' on) (si s i' g' on),Z1 H'⟩)
 rw[show (k == 9)=false by simpa using hk9];refine UW H ?_;by_cases hk10:k=10
 ·subst hk10;refine Vr H ?_;refine Ia H ?_;replace H:=Js [2,2,2,2,0,0] 0 H;refine Jc rfl rfl (iL p c mo _ s m told R.w i' g' o (AZ R XV) H) ?_;clear H;rintro v w ⟨rfl,H⟩;refine J0 H ?_;replace H:=Js [0,0,0,0] 2 H;exact Q3 (Jy H rfl fun w' H'=>⟨rfl,s,m,told,R,Kc rfl rfl rfl,Z1 H'⟩)
 rw[show (k == 10)=false by simpa using hk10];refine UW H ?_;by_cases hk11:k=11
 ·subst hk11;refine Vr H ?_;replace H:=Js [3,0,0,0,0,0] 0 H;have UQ:=fun (w:World) (fr:List Q2) (H:Q0 w (QD c s::fr))=>JD c s i' g' B H
  rcases TJ R XV B with ⟨h0,h1⟩|⟨h0,n,j,x,rfl,rfl,hx,hv,hj,hr,VN,h1⟩
  ·rw[h1] at UQ;obtain⟨l1,l2,l3,ZE⟩:=Xa .none;rw[ZE] at UQ;refine J6 H ?_;refine Qt (fun ms σ w=>ms=[]∧∃ b27,σ 0=pp p∧σ 3=pp b3∧σ 6 = .int .i64 o∧σ 27=pp b27∧σ 28 = .int .i64 (Vs m o B true:Nat)∧Q0 w (pts b27 (row 88 [.int .i64 l1,.int .i64 l2,.int .i64 l3])::pts b3 (row 93 [.int .i64 11,.int .i64 A,.int .i64 B,.int .i64 C,.int .u64 X,.slice adW ws.length capW,.bool raw,.int .i64 i,.int .i64 g])::YK p c mo (.slice a told.length cap)::QD c s::V0 mo m::VD (.slice a told.length cap) told::fr)) ?_ ?_
   ·refine J1 H ?_;clear H;intro w H;refine YN H ?_;refine Jl 3 [7,12] H ?_;refine S6 H ?_;refine Jf 5 ?_;refine Jl 6 [7,12] H ?_;refine Jw 7 11 H rfl rfl (V1 (a:=[]) (b:=[]) rfl rfl (call (UQ _ _ H) ?_)) (YH H rfl ?_)
    ·clear H;rintro v w ⟨rfl,H⟩;refine CQ H ?_;refine FK H ?_;clear H;intro b27 w H;refine Rg H ?_;clear H;intro w H;refine C4 H ?_;replace H:=Js [0,2,2,0,1,1] 1 H;exact⟨rfl,rfl,b27,rfl,rfl,rfl,rfl,rfl,H⟩
    ·clear H;intro b27 w H;refine Jo 7 H ?_;refine Jk rfl rfl (UQ _ _ H.swap) ?_;clear H;rintro v w ⟨rfl,H⟩;refine CQ H ?_;refine Rg H ?_;clear H;intro w H;refine C4 H ?_;replace H:=Js [1,2,2,0,1,1] 1 H;exact⟨rfl,rfl,b27,rfl,rfl,rfl,rfl,rfl,H⟩
   clear H;rintro ms σ w ⟨rfl,b27,g0,g3,g6,g27,g28,H⟩;rw[Q1 g0,Q1 g3,Q1 g6,Q1 g27,Q1 g28];replace H:=Js [4,0,0,0,0,0] 0 H;refine J1 H ?_;clear H;intro w H;refine Ih H ?_;refine Jk rfl rfl (CO mo m o B true H) ?_;clear H;rintro v w ⟨rfl,H⟩;refine WY H ?_;refine J3 H ?_;rw[show (((Vs m o B true:Nat):Int) != 0)=true by rw[bne_iff_ne];omega];refine Vr H ?_;cases ZE;refine Y7 H ?_;rw[XQ ((Vs m o B true:Nat):Int)];refine Jv ?_;refine Ie H ?_;refine QS rfl rfl rfl (Hr rfl rfl rfl rfl (.inl rfl) rfl ?_);refine J4 H ?_;replace H:=Js [3,3,0,2] 2 H;exact Q3 (Jy H rfl fun w' H'=>⟨congrArg Value.bool ((L7 _ _).trans (Tb 0 0 0)),s,m,told,R,Kc rfl rfl rfl,Z1 H'⟩)
  ·have Z3:=(List.getElem?_eq_some_iff.1 hx).1;have Kb:=Ul.objs x (mem_of_getElem? hx);have Gt:=Kb.kind;have O2:=Kb.to;have Zg:=BR (w:=Ul) hx;have Xe:=getElem?_eq_getElem (l:=x.kind) (i:=j) (by omega);have WH:=getElem?_eq_getElem (l:=x.to) (i:=j) (by omega);have G5:x.kind.getD j 0=x.kind[j]:=by rw[getD_eq_getElem?_getD,Xe];rfl
   have BW:x.to.getD j 0=x.to[j]:=by rw[getD_eq_getElem?_getD,WH];rfl
   have K4:=Kb.goes j;rw[BW] at K4;rw[G5] at VN;rw[G5,BW] at h1;generalize x.kind[j]=kd at *;generalize x.to[j]=td at *;have Q6:kd=2→td < told.length:=fun h=>by rw[R.len];exact K4 (by rw[Xe,h])
   rw[h1] at UQ;obtain⟨l1,l2,l3,ZE⟩:=Xa (G7 told kd td);rw[ZE] at UQ;have Cf:=fun (w:World) (fr:List Q2) (H:Q0 w (YK p c mo (.slice a told.length cap)::VD (.slice a told.length cap) told::fr))=>Tc p c mo a cap told kd td VN Q6 H;rw[ZE] at Cf;refine J6 H ?_;refine Qt (fun ms σ w=>ms=[]∧∃ b27,σ 0=pp p∧σ 3=pp b3∧σ 6 = .int .i64 n∧σ 27=pp b27∧σ 28 = .int .i64 (0:Nat)∧Q0 w (pts b27 (row 88 [.int .i64 l1,.int .i64 l2,.int .i64 l3])::pts b3 (row 93 [.int .i64 11,.int .i64 A,.int .i64 (j:Nat),.int .i64 C,.int .u64 X,.slice adW ws.length capW,.bool raw,.int .i64 i,.int .i64 g])::YK p c mo (.slice a told.length cap)::QD c s::V0 mo m::VD (.slice a told.length cap) told::fr)) ?_ ?_
   ·refine J1 H ?_;clear H;intro w H;refine YN H ?_;refine Jl 3 [7,12] H ?_;refine S6 H ?_;refine Jf 5 ?_;refine Jl 6 [7,12] H ?_;refine Jw 7 11 H rfl rfl (V1 (a:=[]) (b:=[]) rfl rfl (call (UQ _ _ H) ?_)) (YH H rfl ?_)
    ·clear H;rintro v w ⟨rfl,H⟩;refine CQ H ?_;refine FK H ?_;clear H;intro b27 w H;refine Rg H ?_;clear H;intro w H;refine C4 H ?_;replace H:=Js [0,2,2,0,1,1] 1 H;exact⟨rfl,rfl,b27,rfl,rfl,rfl,rfl,rfl,H⟩
    ·clear H;intro b27 w H;refine Jo 7 H ?_;refine Jk rfl rfl (UQ _ _ H.swap) ?_;clear H;rintro v w ⟨rfl,H⟩;refine CQ H ?_;refine Rg H ?_;clear H;intro w H;refine C4 H ?_;replace H:=Js [1,2,2,0,1,1] 1 H;exact⟨rfl,rfl,b27,rfl,rfl,rfl,rfl,rfl,H⟩
   clear H;rintro ms σ w ⟨rfl,b27,g0,g3,g6,g27,g28,H⟩;rw[Q1 g0,Q1 g3,Q1 g6,Q1 g27,Q1 g28];replace H:=Js [4,0,0,0,0,0] 0 H;refine J1 H ?_;clear H;intro w H;refine Ih H ?_;refine Jk rfl rfl (CO mo m n j true H) ?_;clear H;rintro v w ⟨rfl,H⟩;rw[h0];refine WY H ?_;refine KC H ?_;obtain⟨t,lc,aL,cL,bO,cO,sO,ptrs,q,vw,vk,vt,rest,hm,h2,hp,H,QK⟩:=X5 H hx;have V7:=BK hx hm;obtain⟨ak,ck,rfl⟩:=QI H.drop.drop (QJ _) (by decide);obtain⟨at',ct,rfl⟩:=QI H.drop.drop.drop (QJ _) (by decide);replace H:=Js [2,0,0,0] 0 H;obtain⟨bk,sk,rfl,H,U6⟩:=VX H (by omega);replace H:=Js [3,0,0,0] 0 H;obtain⟨bt,st,rfl,H,Ky⟩:=VX H (by omega);refine J1 H ?_;clear H;intro w H;refine Ii H ?_;refine Vw 4 [39] H rfl (Q9.of rfl rfl rfl) rfl (by repeat first|exact .nil _|apply QY.cons rfl) (by kernel_rfl) ?_;refine Eu H ?_;refine Jl 8 [39] H ?_;refine Ja 9 ?_;refine Jf 10 ?_;refine Jl 11 [39] H ?_;refine Ja 12 ?_;refine Ji 13 ?_;refine YZ 14 [39] H rfl (Q9.of rfl rfl rfl) rfl hp (by kernel_rfl) ?_;refine Ja 15 ?_;refine Jf 16 ?_;refine Jl 17 [39] H ?_;refine Jf 18 ?_;refine Jl 19 [39] H ?_;refine Ji 20 ?_;refine YZ 21 [39] H rfl (Q9.of rfl rfl rfl) rfl (U4 Xe) (by kernel_rfl) ?_;refine Ja 22 ?_;refine Ja 23 ?_;refine Jf 24 ?_;refine Jl 25 [39] H ?_;refine Ja 26 ?_;refine Jf 27 ?_;refine Jl 28 [39] H ?_;refine Ja 29 ?_;refine Ji 30 ?_;refine YZ 31 [39] H rfl (Q9.of rfl rfl rfl) rfl hp (by kernel_rfl) ?_;refine Ja 32 ?_;refine Jf 33 ?_;refine Jl 34 [39] H ?_;refine Jf 35 ?_;refine Jl 36 [39] H ?_;refine Ji 37 ?_;refine YZ 38 [39] H rfl (Q9.of rfl rfl rfl) rfl (U4 WH) (by kernel_rfl) ?_;replace H:=Js [12,13,0,0,0,0,0,0,0,0,0,0,0,0,0] 0 H;refine Jo 39 H ?_;refine Jk rfl rfl (Cf _ _ H) ?_;clear H;rintro v w ⟨rfl,H⟩;refine Ja 40 ?_;refine Ja 41 ?_;refine Jx H ?_;replace H:=Js [3,2,2,2,2,2,2,2,2,2,2,2,2,0,0] 0 H;replace H:=U6 _ _ H;replace H:=Js [1,0,0,0] 0 H;replace H:=Ky _ _ H;replace H:=Js [2,2,1,0] 0 H;replace H:=K2 hx (QK _ _ x V7 H);replace H:=Js [4,3,0,2] 2 H;exact Q3 (Jy H rfl fun w' H'=>⟨rfl,s,m,told,R,Kc rfl rfl rfl,Z1 H'⟩)
 rw[show (k == 11)=false by simpa using hk11];refine Ay H ?_;replace H:=Js [2,2,2,2] 2 H;exact Q3 (Jy H rfl fun w' H'=>⟨rfl,s,m,told,R,Kc rfl rfl rfl,Z1 H'⟩)
structure Ac where
 k:Int
 A:Int
 B:Int
 C:Int
 X:Nat
 vW:Value
 ws:List Nat
 raw:Bool
 i:Int
 g:Int
def WN (x:Ac):List Value:=[.int .i64 x.k,.int .i64 x.A,.int .i64 x.B,.int .i64 x.C,.int .u64 x.X,x.vW,.bool x.raw,.int .i64 x.i,.int .i64 x.g]
def AR (l:List Ac):List Value:=l.flatMap WN
def OK (fr:List Q2) (x:Ac):Prop:=x.X < 18446744073709551616∧(∀ y∈x.ws,y < 18446744073709551616)∧Ya fr x.vW x.ws.length 1 (Qi x.ws)
theorem Tq (l:List Ac):(AR l).length=l.length*9:=by
 induction l with
 | nil=>rfl
 | cons p L ih=>simp only[AR,WN,flatMap_cons,length_append,length_cons,length_nil] at ih ⊢;omega
theorem sv {L:List Ac} {i:Nat} {x:Ac} (h:L[i]? = some x):∀ j v,(WN x)[j]? = some v→(AR L)[i*9+j]? = some v:=by
 induction L generalizing i with
 | nil=>simp at h
 | cons y L ih=>
  intro j v hj;have Tr:j < 9:=(List.getElem?_eq_some_iff.1 hj).1;cases i with
  | zero=>
   simp at h;subst h;show (WN y++L.flatMap WN)[0*9+j]? = _;rw[Nat.zero_mul,Nat.zero_add,getElem?_append_left Tr];exact hj
  | succ i=>
   have:=ih (i:=i) (by simpa using h) j v hj;show (WN y++L.flatMap WN)[(i+1)*9+j]? = _;rw[getElem?_append_right (by show 9≤_;omega)];show (L.flatMap WN)[(i+1)*9+j - 9]? = _;rw[show (i+1)*9+j - 9=i*9+j by omega];exact this
theorem sw {c:List Value} {o n:Nat} {L:List Ac} (h:QY c o n (AR L)) {i:Nat} {x:Ac} (hp:L[i]? = some x):QY c (o+i*9) 9 (WN x):=
 h.part (es:=WN x) fun j v hj=>sv hp j v hj
theorem sz [Q4] (v:Value) (l:List Ac) (hl:l.length≤9223372036854775807) {w:World} {fr:List Q2} (hr:Ya fr v l.length 9 (AR l)) (QX:∀ x∈l,OK fr x) (H:Q0 w fr) :
  Calls Tryz.prog 98 #[v] w (ret fun r w'=>∃ b,r = .bool b∧(b=false→l.length≤60)∧Q0 w' fr):=by
 obtain⟨h0,ad,cap,rfl,Qu⟩:=hr;refine QQ Tryz.func98 rfl (by kernel_rfl) ?_;refine Vl H ?_;refine KF H ?_;by_cases j9:(l.length:Int) > 60
 ·rw[show decide ((l.length:Int) > 60)=true from decide_eq_true (by omega)];refine ZD H ?_;exact Q3 (Jy H rfl fun w' H'=>⟨true,rfl,(fun h=>by cases h),H'⟩)
 rw[show decide ((l.length:Int) > 60)=false from decide_eq_false (by omega)];refine Et H ?_;refine Ax H ?_;refine Qq (fun ms σ w n=>ms=[]∧∃ i:Nat,i≤l.length∧n=l.length - i∧σ 8 = .slice ad l.length cap∧σ 9 = .int .i64 l.length∧σ 10 = .int .i64 i∧Q0 w fr) (m:=l.length) ⟨rfl,0,by omega,rfl,rfl,rfl,rfl,H⟩ ?_;clear H;rintro ms σ w n ⟨rfl,i,hi,rfl,g8,g9,g10,H⟩;rw[Q1 g8,Q1 g9,Q1 g10];refine J7 H ?_;refine Qm rfl (fun h=>QF ?_) (fun h=>Qv ?_)
 ·have Q6:i < l.length:=by omega
  have hy:=getElem?_eq_getElem Q6;generalize l[i]=y at hy;have Ts:=QX y (mem_of_getElem? hy)
  rcases Qu with hz|⟨b,o,E,fz,c,rfl,hA,Qu⟩
  ·omega
  haveI:=hA;obtain⟨k,A,B,C,X,vW,ws,raw,i1,g1⟩:=y;obtain⟨_,_,_,adW,capW,Rn,_⟩:=Ts;replace Rn:vW = .slice adW ws.length capW:=Rn;subst Rn;refine Z7 H ?_;refine Jd ?_;refine Q5 rfl (Vz H rfl (sw Qu hy) rfl ?_);refine VS H ?_;clear H;intro b4 w H;refine J5 H ?_;clear H;intro w H;refine J2 H ?_;refine Wo H ?_;by_cases hk:k=2
  ·subst hk;refine Eh H ?_;by_cases hC:C > 40
   ·rw[show decide (C > 40)=true from decide_eq_true (by omega)];refine Zm H ?_;refine Ap H ?_;refine Zm H ?_;refine U3 H ?_;refine Kn H ?_;exact Q3 (Jy H.drop rfl fun w' H'=>⟨true,rfl,(fun h=>by cases h),H'⟩)
   ·rw[show decide (C > 40)=false from decide_eq_false (by omega)];refine IY H ?_;by_cases hB:B > 64
    ·rw[show decide (B > 64)=true from decide_eq_true (by omega)];refine Zm H ?_;refine U3 H ?_;refine Kn H ?_;exact Q3 (Jy H.drop rfl fun w' H'=>⟨true,rfl,(fun h=>by cases h),H'⟩)
    ·rw[show decide (B > 64)=false from decide_eq_false (by omega)];by_cases hw:(ws.length:Int) > 10
     ·first|refine VG rfl rfl rfl rfl ?_|refine V5 rfl rfl rfl ?_|refine Wl rfl rfl ?_
      refine NB H ?_;rw[show decide ((ws.length:Int) > 10)=true from decide_eq_true (by omega)];refine Kn H ?_;exact Q3 (Jy H.drop rfl fun w' H'=>⟨true,rfl,(fun h=>by cases h),H'⟩)
     ·first|refine VG rfl rfl rfl rfl ?_|refine V5 rfl rfl rfl ?_|refine Wl rfl rfl ?_
      refine NB H ?_;rw[show decide ((ws.length:Int) > 10)=false from decide_eq_false (by omega)];refine CV H ?_;exact⟨_,⟨rfl,i+1,Q6,rfl,rfl,rfl,Qh (by omega),H.drop⟩,by omega⟩
  ·rw[show (k == 2)=false by simpa using hk];by_cases hw:(ws.length:Int) > 10
   ·first|refine Jv ?_|refine Rx rfl rfl ?_
    refine C2 H ?_;refine Mh H ?_;refine NB H ?_;rw[show decide ((ws.length:Int) > 10)=true from decide_eq_true (by omega)];refine Kn H ?_;exact Q3 (Jy H.drop rfl fun w' H'=>⟨true,rfl,(fun h=>by cases h),H'⟩)
   ·first|refine Jv ?_|refine Rx rfl rfl ?_
    refine C2 H ?_;refine Mh H ?_;refine NB H ?_;rw[show decide ((ws.length:Int) > 10)=false from decide_eq_false (by omega)];refine CV H ?_;exact⟨_,⟨rfl,i+1,Q6,rfl,rfl,rfl,Qh (by omega),H.drop⟩,by omega⟩
 ·have V2:i=l.length:=by omega
  refine Vl H ?_;exact Q3 (Jy H rfl fun w' H'=>⟨false,rfl,fun _=>by omega,H'⟩)
def WO (n size slots:Nat):CS:=⟨size,List.replicate n 0,[],List.replicate slots ⟨0,none⟩,0,[],[],[],[]⟩
theorem jQ (n size slots:Nat):Rel (WO n size slots) X6 []:=by
 have VZ:∀ (k g:Nat) (e:Q8),(List.replicate slots (⟨0,none⟩:QW))[k]? ≠ some ⟨g,some e⟩:=by
  intro k g e h;rw[getElem?_replicate] at h;split at h <;> cases h
 refine⟨rfl,rfl,?_,nodup_nil,rfl,?_,?_,fun k g e h=>absurd h (VZ k g e),?_,nodup_nil⟩
 ·intro r q;constructor
  ·intro h;cases h
  ·rintro⟨k,_,h1,h2,_⟩;have:k < 1:=(List.getElem?_eq_some_iff.1 h2).1;omega
 ·intro o x k g h;cases h
 ·intro o x k g h;cases h
 ·intro o k g h;cases h
structure Cg (s:CS) (told:List (Nat×Nat)):Prop where
 shape:∃ r,YF s.tab=List.replicate told.length (1,true)++List.replicate r (0,false)
 told:told=(List.range told.length).map fun i=>(i,1)
 inv:Inv s
theorem t7 (n size slots:Nat):Cg (WO n size slots) []:=⟨⟨slots,by simp[YF,WO]⟩,rfl,io rfl iq⟩
theorem Fx {ts:List QW} {n r k:Nat} {t:QW} (h:YF ts=List.replicate n (1,true)++List.replicate r (0,false)) (hk:ts[k]? = some t):(k < n∧t.gen=1∧t.ent.isSome=true)∨(n≤k∧k < n+r∧t.gen=0∧t.ent=none):=by
 have h1:(YF ts)[k]? = some (t.gen,t.ent.isSome):=by
  unfold YF;rw[getElem?_map,hk];rfl
 rw[h] at h1;by_cases Gt:k < n
 ·rw[getElem?_append_left (by simpa using Gt),getElem?_replicate,if_pos Gt] at h1;injection h1 with h1
  injection h1 with h2 h3
  exact .inl ⟨Gt,h2.symm,h3.symm⟩
 ·rw[getElem?_append_right (by simp;omega),length_replicate,getElem?_replicate] at h1;split at h1
  ·injection h1 with h1
   injection h1 with h2 h3
   refine .inr ⟨by omega,by omega,h2.symm,?_⟩;cases he:t.ent with
   | none=>rfl
   | some e=>rw[he] at h3;cases h3
  ·cases h1
theorem Cg.step {s s':CS} {m m':MS} {told told':List (Nat×Nat)} (h:Cg s told) (st:LG s m told s' m' told'):Cg s' told':=by
 obtain⟨⟨r,hs⟩,ht,hI⟩:=h
 rcases st.tab with ⟨rfl,h1⟩|⟨k,g0,rfl,h1,h2,h3⟩
 ·exact⟨⟨r,by rw[h1];exact hs⟩,ht,st.inv hI⟩
 ·rcases Fx hs h1 with ⟨_,_,h4⟩|⟨h4,h5,h6,_⟩
  ·cases h4
  ·have h6:g0=0:=h6;subst h6
   have hl:s.tab.length=told.length+r:=by
    have:=congrArg List.length hs;simpa [YF] using this
   have hk:k=told.length:=by
    refine Classical.byContradiction fun QB=>?_;have Q6:told.length < k:=by omega
    have hn:=getElem?_eq_getElem (l:=s.tab) (i:=told.length) (by omega);have hb:=h2 told.length _ Q6 hn
    rcases Fx hs hn with ⟨h7,_⟩|⟨_,_,h7,h8⟩
    ·omega
    ·unfold busy at hb;rw[h7,h8] at hb;cases hb
   subst hk;refine⟨⟨r - 1,?_⟩,?_,st.inv hI⟩
   ·rw[h3,hs,length_append];obtain⟨r',rfl⟩:∃ r',r=r'+1:=⟨r - 1,by omega⟩;rw[set_append_right _ _ (by simp),length_replicate,Nat.sub_self,replicate_succ,set_cons_zero,Nat.add_sub_cancel];show _=List.replicate (told.length+1) (1,true)++_;rw[replicate_succ',append_assoc];rfl
   ·rw[length_append];show told++[(told.length,1)]=(List.range (told.length+1)).map _;rw[range_succ,map_append,← ht];rfl
theorem Tt (x:Int):∃ X:Nat,(if x > 0 then x else 0)=(X:Int):=⟨x.toNat,by split <;> omega⟩
theorem t8 [Q4] (z1 z2 z3:Int) {w:World} {fr:List Q2} (H:Q0 w fr) :
  Calls Tryz.prog 35 #[.agg #[.int .i64 z1,.int .i64 z2,.int .i64 z3]] w (ret fun v w'=>∃ p n size slots,v=pp p∧1≤n∧n≤20∧1≤size∧size≤16∧1≤slots∧slots≤16∧Q0 w' (UO p (WO n size slots) X6 []::fr)):=by
 obtain⟨X1,h1⟩:=Tt z1;obtain⟨X2,h2⟩:=Tt z2;obtain⟨X3,h3⟩:=Tt z3;refine QQ Tryz.func35 rfl (by kernel_rfl) ?_;refine J8 H ?_;clear H;intro b1 w H;refine DW H ?_;refine Er H ?_;rw[h1]
 refine Kh (v := .int .i64 ((X1 % 20:Nat):Int)) (by
  show some (Value.int IntKind.i64 (Int.tmod (X1:Int) 20))=_;rw[Int.tmod_eq_emod_of_nonneg (by omega)];rfl) rfl ?_
 refine Jv ?_;rw[show IntKind.i64.wrap (1+((X1 % 20:Nat):Int))=((X1 % 20+1:Nat):Int) by rw[Qg (by omega) (by omega)];omega];refine Gm H ?_;refine Er H ?_;rw[h2]
 refine Kh (v := .int .i64 ((X2 % 16:Nat):Int)) (by
  show some (Value.int IntKind.i64 (Int.tmod (X2:Int) 16))=_;rw[Int.tmod_eq_emod_of_nonneg (by omega)];rfl) rfl ?_
 refine Jv ?_;rw[show IntKind.i64.wrap (1+((X2 % 16:Nat):Int))=((X2 % 16+1:Nat):Int) by rw[Qg (by omega) (by omega)];omega];refine Gm H ?_;refine Er H ?_;rw[h3]
 refine Kh (v := .int .i64 ((X3 % 16:Nat):Int)) (by
  show some (Value.int IntKind.i64 (Int.tmod (X3:Int) 16))=_;rw[Int.tmod_eq_emod_of_nonneg (by omega)];rfl) rfl ?_
 refine Jv ?_;rw[show IntKind.i64.wrap (1+((X3 % 16:Nat):Int))=((X3 % 16+1:Nat):Int) by rw[Qg (by omega) (by omega)];omega]
 refine Jc rfl rfl (gu (X1 % 20+1) (X2 % 16+1) (X3 % 16+1) (by omega) (by omega) (by omega) (by omega) (by omega) (by omega) H) ?_;clear H;rintro v w ⟨c,rfl,H⟩;refine U2 H ?_;refine Y7 H ?_;refine Zm H ?_;refine ID H ?_;refine Z4 H ?_;refine Jc rfl rfl (qg H) ?_;clear H;rintro v w ⟨mo,rfl,H⟩;refine W6 H ?_;clear H;intro b33 w H;refine J0 H ?_;have H:=Zy (E:=69) (k:=2) H;replace H:=Js [1,2,1,0] 1 H;exact Q3 (Jy (Z1 (told:=[]) H) rfl fun w' H'=>⟨_,X1 % 20+1,X2 % 16+1,X3 % 16+1,rfl,by omega,by omega,by omega,by omega,by omega,by omega,H'⟩)
def L0:Qb:=⟨2,[1],0,[]⟩
theorem tQ:Gq [2,2,0]=some L0:=by rfl
theorem tV:YU L0:=by decide
theorem tY:Vc X6:=⟨⟨by simp[X6],by simp[X6]⟩,⟨by simp[X6],fun l h=>by simp[X6] at h⟩,(fun x h=>by simp[X6] at h),by simp[X6]⟩
theorem jV {r1:Int} {s s':CS} {m:MS} {told:List (Nat×Nat)} {i g e:Nat} (R:Rel s m told) (hm:Vc m) (F:Cg s told) (hM:Tl s r1 1 0 i g e s') (Yr:YO m r1 1 0=(2,0)) (Ve:s.size=8) (Qw:told.length < s.tab.length) (Zw:∃ a,a < s.own.length∧s.own.getD a 0=0) :
  e=0∧i=told.length∧g=1∧Rel s' (BA m r1 1 0) (told++[(told.length,1)])∧Cg s' (told++[(told.length,1)])∧s'.size=8∧OY s.own s'.own 1∧s'.tab.length=s.tab.length:=by
 obtain⟨ZY,Zo⟩:=TS R r1 1 0;rw[Yr] at ZY;have hn:ZI s 1 0=2:=by rw[Zo (by rw[Yr]),Yr]
 have hk:ZI s 1 0 / s.size+1=1:=by rw[hn,Ve]
 obtain⟨⟨r,hs⟩,ht,_⟩:=id F
 have PP:∀ t,s.tab[told.length]? = some t→busy t=false:=by
  intro t h
  rcases Fx hs h with ⟨h7,_⟩|⟨_,_,h7,h8⟩
  ·omega
  ·unfold busy;rw[h7,h8];rfl
 have GG:=getElem?_eq_getElem (l:=s.tab) (i:=told.length) Qw
 rcases hM with ⟨h1,_⟩|⟨h1,h2,_⟩|⟨h1,h2,_⟩|⟨h1,rfl,g0,addr,h2,h3,h4,rfl,h5,h6,h7,h8,h9,YT,VC,tZ⟩
 ·exact absurd ZY h1
 ·have h3:=h2 _ (mem_of_getElem? GG);rw[PP _ GG] at h3;cases h3
 ·obtain⟨a,ha,hz⟩:=Zw;rw[hk] at h2;obtain⟨j,h3,h4,h5⟩:=h2 a (by omega);obtain rfl:j=a:=by omega
  exact absurd hz h5
 ·rw[hk] at VC
  have hi:i=told.length:=by
   rcases Fx hs h2 with ⟨_,_,YD⟩|⟨YD,_⟩
   ·cases YD
   ·refine Classical.byContradiction fun QB=>?_;have KW:=h4 told.length _ (by omega) GG;rw[PP _ GG] at KW;cases KW
  subst hi
  have hg:g0=0:=by
   rcases Fx hs h2 with ⟨_,_,YD⟩|⟨_,_,YD,_⟩
   ·cases YD
   ·exact YD
  subst hg;obtain⟨_,R'⟩:=iE R hm (by rw[Yr]) h2 h6 h7 h8 YT;refine⟨rfl,rfl,rfl,R',?_,by rw[h5,Ve],VC,by rw[YT,length_set]⟩;exact F.step (m:=m) (m':=BA m r1 1 0) ⟨by show m.P.length≤_;omega,by show (m.objs++[_]).length≤_;simp,.inr ⟨told.length,0,rfl,h2,h4,by rw[YT];unfold YF;rw[map_set];rfl⟩,fun hI=>im hI h2 h6 h9 YT rfl,fun hT=>by rw[h8];exact hT,tZ⟩
end Go.Proofs.YtmjdnljneifpcaaGreatDoor
