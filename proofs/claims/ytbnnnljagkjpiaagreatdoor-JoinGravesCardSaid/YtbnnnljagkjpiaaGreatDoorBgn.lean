/- Cells: what is proved on the way: every input of the statement; no condition. Texts joined: InvQ TreP TreB BagC BagD BmpC TabE JoiA DelA DelB. -/
import Derived.Test.YtbnnnljagkjpiaaGreatDoorBgm
import Derived.Test.YtbnnnljagkjpiaaGreatDoorBgk
import Derived.Test.YtbnnnljagkjpiaaGreatDoorBgf
import Derived.Test.YtbnnnljagkjpiaaGreatDoorBgh
import Derived.Test.YtbnnnljagkjpiaaGreatDoorBgl
import Derived.Test.YtbnnnljagkjpiaaGreatDoorBge
set_option linter.unusedVariables false
set_option linter.unusedSimpArgs false
set_option linter.unusedSectionVars false
namespace Go.Proofs.YtbnnnljagkjpiaaGreatDoor
open List
open Go.SL
theorem cK {s:CS} {k g:Nat} {e e':Q8} (h:Cj s k g e e') {r:Int×Int} {t:Int} (hl:∀ p:Nat,r=((k:Int),(p:Int))→Qx e' p=Qx e p):Ci (VO s k g e') r t↔Ci s r t:=by
 have hkl:=(List.getElem?_eq_some_iff.1 h.at').1;have hlay:∀ f,QJ (VO s k g e') f=QJ s f:=fun _=>rfl;have hle:QJ s e'=QJ s e:=by unfold QJ;rw[h.lay]
 constructor
 ·rintro⟨j,p,g1,e1,a,b,f,rfl,h1,h2,h3,h4,h5,h6,rfl⟩;have h1:(s.tab.set k ⟨g,some e'⟩)[j]? = some ⟨g1,some e1⟩:=h1;obtain⟨f',h5',h6'⟩:=(FG (P:=fun r=>r≠e1.region) h).1 ⟨f,h5,h6⟩
  rcases Qz h1 with ⟨rfl,h7,_⟩|⟨_,h7⟩
  ·injection h7 with h0 h7
   injection h7 with h7
   subst h0 h7;rw[hlay,hle] at h3;rw[h.len] at h2;rw[hl p rfl] at h4;rw[h.region] at h6';exact⟨j,p,g1,e,a,b,f',rfl,h.at',h2,h3,h4,h5',h6',rfl⟩
  ·exact⟨j,p,g1,e1,a,b,f',rfl,h7,h2,h3,h4,h5',h6',rfl⟩
 ·rintro⟨j,p,g1,e1,a,b,f,rfl,h1,h2,h3,h4,h5,h6,rfl⟩;obtain⟨f',h5',h6'⟩:=(FG (P:=fun r=>r≠e1.region) h).2 ⟨f,h5,h6⟩;by_cases hj:j=k
  ·subst hj;rw[h.at'] at h1;injection h1 with h1
   injection h1 with h0 h1
   injection h1 with h1
   subst h0 h1;exact⟨j,p,g,e',a,b,f',rfl,getElem?_set_self hkl,by rw[h.len];exact h2,by rw[hlay,hle];exact h3,by rw[hl p rfl];exact h4,h5',by rw[h.region];exact h6',rfl⟩
  ·exact⟨j,p,g1,e1,a,b,f',rfl,by show (s.tab.set k _)[j]? = _;rw[getElem?_set_ne (Ne.symm hj)];exact h1,h2,h3,h4,h5',h6',rfl⟩
theorem IK {e:Q8} {p q x:Nat} (h:q≠p):Qx { e with ws:=e.ws.set p x } q=Qx e q:=by
 unfold Qx;show ZE ((e.ws.set p x).getD q 0)=_;rw[getD_eq_getElem?_getD,getElem?_set_ne (Ne.symm h),getD_eq_getElem?_getD]
theorem IR {e:Q8} {p:Nat} {l:VP} (hl:G7 l) (hp:p < e.ws.length):Qx { e with ws:=e.ws.set p (VG l) } p=l:=by
 unfold Qx;show ZE ((e.ws.set p (VG l)).getD p 0)=_;rw[getD_eq_getElem?_getD,getElem?_set_self hp,Option.getD_some,NU hl]
theorem cR {s:CS} (hI:Inv s) {k g p x:Nat} {e:Q8} (hk:s.tab[k]? = some ⟨g,some e⟩) (hr:VV (QJ s e) p=false):Inv (VO s k g { e with ws:=e.ws.set p x }):=
 NT (e':={ e with ws:=e.ws.set p x }) hI ⟨hk,rfl,rfl,by show (e.ws.set p x).length=_;rw[length_set]⟩ fun q hq hrq=>IK (by rintro rfl;rw[hr] at hrq;cases hrq)
theorem IW {s:CS} (hI:Inv s) {k g:Nat} {e e':Q8} (hk:s.tab[k]? = some ⟨g,some e⟩) (h1:e'.region=e.region) (h2:e'.lay=e.lay) (h3:e'.ws=e.ws):Inv (VO s k g e'):=
 NT hI ⟨hk,h1,h2,by rw[h3]⟩ fun q _ _=>by unfold Qx;rw[h3]
theorem Na {s:CS} (h:(s.rem.map (·.1)).Nodup) (k:Nat) (e:Q8) (p:Int) (l:VP):((Ye s k e p l).map (·.1)).Nodup:=by
 unfold Ye
 repeat' split
 ·exact DA (XU h)
 ·exact XU h
 ·exact XU h
 ·exact XU h
theorem IA {s:CS} (h:(s.rem.map (·.1)).Nodup) {k:Nat} {e:Q8} {p:Int} {l:VP} {r:Int×Int} (hr:r≠((k:Int),p)):QY (Ye s k e p l) r=QY s.rem r:=by
 have h1:QY (QC s.rem ((k:Int),p)) r=QY s.rem r:=by rw[Xh h,if_neg (Ne.symm hr)]
 unfold Ye
 repeat' split
 ·rw[UC,if_neg (Ne.symm hr),h1]
 ·exact h1
 ·exact h1
 ·exact h1
theorem Nb {s:CS} (h:(s.rem.map (·.1)).Nodup) {k:Nat} {e:Q8} {p:Int} {l:VP} {t:Int}:QY (Ye s k e p l) ((k:Int),p)=some t↔∃ (a b:Nat) (f:Q8),l = .obj a b∧QS s.tab a b=some (a,f)∧f.region≠e.region∧t=a:=by
 have h1:QY (QC s.rem ((k:Int),p)) ((k:Int),p)=none:=by rw[Xh h,if_pos rfl]
 cases l with
 | none=>rw[show Ye s k e p .none=QC s.rem ((k:Int),p) from rfl,h1];exact⟨fun h=>(by cases h),fun ⟨_,_,_,h,_⟩=>(by cases h)⟩
 | grave=>rw[show Ye s k e p .grave=QC s.rem ((k:Int),p) from rfl,h1];exact⟨fun h=>(by cases h),fun ⟨_,_,_,h,_⟩=>(by cases h)⟩
 | obj a b=>
  cases hl:QS s.tab a b with
  | none=>
   rw[IY hl,h1];refine⟨fun h=>(by cases h),?_⟩;rintro⟨a',b',f,h2,h3,_⟩;injection h2 with h2 h2'
   subst h2 h2';rw[hl] at h3;cases h3
  | some q=>
   obtain⟨c,f⟩:=q;obtain⟨rfl,_⟩:=Zt hl;rw[Cc hl];split
   ·rename_i hne;rw[UC,if_pos rfl];constructor
    ·intro h2;injection h2 with h2
     exact⟨c,b,f,rfl,hl,hne,h2.symm⟩
    ·rintro⟨a',b',f',h2,h3,h4,rfl⟩;injection h2 with h2 h2'
     rw[h2]
   ·rename_i hne;rw[h1];refine⟨fun h=>(by cases h),?_⟩;rintro⟨a',b',f',h2,h3,h4,rfl⟩;injection h2 with h2 h2'
    subst h2 h2';rw[hl] at h3;injection h3 with h3
    injection h3 with _ h3
    subst h3;exact absurd h4 hne
theorem cW {s:CS} (hI:Inv s) {k g p:Nat} {e:Q8} {l:VP} (hk:s.tab[k]? = some ⟨g,some e⟩) (hp:p < e.ws.length) (hr:VV (QJ s e) p=true) (hl:G7 l) (ht:∀ a b,l = .obj a b→∃ f,QS s.tab a b=some (a,f)) :
  Inv { VO s k g { e with ws:=e.ws.set p (VG l) } with rem:=Ye (VO s k g { e with ws:=e.ws.set p (VG l) }) k { e with ws:=e.ws.set p (VG l) } p l }:=by
 have hlen:({ e with ws:=e.ws.set p (VG l) }:Q8).ws.length=e.ws.length:=by show (e.ws.set p _).length=_;rw[length_set]
 have hS:Cj s k g e { e with ws:=e.ws.set p (VG l) }:=⟨hk,rfl,rfl,hlen⟩;have hkl:=(List.getElem?_eq_some_iff.1 hk).1;have hle:QJ s { e with ws:=e.ws.set p (VG l) }=QJ s e:=rfl;refine⟨Na (s:=VO s k g _) hI.nd _ _ _ _,fun r t=>?_,?_⟩
 ·show QY (Ye _ k _ p l) r=some t↔Ci (VO s k g _) r t;by_cases hrp:r=((k:Int),(p:Int))
  ·subst hrp;rw[Nb (s:=VO s k g _) hI.nd];constructor
   ·rintro⟨a,b,f,rfl,h1,h2,rfl⟩;exact⟨k,p,g,_,a,b,f,rfl,getElem?_set_self hkl,by rw[hlen];exact hp,hr,IR hl hp,h1,h2,rfl⟩
   ·rintro⟨j,q,g1,e1,a,b,f,hq,h1,h2,h3,h4,h5,h6,rfl⟩;injection hq with hq1 hq2
    obtain rfl:k=j:=by omega
    obtain rfl:p=q:=by omega
    replace h1:(s.tab.set k _)[k]? = some ⟨g1,some e1⟩:=h1;rw[getElem?_set_self hkl] at h1;injection h1 with h1
    injection h1 with h0 h1
    injection h1 with h1
    subst h0 h1;rw[IR hl hp] at h4;exact⟨a,b,f,h4,h5,h6,rfl⟩
  ·rw[IA (s:=VO s k g _) hI.nd hrp,cK hS fun q hq=>IK (by rintro rfl;exact hrp hq)];exact hI.rem r t
 ·intro j g1 e1 q a b h1 h2 h3 h4;have h1:(s.tab.set k _)[j]? = some ⟨g1,some e1⟩:=h1;show ∃ f,QS (VO s k g _).tab a b=_;rw[NS hS]
  rcases Qz h1 with ⟨rfl,h7,_⟩|⟨_,h7⟩
  ·injection h7 with h0 h7
   injection h7 with h7
   subst h0 h7;by_cases hq:q=p
   ·subst hq;rw[IR hl hp] at h4;exact ht a b h4
   ·rw[IK hq] at h4;exact hI.link j g1 e q a b hk (by rw[← hlen];exact h2) h3 h4
  ·exact hI.link j g1 e1 q a b h7 h2 h3 h4
theorem Nc {s:CS} (hI:Inv s) (i g p:Int) (x:Nat):Inv (Ua s i g p x).1:=by
 cases hv:Qn s.tab i g with
 | none=>rw[CM hv];exact hI
 | some q=>
  obtain⟨k,e⟩:=q;obtain⟨n,rfl,rfl,hk,_⟩:=ZF hv;rw[CN hv];split
  ·rename_i h0;obtain⟨j,rfl,hj,hr⟩:=Zh h0;exact cR hI hk hr
  ·exact hI
theorem cB {s:CS} (hI:Inv s) (i g:Int):Inv (Ub s i g).1:=by
 cases hv:Qn s.tab i g with
 | none=>rw[CP hv];exact hI
 | some q=>
  obtain⟨k,e⟩:=q;obtain⟨n,rfl,rfl,hk,_⟩:=ZF hv;rw[CT hv,Int.toNat_natCast];exact IW hI hk rfl rfl rfl
theorem cC {s:CS} (hI:Inv s) (i g:Int) (on:Bool):Inv (Uc s i g on).1:=by
 cases hv:Qn s.tab i g with
 | none=>rw[Ca hv];exact hI
 | some q=>
  obtain⟨k,e⟩:=q;obtain⟨n,rfl,rfl,hk,_⟩:=ZF hv;rw[Cb hv];split
  ·exact hI
  ·rw[Int.toNat_natCast];exact IW hI hk rfl rfl rfl
theorem Nd {s:CS} (hI:Inv s) (i g p:Int) {l:VP} (hl:G7 l) (ht:∀ a b,l = .obj a b→∃ f,QS s.tab a b=some (a,f)):Inv (Gc s i g p l).1:=by
 cases hv:Qn s.tab i g with
 | none=>rw[Cd hv];exact hI
 | some q=>
  obtain⟨k,e⟩:=q;obtain⟨n,rfl,rfl,hk,_⟩:=ZF hv;rw[We hv];split
  ·rename_i h0;obtain⟨j,rfl,hj,hr⟩:=Zh h0;exact cW hI hk hj hr hl ht
  ·exact hI
theorem Nf {s:CS} (hw:WF s) (hI:Inv s) (i g p u v:Int):Inv (Yn s i g p u v).1:=by
 unfold Yn;split
 ·exact hI
 ·split
  ·exact hI
  ·rename_i _ hn;cases hv:Qn s.tab u v with
   | none=>rw[hv] at hn;exact absurd rfl hn
   | some q=>
    obtain⟨k,e⟩:=q;obtain⟨n,rfl,rfl,hk,_⟩:=ZF hv;refine Nd hI i g p (IG hw hk) fun a b hab=>?_;injection hab with h1 h2
    rw[Int.toNat_natCast] at h1 h2;subst h1 h2;exact⟨e,Y9.2 ⟨n,rfl,rfl,hk⟩⟩
theorem cD {s:CS} (hI:Inv s) (i g p:Int):Inv (ZM s i g p):=by
 unfold ZM;split
 ·rename_i a b _;cases hl:QS s.tab a b with
  | none=>rw[Ce hl];exact hI
  | some q=>
   obtain⟨k,e⟩:=q;obtain⟨n,h1,h2,hk⟩:=Y9.1 hl;obtain rfl:b=n:=by omega
   rw[Cf hl];exact IW hI hk rfl rfl rfl
 ·exact hI
theorem cE {s:CS} (hw:WF s) (hI:Inv s) (x:QL):Inv { s with lays:=s.lays++[x] }:=by
 have hle:∀ (k g:Nat) (e:Q8),s.tab[k]? = some ⟨g,some e⟩→QJ { s with lays:=s.lays++[x] } e=QJ s e:=by
  intro k g e hk;obtain⟨⟨_,l,h1,_⟩,_⟩:=hw.obj k g e hk;show ((s.lays++[x])[e.lay - 1]?).getD _=_;unfold QJ;rw[getElem?_append_left (List.getElem?_eq_some_iff.1 h1).1]
 refine⟨hI.nd,fun r t=>?_,fun j g1 e1 q a b h1 h2 h3 h4=>hI.link j g1 e1 q a b h1 h2 (by rw[hle _ _ _ h1] at h3;exact h3) h4⟩;show QY s.rem r=some t↔_;rw[hI.rem];constructor
 ·rintro⟨j,p,g1,e1,a,b,f,rfl,h1,h2,h3,h4⟩;exact⟨j,p,g1,e1,a,b,f,rfl,h1,h2,by rw[hle _ _ _ h1];exact h3,h4⟩
 ·rintro⟨j,p,g1,e1,a,b,f,rfl,h1,h2,h3,h4⟩;rw[hle _ _ _ h1] at h3;exact⟨j,p,g1,e1,a,b,f,rfl,h1,h2,h3,h4⟩
theorem cF {s:CS} (hw:WF s) (hI:Inv s) (ws:List Nat):Inv (Ud s ws).1:=by
 cases hd:ZC ws with
 | none=>rw[Cg hd];exact hI
 | some l=>
  rw[Av hd];split
  ·exact hI
  ·exact cE hw hI l
theorem cH {s:CS} (hI:Inv s) (q:Int) (b b2:Nat):Inv (Wf s q b b2):=⟨hI.nd,hI.rem,hI.link⟩
theorem Ng {s s':CS} (hI:Inv s) {k g0 n:Nat} {e0:Q8} (hk:s.tab[k]? = some ⟨g0,none⟩) (h1:s'.lays=s.lays) (h2:s'.rem=s.rem) (h3:s'.tab=s.tab.set k ⟨g0+1,some e0⟩) (h0:e0.ws=List.replicate n 0):Inv s':=by
 have hkl:=(List.getElem?_eq_some_iff.1 hk).1;have hle:∀ e,QJ s' e=QJ s e:=fun e=>by unfold QJ;rw[h1]
 have hz:∀ p,Qx e0 p = .none:=fun p=>by
  unfold Qx;rw[h0,getD_eq_getElem?_getD,getElem?_replicate];split <;> rfl
 have hup:∀ {a b:Nat} {f:Q8},QS s.tab a b=some (a,f)→QS s'.tab a b=some (a,f):=fun {a b f} hf=>by
  obtain⟨_,hf'⟩:=Zt hf;refine Y9.2 ⟨b,rfl,rfl,?_⟩;rw[h3,getElem?_set_ne (by rintro rfl;rw[hk] at hf';cases hf')];exact hf'
 have hat:∀ {j g1:Nat} {e1:Q8},s.tab[j]? = some ⟨g1,some e1⟩→s'.tab[j]? = some ⟨g1,some e1⟩:=fun {j g1 e1} hj=>by
  rw[h3,getElem?_set_ne (by rintro rfl;rw[hk] at hj;cases hj)];exact hj
 refine⟨by rw[h2];exact hI.nd,fun r t=>?_,?_⟩
 ·rw[h2,hI.rem];constructor
  ·rintro⟨j,p,g1,e1,a,b,f,rfl,q1,q2,q3,q4,q5,q6,rfl⟩;exact⟨j,p,g1,e1,a,b,f,rfl,hat q1,q2,by rw[hle];exact q3,q4,hup q5,q6,rfl⟩
  ·rintro⟨j,p,g1,e1,a,b,f,rfl,q1,q2,q3,q4,q5,q6,rfl⟩;rw[h3] at q1
   rcases Qz q1 with ⟨rfl,q7,_⟩|⟨_,q7⟩
   ·injection q7 with _ q7
    injection q7 with q7
    subst q7;rw[hz] at q4;cases q4
   ·rw[hle] at q3;obtain⟨f',hf'⟩:=hI.link j g1 e1 p a b q7 q2 q3 q4;have h5:=hup hf';rw[q5] at h5;injection h5 with h5
    injection h5 with _ h5
    subst h5;exact⟨j,p,g1,e1,a,b,f,rfl,q7,q2,q3,q4,hf',q6,rfl⟩
 ·intro j g1 e1 p a b q1 q2 q3 q4;rw[h3] at q1
  rcases Qz q1 with ⟨rfl,q7,_⟩|⟨_,q7⟩
  ·injection q7 with _ q7
   injection q7 with q7
   subst q7;rw[hz] at q4;cases q4
  ·rw[hle] at q3;obtain⟨f',hf'⟩:=hI.link j g1 e1 p a b q7 q2 q3 q4;exact⟨f',hup hf'⟩
theorem Nh {s:CS} (h1:s.rem=[]) (h2:∀ (k g:Nat) (e:Q8),s.tab[k]? ≠ some ⟨g,some e⟩):Inv s:=
 ⟨by rw[h1];exact nodup_nil,fun r t=>⟨fun h=>(by rw[h1] at h;cases h),fun ⟨k,p,g,e,_,_,_,_,h,_⟩=>absurd h (h2 k g e)⟩,fun k g e _ _ _ h=>absurd h (h2 k g e)⟩
theorem Ni {n:Nat} (k g:Nat) (e:Q8):(List.replicate n (⟨0,none⟩:QK))[k]? ≠ some ⟨g,some e⟩:=by
 intro h;rw[getElem?_replicate] at h;split at h
 ·injection h with h
  injection h with _ h
  cases h
 ·cases h
structure Yo (par:List (Int×Int)):Prop where
 nd:(par.map (·.1)).Nodup
 up:∀ r q,QY par r=some q→0≤q∧q < r∧(q=0∨(QY par q).isSome=true)
inductive ZO (par:List (Int×Int)) (id:Int):Int→Prop
 | self:ZO par id id
 | kid {c k:Int}:ZO par id k→QY par c=some k→ZO par id c
theorem ZO.ge {par:List (Int×Int)} (h:Yo par) {id c:Int} (d:ZO par id c):id≤c:=by
 induction d with
 | self=>exact Int.le_refl _
 | kid _ hf ih=>have:=(h.up _ _ hf).2.1;omega
theorem ZO.live {par:List (Int×Int)} {id c:Int} (hid:(QY par id).isSome=true) (d:ZO par id c):(QY par c).isSome=true:=by
 cases d with
 | self=>exact hid
 | kid _ hf=>rw[hf];rfl
theorem ZO.inv {par:List (Int×Int)} {id c:Int} (d:ZO par id c):c=id∨∃ k,QY par c=some k∧ZO par id k:=by
 cases d with
 | self=>exact .inl rfl
 | kid hk hf=>exact .inr ⟨_,hf,hk⟩
structure X7 (par:List (Int×Int)) (id:Int) (l:List Int) (i:Nat):Prop where
 nd:l.Nodup
 le:i≤l.length
 desc:∀ c∈l,ZO par id c
 mem:∀ c,c∈l↔c=id∨∃ k∈l.take i,QY par c=some k
theorem X7.start (par:List (Int×Int)) (id:Int):X7 par id [id] 0:=
 ⟨by simp,by simp,fun c hc=>by rw[mem_singleton] at hc;subst hc;exact .self,fun c=>by simp⟩
theorem X7.step {par:List (Int×Int)} (h:Yo par) {id:Int} {l K:List Int} {i:Nat} (b:X7 par id l i) {x:Int} (hx:l[i]? = some x) (hK:K.Nodup) (hm:∀ c,c∈K↔QY par c=some x):X7 par id (l++K) (i+1):=by
 have hil:=(List.getElem?_eq_some_iff.1 hx).1
 have htk:(l++K).take (i+1)=l.take i++[x]:=by
  rw[take_append_of_le_length (by omega),take_add_one,hx];rfl
 have hxl:=mem_of_getElem? hx
 have hnt:x∉l.take i:=fun hh=>by
  obtain⟨j,hj⟩:=getElem?_of_mem hh;rw[getElem?_take] at hj;split at hj
  ·rename_i hji;obtain⟨hj1,hj2⟩:=List.getElem?_eq_some_iff.1 hj;obtain⟨_,hx2⟩:=List.getElem?_eq_some_iff.1 hx;exact(pairwise_iff_getElem.1 b.nd) j i hj1 hil hji (hj2.trans hx2.symm)
  ·cases hj
 refine⟨?_,by rw[length_append];omega,fun c hc=>?_,fun c=>?_⟩
 ·rw[nodup_append];refine⟨b.nd,hK,fun a ha c hc hac=>?_⟩;subst hac;have hf:=(hm a).1 hc
  rcases (b.mem a).1 ha with rfl|⟨k,hk,hk2⟩
  ·have:=(b.desc x hxl).ge h;have:=(h.up _ _ hf).2.1;omega
  ·rw[hf] at hk2;injection hk2 with hk2
   subst hk2;exact hnt hk
 ·rcases mem_append.1 hc with hc|hc
  ·exact b.desc c hc
  ·exact .kid (b.desc x hxl) ((hm c).1 hc)
 ·rw[htk,mem_append,b.mem,hm];constructor
  ·rintro((h1|⟨k,hk,h1⟩)|h1)
   ·exact .inl h1
   ·exact .inr ⟨k,mem_append.2 (.inl hk),h1⟩
   ·exact .inr ⟨x,by simp,h1⟩
  ·rintro(h1|⟨k,hk,h1⟩)
   ·exact .inl (.inl h1)
   ·rcases mem_append.1 hk with hk|hk
    ·exact .inl (.inr ⟨k,hk,h1⟩)
    ·rw[mem_singleton] at hk;subst hk;exact .inr h1
theorem X7.ends {par:List (Int×Int)} {id:Int} {l:List Int} (b:X7 par id l l.length) (c:Int):c∈l↔ZO par id c:=by
 refine⟨b.desc c,fun d=>?_⟩
 induction d with
 | self=>exact(b.mem _).2 (.inl rfl)
 | kid _ hf ih=>exact(b.mem _).2 (.inr ⟨_,by rw[take_length];exact ih,hf⟩)
theorem X7.len {par:List (Int×Int)} {id:Int} (hid:(QY par id).isSome=true) {l:List Int} {i:Nat} (b:X7 par id l i):l.length≤par.length:=by
 have:=Ga b.nd (l₂:=par.map (·.1)) (fun c hc=>by
  have h1:=(b.desc c hc).live hid;cases hf:QY par c with
  | none=>rw[hf] at h1;cases h1
  | some q=>exact mem_map.2 ⟨(c,q),Un hf,rfl⟩)
 rwa [length_map] at this
theorem Ue {l:List Int} {s:List Value} {i:Nat} {x:Int} (h:l[i]? = some x):(Qe l++s)[0+i*1]? = some (.int .i64 x):=by
 have hi:=(List.getElem?_eq_some_iff.1 h).1;rw[Nat.zero_add,Nat.mul_one,getElem?_append_left (by rw[Vo];omega)];unfold Qe;rw[getElem?_map,h];rfl
theorem cI (l:List Int):(Qe l).all (·.oneCell')=true:=by simp[Qe,all_eq_true,Value.oneCell']
theorem cJ [Q4] (p last:Nat) (par:List (Int×Int)) (id:Int) (hT:Yo par) (hid:(QY par id).isSome=true) (hl:par.length≤1000) {w:World} {fr:List Q2} (H:Q0 w (Qf p last par::fr)) :
  Calls Tryz.prog 8 #[pp p,.int .i64 id] w (ret fun v w'=>∃ u L,v = .tuple #[u,.int .i64 0]∧L.Nodup∧L.Pairwise (·≤·)∧(∀ c,c∈L↔ZO par id c)∧L.length≤par.length∧Q0 w' (IL u L::Qf p last par::fr)):=by
 refine QQ Tryz.func8 rfl (by kernel_rfl) ?_;refine XF H ?_;refine Jc rfl rfl (Hu p last par id H) ?_;clear H;rintro v w ⟨rfl,H⟩;rw[if_pos hid];refine Yl H ?_;refine YZ H ?_;refine GJ H ?_;clear H;intro b18 w H;refine J0 H ?_;replace H:Q0 w (IL _ [id]::_):=Uq (c:=Qe [id]) rfl H;refine J8 H ?_;refine Qk (fun ms σ w=>ms=[]∧∃ (l:List Int) (a:Option Addr) (c:Nat),X7 par id l l.length∧σ 7 = .slice a l.length c∧Q0 w (IL (.slice a l.length c) l::Qf p last par::fr)) ?_ ?_
 ·refine QP ?_;refine Ql (fun ms σ w n=>ms=[]∧∃ (i:Nat) (l:List Int) (a:Option Addr) (c:Nat),X7 par id l i∧n=par.length - i∧σ 0=pp p∧σ 7 = .slice a l.length c∧σ 8 = .int .i64 i∧Q0 w (IL (.slice a l.length c) l::Qf p last par::fr)) (m:=par.length) ⟨rfl,0,[id],_,_,X7.start par id,rfl,rfl,rfl,rfl,H⟩ ?_;clear H;rintro ms σ w n ⟨rfl,i,l,a,c,hB,rfl,g0,g7,g8,H⟩;rw[Q1 g0,Q1 g7,Q1 g8];have hll:=hB.len hid;have hil:=hB.le;refine KT H ?_;refine Qj rfl (fun h=>QD ?_) (fun h=>Qp ?_)
  ·have hlt:i < l.length:=by omega
   have hx:=getElem?_eq_getElem hlt;have hxd:=hB.desc _ (getElem_mem hlt);generalize l[i]=x at hx hxd;obtain⟨bT,sT,rfl,H,hcl⟩:=V3 H (by omega);refine WW H ?_;refine Jd ?_;refine Q5 rfl (QB H rfl (by simpa using Ue hx) rfl ?_);replace H:=hcl _ _ H;refine Jc rfl rfl (bZ p last par x (.inr (hxd.live hid)) hl H.swap) ?_;clear H;rintro v w ⟨u,K,rfl,hK,hKs,H⟩;obtain⟨au,mu,cu,rfl⟩:=Qs H;refine G3 H ?_
   have hKm:∀ c,c∈K↔QY par c=some x:=fun c=>by
    rw[hK.mem_iff,mem_filter];unfold UU;constructor
    ·rintro⟨_,h1⟩;simpa using h1
    ·intro h1;exact⟨mem_map.2 ⟨(c,x),Un h1,rfl⟩,by simpa using h1⟩
   have hKn:K.Nodup:=hK.nodup_iff.2 (hT.nd.filter _);have hB2:=hB.step hT hx hKn hKm;have hl2:=hB2.len hid;rw[length_append] at hl2;refine J9 H ?_;replace H:=Js [0,1,0] 0 H;obtain⟨DK,H,hDK,hCK⟩:=sls_rd H (Vo K) (by decide);replace H:=Js [1,0] 0 H;refine Q5 rfl (HG H rfl rfl (hDK _) (cI K) (by rw[Vo,Vo];omega) rfl rfl ?_);clear H;intro v36 w H;rw[← Ao] at H;obtain⟨a36,c36,rfl⟩:=QE H (Vo _) (by decide);refine C6 H ?_;replace H:=Js [0,1] 1 H;exact⟨_,⟨rfl,i+1,l++K,a36,c36,hB2,rfl,rfl,rfl,Qc (by omega),H⟩,by omega⟩
  ·have hge:i=l.length:=by omega
   subst hge;exact⟨rfl,rfl,l,a,c,hB,rfl,H⟩
 clear H;rintro ms σ w ⟨rfl,l,a,c,hB,g7,H⟩;rw[Q1 g7];have hll:=hB.len hid;refine YZ H ?_;refine Jc rfl rfl (F2 _ l (by omega) H) ?_;clear H;rintro v w ⟨rfl,H⟩;refine WA H ?_;have hp:(l.mergeSort fun x y=>decide (x≤y)).Perm l:=mergeSort_perm l _;refine Q3 (Jy H rfl fun w' H'=>⟨_,l.mergeSort fun x y=>decide (x≤y),rfl,hp.nodup_iff.2 hB.nd,?_,fun c=>?_,?_,H'⟩)
 ·have:=pairwise_mergeSort (le:=fun x y:Int=>decide (x≤y)) (fun a b c h1 h2=>by simp at *;omega) (fun a b=>by simp;omega) l;exact this.imp fun h=>by simpa using h
 ·rw[hp.mem_iff];exact hB.ends c
 ·rw[hp.length_eq];exact hll
theorem cM [Q4] (p last:Nat) (par:List (Int×Int)) (id:Int) (hT:Yo par) (hid:(QY par id).isSome=true) (hl:par.length≤1000) {w:World} {fr:List Q2} (H:Q0 w (Qf p last par::fr)) :
  Calls Tryz.prog 37 #[pp p,.int .i64 id] w (ret fun v w'=>∃ u L,v = .tuple #[u,.int .i64 0]∧L.Nodup∧L.Pairwise (·≤·)∧(∀ c,c∈L↔ZO par id c)∧L.length≤par.length∧Q0 w' (IL u L::Qf p last (L.foldl QC par)::fr)):=by
 refine QQ Tryz.func37 rfl (by kernel_rfl) ?_;refine XF H ?_;refine Jc rfl rfl (cJ p last par id hT hid hl H) ?_;clear H;rintro v w ⟨u,L,rfl,h1,h2,h3,h4,H⟩;obtain⟨a,c,rfl⟩:=QE H (Vo _) (by decide);refine G3 H ?_;refine YZ H ?_;refine Bx H ?_;refine Qk (fun ms σ w=>ms=[]∧σ 6 = .slice a L.length c∧σ 7 = .int .i64 0∧Q0 w (IL (.slice a L.length c) L::Qf p last (L.foldl QC par)::fr)) ?_ ?_
 ·refine QP ?_;refine Ql (fun ms σ w n=>ms=[]∧∃ i:Nat,i≤L.length∧n=L.length - i∧σ 0=pp p∧σ 6 = .slice a L.length c∧σ 7 = .int .i64 0∧σ 16 = .slice a L.length c∧σ 17 = .int .i64 L.length∧σ 18 = .int .i64 i∧Q0 w (IL (.slice a L.length c) L::Qf p last ((L.take i).foldl QC par)::fr)) (m:=L.length) ⟨rfl,0,by omega,rfl,rfl,rfl,rfl,rfl,rfl,rfl,H⟩ ?_;clear H;rintro ms σ w n ⟨rfl,i,hi,rfl,g0,g6,g7,g16,g17,g18,H⟩;rw[Q1 g0,Q1 g6,Q1 g7,Q1 g16,Q1 g17,Q1 g18];refine J8 H ?_;refine Qj rfl (fun h=>QD ?_) (fun h=>Qp ?_)
  ·have hlt:i < L.length:=by omega
   have hx:=getElem?_eq_getElem hlt;generalize L[i]=x at hx;have htk:L.take (i+1)=L.take i++[x]:=by rw[take_add_one,hx];rfl
   obtain⟨bT,sT,rfl,H,hcl⟩:=V3 H (by omega);refine YB H ?_;refine Jd ?_;refine Q5 rfl (QB H rfl (by simpa using Ue hx) rfl ?_);refine J0 H ?_;replace H:=(hcl _ _ H).swap;obtain⟨bm,H⟩:=Kc H;refine V2 H ?_;refine Q5 rfl (Xk (key:=x) H.swap rfl rfl Vf rfl ?_);clear H;intro w H;refine J2 H ?_;replace H:=K1 H.swap;refine J4 H ?_;exact⟨_,⟨rfl,i+1,hlt,rfl,rfl,rfl,rfl,rfl,rfl,Qc (by omega),by rw[htk,foldl_append];exact H.swap⟩,by omega⟩
  ·have hge:i=L.length:=by omega
   subst hge;rw[take_length] at H;exact⟨rfl,rfl,rfl,rfl,H⟩
 clear H;rintro ms σ w ⟨rfl,g6,g7,H⟩;rw[Q1 g6,Q1 g7];refine WJ H ?_;exact Q3 (Jy H rfl fun w' H'=>⟨_,L,rfl,h1,h2,h3,h4,H'⟩)
theorem cN [Q4] (v:Value) (l:List Int) (hs:l.Pairwise (· < ·)) (hl:l.length≤1000000) {w:World} {fr:List Q2} (H:Q0 w (IL v l::fr)) :
  Calls Tryz.prog 98 #[v] w (ret fun x w'=>x=v∧Q0 w' (IL v l::fr)):=by
 obtain⟨a,c,rfl⟩:=QE H (Vo l) (by decide);refine QQ Tryz.func98 rfl (by kernel_rfl) ?_;refine XC H ?_;refine Gx H ?_;by_cases h2:l.length < 2
 ·rw[show decide ((l.length:Int) < 2)=true from decide_eq_true (by omega)];refine Yc H ?_;exact Q3 (Jy H rfl fun w' H'=>⟨rfl,H'⟩)
 rw[show decide ((l.length:Int) < 2)=false from decide_eq_false (by omega)];refine V4 H ?_;refine J8 H ?_;refine Qk (fun ms σ w=>ms=[]∧σ 0 = .slice a l.length c∧Q0 w (IL (.slice a l.length c) l::fr)) ?_ ?_
 ·refine QP ?_;refine Ql (fun ms σ w n=>ms=[]∧∃ k:Nat,1≤k∧k≤l.length∧n=l.length - k∧σ 0 = .slice a l.length c∧σ 3 = .int .i64 k∧Q0 w (IL (.slice a l.length c) l::fr)) (m:=l.length - 1) ⟨rfl,1,by omega,by omega,rfl,rfl,rfl,H⟩ ?_;clear H;rintro ms σ w n ⟨rfl,k,hk1,hk,rfl,g0,g3,H⟩;rw[Q1 g0,Q1 g3];refine KT H ?_;refine Qj rfl (fun h=>QD ?_) (fun h=>Qp ?_)
  ·have hlt:k < l.length:=by omega
   have hx:=getElem?_eq_getElem hlt;have hy:=getElem?_eq_getElem (show k - 1 < l.length by omega);have hxy:=(pairwise_iff_getElem.1 hs) (k - 1) k (by omega) hlt (by omega);generalize l[k]=x at hx hxy;generalize l[k - 1]=y at hy hxy;obtain⟨bT,sT,rfl,H,hcl⟩:=V3 H (by omega);have ek:IntKind.i64.wrap ((k:Int) - 1)=((k - 1:Nat):Int):=by rw[Qb (by omega) (by omega)];omega
   refine C7 H ?_;clear H;intro w H;refine WG H ?_;refine Ji 2 ?_;refine Vn 3 [] H rfl (Q7.none rfl) rfl (by simpa using Ue hx) (by kernel_rfl) ?_;refine Us H ?_;refine Ja 6 ?_;rw[ek];refine Ji 7 ?_;refine Vn 8 [] H rfl (Q7.none rfl) rfl (by simpa using Ue hy) (by kernel_rfl) ?_;refine Ja 9 ?_;rw[show (x == y)=false from by rw[beq_eq_false_iff_ne];omega];refine Jx H ?_;replace H:=hcl _ _ H;refine AW H ?_;exact⟨_,⟨rfl,k+1,by omega,hlt,rfl,rfl,Qc (by omega),H⟩,by omega⟩
  ·exact⟨rfl,rfl,rfl,H⟩
 clear H;rintro ms σ w ⟨rfl,g0,H⟩;rw[Q1 g0];refine J4 H ?_;exact Q3 (Jy H rfl fun w' H'=>⟨rfl,H'⟩)
theorem cP [Q4] {w:World} {v:Value} {l:List Nat} {fr:List Q2} (H:Q0 w (IL v (l.map fun x:Nat=>(x:Int))::fr)):Q0 w (NL v l::fr):=by
 show Q0 w (QX 3 1 v (QA l)::fr);rw[F1];exact H
def UK (l m:List Nat):List Nat:=(l++m).mergeSort fun x y=>decide (x≤y)
theorem cT {l m:List Nat} {x:Nat}:x∈UK l m↔x∈l∨x∈m:=by
 unfold UK;rw[mem_mergeSort,mem_append]
theorem cd (l m:List Nat):(UK l m).length=l.length+m.length:=by
 unfold UK;rw[length_mergeSort,length_append]
theorem Nj {l m:List Nat} (hl:l.Pairwise (· < ·)) (hm:m.Pairwise (· < ·)) (hd:∀ x∈l,x∉m):(UK l m).Pairwise (· < ·):=by
 have h1:(UK l m).Pairwise (fun x y=>decide (x≤y)=true):=pairwise_mergeSort (fun a b c h1 h2=>by simp at *;omega) (fun a b=>by simp;omega) _
 have h2:(UK l m).Nodup:=by
  unfold UK;rw[(mergeSort_perm _ _).nodup_iff,nodup_append];exact⟨hl.imp fun h=>by omega,hm.imp fun h=>by omega,fun a ha b hb hab=>hd a ha (hab▸hb)⟩
 refine(h1.and h2).imp fun h=>?_;have:=h.1;have h3:_≠_:=h.2;simp at this;omega
theorem ce (l m:List Nat):(UK l m).map (fun x:Nat=>(x:Int))=(((l++m).map fun x:Nat=>(x:Int)).mergeSort fun x y=>decide (x≤y)):=by
 unfold UK;rw[map_mergeSort];intro a _ b _;simp
theorem cj [Q4] (p q:Nat) (l m:List Nat) (hl:l.Pairwise (· < ·)) (hm:m.Pairwise (· < ·)) (hd:∀ x∈l,x∉m) (hll:l.length≤100000) (hml:m.length≤100000) {w:World} {fr:List Q2} (H:Q0 w (Qu p l::Qu q m::fr)) :
  Calls Tryz.prog 39 #[pp p,pp q] w (ret fun v w'=>v = .tuple #[]∧Q0 w' (Qu p (UK l m)::Qu q m::fr)):=by
 obtain⟨a,c,H⟩:=Wb H;replace H:=Js [2,0,0] 0 H;obtain⟨a',c',H⟩:=Wb H;refine QQ Tryz.func39 rfl (by kernel_rfl) ?_;refine AY H ?_;refine A6 H ?_;refine E8 H ?_;replace H:=Js [3,2,0,0] 0 H;obtain⟨D1,H,hD1,hC1⟩:=sls_rd H (QH l) (by decide);replace H:=Js [3,1,1,0] 0 H;obtain⟨D2,H,hD2,hC2⟩:=sls_rd H (QH m) (by decide);refine J1 H ?_;clear H;intro w H;refine XA H ?_;refine De H ?_;refine Jl 8 [] H ?_;replace H:=Js [3,0,0,0] 0 H;refine Jo 4 H ?_;refine Jk rfl rfl (CA _ l (by omega) (hD1 _) H) ?_;clear H;intro v15 w H;obtain⟨a15,c15,rfl⟩:=QE H (QH l) (by decide);refine Jo 9 H ?_;refine HG H rfl rfl ((hD2 _).there) (by simp[QA,all_eq_true,Value.oneCell']) (by rw[QH,QH];omega) rfl rfl ?_;clear H;intro v20 w H;rw[← WT,F1] at H;obtain⟨a20,c20,rfl⟩:=QE (m:=l.length+m.length) H (by rw[Vo,length_map,length_append]) (by decide);refine Ja 10 ?_;refine Jx H ?_;refine YZ H ?_;refine Jc rfl rfl (F2 (.slice a20 (l.length+m.length) c20) ((l++m).map fun x:Nat=>(x:Int)) (by rw[length_map,length_append];omega) H) ?_;clear H;rintro v w ⟨rfl,H⟩;refine J2 H ?_;rw[← ce] at H;have hjs:=Nj hl hm hd;have hjl:=cd l m;refine J9 H ?_;refine Jc rfl rfl (cN (.slice a20 (l.length+m.length) c20) ((UK l m).map fun x:Nat=>(x:Int)) (List.Pairwise.map _ (fun a b h=>by omega) hjs) (by rw[length_map];omega) H) ?_;clear H;rintro v w ⟨rfl,H⟩;refine GL H ?_;clear H;intro w H;refine J2 H ?_;replace H:=cP H;replace H:=Js [2,3,2,0] 1 H;replace H:=hC2 _ _ H;replace H:=Js [2,2,1,0] 0 H;replace H:=Ke H;replace H:=Ke (Q0.sel [1,1,0] 0 H);exact Y6 _ (.inl rfl) H.swap rfl fun w' H'=>⟨rfl,H'⟩
theorem cm [Q4] (a:Option Addr) (n c:Nat) {w:World} {fr:List Q2} (H:Q0 w fr) :
  Calls Tryz.prog 100 #[.slice a n c] w (ret fun v w'=>∃ b1,v = .func (.func 182) #[] #[pp b1]∧Q0 w' (pts b1 (row 25 [.slice a n c])::fr)):=by
 refine QQ Tryz.func100 rfl (by kernel_rfl) ?_;refine Yv H ?_;clear H;intro b1 w H;refine YY H ?_;exact Q3 (Jy H rfl fun w' H'=>⟨_,rfl,H'⟩)
theorem FU [Q4] (p:Nat) (l:List Nat) (hl:l.length≤1000000) {w:World} {fr:List Q2} (H:Q0 w (Qu p l::fr)) :
  Calls Tryz.prog 40 #[pp p] w (ret fun v w'=>∃ (b1:Nat) (a:Option Addr) (c:Nat),v = .func (.func 182) #[] #[pp b1]∧Q0 w' (pts b1 (row 25 [.slice a l.length c])::NL (.slice a l.length c) l::Qu p l::fr)):=by
 obtain⟨a,c,H⟩:=Wb H;refine QQ Tryz.func40 rfl (by kernel_rfl) ?_;refine RX H ?_;obtain⟨D1,H,hD1,hC1⟩:=sls_rd H.swap (QH l) (by decide);refine Jc rfl rfl (CA _ l hl (hD1 _) H) ?_;clear H;intro v w H;obtain⟨a9,c9,rfl⟩:=QE H (QH l) (by decide);refine Jc rfl rfl (cm a9 l.length c9 H) ?_;clear H;rintro v w ⟨b1,rfl,H⟩;refine J0 H ?_;replace H:=Js [2,0,0,0] 0 H;replace H:=hC1 _ _ H;replace H:=Js [3,0,0,0] 0 H;replace H:=Ke H;replace H:=Js [1,1,0] 0 H;exact Q3 (Jy H rfl fun w' H'=>⟨_,a9,c9,rfl,H'⟩)
theorem FX [Q4] (yl b1:Nat) (a:Option Addr) (c:Nat) (l:List Nat) (hl:l.length≤1000000) (J:List Nat→Q2) {w:World} {fr:List Q2}
  (hy:∀ (ks:List Nat) (k:Nat) (t:List Nat) (rest:List Q2) (w:World),l=ks++k::t→Q0 w (J ks::rest)→SL.Yields Tryz.prog yl #[.int .i64 k] w (fun v w'=>v = .bool true∧Q0 w' (J (ks++[k])::rest)))
  (H:Q0 w (J []::pts b1 (row 25 [.slice a l.length c])::NL (.slice a l.length c) l::fr)) :
  Calls Tryz.prog 182 #[.func (.yield yl) #[] #[],pp b1] w (ret fun _ w'=>Q0 w' (J l::pts b1 (row 25 [.slice a l.length c])::NL (.slice a l.length c) l::fr)):=by
 refine QQ Tryz.func182 rfl (by kernel_rfl) ?_;refine Zg H ?_;refine KP H ?_;refine Ql (fun ms σ w n=>ms=[]∧∃ i:Nat,i≤l.length∧n=l.length - i∧σ 0 = .func (.yield yl) #[] #[]∧σ 5 = .slice a l.length c∧σ 6 = .int .i64 l.length∧σ 7 = .int .i64 i∧Q0 w (J (l.take i)::pts b1 (row 25 [.slice a l.length c])::NL (.slice a l.length c) l::fr)) (m:=l.length) ⟨rfl,0,by omega,rfl,rfl,rfl,rfl,rfl,H⟩ ?_;clear H;rintro ms σ w n ⟨rfl,i,hi,rfl,g0,g5,g6,g7,H⟩;rw[Q1 g0,Q1 g5,Q1 g6,Q1 g7];refine J8 H ?_;refine Qj rfl (fun h=>QD ?_) (fun h=>Qp ?_)
 ·have hlt:i < l.length:=by omega
  have hx:=getElem?_eq_getElem hlt;have hsp:l=l.take i++l[i]::l.drop (i+1):=by rw[getElem_cons_drop,take_append_drop]
  have htk:l.take (i+1)=l.take i++[l[i]]:=by rw[take_add_one,hx];rfl
  generalize l[i]=x at hx hsp htk;replace H:=Js [2,0,0] 0 H;obtain⟨bT,sT,rfl,H,hcl⟩:=V3 H (by omega);refine YB H ?_;refine Jd ?_;refine Q5 rfl (QB H rfl (Gz hx) rfl ?_);refine J0 H ?_;replace H:=hcl _ _ H;refine J9 H ?_;replace H:=Js [1,1,0] 0 H;refine Q5 rfl (Ky rfl rfl (SL.Yields.mono (hy _ x _ _ _ hsp H) ?_));clear H;rintro v w ⟨rfl,H⟩;rw[← htk] at H;refine Uv H ?_;exact⟨_,⟨rfl,i+1,hlt,rfl,rfl,rfl,rfl,Qc (by omega),H⟩,by omega⟩
 ·have hge:i=l.length:=by omega
  subst hge;rw[take_length] at H;exact Y6 _ (.inl rfl) H rfl fun w' H'=>H'
def Gd (n x:Nat):List Nat:=(List.range n).filter fun i=>x.testBit i
theorem Nk {x a e:Nat} (h:a≤e) (h0:∀ i,a≤i→i < e→x.testBit i=false):Gd e x=Gd a x:=by
 obtain⟨d,rfl⟩:∃ d,e=a+d:=⟨e - a,by omega⟩;unfold Gd
 have h2:((List.range d).map (a+·)).filter (fun i=>x.testBit i)=[]:=by
  refine filter_eq_nil_iff.2 fun i hi=>?_;obtain⟨j,hj,rfl⟩:=mem_map.1 hi;have:=mem_range.1 hj;rw[h0 (a+j) (by omega) (by omega)];decide
 rw[range_add,filter_append,h2,append_nil]
theorem Nl {x a:Nat} (h:x.testBit a=true):Gd (a+1) x=Gd a x++[a]:=by
 unfold Gd;rw[range_succ,filter_append,filter_cons,if_pos h];rfl
theorem cn {x a n:Nat} (h:a < n) (hx:x.testBit a=true):∃ t,Gd n x=Gd a x++a::t:=by
 obtain⟨d,rfl⟩:∃ d,n=(a+1)+d:=⟨n - (a+1),by omega⟩;refine⟨((List.range d).map (a+1+·)).filter fun i=>x.testBit i,?_⟩;have h1:=Nl hx;unfold Gd at h1 ⊢;rw[range_add,filter_append,h1,append_assoc];rfl
theorem cp [Q4] (p:Nat) {w:World} {fr:List Q2} (H:Q0 w fr) :
  Calls Tryz.prog 61 #[pp p] w (ret fun v w'=>∃ b1,v = .func (.func 126) #[] #[pp b1]∧Q0 w' (pts b1 (row 152 [pp p])::fr)):=by
 refine QQ Tryz.func61 rfl (by kernel_rfl) ?_;refine Yv H ?_;clear H;intro b1 w H;refine YY H ?_;exact Q3 (Jy H rfl fun w' H'=>⟨_,rfl,H'⟩)
theorem cz [Q4] (yl b1 p n x m:Nat) (hb:ZB n x) (J:List Nat→Q2)
  {w:World} {fr:List Q2} [hT:YW 0 Lib.deBruijn64tab fr]
  (hy:∀ (ks:List Nat) (i:Nat) (rest:List Q2) (w:World),i < n→x.testBit i=true→(∃ t,Gd n x=ks++i::t)→Q0 w (J ks::BM p n [x] m::rest)→SL.Yields Tryz.prog yl #[.int .i64 i] w (fun v w'=>v = .bool true∧Q0 w' (J (ks++[i])::BM p n [x] m::rest)))
  (H:Q0 w (J []::pts b1 (row 152 [pp p])::BM p n [x] m::fr)) :
  Calls Tryz.prog 126 #[.func (.yield yl) #[] #[],pp b1] w (ret fun _ w'=>Q0 w' (J (Gd n x)::pts b1 (row 152 [pp p])::BM p n [x] m::fr)):=by
 have hle:=hb.le;refine QQ Tryz.func126 rfl (by kernel_rfl) ?_;refine Zg H ?_;refine Q5 rfl (Gt rfl rfl (.inl rfl) rfl ?_);refine RT H ?_;replace H:=Js [2,1,0] 0 H;refine Zg H ?_;refine Jc rfl rfl (Hl p n x 0 m hb (by omega) H) ?_;clear H;rintro v w ⟨⟨a,rfl,_,ha,h0,h1⟩,H⟩;refine J0 H ?_;have e0:J []=J (Gd a x):=by rw[Nk (Nat.zero_le a) h0];rfl
 rw[e0] at H;clear e0 h0;refine G1 H ?_;refine Ql (fun ms σ w z=>ms=[]∧∃ a:Nat,a≤n∧(a < n→x.testBit a=true)∧z=n - a∧σ 0 = .func (.yield yl) #[] #[]∧σ 1=pp b1∧σ 3 = .int .i64 a∧Q0 w (BM p n [x] m::pts b1 (row 152 [pp p])::J (Gd a x)::fr)) (m:=n - a) ⟨rfl,a,ha,h1,rfl,rfl,rfl,rfl,H⟩ ?_;clear H;rintro ms σ w z ⟨rfl,a,ha,h1,rfl,g0,g1,g3,H⟩;rw[Q1 g0,Q1 g1,Q1 g3];obtain⟨v,H⟩:=Ek H;refine YZ H ?_;refine Xo H ?_;refine Jv ?_;refine ZW H ?_;refine J0 H ?_;replace H:=CK H;refine J6 H ?_;refine Qj rfl (fun h=>QD ?_) (fun h=>Qp ?_)
 ·have hlt:a < n:=by omega
  refine Xs H ?_;replace H:=Js [2,0,0] 0 H;refine Q5 rfl (Ky rfl rfl (SL.Yields.mono (hy (Gd a x) a _ _ hlt (h1 hlt) (cn hlt (h1 hlt)) H) ?_));clear H;rintro v w ⟨rfl,H⟩;refine Vx H ?_;rw[← Nl (h1 hlt)] at H;replace H:=Js [1,1,0] 0 H;refine Zg H ?_;refine YA H ?_;rw[show IntKind.i64.wrap ((a:Int)+1)=((a+1:Nat):Int) by rw[Qb (by omega) (by omega)];omega];refine Jc rfl rfl (Hl p n x (a+1) m hb (by omega) H) ?_;clear H;rintro v w ⟨⟨e,rfl,h2,h3,h4,h5⟩,H⟩;refine J0 H ?_;rw[← Nk h2 h4] at H;exact⟨_,⟨rfl,e,h3,h5,rfl,rfl,rfl,rfl,H⟩,by omega⟩
 ·have hge:a=n:=by omega
  subst hge;replace H:=Js [2,1,0] 0 H;exact Y6 _ (.inl rfl) H rfl fun w' H'=>H'
structure TQ where
 b:Nat
 c:Nat
 s:List Value
 u:Nat
 x:Nat
def ZP (p:Nat) (ts:List QK) (q:TQ):Q2:=star [prop (GQ ts q.x∧ts.length≤q.c),pts p (row 154 [.slice (some ⟨q.b,0,none⟩) ts.length q.c,pp q.u,.int .i64 (Zi ts)]),pts q.b (row 158 (ts.flatMap VS++q.s)),Z4 q.u ts.length q.x]
theorem Rq [Q4] {w:World} {p:Nat} {ts:List QK} {b c:Nat} {s:List Value} {u x:Nat} {l:List Q2} (H:Q0 w (ZP p ts ⟨b,c,s,u,x⟩::l)):GQ ts x∧ts.length≤c ∧
  Q0 w (pts p (row 154 [.slice (some ⟨b,0,none⟩) ts.length c,pp u,.int .i64 (Zi ts)])::pts b (row 158 (ts.flatMap VS++s))::Z4 u ts.length x::l) ∧
  ∀ w' l' ts' x',ts'=ts→x'=x→GQ ts x→Q0 w' (pts p (row 154 [.slice (some ⟨b,0,none⟩) ts.length c,pp u,.int .i64 (Zi ts)])::pts b (row 158 (ts.flatMap VS++s))::Z4 u ts.length x::l')→Q0 w' (ZP p ts ⟨b,c,s,u,x⟩::l'):=by
 have H:=Q0.star.1 H;obtain⟨h,H⟩:=Q0.prop.1 H;exact⟨h.1,h.2,H,fun w' l' ts' x' _ _ _ H'=>Q0.star.2 (Q0.prop.2 ⟨h,H'⟩)⟩
theorem d5 [Q4] {w:World} {p:Nat} {ts:List QK} {l:List Q2} (H:Q0 w (Qg p ts::l)):∃ q,Q0 w (ZP p ts q::l)∧∀ w' l',Q0 w' (ZP p ts q::l')→Q0 w' (Qg p ts::l'):=by
 obtain⟨b,c,s,u,x,hok,hc,H,hclose⟩:=Rp H;refine⟨⟨b,c,s,u,x⟩,Q0.star.2 (Q0.prop.2 ⟨⟨hok,hc⟩,H⟩),fun w' l' H'=>?_⟩;obtain⟨_,_,H',_⟩:=Rq H';exact hclose _ _ ts x rfl rfl hok H'
theorem d6 [Q4] (p:Nat) (ts:List QK) (q:TQ) (i g:Int) {w:World} {fr:List Q2} (H:Q0 w (ZP p ts q::fr)) :
  Calls Tryz.prog 17 #[pp p,Yy i g] w (ret fun v w'=>v=(match QS ts i g with|some (_,e) => .tuple #[.agg (Vl e).toArray,.int .i64 0]|none => .tuple #[.agg #[.int .i64 0,.int .i64 0,.bool false,.bool false],.int .i64 8])∧Q0 w' (ZP p ts q::fr)):=by
 obtain⟨b,c,s,u,x⟩:=q;obtain⟨hok,hc,H,hclose⟩:=Rq H;refine QQ Tryz.func17 rfl (by kernel_rfl) ?_;refine J7 H ?_;clear H;intro b3 w H;refine VZ H ?_;clear H;intro b4 w H;refine KM H ?_;replace H:=Js [2,2,0,0,0] 0 H;refine Jc rfl rfl (F7 p b c u _ rfl ts s hok.bits.le i g H) ?_;clear H;rintro v w ⟨rfl,H⟩;cases hL:QS ts i g with
 | some q=>
  obtain⟨k,e⟩:=q;obtain⟨n,rfl,rfl,hk⟩:=Y9.1 hL;have hrd:Q9 (ts.flatMap VS++s) (k*6+2) 4 (Vl e):=RV (vs:=Vl e) YD hk (by repeat first|exact .nil _|apply Q9.cons rfl);refine G2 H ?_;refine EW H ?_;refine Q5 rfl (VA H rfl hrd rfl ?_);refine J5 H ?_;clear H;intro w H;refine J0 H ?_;replace H:=Js [2,0,0,1] 1 H;exact Q3 (Jz H (fun w' H' => .cellN H' rfl (by repeat first|exact .nil _|apply Q9.cons rfl) (.tmp .nil)) fun w' H'=>⟨rfl,hclose _ _ ts x rfl rfl hok H'.drop⟩)
 | none=>
  refine UV H ?_;refine C0 H ?_;clear H;intro w H;refine J0 H ?_;replace H:=Js [2,0,0,1] 1 H;exact Q3 (Jz H (fun w' H' => .cellN H' rfl (by repeat first|exact .nil _|apply Q9.cons rfl) (.tmp .nil)) fun w' H'=>⟨rfl,hclose _ _ ts x rfl rfl hok H'.drop⟩)
theorem Nm [Q4] (p:Nat) (ts:List QK) (q:TQ) (i g:Int) {w:World} {fr:List Q2} (H:Q0 w (ZP p ts q::fr)) :
  Calls Tryz.prog 17 #[pp p,Yy i g] w (ret fun v w'=>v=CI (QS ts i g)∧Q0 w' (ZP p ts q::fr)):=
 call (d6 p ts q i g H) fun v w h=>⟨by rw[h.1];cases QS ts i g <;> rfl,h.2⟩
theorem d7 [Q4] (p:Nat) (ts:List QK) (q:TQ) (k n:Nat) (e:Q8) (hk:ts[k]? = some ⟨n,some e⟩) {w:World} {fr:List Q2} (H:Q0 w (ZP p ts q::fr)) :
  Calls Tryz.prog 62 #[pp p,.int .i64 k] w (ret fun v w'=>v = .tuple #[UY k n,.bool true]∧Q0 w' (ZP p ts q::fr)):=by
 obtain⟨b,c,s,u,x⟩:=q;obtain⟨hok,hc,H,hclose⟩:=Rq H;have hb:=hok.bits.le;have hkl:k < ts.length:=(List.getElem?_eq_some_iff.1 hk).1;have c1:(ts.flatMap VS++s)[k*6+1]? = some (.bool true):=UI YD hk rfl;have c0:(ts.flatMap VS++s)[k*6+0]? = some (.int .i64 n):=UI YD hk rfl;have ei:0+((k:Nat):Int).toNat*6=k*6:=by simp
 refine QQ Tryz.func62 rfl (by kernel_rfl) ?_;refine Y7 H ?_;clear H;intro b4 w H;refine J0 H ?_;refine AY H ?_;refine UQ H ?_;rw[show decide ((k:Int) < 0)=false from decide_eq_false (by omega)];refine YA H ?_;refine Dg H ?_;rw[show decide ((k:Int)≥(ts.length:Int))=false from decide_eq_false (by omega)];refine AL H ?_;refine QT rfl rfl rfl (GC rfl rfl (by omega) (by omega) rfl ?_);rw[ei];refine QT rfl rfl rfl (VR rfl rfl ?_);refine QT rfl rfl rfl (QB H rfl c1 rfl ?_);refine WZ H ?_;refine AH H ?_;refine Jd ?_;rw[ei];refine RI H ?_;refine Q5 rfl (QB H rfl c0 rfl ?_);refine EA H ?_;clear H;intro w H;refine J0 H ?_;exact Q3 (Jz H (fun w' H' => .cellN H' rfl (by repeat first|exact .nil _|apply Q9.cons rfl) (.tmp .nil)) fun w' H'=>⟨rfl,hclose _ _ ts x rfl rfl hok H'.drop⟩)
theorem d8 [Q4] (p:Nat) (ts:List QK) (q:TQ) (i:Int) (hno:¬ Used ts i) {w:World} {fr:List Q2} (H:Q0 w (ZP p ts q::fr)) :
  Calls Tryz.prog 62 #[pp p,.int .i64 i] w (ret fun v w'=>v = .tuple #[Yy 0 0,.bool false]∧Q0 w' (ZP p ts q::fr)):=by
 obtain⟨b,c,s,u,x⟩:=q;obtain⟨hok,hc,H,hclose⟩:=Rq H;have hb:=hok.bits.le;refine QQ Tryz.func62 rfl (by kernel_rfl) ?_;refine Y7 H ?_;clear H;intro b4 w H;refine J0 H ?_;refine AY H ?_;refine UQ H ?_;by_cases h0:i < 0
 ·rw[show decide (i < 0)=true from decide_eq_true (by omega)];refine Uy H ?_;refine KJ H ?_;refine AO H ?_;refine Qw rfl rfl rfl ?_;refine Xt H ?_;clear H;intro w H;refine J0 H ?_;exact Q3 (Jz H (fun w' H' => .cellN H' rfl (by repeat first|exact .nil _|apply Q9.cons rfl) (.tmp .nil)) fun w' H'=>⟨rfl,hclose _ _ ts x rfl rfl hok H'.drop⟩)
 ·rw[show decide (i < 0)=false from decide_eq_false (by omega)];refine YA H ?_;refine Dg H ?_;by_cases h1:i≥(ts.length:Int)
  ·rw[show decide (i≥(ts.length:Int))=true from decide_eq_true (by omega)];refine AO H ?_;refine Qw rfl rfl rfl ?_;refine Xt H ?_;clear H;intro w H;refine J0 H ?_;exact Q3 (Jz H (fun w' H' => .cellN H' rfl (by repeat first|exact .nil _|apply Q9.cons rfl) (.tmp .nil)) fun w' H'=>⟨rfl,hclose _ _ ts x rfl rfl hok H'.drop⟩)
  ·rw[show decide (i≥(ts.length:Int))=false from decide_eq_false (by omega)];obtain⟨k,rfl⟩:∃ k:Nat,i=k:=⟨i.toNat,by omega⟩;have hk:=getElem?_eq_getElem (l:=ts) (i:=k) (by omega);generalize ts[k]=t at hk;obtain⟨g,e⟩:=t
   obtain rfl:e=none:=by
    cases e with
    | none=>rfl
    | some e=>exact absurd ⟨k,g,e,rfl,hk⟩ hno
   have c1:(ts.flatMap VS++s)[k*6+1]? = some (.bool false):=UI YD hk rfl;have ei:0+((k:Nat):Int).toNat*6=k*6:=by simp
   refine AL H ?_;refine QT rfl rfl rfl (GC rfl rfl (by omega) (by omega) rfl ?_);rw[ei];refine QT rfl rfl rfl (VR rfl rfl ?_);refine QT rfl rfl rfl (QB H rfl c1 rfl ?_);refine Yj H ?_;refine Xt H ?_;clear H;intro w H;refine J0 H ?_;exact Q3 (Jz H (fun w' H' => .cellN H' rfl (by repeat first|exact .nil _|apply Q9.cons rfl) (.tmp .nil)) fun w' H'=>⟨rfl,hclose _ _ ts x rfl rfl hok H'.drop⟩)
def Ge (ts:List QK) (i:Nat):Bool:=match ts[i]? with
 | some ⟨_,some _⟩=>true
 | _=>false
theorem IB {ts:List QK} {i:Nat}:Ge ts i=true↔∃ g e,ts[i]? = some ⟨g,some e⟩:=by
 unfold Ge;split
 ·rename_i g e h;exact⟨fun _=>⟨g,e,h⟩,fun _=>rfl⟩
 ·rename_i h;exact⟨fun h=>(by cases h),fun ⟨g,e,h'⟩=>absurd h' (h g e)⟩
def XO (ts:List QK):List Nat:=(List.range ts.length).filter (Ge ts)
theorem Nn {ts:List QK} {x:Nat} (h:GQ ts x):(Gd ts.length x).filter (Ge ts)=XO ts:=by
 unfold Gd XO;rw[filter_filter];refine filter_congr fun i hi=>?_;have hi:=mem_range.1 hi;have ht:=getElem?_eq_getElem hi;cases hu:Ge ts i with
 | false=>rfl
 | true=>
  obtain⟨g,e,h1⟩:=IB.1 hu;rw[h.bit i _ h1];rfl
theorem d9 [Q4] (p:Nat) {w:World} {fr:List Q2} (H:Q0 w fr) :
  Calls Tryz.prog 16 #[pp p] w (ret fun v w'=>∃ b1,v = .func (.func 60) #[] #[pp b1]∧Q0 w' (pts b1 (row 38 [pp p])::fr)):=by
 refine QQ Tryz.func16 rfl (by kernel_rfl) ?_;refine Yv H ?_;clear H;intro b1 w H;refine YY H ?_;exact Q3 (Jy H rfl fun w' H'=>⟨_,rfl,H'⟩)
theorem dQ [Q4] (yl b1 p:Nat) (ts:List QK) (q:TQ) (J:List Nat→Q2)
  {w:World} {fr:List Q2} [hT:YW 0 Lib.deBruijn64tab fr]
  (hy:∀ (ks:List Nat) (k g:Nat) (e:Q8) (rest:List Q2) (w:World),ts[k]? = some ⟨g,some e⟩→(∃ t,XO ts=ks++k::t)→Q0 w (J ks::ZP p ts q::rest)→SL.Yields Tryz.prog yl #[UY k g,.agg (Vl e).toArray] w (fun v w'=>v = .bool true∧Q0 w' (J (ks++[k])::ZP p ts q::rest)))
  (H:Q0 w (J []::pts b1 (row 38 [pp p])::ZP p ts q::fr)) :
  Calls Tryz.prog 60 #[.func (.yield yl) #[] #[],pp b1] w (ret fun _ w'=>Q0 w' (J (XO ts)::pts b1 (row 38 [pp p])::ZP p ts q::fr)):=by
 obtain⟨b,c,s,u,x⟩:=q;refine QQ Tryz.func60 rfl (by kernel_rfl) ?_;refine Yv H ?_;clear H;intro b2 w H;refine J2 H ?_;refine Zg H ?_;refine Q5 rfl (Gt rfl rfl (.inl rfl) rfl ?_);refine RT H ?_;replace H:=Js [3,2,1,0] 0 H;obtain⟨hok,hc,H,hclose⟩:=Rq H;refine Ux H ?_;refine ZW H ?_;refine Jc rfl rfl (cp u H) ?_;clear H;rintro v w ⟨bb,rfl,H⟩;refine AV H ?_;refine QP (Xn (a:=[]) (b:=[pp bb]) H rfl (fun yl2 D w H=>?_));generalize hL:LR _ yl2 _ _ _ _ D .ready=L at H ⊢;obtain⟨J2,hJ2⟩:∃ J2:List Nat→Q2,J2=fun ks=>star [L,J (ks.filter (Ge ts)),pts b1 (row 38 [pp p]),pts p (row 154 [.slice (some ⟨b,0,none⟩) ts.length c,pp u,.int .i64 (Zi ts)]),pts b (row 158 (ts.flatMap VS++s)),pts b2 (row 150 [.func (.yield yl) #[] #[]])]:=⟨_,rfl⟩
 have hin:∀ (ks:List Nat) (w:World) (l':List Q2),Q0 w (L::J (ks.filter (Ge ts))::pts b1 (row 38 [pp p])::pts p (row 154 [.slice (some ⟨b,0,none⟩) ts.length c,pp u,.int .i64 (Zi ts)])::pts b (row 158 (ts.flatMap VS++s))::pts b2 (row 150 [.func (.yield yl) #[] #[]])::l')→Q0 w (J2 ks::l'):=by
  intro ks w l' H;rw[hJ2];exact Q0.star.2 H
 have hout:∀ (ks:List Nat) (w:World) (l':List Q2),Q0 w (J2 ks::l')→Q0 w (L::J (ks.filter (Ge ts))::pts b1 (row 38 [pp p])::pts p (row 154 [.slice (some ⟨b,0,none⟩) ts.length c,pp u,.int .i64 (Zi ts)])::pts b (row 158 (ts.flatMap VS++s))::pts b2 (row 150 [.func (.yield yl) #[] #[]])::l'):=by
  intro ks w l' H;rw[hJ2] at H;exact Q0.star.1 H
 replace H:=Js [0,6,5,2,2,3,1,1,0] 0 H;replace H:=hin [] _ _ H;refine call (cz yl2 bb u ts.length x _ hok.bits J2 ?_ H) ?_
 ·clear H;intro ks i rest w hi hbit hpre H;replace H:=hout _ _ _ H;obtain⟨t,hpre⟩:=hpre;have hu:=Nn hok;rw[hpre,filter_append,filter_cons] at hu;have hyy:=fun (w:World) (rest:List Q2) (g:Nat) (e:Q8)=>hy (ks.filter (Ge ts)) i g e rest w;subst hL;refine XX (args:=[.int .i64 i]) H rfl rfl ?_;refine VF H ?_;refine⟨rfl,_,H,fun w H=>QP ?_⟩;replace H:=Js [3,3,4,2,0,0,0] 0 H;replace H:=hclose _ _ ts x rfl rfl hok H;have hti:=getElem?_eq_getElem hi;generalize ts[i]=ti at hti;obtain⟨g,en⟩:=ti;refine Ux H ?_;cases en with
  | some e=>
   have hus:Ge ts i=true:=IB.2 ⟨g,e,hti⟩;rw[if_pos hus] at hu;have hrd:Q9 (ts.flatMap VS++s) (i*6+2) 4 (Vl e):=RV (vs:=Vl e) YD hti (by repeat first|exact .nil _|apply Q9.cons rfl);have ei:0+((i:Nat):Int).toNat*6=i*6:=by simp
   refine Jc rfl rfl (d7 p ts ⟨b,c,s,u,x⟩ i g e hti H) ?_;clear H;rintro v w ⟨rfl,H⟩;refine Ve H ?_;clear H;intro b4 w H;refine J5 H ?_;clear H;intro w H;refine J0 H ?_;replace H:=Js [1,0,0,0,0,0] 0 H;obtain⟨_,_,H,_⟩:=Rq H;refine J1 H ?_;clear H;intro w H;refine WG H ?_;refine Jl 2 [12] H ?_;refine VB 3 [12] H rfl (Q7.of rfl rfl rfl) rfl (by repeat first|exact .nil _|apply Q9.cons rfl) (by kernel_rfl) ?_;refine Jl 4 [12] H ?_;refine Ja 5 ?_;refine Jf 6 ?_;refine Jl 7 [12] H ?_;refine Ja 8 ?_;refine Ji 9 ?_;rw[ei];refine Jf 10 ?_;refine VB 11 [12] H rfl (Q7.of rfl rfl rfl) rfl hrd (by kernel_rfl) ?_;have Hc:=hclose _ _ ts x rfl rfl hok H;replace Hc:=Js [4,0,0,0,0,0] 0 Hc;refine Jo 12 H ?_;refine Ky rfl rfl (SL.Yields.mono (hyy _ _ g e hti ⟨_,hu.symm⟩ Hc) ?_);clear Hc;clear H;rintro v w ⟨rfl,H⟩;have he:(ks++[i]).filter (Ge ts)=ks.filter (Ge ts)++[i]:=by rw[filter_append,filter_cons,if_pos hus];rfl
   rw[← he] at H;refine WM H ?_;refine V4 H ?_;replace H:=Js [1,0,0,0,0,0] 0 H;obtain⟨_,_,H,_⟩:=Rq H;replace H:=Js [6,3,4,0,0,2,0] 1 H;exact⟨rfl,_,H,fun w H=>⟨rfl,hin _ _ _ H⟩⟩
  | none=>
   have hus:Ge ts i=false:=by
    cases hu:Ge ts i with
    | false=>rfl
    | true=>
     obtain⟨g',e',h1⟩:=IB.1 hu;rw[hti] at h1;cases h1
   refine Q5 rfl (Qy (a:=[]) (b:=[]) rfl rfl (call (d8 p ts ⟨b,c,s,u,x⟩ i (by
       rintro⟨k2,n2,e2,h1,h2⟩;obtain rfl:i=k2:=by omega
       rw[hti] at h2;cases h2) H) ?_))
   clear H;rintro v w ⟨rfl,H⟩;refine Ve H ?_;clear H;intro b4 w H;refine J5 H ?_;clear H;intro w H;refine Y8 H ?_;refine W9 H mixed ?_;clear H;intro w H;refine WG H ?_;refine Jn 2 ?_;refine Jn 3 ?_;refine EU H ?_;refine Jn 12 ?_;have he:(ks++[i]).filter (Ge ts)=ks.filter (Ge ts):=by rw[filter_append,filter_cons,if_neg (by rw[hus];decide)];exact append_nil _
   rw[← he] at H;refine Jn 13 ?_;refine Ja 14 ?_;refine Jx H ?_;refine V4 H ?_;replace H:=Js [1,0,0,0,0,0] 0 H;obtain⟨_,_,H,_⟩:=Rq H;replace H:=Js [5,5,4,0,0,2,0] 1 H;exact⟨rfl,_,H,fun w H=>⟨rfl,hin _ _ _ H⟩⟩
 ·clear H;rintro v w H;replace H:=hout _ _ _ H;rw[Nn hok] at H;subst hL;refine⟨_,H,fun w H=>?_⟩;replace H:=Js [2,2,4,4,0,0,0,0] 0 H;replace H:=hclose _ _ ts x rfl rfl hok H;replace H:=Js [1,1,1,0] 2 H;exact Kx (ms:=[D]) _ (.inl rfl) ((Q0.star (k:=[pts D (.deferred (some []))])).2 H) rfl fun w' H'=>H'
theorem Np [Q4] (p:Nat) (q:Gb) (ts:List QK) (k n:Nat) (e:Q8) (hk:ts[k]? = some ⟨n,some e⟩) {w:World} {fr:List Q2} (H:Q0 w (Qg q.tp ts::Qt p q::fr)) :
  Calls Tryz.prog 108 #[pp p,.int .i64 k] w (ret fun v w'=>v = .tuple #[.agg (Vl e).toArray,.bool true]∧Q0 w' (Qg q.tp ts::Qt p q::fr)):=by
 have hL:QS ts k n=some (k,e):=Y9.2 ⟨n,rfl,rfl,hk⟩;refine QQ Tryz.func108 rfl (by kernel_rfl) ?_;refine Y7 H ?_;clear H;intro b4 w H;refine AD H ?_;replace H:=Js [1,0] 0 H;refine V2 H ?_;refine Jc rfl rfl (F9 q.tp ts k n e hk H) ?_;clear H;rintro v w ⟨rfl,H⟩;refine Ve H ?_;clear H;intro b6 w H;refine J5 H ?_;clear H;intro w H;refine Y8 H ?_
 refine Qk (fun ms σ w=>ms=[]∧∃ b8,σ 4=pp b4∧σ 7 = .bool true∧σ 8=pp b8 ∧
   Q0 w (pts b4 (row 78 [.int .i64 0,.int .i64 0,.bool false,.bool false])::pts b8 (row 78 (Vl e))::Qg q.tp ts::Qt p q::fr)) ?_ ?_
 ·replace H:=Js [1,0] 0 H;refine J1 H ?_;clear H;intro w H;refine RJ H ?_;refine Jw 5 9 H rfl rfl (Qy (a:=[]) (b:=[]) rfl rfl (call (Ya q.tp ts k n H) ?_)) (VN H rfl ?_)
  ·clear H;rintro v w ⟨rfl,H⟩;rw[hL];refine RL H ?_;clear H;intro b8 w H;refine RM H ?_;clear H;intro w H;refine GM H ?_;replace H:=Js [3,0,0,1] 1 H;exact⟨rfl,rfl,b8,rfl,rfl,rfl,H⟩
  ·clear H;intro b8 w H;refine Jo 5 H ?_;refine Jk rfl rfl (Ya q.tp ts k n H.swap) ?_;clear H;rintro v w ⟨rfl,H⟩;rw[hL];refine RN H ?_;clear H;intro w H;refine GM H ?_;replace H:=Js [3,1,0,1] 1 H;exact⟨rfl,rfl,b8,rfl,rfl,rfl,H⟩
 ·clear H;rintro ms σ w ⟨rfl,b8,g4,g7,g8,H⟩;rw[Q1 g4,Q1 g7,Q1 g8];refine KN H ?_;clear H;intro w H;refine J0 H ?_;exact Q3 (Jz H (fun w' H' => .cellN H' rfl (by repeat first|exact .nil _|apply Q9.cons rfl) (.tmp .nil)) fun w' H'=>⟨rfl,H'.drop.drop⟩)
theorem IC [Q4] (p:Nat) (q:Gb) (ts:List QK) (k n:Nat) (e:Q8) (hk:ts[k]? = some ⟨n,some e⟩) {w:World} {fr:List Q2} (H:Q0 w (Qg q.tp ts::Qt p q::fr)) :
  Calls Tryz.prog 43 #[pp p,.int .i64 k] w (ret fun v w'=>v = .tuple #[UY k n,.agg (Vl e).toArray]∧Q0 w' (Qg q.tp ts::Qt p q::fr)):=by
 have hL:QS ts k n=some (k,e):=Y9.2 ⟨n,rfl,rfl,hk⟩;refine QQ Tryz.func43 rfl (by kernel_rfl) ?_;refine Y7 H ?_;clear H;intro b4 w H;refine VZ H ?_;clear H;intro b5 w H;refine J2 H ?_;replace H:=Js [2,0,0] 0 H;refine V2 H ?_;refine Jc rfl rfl (F9 q.tp ts k n e hk H) ?_;clear H;rintro v w ⟨rfl,H⟩;refine Ve H ?_;clear H;intro b6 w H;refine J5 H ?_;clear H;intro w H;refine Y8 H ?_
 refine Qk (fun ms σ w=>ms=[]∧∃ b8,σ 4=pp b4∧σ 5=pp b5∧σ 6=pp b6∧σ 8=pp b8 ∧
   Q0 w (pts b4 (row 62 [.int .i64 0,.int .i64 0])::pts b5 (row 78 [.int .i64 0,.int .i64 0,.bool false,.bool false])::pts b8 (row 78 (Vl e))::pts b6 (row 62 [.int .i64 k,.int .i64 n])::Qg q.tp ts::Qt p q::fr)) ?_ ?_
 ·replace H:=Js [1,0] 0 H;refine J1 H ?_;clear H;intro w H;refine RJ H ?_;refine Jw 5 9 H rfl rfl (Qy (a:=[]) (b:=[]) rfl rfl (call (Ya q.tp ts k n H) ?_)) (VN H rfl ?_)
  ·clear H;rintro v w ⟨rfl,H⟩;rw[hL];refine RL H ?_;clear H;intro b8 w H;refine RM H ?_;clear H;intro w H;refine GM H ?_;replace H:=Js [4,3,0,1,0,0] 0 H;exact⟨rfl,rfl,b8,rfl,rfl,rfl,rfl,H⟩
  ·clear H;intro b8 w H;refine Jo 5 H ?_;refine Jk rfl rfl (Ya q.tp ts k n H.swap) ?_;clear H;rintro v w ⟨rfl,H⟩;rw[hL];refine RN H ?_;clear H;intro w H;refine GM H ?_;replace H:=Js [4,3,1,1,0,0] 0 H;exact⟨rfl,rfl,b8,rfl,rfl,rfl,rfl,H⟩
 ·clear H;rintro ms σ w ⟨rfl,b8,g4,g5,g6,g8,H⟩;rw[Q1 g4,Q1 g5,Q1 g6,Q1 g8];refine J1 H ?_;clear H;intro w H;refine VB 0 [2,3] H rfl (Q7.none rfl) rfl (by repeat first|exact .nil _|apply Q9.cons rfl) (by kernel_rfl) ?_;refine VB 1 [3] H rfl (Q7.none rfl) rfl (by repeat first|exact .nil _|apply Q9.cons rfl) (by kernel_rfl) ?_;refine Jo 2 H ?_;refine Gy H ?_;clear H;intro w H;refine Jo 3 H ?_;refine Gy H ?_;clear H;intro w H;refine Jx H ?_;exact Q3 (Jz H (fun w' H' => .cellN H' rfl (by repeat first|exact .nil _|apply Q9.cons rfl) (.cellN H' rfl (by repeat first|exact .nil _|apply Q9.cons rfl) .nil)) fun w' H'=>⟨rfl,H'.drop.drop.drop.drop⟩)
theorem dV [Q4] {w:World} {b m E:Nat} {l l':List Int} {s:List Value} {fr:List Q2} (H:Q0 w (pts b (row E (Qe l++s))::fr)) (hl:l'.length=l.length) :
  Q0 (Go.Sort.putRow (Value.int .i64) (Go.Sort.ahead w m) b 0 l'.toArray) (pts b (row E (Qe l'++s))::fr):=by
 have hb:=H.pts;have e1:(Go.Sort.putRow (Value.int .i64) (Go.Sort.ahead w m) b 0 l'.toArray).heap=w.heap.modify b (Go.Sort.onCells (Go.Sort.putCells (Value.int .i64) 0 l'.toArray)):=rfl;refine H.set ?_ ?_
 ·rw[e1,Array.getElem?_modify,if_pos rfl,hb];simp only[Option.map_some,row,Go.Sort.onCells];congr 2;apply Array.ext';apply ext_getElem?;intro t;simp only[Go.Sort.putCells,Array.getElem?_toList,Array.getElem?_mapIdx,getElem?_toArray,Nat.zero_le,true_and,Nat.zero_add,Nat.sub_zero,size_toArray];have l1:(Qe l).length=l.length:=by simp[Qe]
  have l2:(Qe l').length=l.length:=by simp[Qe,hl]
  by_cases ht:t < l.length
  ·rw[getElem?_append_left (by omega),getElem?_append_left (by omega)];have ht':t < l'.length:=by omega
   simp only[Qe,getElem?_map,getElem?_eq_getElem ht,getElem?_eq_getElem ht',Option.map_some,if_pos ht'];rw[getElem!_pos _ t (by simpa using ht')];simp
  ·rw[getElem?_append_right (by omega),getElem?_append_right (by omega),l1,l2];have ht':¬ t < l'.length:=by omega
   cases s[t - l.length]? with
   | none=>rfl
   | some y=>simp;intro h;omega
 ·intro c hc;rw[e1,Array.getElem?_modify,if_neg (Ne.symm hc)]
theorem dY [Q4] (v:Value) (l:List Nat) (i:Nat) (hi:i < l.length) (hl:l.length≤1000000) {w:World} {fr:List Q2} (H:Q0 w (NL v l::fr)) :
  Calls Tryz.prog 195 #[v,.int .i64 i,.int .i64 ((i+1:Nat):Int)] w (ret fun v' w'=>Q0 w' (NL v' (l.eraseIdx i)::fr)):=by
 rcases GD H with ⟨rfl,h0,_⟩|⟨b,n,cap,s,rfl,e3,e4,e5,H2⟩
 ·have:(QA l).length=0:=by rw[h0];rfl
  rw[QH] at this;omega
 ·rw[QH] at e3;obtain rfl:n=l.length:=by omega
  have hb:=H2.pts;have hzl:(l.map fun x:Nat=>(x:Int)).length=l.length:=length_map _;rw[F1] at H2;have hic:(Qe (l.map fun x:Nat=>(x:Int))).length=l.length:=by simp[Qe]
  have hbig:=e4.2
  have hd:=Any.slices_Delete_int Tryz.laysDel b 0 cap i (i+1) (l.map fun x:Nat=>(x:Int)) w (fun j hj=>by
   have hj':j < l.length:=by simpa using hj
   refine⟨?_,W4 hb⟩;refine Zl H2.pts ?_;rw[Nat.zero_add,getElem?_append_left (by omega)];simp[Qe,hj']) (by omega) hbig (by omega) (by omega)
  rw[hzl] at hd;refine hd.mono ?_;rintro e w' ⟨rfl,q,rfl⟩;have h3:=dV (m:=q) (l':=(l.map fun x:Nat=>(x:Int)).take i++(l.map fun x:Nat=>(x:Int)).drop (i+1)++List.replicate (i+1 - i) 0) H2 (by simp;omega);rw[show i+1 - i=1 by omega] at h3 ⊢
  have e6:Qe ((l.map fun x:Nat=>(x:Int)).take i++(l.map fun x:Nat=>(x:Int)).drop (i+1)++List.replicate 1 0)++s=QA (l.eraseIdx i)++(.int .i64 0::s):=by
   rw[F1,eraseIdx_eq_take_drop_succ];simp[Qe]
  rw[e6] at h3;exact ZK (by rw[QH,length_eraseIdx,if_pos hi] <;> omega) (by omega) (by first|(simp;omega)|simp) h3
theorem dZ {l:List Nat} (hs:l.Pairwise (· < ·)) {x:Nat} (hx:x∈l):Z6 l x < l.length∧l.eraseIdx (Z6 l x)=l.filter (·≠x):=by
 induction l with
 | nil=>cases hx
 | cons a l ih=>
  rw[pairwise_cons] at hs;unfold Z6
  rcases mem_cons.1 hx with rfl|hx'
  ·have h0:(x::l).countP (· < x)=0:=by
    rw[countP_eq_zero];intro y hy
    rcases mem_cons.1 hy with rfl|hy
    ·simp
    ·have:=hs.1 y hy;simp;omega
   rw[h0];refine⟨by simp,?_⟩;rw[eraseIdx_cons_zero,filter_cons_of_neg (by simp)];exact(filter_eq_self.2 fun y hy=>by have:=hs.1 y hy;simp;omega).symm
  ·have hax:=hs.1 x hx';have h1:(a::l).countP (· < x)=Z6 l x+1:=by rw[countP_cons_of_pos (by simpa using hax)];rfl
   obtain⟨i1,i2⟩:=ih hs.2 hx';rw[h1];refine⟨by simp;omega,?_⟩;rw[eraseIdx_cons_succ,i2,filter_cons_of_pos (by simp;omega)]
theorem Nq [Q4] (p:Nat) (l:List Nat) (x:Nat) (hs:l.Pairwise (· < ·)) (hl:l.length≤100000) {w:World} {fr:List Q2} (H:Q0 w (Qu p l::fr)) :
  Calls Tryz.prog 110 #[pp p,.int .i64 x] w (ret fun v w'=>v = .bool (decide (x∈l))∧Q0 w' (Qu p (l.filter (·≠x))::fr)):=by
 obtain⟨a,c,H⟩:=Wb H;refine QQ Tryz.func110 rfl (by kernel_rfl) ?_;refine WL H ?_;obtain⟨D1,H,hD1,hC1⟩:=sls_rd H.swap (QH _) (by decide);refine Jc rfl rfl (Ak _ l (by omega) hs x (hD1 _) H) ?_;clear H;rintro v w ⟨rfl,H⟩;replace H:=hC1 _ _ H;refine G3 H ?_;refine J8 H ?_;refine Qk (fun ms σ w=>ms=[]∧σ 6 = .bool (decide (x∈l))∧Q0 w (Qu p (l.filter (·≠x))::fr)) ?_ ?_
 ·by_cases hx:x∈l
  ·obtain⟨h1,h2⟩:=dZ hs hx;rw[decide_eq_true hx];refine Vp rfl ?_;refine AG H ?_;refine WC H ?_;rw[Qc (by omega)];refine Jc rfl rfl (dY _ l (Z6 l x) h1 (by omega) H) ?_;clear H;intro v w H;obtain⟨a28,m28,c28,rfl⟩:=Qs H;rw[h2] at H;refine GL H ?_;clear H;intro w H;refine J2 H ?_;exact⟨rfl,rfl,rfl,Ke H.swap⟩
  ·rw[decide_eq_false hx];refine VM rfl (QD ?_);rw[show l.filter (·≠x)=l from filter_eq_self.2 fun y hy=>by simp;rintro rfl;exact hx hy];exact⟨rfl,rfl,rfl,Ke H.swap⟩
 ·clear H;rintro ms σ w ⟨rfl,g6,H⟩;rw[Q1 g6];refine J4 H ?_;exact Q3 (Jy H rfl fun w' H'=>⟨rfl,H'⟩)
theorem GQ.drop {ts:List QK} {x k n:Nat} {e:Q8} (h:GQ ts x) (hk:ts[k]? = some ⟨n,some e⟩) (hn:n < 255):GQ (ts.set k ⟨n,none⟩) (Ym x k false):=by
 have hkl:=(List.getElem?_eq_some_iff.1 hk).1;refine⟨by rw[length_set];exact h.bits.set hkl,fun i u hu=>?_,fun i u hu=>?_⟩
 ·rw[WS]
  rcases Qz hu with ⟨rfl,rfl,_⟩|⟨hne,hu⟩
  ·rw[if_pos rfl];show false=((none:Option Q8).isSome || n == 255);have:(n == 255)=false:=by rw[beq_eq_false_iff_ne];omega
   rw[this];rfl
  ·rw[if_neg hne];exact h.bit _ _ hu
 ·rcases Qz hu with ⟨rfl,rfl,_⟩|⟨_,hu⟩
  ·show n≤255;omega
  ·exact h.gen _ _ hu
theorem dG [Q4] (p:Nat) (ts:List QK) (k n:Nat) (e:Q8) (hk:ts[k]? = some ⟨n,some e⟩) (hn:n < 255) {w:World} {fr:List Q2} (H:Q0 w (Qg p ts::fr)) :
  Calls Tryz.prog 111 #[pp p,UY k n] w (ret fun v w'=>v = .int .i64 0∧Q0 w' (Qg p (ts.set k ⟨n,none⟩)::fr)):=by
 obtain⟨b,c,s,u,x,hok,hc,H,hclose⟩:=Rp H;have hL:QS ts k n=some (k,e):=Y9.2 ⟨n,rfl,rfl,hk⟩;have hlen:=Gu YD ts;have hkl:k < ts.length:=(List.getElem?_eq_some_iff.1 hk).1;refine QQ Tryz.func111 rfl (by kernel_rfl) ?_;refine J7 H ?_;clear H;intro b3 w H;refine KM H ?_;replace H:=Js [1,1,0,0] 0 H;refine Jc rfl rfl (F7 p b c u _ rfl ts s hok.bits.le k n H) ?_;clear H;rintro v w ⟨rfl,H⟩;rw[hL];refine G2 H ?_;refine J9 H ?_;refine XK H ?_;refine Jv ?_;refine RI H ?_;replace H:=Js [1,0,0,0] 0 H;refine Q5 rfl (Yh H rfl rfl inferInstance rfl (by rw[length_append,hlen];omega) rfl ?_);clear H;intro w H;refine Jv ?_;refine RI H ?_;refine Q5 rfl (Z0 (vs:=[.int .i64 0,.int .i64 0,.bool false,.bool false]) H rfl rfl inferInstance rfl rfl (by rw[length_set,length_append,hlen];omega) rfl ?_);clear H;intro w H;replace H:Q0 w (pts b (row 158 (wr (ts.flatMap VS++s) (k*6+1) [.bool false,.int .i64 0,.int .i64 0,.bool false,.bool false]))::_):=H;rw[DM (x':=⟨n,none⟩) YD hk (by simp) rfl] at H;refine J2 H ?_;have c0:((ts.set k ⟨n,none⟩).flatMap VS++s)[k*6+0]? = some (.int .i64 n):=UI YD (getElem?_set_self hkl) rfl;refine EW H ?_;refine Q5 rfl (QB H rfl c0 rfl ?_);refine J0 H ?_;rw[show ((n:Int) == 255)=false by rw[beq_eq_false_iff_ne];omega];refine Bz H ?_;clear H;intro w H;refine HF H ?_;replace H:=Js [3,0,0,0] 0 H;refine Jo 6 H ?_;refine Jk rfl rfl (Hh u ts.length x k false hok.bits hkl H) ?_;clear H;rintro v w ⟨rfl,H⟩;refine Bj H ?_;replace H:=Js [2,1,0] 1 H;refine Q3 (Jy H rfl fun w' H'=>⟨rfl,hclose _ _ (ts.set k ⟨n,none⟩) _ (by simp) (F8 hk ?_) (hok.drop hk hn) H'⟩);show ((none:Option Q8).isNone && n == 255)=((some e).isNone && n == 255);have:(n == 255)=false:=by rw[beq_eq_false_iff_ne];omega
 rw[this];rfl
end Go.Proofs.YtbnnnljagkjpiaaGreatDoor
