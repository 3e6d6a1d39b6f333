/- Cells: what is proved on the way: every input of the statement; no condition. Texts joined: ActB JnA ActC ActD ActE JnB ActF WhoA WhoB WhoC WhoE. -/
import Derived.Test.YtmjdnljneifpcaaGreatDoorBcp
import Derived.Test.YtmjdnljneifpcaaGreatDoorBcq
import Derived.Test.YtmjdnljneifpcaaGreatDoorBcl
import Derived.Test.YtmjdnljneifpcaaGreatDoorBce
import Derived.Test.YtmjdnljneifpcaaGreatDoorBco
import Derived.Test.YtmjdnljneifpcaaGreatDoorBcd
import Derived.Test.YtmjdnljneifpcaaGreatDoorBcm
import Derived.Test.YtmjdnljneifpcaaGreatDoorBck
set_option linter.unusedVariables false
set_option linter.unusedSimpArgs false
set_option linter.unusedSectionVars false
namespace Go.Proofs.YtmjdnljneifpcaaGreatDoor
open List
open Go.SL
structure Yf (s:CS) (m:MS) (told:List (Nat×Nat)) (n:Nat):Prop where
 R:Rel s m told
 I:Inv s
 T:Z0 s.par
 P:Y1 s
 G:∀ (k:Nat) (t:QX),s.tab[k]? = some t→t.gen≤told.length
 O:m.objs.length≤n
 Q:m.P.length≤n+1
theorem Yf.start (n size slots:Nat):Yf (Xe n size slots) GV [] 0:=by
 refine⟨OM n size slots,(eA n size slots).inv,⟨nodup_nil,fun r q h=>(by cases h)⟩,fun k g e h=>?_,fun k t h=>?_,Nat.le_refl _,Nat.le_refl _⟩
 ·have h:(List.replicate slots (⟨0,none⟩:QX))[k]? = some ⟨g,some e⟩:=h;rw[getElem?_replicate] at h;split at h <;> cases h
 ·have h:(List.replicate slots (⟨0,none⟩:QX))[k]? = some t:=h;rw[getElem?_replicate] at h;split at h
  ·injection h with h
   subst h;exact Nat.le_refl _
  ·cases h
theorem ia {ts us:List QX} (h:Vl us=Vl ts) {k:Nat} {u:QX} (hk:us[k]? = some u):∃ t,ts[k]? = some t∧t.gen=u.gen:=by
 have h1:(Vl us)[k]? = some (u.gen,u.ent.isSome):=by
  unfold Vl;rw[getElem?_map,hk];rfl
 rw[h] at h1;unfold Vl at h1;rw[getElem?_map] at h1;cases ht:ts[k]? with
 | none=>rw[ht] at h1;cases h1
 | some t=>
  rw[ht] at h1;injection h1 with h1
  injection h1 with h1 _
  exact⟨t,rfl,h1⟩
theorem Yf.step {s s':CS} {m m':MS} {told told':List (Nat×Nat)} {n:Nat} (J:Yf s m told n) (R':Rel s' m' told') (S:Ct s m told s' m' told'):Yf s' m' told' (n+1):=by
 have h1:=S.objs;have h2:=S.P;have h3:=J.O;have h4:=J.Q;refine⟨R',S.inv J.I,S.tree J.T,S.part J.P,fun k t hk=>?_,by omega,by omega⟩
 rcases S.tab with ⟨e1,e2⟩|⟨k0,g0,e1,e2,_,e4⟩
 ·obtain⟨t0,a,b⟩:=ia e2 hk;rw[e1,← b];exact J.G k t0 a
 ·have hlen:told'.length=told.length+1:=by rw[e1,length_append];rfl
  rw[hlen]
  have hs:(Vl s'.tab)[k]? = some (t.gen,t.ent.isSome):=by
   unfold Vl;rw[getElem?_map,hk];rfl
  rw[e4,getElem?_set] at hs;split at hs
  ·split at hs
   ·injection hs with hs
    injection hs with hs _
    have:=J.G k0 _ e2;dsimp only at this;omega
   ·cases hs
  ·unfold Vl at hs;rw[getElem?_map] at hs;cases ht:s.tab[k]? with
   | none=>rw[ht] at hs;cases hs
   | some t0=>
    rw[ht] at hs;injection hs with hs
    injection hs with hs _
    have:=J.G k t0 ht;have hs:t0.gen=t.gen:=hs;omega
theorem Yf.free {s s':CS} {m:MS} {told:List (Nat×Nat)} {n:Nat} (J:Yf s m told n) (hm:VY m) {id:Int} (hid:(QY s.par id).isSome=true) {L:List Int} (h1:L.Nodup) (h2:L.Pairwise (·≤·)) (h3:∀ c,c∈L↔Zf s.par id c) (hF:Fe s L s'):L=(G2 m.P id).map (fun k:Nat=>(k:Int))∧Yf s' (KY m (G2 m.P id)) told (n+1):=by
 have hL:=gn J.R J.T hid h1 h2 h3;refine⟨hL,?_⟩;obtain⟨G,D,hT⟩:=hF.t;have hT':=hT;rw[hL] at hT';have h4:=J.O;have h5:=J.Q;refine⟨PI J.R hm J.I hT',gl hT J.I,by rw[hT.par];exact gm J.T h3,hT.part J.P,fun k t hk=>?_,?_,?_⟩
 ·have hlt:k < s.tab.length:=by
   have:=(List.getElem?_eq_some_iff.1 hk).1;rw[hT.tabl] at this;exact this
  have ht:=getElem?_eq_getElem hlt;generalize s.tab[k]=t0 at ht;have:=hT.tab k t0 ht;rw[hk] at this;injection this with this
  have hg:=J.G k t0 ht;rw[this];split <;> exact hg
 ·show ((m.objs.map _).map _).length≤_;rw[length_map,length_map];omega
 ·show (Vw m.P _).length≤_;unfold Vw;rw[length_mapIdx];omega
theorem Pg {s s':CS} {mv:Nat→Q7→Q7} (h:Ul s s' mv) {n:Nat} (hg:∀ (k:Nat) (t:QX),s.tab[k]? = some t→t.gen≤n):∀ (k:Nat) (t:QX),s'.tab[k]? = some t→t.gen≤n:=by
 intro k t hk
 have hlt:k < s.tab.length:=by
  have:=(List.getElem?_eq_some_iff.1 hk).1;rw[h.tabl] at this;exact this
 have ht:=getElem?_eq_getElem hlt;generalize s.tab[k]=t0 at ht;have:=h.tab k t0 ht;rw[hk] at this;injection this with this
 rw[this];exact hg k t0 ht
theorem Yf.merge {s s':CS} {m:MS} {told:List (Nat×Nat)} {n:Nat} (J:Yf s m told n) {id q:Nat} (hid:QY s.par (id:Int)=some (q:Int)) (hq:q≠0) (hM:BY s id q s'):Yf s' (FS m id q) told (n+1):=by
 have h4:=J.O;have h5:=J.Q;obtain⟨u1,u2,u3⟩:=J.T.up _ _ hid;have hne:id≠q:=by omega
 refine⟨gS J.R (by omega) hne hM,fq hM (by omega) J.I,fp J.T hid (by omega) hM.par,hM.part J.P,Pg hM.mv J.G,?_,?_⟩
 ·show (m.objs.map _).length≤_;rw[length_map];omega
 ·show (ZU m.P id q).length≤_;unfold ZU;rw[length_mapIdx];omega
theorem Yf.split {s s':CS} (hw:WF s) {m:MS} {told:List (Nat×Nat)} {n:Nat} (J:Yf s m told n) {r:Nat} (hr:(QY s.par (r:Int)).isSome=true) {Z:List Pl} {os:List Nat} (h:BZ s r Z s') (hos:∀ (o k g:Nat) (x:QI),told[o]? = some (k,g)→m.objs[o]? = some x→x.gone=false→(o∈os↔k∈Z.map Pl.k)):Yf s' (Wp m r os) told (n+1):=by
 have h4:=J.O;have h5:=J.Q
 have hrl:((r:Nat):Int)≤s.last:=by
  cases hf:QY s.par (r:Int) with
  | none=>rw[hf] at hr;cases hr
  | some q=>exact(hw.par.2.2 _ _ ((Yl J.T.nd).1 hf)).2
 refine⟨ga hw J.R h hos,gB hw hrl h J.I,?_,h.part,Pg h.mv J.G,?_,?_⟩
 ·rw[h.par];exact OU J.T (.inr hr) (by omega) (fun x q hx=>(hw.par.2.2 x q hx).2) hrl
 ·show (m.objs.mapIdx _).length≤_;rw[length_mapIdx];omega
 ·show (m.P++[_]).length≤_;rw[length_append];show _+1≤_;omega
theorem ib {s:CS} {m:MS} {told:List (Nat×Nat)} (R:Rel s m told) {r:Nat} {ys:List ((Nat×Nat)×Int)} (hy:∀ y∈ys,W2 told y) (h0:ZX s.tab r [] (ys.map (·.1))=0) {Z:List Pl} (hZ:Z.map (fun z=>(z.k,z.g))=ys.map (·.1)) :
  (∀ o∈ys.map (fun y=>y.2.toNat),o < m.objs.length)∧ys.map (·.2)=(ys.map fun y=>y.2.toNat).map (fun o:Nat=>(o:Int))∧∀ (o k g:Nat) (x:QI),told[o]? = some (k,g)→m.objs[o]? = some x→x.gone=false→(o∈ys.map (fun y=>y.2.toNat)↔k∈Z.map Pl.k):=by
 obtain⟨c1,c2⟩:=Fa h0
 have hat:∀ y∈ys,∃ n:Nat,y.2=n∧told[n]? = some y.1:=by
  intro y hyy
  rcases hy y hyy with h|⟨h1,h2⟩
  ·exact h
  ·exfalso;obtain⟨⟨e,he,_⟩,_⟩:=c1 y.1 (mem_map.2 ⟨y,hyy,rfl⟩);obtain⟨o,ho⟩:=R.used _ _ _ he;rw[h2] at ho;cases ho
 refine⟨fun o ho=>?_,?_,fun o k g x ht hx hg=>⟨fun ho=>?_,fun hk=>?_⟩⟩
 ·obtain⟨y,hyy,rfl⟩:=mem_map.1 ho;obtain⟨n,h1,h2⟩:=hat y hyy;rw[h1,Int.toNat_natCast,← R.len];exact(List.getElem?_eq_some_iff.1 h2).1
 ·rw[map_map];refine map_congr_left fun y hyy=>?_;obtain⟨n,h1,_⟩:=hat y hyy;show y.2=((y.2.toNat:Nat):Int);rw[h1,Int.toNat_natCast]
 ·obtain⟨y,hyy,rfl⟩:=mem_map.1 ho;obtain⟨n,h1,h2⟩:=hat y hyy;rw[h1,Int.toNat_natCast,h2] at ht;injection ht with ht
  have:(k,g)∈Z.map (fun z=>(z.k,z.g)):=by rw[hZ];exact mem_map.2 ⟨y,hyy,ht⟩
  obtain⟨z,z1,z2⟩:=mem_map.1 this;injection z2 with z2 _
  exact mem_map.2 ⟨z,z1,z2⟩
 ·obtain⟨z,z1,z2⟩:=mem_map.1 hk;have:(z.k,z.g)∈ys.map (·.1):=by rw[← hZ];exact mem_map.2 ⟨z,z1,rfl⟩
  obtain⟨y,hyy,hy1⟩:=mem_map.1 this;obtain⟨⟨e,he,_⟩,_⟩:=c1 y.1 (mem_map.2 ⟨y,hyy,rfl⟩);obtain⟨n,h1,h2⟩:=hat y hyy;rw[hy1] at he h2;dsimp only at he;obtain⟨e',he',_⟩:=R.obj o x k g hx ht hg;rw[z2,he'] at he;injection he with he
  injection he with hgg _
  have hon:=FW R.nodup ht (by rw[h2,← z2,hgg]);refine mem_map.2 ⟨y,hyy,?_⟩;rw[h1,Int.toNat_natCast,hon]
theorem JT [Q4] (p:Nat) (s:CS) (region:Int) {w:World} {fr:List Q2} (H:Q0 w (QA p s::fr)) :
  Calls Tryz.prog 54 #[pp p,.int .i64 region] w (ret fun v w'=>v = .int .i64 (if (QY s.par region).isSome then 0 else 15)∧Q0 w' (QA p s::fr)):=by
 obtain⟨q,mem,hw,hm,H⟩:=Vv H;replace H:=Js [5,0,0,0,0,0] 0 H;refine call (Fb p q s.last s.par region H) ?_;clear H;rintro v w ⟨rfl,H⟩;replace H:=Js [1,1,1,1,1,0] 0 H;exact⟨rfl,VR hw hm H⟩
theorem ic [Q4] (p:Nat) (s:CS) (region:Int) (hf:QY s.par region=none) {w:World} {fr:List Q2} (H:Q0 w (QA p s::fr)) :
  Calls Tryz.prog 14 #[pp p,.int .i64 region] w (ret fun v w'=>v = .tuple #[.slice none 0 0,.int .i64 15]∧Q0 w' (QA p s::fr)):=by
 refine Q9 Tryz.func14 rfl (by kernel_rfl) ?_;refine Yw H ?_;clear H;intro b2 w H;refine J3 H ?_;replace H:=H.swap;refine GS H ?_;refine Jc rfl rfl (JT p s region H) ?_;clear H;rintro v w ⟨rfl,H⟩;rw[hf];refine Ai H ?_;exact Q3 (Jy H rfl fun w' H'=>⟨rfl,H'.swap.drop⟩)
theorem ie [Q4] (p:Nat) (s:CS) (region:Int) (hf:QY s.par region=none) {w:World} {fr:List Q2} (H:Q0 w (QA p s::fr)) :
  Calls Tryz.prog 27 #[pp p,.int .i64 region] w (ret fun v w'=>v = .tuple #[.int .i64 0,.int .i64 15]∧Q0 w' (QA p s::fr)):=by
 refine Q9 Tryz.func27 rfl (by kernel_rfl) ?_;refine Yw H ?_;clear H;intro b2 w H;refine J3 H ?_;replace H:=H.swap;refine GS H ?_;refine Jc rfl rfl (JT p s region H) ?_;clear H;rintro v w ⟨rfl,H⟩;rw[hf];refine Ai H ?_;exact Q3 (Jy H rfl fun w' H'=>⟨rfl,H'.swap.drop⟩)
theorem ig [Q4] (p:Nat) (s:CS) (region:Int) (l:Value) (hf:QY s.par region=none) {w:World} {fr:List Q2} (H:Q0 w (QA p s::fr)) :
  Calls Tryz.prog 20 #[pp p,.int .i64 region,l] w (ret fun v w'=>v = .tuple #[.int .i64 0,.int .i64 15]∧Q0 w' (QA p s::fr)):=by
 refine Q9 Tryz.func20 rfl (by kernel_rfl) ?_;refine XL H ?_;refine Jc rfl rfl (JT p s region H) ?_;clear H;rintro v w ⟨rfl,H⟩;rw[hf];refine Ai H ?_;exact Q3 (Jy H rfl fun w' H'=>⟨rfl,H'⟩)
theorem ii [Q4] (p:Nat) (m:MS) (r:Int) (hl:Y0 m.P r=false) {w:World} {fr:List Q2} (H:Q0 w (Qs p m::fr)) :
  Calls Tryz.prog 102 #[pp p,.int .i64 r] w (ret fun v w'=>v = .tuple #[.int .i64 0,.int .i64 15]∧Q0 w' (Qs p m::fr)):=by
 obtain⟨t,lc,oc,aL,cL,aO,cO,h1,h2,h3,h4,h5,H⟩:=ZT H;refine Q9 Tryz.func102 rfl (by kernel_rfl) ?_;refine CV H ?_;replace H:=H.swap;refine Jc rfl rfl (Wg t m.P r H) ?_;clear H;rintro v w ⟨rfl,H⟩;rw[hl];refine CY H ?_;exact Q3 (Jy (Yq h1 h2 h3 H.swap) rfl fun w' H'=>⟨rfl,H'⟩)
@[reducible] def BR (K k A B C:Int) (X:Nat) (vW:Value) (raw:Bool) (i g rg:Int) (vL:Value):List Value:=[.int .i64 K,.int .i64 k,.int .i64 A,.int .i64 B,.int .i64 C,.int .u64 X,vW,.bool raw,.int .i64 i,.int .i64 g,.int .i64 rg,vL]
theorem ij [Q4] (p:Nat) (s:CS) (m:MS) (told:List (Nat×Nat)) (n:Nat) (J:Yf s m told n) (hn:n≤60) (K k A B C i g:Int) (hK3:K≠3) (X:Nat) (hX:X < 18446744073709551616) (vW:Value) (ws:List Nat) (hws:∀ x∈ws,x < 18446744073709551616) (raw:Bool) (rg:Int) (vL:Value) (L:List Int) (hL:L.length≤80)
  {w:World} {fr:List Q2} [hT:YX 0 Lib.deBruijn64tab fr] (hrW:Vu fr vW ws.length 1 (Qa ws)) (hrL:Vu fr vL L.length 1 (Qg L)) (H:Q0 w (GU p s m told::fr)) :
  Calls Tryz.prog 36 #[.agg (BR K k A B C X vW raw i g rg vL).toArray,pp p] w (ret fun v w'=>v = .bool true∧∃ s' m' told',Yf s' m' told' (n+1)∧Q0 w' (GU p s' m' told'::fr)):=by
 obtain⟨_,adW,capW,rfl,_⟩:=id hrW;obtain⟨_,adL,capL,rfl,_⟩:=id hrL;have hO:=J.O;have hQ:=J.Q;have hlen:=J.R.len;have hOl:=JJ J.R J.T;have Jn:Yf s m told (n+1):=⟨J.R,J.I,J.T,J.P,J.G,by omega,by omega⟩
 have hgen:∀ (k g:Nat) (e:Q7),s.tab[k]? = some ⟨g,some e⟩→g < 255:=fun k g e hk=>by
  have:=J.G k _ hk;dsimp only at this;omega
 refine Q9 Tryz.func36 rfl (by kernel_rfl) ?_;refine J8 H ?_;clear H;intro b2 w H;refine WK H ?_;refine J2 H ?_;refine KT H ?_;by_cases hK0:K=0
 ·subst hK0;refine VM H ?_;refine YY H ?_;refine Ea H ?_;refine Jc rfl rfl (eX p s m told J.R (by omega) (by omega) k A B C i g X hX _ ws hws raw hrW.there H.swap) ?_;clear H;rintro v w ⟨rfl,s',m',told',R',S',H⟩;refine J0 H ?_;exact Q3 (Jy H.swap.drop rfl fun w' H'=>⟨rfl,s',m',told',J.step R' S',H'⟩)
 rw[show (K == 0)=false by simpa using hK0];refine Zk H ?_;obtain⟨c,mo,a,cap,H⟩:=Co H.swap;obtain⟨_,_,hw,_,_⟩:=Vv H.swap;obtain⟨_,_,_,_,_,_,_,hmw,_⟩:=ZT (H.sel [2,0,0,0] 0);by_cases hK1:K=1
 ·subst hK1;refine VM H ?_;replace H:=Js [1,3,0,0,0] 0 H;refine J1 H ?_;clear H;intro w H;refine He H ?_;cases hf:QY s.par rg with
  | none=>
   have hlv:Y0 m.P rg=false:=by rw[← Wl J.R,hf];rfl
   refine Jo 6 H ?_;refine Jk rfl rfl (ic c s rg hf H) ?_;clear H;rintro v w ⟨rfl,H⟩;refine UJ H ?_;replace H:=Js [3,0,0,0,0] 0 H;refine J1 H ?_;clear H;intro w H;refine Xx H ?_;refine Jk rfl rfl (PT mo m rg hOl H) ?_;clear H;rintro v w (⟨_,rfl,H⟩|⟨hl,_⟩)
   case inr=>rw[hlv] at hl;cases hl
   refine Eb H ?_;refine Zr H ?_;replace H:=Z2 (E:=3) (k:=1) (Z2 (E:=3) (k:=1) H);refine QT rfl rfl rfl (V1 (a:=[]) (b:=[]) rfl rfl (call (IR (.slice none 0 0) (.slice none 0 0) [] [] (by simp) H) ?_));clear H;rintro v w ⟨rfl,H⟩;replace H:=H.drop.drop;refine J3 H ?_;replace H:=Js [2,2,1,0,0] 0 H;exact Q3 (Jy (YK H.drop) rfl fun w' H'=>⟨rfl,s,m,told,Jn,H'⟩)
  | some q=>
   have hid:(QY s.par rg).isSome=true:=by rw[hf];rfl
   have hlv:Y0 m.P rg=true:=by rw[← Wl J.R,hid]
   have hpl:=hw.par.1;refine Jo 6 H ?_;refine Jk rfl rfl (PE c s rg J.T hid J.I hgen H) ?_;clear H;rintro v w ⟨u,L',s',rfl,hL1,hL2,hL3,hL4,hFS,H⟩;obtain⟨hLe,J'⟩:=J.free hmw hid hL1 hL2 hL3 hFS;obtain⟨au,mu,cu,rfl⟩:=Qw H;refine UJ H ?_;replace H:=Js [4,0,0,0,0] 0 H;refine J1 H ?_;clear H;intro w H;refine Xx H ?_;refine Jk rfl rfl (PT mo m rg hOl H) ?_;clear H;rintro v w (⟨hl,_⟩|⟨_,vl,rfl,H⟩)
   ·rw[hlv] at hl;cases hl
   rw[D5,← hLe] at H;obtain⟨av,mv,cv,rfl⟩:=Qw H;refine UJ H ?_;replace H:=Js [2,0,0] 0 H;refine Xu H ?_;refine Zr H ?_;refine QT rfl rfl rfl (V1 (a:=[]) (b:=[]) rfl rfl (call (IR _ _ L' L' (by omega) H) ?_));clear H;rintro v w ⟨rfl,H⟩;rw[decide_eq_true rfl];replace H:=H.drop.drop;refine J3 H ?_;replace H:=Js [2,2,1,0,0] 0 H;exact Q3 (Jy (YK H.drop) rfl fun w' H'=>⟨rfl,s',_,told,J',H'⟩)
 rw[show (K == 1)=false by simpa using hK1];refine Zk H ?_;by_cases hK2:K=2
 ·subst hK2;refine VM H ?_;replace H:=Js [1,3,0,0,0] 0 H;refine J1 H ?_;clear H;intro w H;refine He H ?_;cases hf:QY s.par rg with
  | none=>
   have hlv:Y0 m.P rg=false:=by rw[← Wl J.R,hf];rfl
   refine Jo 6 H ?_;refine Jk rfl rfl (ie c s rg hf H) ?_;clear H;rintro v w ⟨rfl,H⟩;refine UJ H ?_;replace H:=Js [3,0,0,0,0] 0 H;refine J1 H ?_;clear H;intro w H;refine Xx H ?_;refine Jk rfl rfl (ii mo m rg hlv H) ?_;clear H;rintro v w ⟨rfl,H⟩;refine Eb H ?_;refine XD H ?_;refine J3 H ?_;replace H:=Js [2,2,1,0,0] 0 H;exact Q3 (Jy (YK H.drop) rfl fun w' H'=>⟨rfl,s,m,told,Jn,H'⟩)
  | some q=>
   obtain⟨id,rfl,hid1,hPid,hq0⟩:=(J.R.tree _ _).1 ((Yl J.R.nd).1 hf);obtain⟨qn,rfl⟩:∃ qn:Nat,q=qn:=⟨q.toNat,by omega⟩;refine Jo 6 H ?_;refine Jk rfl rfl (iH c s (id:Int) (qn:Int) hf J.T H) ?_;clear H;rintro v w (⟨hz,rfl,H⟩|⟨hz,rfl,s',hM,H⟩)
   ·refine UJ H ?_;replace H:=Js [3,0,0,0,0] 0 H;refine J1 H ?_;clear H;intro w H;refine Xx H ?_;refine Jk rfl rfl (PM mo m id (qn:Int) hid1 hPid hq0 H) ?_;clear H;rintro v w (⟨_,rfl,H⟩|⟨hz',_⟩)
    case inr=>exact absurd hz hz'
    refine Eb H ?_;refine XD H ?_;refine J3 H ?_;replace H:=Js [2,2,1,0,0] 0 H;exact Q3 (Jy (YK H.drop) rfl fun w' H'=>⟨rfl,s,m,told,Jn,H'⟩)
   ·have J':=J.merge hf (by omega) hM;refine UJ H ?_;replace H:=Js [3,0,0,0,0] 0 H;refine J1 H ?_;clear H;intro w H;refine Xx H ?_;refine Jk rfl rfl (PM mo m id (qn:Int) hid1 hPid hq0 H) ?_;clear H;rintro v w (⟨hz',_⟩|⟨_,rfl,H⟩)
    ·exact absurd hz' hz
    rw[Int.toNat_natCast] at H;refine UJ H ?_;refine Vq H ?_;rw[Gm ((qn:Nat):Int)];refine WJ H ?_;refine J3 H ?_;replace H:=Js [2,2,1,0,0] 0 H;exact Q3 (Jy (YK H.drop) rfl fun w' H'=>⟨rfl,s',_,told,J',H'⟩)
 rw[show (K == 2)=false by simpa using hK2];refine Zk H ?_;rw[show (K == 3)=false by simpa using hK3];refine Kb H ?_;replace H:=Js [4,0,0,0,0] 0 H;exact Q3 (Jy (YK H.drop) rfl fun w' H'=>⟨rfl,s,m,told,Jn,H'⟩)
theorem ik {s:CS} {r:Int} {l:List (Nat×Nat)} (h:Zg s r l=0):l.length≤64∧ZX s.tab r [] l=0:=by
 unfold Zg at h;split at h
 ·cases h
 ·rename_i h1;split at h
  ·rename_i h2;exact absurd h h2
  ·rename_i h2;exact⟨by omega,Classical.not_not.1 h2⟩
theorem il {m:MS} {r:Int} {os:List Int} (h:Gs m r os=0):ZV m.P r=0:=by
 unfold Gs at h;split at h
 ·cases h
 ·rename_i h1;split at h
  ·cases h
  ·split at h
   ·rename_i h2;exact absurd h h2
   ·split at h
    ·cases h
    ·rename_i h3;unfold ZV;rw[if_neg (fun h4=>h1 h4.2),if_neg h3]
theorem im [Q4] (p:Nat) (m:MS) (r:Nat) (os:List Nat) (al:Option Addr) (cl:Nat) (hd:ZV m.P (r:Int)=0) (hPl:m.P.length < 100000) (hos:∀ o∈os,o < m.objs.length) (hl:os.length≤64) (OL:List Int) (hOL:OL=os.map fun o:Nat=>(o:Int)) {w:World} {fr:List Q2} (H:Q0 w (Qs p m::IL (.slice al OL.length cl) OL::fr)) :
  Calls Tryz.prog 104 #[pp p,.int .i64 r,.slice al OL.length cl] w (ret fun v w'=>v = .int .i64 m.P.length∧Q0 w' (Qs p (Wp m r os)::IL (.slice al OL.length cl) OL::fr)):=by
 have e:OL.length=os.length:=by rw[hOL,length_map]
 have h:=i6 p m r os al cl hd hPl hos hl (w:=w) (fr:=fr) (by rw[D5,← hOL,← e];exact H);rw[D5,← hOL,← e] at h;exact h
theorem io [Q4] (p:Nat) (s:CS) (m:MS) (told:List (Nat×Nat)) (n:Nat) (J:Yf s m told n) (hn:n≤60) (k A B C i g:Int) (X:Nat) (hX:X < 18446744073709551616) (vW:Value) (ws:List Nat) (hws:∀ x∈ws,x < 18446744073709551616) (raw:Bool) (rg:Int) (vL:Value) (L:List Int) (hL:L.length≤80)
  {w:World} {fr:List Q2} [hT:YX 0 Lib.deBruijn64tab fr] (hrW:Vu fr vW ws.length 1 (Qa ws)) (hrL:Vu fr vL L.length 1 (Qg L)) (H:Q0 w (GU p s m told::fr)) :
  Calls Tryz.prog 36 #[.agg (BR 3 k A B C X vW raw i g rg vL).toArray,pp p] w (ret fun v w'=>v = .bool true∧∃ s' m' told',Yf s' m' told' (n+1)∧Q0 w' (GU p s' m' told'::fr)):=by
 obtain⟨_,adW,capW,rfl,_⟩:=id hrW;obtain⟨_,adL,capL,rfl,_⟩:=id hrL;have hO:=J.O;have hQ:=J.Q;have hlen:=J.R.len;have hOl:=JJ J.R J.T;have Jn:Yf s m told (n+1):=⟨J.R,J.I,J.T,J.P,J.G,by omega,by omega⟩
 have hgen:∀ (k g:Nat) (e:Q7),s.tab[k]? = some ⟨g,some e⟩→g < 255:=fun k g e hk=>by
  have:=J.G k _ hk;dsimp only at this;omega
 refine Q9 Tryz.func36 rfl (by kernel_rfl) ?_;refine J8 H ?_;clear H;intro b2 w H;refine WK H ?_;refine J2 H ?_;refine KT H ?_;refine Zk H ?_;obtain⟨c,mo,a,cap,H⟩:=Co H.swap;obtain⟨_,_,hw,_,_⟩:=Vv H.swap;obtain⟨_,_,_,_,_,_,_,hmw,_⟩:=ZT (H.sel [2,0,0,0] 0);refine Zk H ?_;refine Zk H ?_;refine VM H ?_;replace H:=Js [0,2,0,0,0] 0 H;refine EP H ?_;refine Jc rfl rfl (iK p c mo a cap told (by omega) _ L (by omega) hrL.there.there.there H) ?_;clear H;rintro v w ⟨ys,vt,vo,rfl,hys,hch,H⟩;generalize hTL:ys.map (·.1)=TL at H;generalize hOL:ys.map (·.2)=OL at H;obtain⟨at',ct,rfl⟩:=QF (m:=TL.length) H (Rv _) (by decide);obtain⟨ao,co,rfl⟩:=QF (m:=OL.length) H.drop (Vn _) (by decide);have hl1:TL.length=ys.length:=by rw[← hTL,length_map]
 have hl2:OL.length=ys.length:=by rw[← hOL,length_map]
 refine Zs H ?_;replace H:=Js [4,0,0,0,0] 0 H;refine J1 H ?_;clear H;intro w H;refine Ja 0 ?_;refine Ja 1 ?_;refine Jf 2 ?_;refine Jl 3 [7] H ?_;refine Jf 4 ?_;refine Jl 5 [7] H ?_;refine Ja 6 ?_;cases hf:QY s.par rg with
 | none=>
  have hlv:Y0 m.P rg=false:=by rw[← Wl J.R,hf];rfl
  have hW:Gs m rg OL=15:=by unfold Gs;rw[if_pos hlv]
  refine Jo 7 H ?_;refine Jk rfl rfl (ig c s rg (.slice at' TL.length ct) hf H) ?_;clear H;rintro v w ⟨rfl,H⟩;refine Aj H ?_;replace H:=Js [5,2,0,0,0,0] 0 H;refine J1 H ?_;clear H;intro w H;refine Ef H ?_;refine Jk rfl rfl (Fi mo m rg OL ao co (by omega) H) ?_;clear H;rintro v w ⟨rfl,H⟩;rw[hW];refine XM H ?_;refine Xw H ?_;refine XJ H ?_;refine Xu H ?_;refine Zr H ?_;refine J3 H ?_;replace H:=Js [6,3,1,2,1,0,0] 0 H;exact Q3 (Jy (YK H.drop.drop.drop) rfl fun w' H'=>⟨rfl,s,m,told,Jn,H'⟩)
 | some q=>
  obtain⟨r,rfl,hr1,hPr,hq0⟩:=(J.R.tree _ _).1 ((Yl J.R.nd).1 hf);have hid:(QY s.par (r:Int)).isSome=true:=by rw[hf];rfl
  have hlast:=J.R.last;have hck:=gc J.R hw hid hch;rw[hTL,hOL] at hck;refine Jo 7 H ?_;refine Jk rfl rfl (iT c s r hid J.T J.P (by omega) (.slice at' TL.length ct) TL (by omega) H) ?_;clear H;rintro v w (⟨hc,rfl,H⟩|⟨hc,rfl,hroom,H⟩|⟨hc,rfl,Z,s',hZ,hS,H⟩)
  ·refine Aj H ?_;replace H:=Js [5,2,0,0,0,0] 0 H;refine J1 H ?_;clear H;intro w H;refine Ef H ?_;refine Jk rfl rfl (Fi mo m r OL ao co (by omega) H) ?_;clear H;rintro v w ⟨rfl,H⟩;rw[← hck];refine XM H ?_;generalize Zg s r TL=E at hc hck;refine GL H ?_;refine VX H ?_;rw[show (((E:Nat):Int) != 0)=true by rw[bne_iff_ne];omega];refine ET H ?_;rw[Gm ((E:Nat):Int)];refine Uu H ?_;refine J3 H ?_;replace H:=Js [6,3,1,2,1,0,0] 0 H;exact Q3 (Jy (YK H.drop.drop.drop) rfl fun w' H'=>⟨rfl,s,m,told,Jn,H'⟩)
  ·refine Aj H ?_;replace H:=Js [5,2,0,0,0,0] 0 H;refine J1 H ?_;clear H;intro w H;refine Ef H ?_;refine Jk rfl rfl (Fi mo m r OL ao co (by omega) H) ?_;clear H;rintro v w ⟨rfl,H⟩;rw[← hck,hc];refine XM H ?_;refine Xw H ?_;refine CX H ?_;refine XJ H ?_;replace H:=Js [2,0,0] 0 H;obtain⟨u,mem,hw2,hm2,H⟩:=Vv H;refine WE H ?_;refine UM H ?_;refine KD H ?_;replace H:=Js [3,0,0,0] 0 H;refine QT rfl rfl rfl (V1 (a:=[]) (b:=[]) rfl rfl (call (Mp u.sp s.size mem s.own H) ?_));clear H;rintro v w ⟨rfl,H⟩;replace H:=Js [1,1,1,0] 0 H;replace H:=VR hw2 hm2 H;refine Ym H ?_;refine QT rfl rfl rfl (ZO rfl rfl ?_);refine Ym H ?_;have hTO:TL.length=OL.length:=by omega
   rw[show decide (((s.own.length - (s.own.filter (· != 0)).length:Nat):Int) < ((OL.length:Nat):Int))=true from decide_eq_true (by omega)];refine J3 H ?_;replace H:=Js [6,3,2,2,0,0,0] 0 H;exact Q3 (Jy (YK H.drop.drop.drop) rfl fun w' H'=>⟨rfl,s,m,told,Jn,H'⟩)
  ·refine Aj H ?_;replace H:=Js [5,2,0,0,0,0] 0 H;refine J1 H ?_;clear H;intro w H;refine Ef H ?_;refine Jk rfl rfl (Fi mo m r OL ao co (by omega) H) ?_;clear H;rintro v w ⟨rfl,H⟩;rw[← hck,hc];refine XM H ?_;refine Xw H ?_;refine CX H ?_;refine Y7 H ?_;refine J1 H ?_;clear H;intro w H;refine Ec H ?_;refine EQ H ?_;refine Jl 7 [11] H ?_;refine Jf 8 ?_;refine Jl 9 [11] H ?_;refine Ja 10 ?_;have hm0:Gs m r OL=0:=by rw[← hck];exact hc
   obtain⟨hlT,hc0⟩:=ik hc;rw[← hTL] at hc0 hZ;obtain⟨ho1,ho2,ho3⟩:=ib J.R hch hc0 hZ;have J':=J.split hw hid hS ho3;have hol:(ys.map fun y=>y.2.toNat).length=ys.length:=length_map _;have hOLe:OL=(ys.map fun y=>y.2.toNat).map fun o:Nat=>(o:Int):=by rw[← hOL];exact ho2
   generalize (ys.map fun y=>y.2.toNat)=os at ho1 hOLe J' hol;refine Jo 11 H ?_;refine Jk rfl rfl (im mo m r os ao co (il hm0) (by omega) ho1 (by omega) OL hOLe H) ?_;clear H;rintro v w ⟨rfl,H⟩;refine Ja 12 ?_;rw[hlast,Gm ((m.P.length:Nat):Int)];refine Kf H ?_;replace H:=Js [6,3,1,2,1,0,0] 0 H;exact Q3 (Jy (YK H.drop.drop.drop) rfl fun w' H'=>⟨rfl,s',_,told,J',H'⟩)
structure YM where
 K:Int
 a:Ac
 rg:Int
 vL:Value
 L:List Int
def Zn (x:YM):List Value:=BR x.K x.a.k x.a.A x.a.B x.a.C x.a.X x.a.vW x.a.raw x.a.i x.a.g x.rg x.vL
def KZ (l:List YM):List Value:=l.flatMap Zn
def Wu (fr:List Q2) (x:YM):Prop:=FH fr x.a∧Vu fr x.vL x.L.length 1 (Qg x.L)
theorem Wu.there {A:Q2} {fr:List Q2} {x:YM} (h:Wu fr x):Wu (A::fr) x:=⟨⟨h.1.1,h.1.2.1,h.1.2.2.there⟩,h.2.there⟩
theorem iq (l:List YM):(KZ l).length=l.length*12:=by
 induction l with
 | nil=>rfl
 | cons p L ih=>simp only[KZ,Zn,flatMap_cons,length_append,length_cons,length_nil] at ih ⊢;omega
theorem ir {L:List YM} {i:Nat} {x:YM} (h:L[i]? = some x):∀ j v,(Zn x)[j]? = some v→(KZ L)[i*12+j]? = some v:=by
 induction L generalizing i with
 | nil=>simp at h
 | cons y L ih=>
  intro j v hj;have hj9:j < 12:=(List.getElem?_eq_some_iff.1 hj).1;cases i with
  | zero=>
   simp at h;subst h;show (Zn y++L.flatMap Zn)[0*12+j]? = _;rw[Nat.zero_mul,Nat.zero_add,getElem?_append_left hj9];exact hj
  | succ i=>
   have:=ih (i:=i) (by simpa using h) j v hj;show (Zn y++L.flatMap Zn)[(i+1)*12+j]? = _;rw[getElem?_append_right (by show 12≤_;omega)];show (L.flatMap Zn)[(i+1)*12+j - 12]? = _;rw[show (i+1)*12+j - 12=i*12+j by omega];exact this
theorem Ph {c:List Value} {o n:Nat} {L:List YM} (h:QV c o n (KZ L)) {i:Nat} {x:YM} (hp:L[i]? = some x):QV c (o+i*12) 12 (Zn x):=
 h.part (es:=Zn x) fun j v hj=>ir hp j v hj
theorem iu {i:Nat} (h:i < 9223372036854775807):Value.int .i64 (IntKind.i64.wrap ((i:Int)+1)) = .int .i64 ((i+1:Nat):Int):=by
 rw[Qb (by omega) (by omega)];rfl
theorem sls_rd [Q4] {w:World} {l:List Q2} {E k m cap:Nat} {a:Option Addr} {c:List Value} (hc:c.length=m*k) (H:Q0 w (QC E k (.slice a m cap) c::l)):∃ A:Q2,Q0 w (A::l)∧Vu (A::l) (.slice a m cap) m k c:=by
 by_cases hm:m=0
 ·exact⟨prop True,Q0.prop.2 ⟨trivial,H.drop⟩,hc,a,cap,rfl,.inl hm⟩
 ·obtain⟨b,s,rfl,H,_⟩:=V5 H (by omega);refine⟨_,H,hc,_,cap,rfl,.inr ⟨b,0,E,(0,0),c++s,rfl,inferInstance,?_⟩⟩;rw[← hc];refine QV.of_get fun j v hj=>?_;rw[Nat.zero_add,getElem?_append_left (List.getElem?_eq_some_iff.1 hj).1];exact hj
theorem iv [Q4] (v:Value) (l:List Ac) (hl:l.length≤9223372036854775807) {w:World} {fr:List Q2} (hr:Vu fr v l.length 9 (K9 l)) (hok:∀ x∈l,FH fr x) (H:Q0 w fr) :
  Calls Tryz.prog 34 #[v] w (ret fun r w'=>∃ b:Bool,r = .int .i64 (if b then 1 else 0)∧(b=false→l.length≤60)∧Q0 w' fr):=by
 refine Q9 Tryz.func34 rfl (by kernel_rfl) ?_;refine VB H ?_;obtain⟨_,ad,cap,rfl,_⟩:=id hr;refine YY H ?_;refine Jc rfl rfl (eW _ l hl hr hok H) ?_;clear H;rintro r w ⟨b,rfl,hb,H⟩;refine J2 H ?_;cases b with
 | true=>
  refine YD H ?_;exact Q3 (Jy H rfl fun w' H'=>⟨true,rfl,fun h=>(by cases h),H'⟩)
 | false=>
  refine Kb H ?_;exact Q3 (Jy H rfl fun w' H'=>⟨false,rfl,hb,H'⟩)
theorem iw [Q4] (v:Value) (l:List YM) (hl:l.length*128≤140737488351232) {w:World} {fr:List Q2} (hr:Vu fr v l.length 12 (KZ l)) (hok:∀ x∈l,Wu fr x) (H:Q0 w fr) :
  Calls Tryz.prog 9 #[v] w (ret fun r w'=>∃ b,r = .bool b∧(b=false→l.length≤60∧∀ x∈l,x.L.length≤80)∧Q0 w' fr):=by
 obtain⟨h0,ad,cap,rfl,hrd⟩:=hr;refine Q9 Tryz.func9 rfl (by kernel_rfl) ?_;refine VB H ?_;refine A9 H ?_;refine Ql (fun ms σ w n=>ms=[]∧∃ (i:Nat) (vi:Value),i≤l.length∧n=l.length - i∧(∀ x∈l.take i,x.L.length≤80)∧σ 3=vi∧σ 6 = .slice ad l.length cap∧σ 7 = .int .i64 l.length∧σ 8 = .int .i64 i∧Q0 w (QC 93 9 vi (K9 ((l.take i).map YM.a))::fr)) (m:=l.length) ⟨rfl,0,_,by omega,rfl,fun x hx=>(by simp at hx),rfl,rfl,rfl,rfl,Z2 H⟩ ?_;clear H;rintro ms σ w n ⟨rfl,i,vi,hi,rfl,hsm,g3,g6,g7,g8,H⟩;obtain⟨ai,mi,ci,rfl⟩:=Qw H;rw[Q1 g3,Q1 g6,Q1 g7,Q1 g8];refine J7 H ?_;refine Qk rfl (fun h=>QB ?_) (fun h=>Qq ?_)
 ·have hlt:i < l.length:=by omega
  have hy:=getElem?_eq_getElem hlt;have htk:l.take (i+1)=l.take i++[l[i]]:=by rw[take_add_one,hy];rfl
  generalize l[i]=y at hy htk;have hym:=hok y (mem_of_getElem? hy)
  rcases hrd with hz|⟨b,o,E,fz,c,rfl,hA,hrd⟩
  ·omega
  haveI:=hA;obtain⟨K,⟨k,A,B,C,X,vW,ws,raw,i1,gg1⟩,rg,vL,L⟩:=y;obtain⟨⟨_,_,_,adW,capW,hvW,_⟩,_,adL,capL,hvL,_⟩:=hym;replace hvW:vW = .slice adW ws.length capW:=hvW;replace hvL:vL = .slice adL L.length capL:=hvL;subst hvW hvL;refine YW H ?_;refine Jd ?_;refine Q5 rfl (VN H rfl (Ph hrd hy) rfl ?_);refine VZ H ?_;clear H;intro b5 w H;refine J4 H ?_;clear H;intro w H;refine J2 H ?_;replace H:Q0 w (pts b5 (row 95 (BR K k A B C X (.slice adW ws.length capW) raw i1 gg1 rg (.slice adL L.length capL)))::_):=H;refine AB H ?_;refine UN H ?_;by_cases h80:(L.length:Int) > 80
  ·rw[show decide ((L.length:Int) > 80)=true from decide_eq_true (by omega)];refine YD H ?_;exact Q3 (Jy H.drop.drop rfl fun w' H'=>⟨true,rfl,fun h=>(by cases h),H'⟩)
  ·rw[show decide ((L.length:Int) > 80)=false from decide_eq_false (by omega)];refine AR H ?_;refine Ea H ?_;refine GN H ?_;clear H;intro b19 w H;replace H:=Js [2,0,0] 0 H
   refine Q5 rfl (TJ H rfl rfl (by repeat first|exact .nil _|apply QV.cons rfl) rfl (by decide) (fun n hn=>by
    rw[Iu,length_map,length_take] at hn;omega) rfl rfl ?_);clear H;intro v20 w H
   obtain⟨a20,m20,c20,rfl⟩:=Qw H;refine J0 H ?_;replace H:=Js [1,1,0] 0 H;replace H:=H.drop.drop
   have e1:K9 ((l.take i).map YM.a)++[.int .i64 k,.int .i64 A,.int .i64 B,.int .i64 C,.int .u64 X,.slice adW ws.length capW,.bool raw,.int .i64 i1,.int .i64 gg1]=K9 ((l.take (i+1)).map YM.a):=by
    rw[htk,map_append];unfold K9;rw[flatMap_append];rfl
   rw[e1] at H;refine J5 H ?_;refine⟨_,⟨rfl,i+1,_,hlt,rfl,fun x hx=>?_,rfl,rfl,rfl,iu (by omega),H⟩,by omega⟩;rw[htk] at hx
   rcases mem_append.1 hx with hx|hx
   ·exact hsm x hx
   ·rw[mem_singleton] at hx;subst hx;show L.length≤80;omega
 ·obtain rfl:i=l.length:=by omega
  rw[take_length] at H hsm;have hla:(l.map YM.a).length=l.length:=length_map _;obtain⟨ai,ci,hv⟩:=QF (m:=(l.map YM.a).length) H (Iu _) (by decide);injection hv with hv1 hv2 hv3
  subst hv1 hv2 hv3;refine YY H ?_;obtain⟨A,H,hR⟩:=sls_rd (Iu _) H
  refine Q5 rfl (V1 (a:=[]) (b:=[]) rfl rfl (call (iv _ (l.map YM.a) (by omega) hR (fun x hx=>by
     obtain⟨y,hy,rfl⟩:=mem_map.1 hx;have:=(hok y hy).1;exact⟨this.1,this.2.1,this.2.2.there⟩) H) ?_))
  clear H;rintro r w ⟨b,rfl,hb,H⟩;cases b with
  | true=>
   refine J3 H ?_;exact Q3 (Jy H.drop rfl fun w' H'=>⟨true,rfl,fun h=>(by cases h),H'⟩)
  | false=>
   refine J3 H ?_;have:=hb rfl;exact Q3 (Jy H.drop rfl fun w' H'=>⟨false,rfl,fun _=>⟨by omega,hsm⟩,H'⟩)
def jB:MS:=⟨[-1,0,1],[L0],[]⟩
def jC:MS:=Ko jB 1 1 0
def jD:MS:=Ko jC 2 1 0
def jE:MS:=(Yg jD 0 1 1).1
def jF:MS:=KY jE [2]
theorem Pj:VY jB:=⟨⟨by simp[jB],by simp[jB]⟩,⟨by simp[jB],fun l h=>by simp[jB] at h;subst h;exact eD⟩,(fun x h=>by simp[jB] at h),by simp[jB]⟩
theorem Pk:Vr jB 1 1 0=(2,0):=by decide
theorem Pm:Vr jC 2 1 0=(2,0):=by decide
theorem Pn:VY jC:=IC (by rw[Pk]) Pj (by simp[jB])
theorem L1:VY jD:=IC (by rw[Pm]) Pn (by show (jB.objs++[_]).length < _;simp[jB])
theorem iy:VY jE:=by
 show VY (Yr jD 0 { GY 1 1 0 2 with kind:=(GY 1 1 0 2).kind.set 1 2,to:=(GY 1 1 0 2).to.set 1 1 });exact Wh L1 (IB (L1.objs _ (show GY 1 1 0 2∈[GY 1 1 0 2,GY 2 1 0 2] from mem_cons_self)) 1 2 1 (fun _=>by decide))
theorem iz {s:CS} {m:MS} {told:List (Nat×Nat)} (R:Rel s m told) (h:m.P=[-1,0,1]) (r q:Int):QY s.par r=some q↔(r=1∧q=0)∨(r=2∧q=1):=by
 rw[Yl R.nd,R.tree,h];constructor
 ·rintro⟨k,rfl,h1,h2,h3⟩
  match k,h1,h2 with
  | 1,_,h2=>injection h2 with h2;exact .inl ⟨rfl,h2.symm⟩
  | 2,_,h2=>injection h2 with h2;exact .inr ⟨rfl,h2.symm⟩
  | k+3,_,h2=>cases h2
 ·rintro(⟨rfl,rfl⟩|⟨rfl,rfl⟩)
  ·exact⟨1,rfl,by omega,rfl,by omega⟩
  ·exact⟨2,rfl,by omega,rfl,by omega⟩
theorem j0 {L:List Int} {x:Int} (hnd:L.Nodup) (h:∀ c,c∈L↔c=x):L=[x]:=by
 cases L with
 | nil=>have:=(h x).2 rfl;cases this
 | cons a L=>
  obtain rfl:=(h a).1 mem_cons_self;cases L with
  | nil=>rfl
  | cons b L=>
   obtain rfl:=(h b).1 (by simp);simp at hnd
theorem Po [Q4] {w:World} {fr:List Q2} [hT:YX 0 Lib.deBruijn64tab fr] (H:Q0 w fr) :
  Calls Tryz.prog 8 #[] w (ret fun v w'=>v = .bool true∧Q0 w' fr):=by
 have Rs0:=OM 6 8 6;have hdS:Ui (Xe 6 8 6) [2,2,0]=({ Xe 6 8 6 with lays:=[L0] },1,0):=by rw[B4 eC];rfl
 refine Q9 Tryz.func8 rfl (by kernel_rfl) ?_;refine C2 H ?_;refine Jc rfl rfl (Ni 6 8 6 (by omega) (by omega) (by omega) (by omega) (by omega) (by omega) H) ?_;clear H;rintro v w ⟨c,rfl,H⟩;replace H:Q0 w (QA c (Xe 6 8 6)::fr):=H;refine Zs H ?_;refine Vq H ?_;refine Ym H ?_;refine C6 H ?_;refine YY H ?_;refine GN H ?_;clear H;intro b22 w H;replace H:=H.swap;have hrd:Vu (pts b22 (row 83 [.int .u64 2,.int .u64 2,.int .u64 0])::fr) (.slice (some ⟨b22,0,none⟩) 3 3) 3 1 (Qa [2,2,0]):=⟨rfl,_,_,rfl,.inr ⟨b22,0,_,_,_,rfl,inferInstance,.cons rfl (.cons rfl (.cons rfl (.nil _)))⟩⟩;refine Jc rfl rfl (Nh c (Xe 6 8 6) _ [2,2,0] (by decide) hrd H) ?_;clear H;rintro v w ⟨rfl,H⟩;rw[hdS] at H ⊢
 have RA:Rel { Xe 6 8 6 with lays:=[L0] } ⟨[-1],[L0],[]⟩ []:=by
  have h:=(Ns Rs0 eE [2,2,0]).2;rw[hdS] at h;exact h
 refine C8 H ?_;refine Jc rfl rfl (Ia c _ 0 (by decide) H) ?_;clear H;rintro v w (⟨h1,rfl,H⟩|⟨_,ob,ob2,rfl,H⟩)
 ·exact absurd rfl h1
 have RO:=Ig RA (parent:=0) rfl ob ob2;generalize hsA:Wk { Xe 6 8 6 with lays:=[L0] } 0 ob ob2=sA at H RO;have hA1:sA.par=[(1,0)]∧sA.last=1:=by rw[← hsA];exact⟨rfl,rfl⟩
 refine C8 H ?_;have hadd:Z9 sA.par 1=0:=by rw[hA1.1];decide
 refine Jc rfl rfl (Ia c _ 1 (by rw[hA1.2];decide) H) ?_;clear H;rintro v w (⟨h1,rfl,H⟩|⟨_,oc,oc2,rfl,H⟩)
 ·exact absurd hadd h1
 have RB:=Ig RO (parent:=1) (by decide) oc oc2;generalize hsB:Wk sA 1 oc oc2=sB at H RB;have hB1:sB.size=8:=by rw[← hsB,← hsA];rfl
 have hB2:sB.own=List.replicate 6 0:=by rw[← hsB,← hsA];rfl
 have hB3:sB.tab=List.replicate 6 ⟨0,none⟩:=by rw[← hsB,← hsA];rfl
 have FB:Rw sB []:=⟨⟨6,by rw[hB3];rfl⟩,rfl,OZ (by rw[← hsB,← hsA];rfl) (by rw[hB3];exact OG)⟩;replace RB:Rel sB jB []:=RB;refine C8 H ?_;refine Jc rfl rfl (FF c sB 1 1 0 H) ?_;clear H;rintro v w ⟨i1,g1,e1,sC,rfl,hM1,H⟩;obtain⟨rfl,rfl,rfl,RC,FC,hC1,hC2,hC3⟩:=ON RB Pj FB hM1 Pk hB1 (by rw[hB3];decide) ⟨0,by rw[hB2];decide,by rw[hB2];rfl⟩;rw[hB3] at hC3;rw[hB2] at hC2;replace RC:Rel sC jC [(0,1)]:=RC;replace FC:Rw sC [(0,1)]:=FC
 have hfree:∃ a,a < sC.own.length∧sC.own.getD a 0=0:=by
  obtain⟨hl,a0,k0,hk0,hg⟩:=hC2
  have hz:∀ a,a≠a0→sC.own.getD a 0=0:=by
   intro a ha;refine Classical.byContradiction fun h=>?_
   rcases hg a h with h1|h1
   ·exact h1 (Ij 6 a)
   ·omega
  have hl4:sC.own.length=6:=hl;by_cases h0:a0=0
  ·exact⟨1,by omega,hz 1 (by omega)⟩
  ·exact⟨0,by omega,hz 0 (by omega)⟩
 refine Vj H ?_;clear H;intro b3 w H;refine J4 H ?_;clear H;intro w H;refine J0 H ?_;replace H:=H.swap;refine YY H ?_;refine Jc rfl rfl (FF c sC 2 1 0 H) ?_;clear H;rintro v w ⟨i2,g2,e2,sD,rfl,hM2,H⟩;obtain⟨rfl,rfl,rfl,RD,FD,hD1,hD2,hD3⟩:=ON RC Pn FC hM2 Pm hC1 (by rw[hC3];decide) hfree;replace RD:Rel sD jD [(0,1),(1,1)]:=RD;refine Vj H ?_;clear H;intro b5 w H;refine J4 H ?_;clear H;intro w H;refine J0 H ?_;replace H:=Js [1,0,0] 0 H;refine WE H ?_;refine Bd H ?_;refine WZ H ?_;refine WZ H ?_;obtain⟨_,_,hwD,_,_⟩:=Vv H;have P0:U1 [(0,1),(1,1)] 0 1 0 := .inl ⟨0,1,0,rfl,rfl,rfl,rfl⟩;have P1:U1 [(0,1),(1,1)] 1 1 1 := .inl ⟨1,1,1,rfl,rfl,rfl,rfl⟩;obtain⟨t1,RE⟩:=Nq RD hwD L1 P0 P1 1;rw[show (Yg jD 0 1 1).2=0 by decide] at t1;replace RE:Rel (Ys sD 0 1 1 1 1).1 jE [(0,1),(1,1)]:=RE;have IE:=OV hwD FD.inv 0 1 1 1 1;have shE:=OR sD 0 1 1 1 1;refine QT rfl rfl rfl (V1 (a:=[]) (b:=[]) rfl rfl (call (Ng c sD 0 1 1 1 1 H) ?_));clear H;rintro v w ⟨rfl,H⟩;rw[t1];generalize (Ys sD 0 1 1 1 1).1=sE at H RE IE shE
 have hgE:∀ (k g:Nat) (e:Q7),sE.tab[k]? = some ⟨g,some e⟩→g < 255:=by
  intro k g e hk;obtain⟨⟨r,hs⟩,_,_⟩:=id FD;rw[← shE] at hs
  rcases B7 hs hk with ⟨_,h1,_⟩|⟨_,_,h1,_⟩
  ·have h1:g=1:=h1;omega
  ·have h1:g=0:=h1;omega
 have hparE:=iz RE rfl
 have hTE:Z0 sE.par:=by
  refine⟨RE.nd,fun r q hr=>?_⟩
  rcases (hparE r q).1 hr with ⟨rfl,rfl⟩|⟨rfl,rfl⟩
  ·exact⟨by omega,by omega,.inl rfl⟩
  ·exact⟨by omega,by omega,.inr (by rw[(hparE 1 0).2 (.inl ⟨rfl,rfl⟩)];rfl)⟩
 refine Xr H ?_;refine YY H ?_;refine Jc rfl rfl (PE c sE 2 hTE (by rw[(hparE 2 1).2 (.inr ⟨rfl,rfl⟩)];rfl) IE hgE H) ?_;clear H;rintro v w ⟨u,L,sF,rfl,hL1,hL2,hL3,hL4,hF,H⟩
 have hLd:L=[2]:=j0 hL1 fun c=>by
  rw[hL3];constructor
  ·intro d;cases d with
   | self=>rfl
   | kid hd hf=>
    rcases (hparE _ _).1 hf with ⟨rfl,rfl⟩|⟨rfl,rfl⟩
    ·have:=hd.ge hTE;omega
    ·have:=hd.ge hTE;omega
  ·rintro rfl;exact .self
 subst hLd;obtain⟨aL,cL,rfl⟩:=QF H (Vn [2]) (by decide);obtain⟨G,D,hT⟩:=hF.t;have RF:Rel sF jF [(0,1),(1,1)]:=PI (L:=[2]) RE iy IE hT;refine Zs H ?_
 have t4:Y9 sF 0 1 1=(.grave,0):=by
  rcases Ie RF P0 1 with ⟨h1,h2⟩|⟨h1,n,j,x,h2,h3,h4,_,_,_,_,h5⟩
  ·exact absurd (by decide) h1
  ·obtain rfl:n=0:=by omega
   obtain rfl:j=1:=by omega
   rw[h5];have h6:jF.objs[0]? = some ⟨1,1,0,[0,0],[0,1],[0,0],true,false,false⟩:=by rfl
   rw[h6] at h4;injection h4 with h4
   rw[← h4];rfl
 replace H:=Js [1,0,0,0] 0 H;refine Gv H ?_;refine Jc rfl rfl (FU c sF 0 1 1 H) ?_;clear H;rintro v w ⟨rfl,H⟩;rw[t4];refine Vj H ?_;clear H;intro b9 w H;refine J4 H ?_;clear H;intro w H;refine EY H ?_;refine Ym H ?_;refine QT rfl rfl rfl (RY H rfl rfl rfl ?_);clear H;intro b66 w H;replace H:Q0 w (IL (.slice (some ⟨b66,0,none⟩) 1 1) [2]::_):=Ur rfl H;replace H:=Js [3,0,0,0,0,0] 0 H;have hSame:=IR (.slice aL 1 cL) (.slice (some ⟨b66,0,none⟩) 1 1) [2] [2] (by decide) H;refine QT rfl rfl rfl (V1 (a:=[]) (b:=[]) rfl rfl (call (hSame) ?_));clear hSame;clear H;rintro v w ⟨rfl,H⟩;rw[show decide ([2]=([2]:List Int))=true from rfl];refine Jv ?_;refine Jv ?_;refine V2 rfl rfl rfl rfl ?_;refine V2 rfl rfl rfl rfl ?_;refine Jv ?_;refine Jv ?_;refine CG H ?_;refine QT rfl rfl rfl (BS rfl rfl rfl rfl (.inl rfl) rfl ?_);refine J3 H ?_;replace H:Q0 w fr:=H.drop.drop.drop.drop.drop.drop.drop;exact Q3 (Jy H rfl fun w' H'=>⟨rfl,H'⟩)
theorem j4 [Q4] (p:Nat) (s:CS) (m:MS) (told:List (Nat×Nat)) (n:Nat) (J:Yf s m told n) (hn:n≤60) (K k A B C i g:Int) (X:Nat) (hX:X < 18446744073709551616) (vW:Value) (ws:List Nat) (hws:∀ x∈ws,x < 18446744073709551616) (raw:Bool) (rg:Int) (vL:Value) (L:List Int) (hL:L.length≤80)
  {w:World} {fr:List Q2} [hT:YX 0 Lib.deBruijn64tab fr] (hrW:Vu fr vW ws.length 1 (Qa ws)) (hrL:Vu fr vL L.length 1 (Qg L)) (H:Q0 w (GU p s m told::fr)) :
  Calls Tryz.prog 36 #[.agg (BR K k A B C X vW raw i g rg vL).toArray,pp p] w (ret fun v w'=>v = .bool true∧∃ s' m' told',Yf s' m' told' (n+1)∧Q0 w' (GU p s' m' told'::fr)):=by
 by_cases hK:K=3
 ·subst hK;exact io p s m told n J hn k A B C i g X hX vW ws hws raw rg vL L hL hrW hrL H
 ·exact ij p s m told n J hn K k A B C i g hK X hX vW ws hws raw rg vL L hL hrW hrL H
theorem j5 [Q4] (z1 z2 z3:Int) (v:Value) (l:List YM) (hl:l.length≤60) (h80:∀ x∈l,x.L.length≤80) {w:World} {fr:List Q2} [hT:YX 0 Lib.deBruijn64tab fr] (hr:Vu fr v l.length 12 (KZ l)) (hok:∀ x∈l,Wu fr x) (H:Q0 w fr) :
  Calls Tryz.prog 10 #[.agg #[.int .i64 z1,.int .i64 z2,.int .i64 z3],v] w (ret fun r w'=>∃ p s m told,r = .tuple #[pp p,.bool true]∧Yf s m told 60∧Q0 w' (GU p s m told::fr)):=by
 obtain⟨_,ad,cap,rfl,hrd⟩:=id hr;refine Q9 Tryz.func10 rfl (by kernel_rfl) ?_;refine J8 H ?_;clear H;intro b2 w H;refine J3 H ?_;refine GJ H ?_;refine Jc rfl rfl (eB z1 z2 z3 H) ?_;clear H;rintro r w ⟨p,n,size,slots,rfl,hn1,hn2,hs1,hs2,ht1,ht2,H⟩;refine AI H ?_;replace H:=H.swap.drop;refine YY H ?_;refine Ka H ?_;refine Ql (fun ms σ w n=>ms=[]∧∃ (i:Nat) (s:CS) (m:MS) (told:List (Nat×Nat)),i≤l.length∧n=l.length - i∧Yf s m told i∧σ 6=pp p∧σ 13 = .slice ad l.length cap∧σ 14 = .int .i64 l.length∧σ 15 = .int .i64 i∧Q0 w (GU p s m told::fr)) (m:=l.length) ⟨rfl,0,_,_,_,by omega,rfl,Yf.start n size slots,rfl,rfl,rfl,rfl,H⟩ ?_;clear H;rintro ms σ w n' ⟨rfl,i,s,m,told,hi,rfl,J,g6,g13,g14,g15,H⟩;rw[Q1 g6,Q1 g13,Q1 g14,Q1 g15];refine J7 H ?_;refine Qk rfl (fun h=>QB ?_) (fun h=>Qq ?_)
 ·have hlt:i < l.length:=by omega
  have hy:=getElem?_eq_getElem hlt;generalize l[i]=y at hy;have hm:=mem_of_getElem? hy;obtain⟨⟨hX,hws,hrW⟩,hrL⟩:=hok y hm;have hL:=h80 y hm
  rcases hrd with hz|⟨b,o,E,fz,c,rfl,hA,hrd⟩
  ·omega
  haveI:=hA;obtain⟨K,⟨k,A,B,C,X,vW,ws,raw,i1,gg1⟩,rg,vL,L⟩:=y;obtain⟨_,adW,capW,hvW,_⟩:=id hrW;obtain⟨_,adL,capL,hvL,_⟩:=id hrL;replace hvW:vW = .slice adW ws.length capW:=hvW;replace hvL:vL = .slice adL L.length capL:=hvL;subst hvW hvL;refine YW H ?_;refine Jd ?_;refine Q5 rfl (VN H rfl (Ph hrd hy) rfl ?_);refine VZ H ?_;clear H;intro b8 w H;refine J4 H ?_;clear H;intro w H;refine J2 H ?_;replace H:Q0 w (pts b8 (row 95 (BR K k A B C X (.slice adW ws.length capW) raw i1 gg1 rg (.slice adL L.length capL)))::_):=H;refine AD H ?_;refine Jc rfl rfl (j4 p s m told i J (by omega) K k A B C i1 gg1 X hX _ ws hws raw rg _ L hL hrW.there hrL.there H.swap) ?_;clear H;rintro r w ⟨rfl,s',m',told',J',H⟩;refine Rd H ?_;exact⟨_,⟨rfl,i+1,s',m',told',hlt,rfl,J',rfl,rfl,rfl,Qc (by omega),H.swap.drop⟩,by omega⟩
 ·refine VX H ?_;have UY:Yf s m told 60:=⟨J.R,J.I,J.T,J.P,J.G,by have:=J.O;omega,by have:=J.Q;omega⟩;exact Q3 (Jy H rfl fun w' H'=>⟨p,s,m,told,rfl,UY,H'⟩)
def KG (s:CS) (e:Q7) (p:Nat):Bool:=match Vb e p with
 | .obj a b=>match Qd s.tab a b with
  | some (_,f)=>decide (f.region≠e.region)
  | none=>false
 | _=>false
theorem Pp {s:CS} {e f:Q7} {p a b c:Nat} (h:Vb e p = .obj a b) (h2:Qd s.tab a b=some (c,f)):KG s e p=decide (f.region≠e.region):=by
 unfold KG;rw[h];show (match Qd s.tab a b with|some (_,f)=>decide (f.region≠e.region)|none=>false)=_;rw[h2]
theorem Pq {s:CS} {e:Q7} {p:Nat} (h:∀ a b,Vb e p ≠ .obj a b):KG s e p=false:=by
 unfold KG;split
 ·rename_i a b h1;exact absurd h1 (h a b)
 ·rfl
def ZM (s:CS) (k:Nat) (e:Q7) (l:List Nat):List (Int×Int):=(l.filter (KG s e)).map fun p:Nat=>((k:Int),(p:Int))
def Z1 (s:CS) (k:Nat):List (Int×Int):=match s.tab[k]? with
 | some ⟨_,some e⟩=>ZM s k e (XQ (QN s e) e.ws.length)
 | _=>[]
theorem L3 {s:CS} {k g:Nat} {e:Q7} (h:s.tab[k]? = some ⟨g,some e⟩):Z1 s k=ZM s k e (XQ (QN s e) e.ws.length):=by
 unfold Z1;rw[h]
theorem L4 {s:CS} {k:Nat} {r:Int×Int} (h:r∈Z1 s k):∃ (g:Nat) (e:Q7) (p:Nat),s.tab[k]? = some ⟨g,some e⟩∧r=((k:Int),(p:Int))∧p < e.ws.length∧VU (QN s e) p=true∧KG s e p=true:=by
 unfold Z1 at h;split at h
 ·rename_i g e hk;obtain⟨p,hp,rfl⟩:=mem_map.1 h;obtain⟨h1,h2⟩:=mem_filter.1 hp;obtain⟨h3,h4⟩:=mem_filter.1 h1;exact⟨g,e,p,hk,rfl,mem_range.1 h3,h4,h2⟩
 ·cases h
theorem Fk {s:CS} (hI:Inv s) {k g p:Nat} {e:Q7} (hk:s.tab[k]? = some ⟨g,some e⟩) (hp:p < e.ws.length) (hr:VU (QN s e) p=true) (t:Int):QY s.rem ((k:Int),(p:Int))=some t↔∃ (a b:Nat) (f:Q7),Vb e p = .obj a b∧Qd s.tab a b=some (a,f)∧f.region≠e.region∧t=a:=by
 rw[hI.rem];constructor
 ·rintro⟨j,q,g1,e1,a,b,f,h0,h1,h2,h3,h4,h5,h6,rfl⟩;injection h0 with h01 h02
  obtain rfl:k=j:=by omega
  obtain rfl:p=q:=by omega
  rw[hk] at h1;injection h1 with h1
  injection h1 with _ h1
  injection h1 with h1
  subst h1;exact⟨a,b,f,h4,h5,h6,rfl⟩
 ·rintro⟨a,b,f,h4,h5,h6,rfl⟩;exact⟨k,p,g,e,a,b,f,rfl,hk,hp,hr,h4,h5,h6,rfl⟩
theorem j6 {s:CS} (hw:WF s) (hI:Inv s) {k g p:Nat} {e:Q7} (hk:s.tab[k]? = some ⟨g,some e⟩) (hp:p < e.ws.length) (hr:VU (QN s e) p=true) :
  (∃ (a b:Nat) (f:Q7),Vb e p = .obj a b∧Qd s.tab a b=some (a,f)∧KG s e p=decide (f.region≠e.region)∧QY s.rem ((k:Int),(p:Int))=if f.region≠e.region then some (a:Int) else none) ∨
  (∃ kd:Nat,kd < 2∧Z5 (Vb e p) = .agg #[.int .i64 kd,.int .i64 0,.int .i64 0]∧Qd s.tab 0 0=none∧KG s e p=false∧QY s.rem ((k:Int),(p:Int))=none):=by
 have hz:Qd s.tab 0 0=none:=by
  cases h:Qd s.tab 0 0 with
  | none=>rfl
  | some z=>
   obtain⟨k,e⟩:=z;obtain⟨n,h1,h2,h3⟩:=Y8.1 h;have this:1≤n:=(hw.gen k _ h3).2 rfl;omega
 have hno:(∀ a b,Vb e p ≠ .obj a b)→QY s.rem ((k:Int),(p:Int))=none:=fun hn=>by
  cases hf:QY s.rem ((k:Int),(p:Int)) with
  | none=>rfl
  | some t=>
   obtain⟨a,b,f,h1,_⟩:=(Fk hI hk hp hr t).1 hf;exact absurd h1 (hn a b)
 cases hl:Vb e p with
 | none=>
  have hn:∀ a b,Vb e p ≠ .obj a b:=fun a b h=>by rw[hl] at h;cases h
  exact .inr ⟨0,by omega,rfl,hz,Pq hn,hno hn⟩
 | grave=>
  have hn:∀ a b,Vb e p ≠ .obj a b:=fun a b h=>by rw[hl] at h;cases h
  exact .inr ⟨1,by omega,rfl,hz,Pq hn,hno hn⟩
 | obj a b=>
  obtain⟨f,hf⟩:=hI.link k g e p a b hk hp hr hl;refine .inl ⟨a,b,f,rfl,hf,Pp hl hf,?_⟩;by_cases hne:f.region≠e.region
  ·rw[if_pos hne];exact(Fk hI hk hp hr a).2 ⟨a,b,f,hl,hf,hne,rfl⟩
  ·rw[if_neg hne];cases hq:QY s.rem ((k:Int),(p:Int)) with
   | none=>rfl
   | some t=>
    obtain⟨a',b',f',h1,h2,h3,_⟩:=(Fk hI hk hp hr t).1 hq;rw[hl] at h1;injection h1 with h1 h1'
    subst h1 h1';rw[hf] at h2;injection h2 with h2
    injection h2 with _ h2
    subst h2;exact absurd h3 hne
theorem Pr {s:CS} (hI:Inv s):((Zy s.tab).flatMap (Z1 s)).length=s.rem.length:=by
 have hnd:((Zy s.tab).flatMap (Z1 s)).Nodup:=by
  refine pairwise_flatMap.2 ⟨fun k hk=>?_,?_⟩
  ·unfold Z1;split
   ·unfold ZM XQ;refine List.Pairwise.map _ (fun x y (h:x≠y)=>fun heq=>h ?_) ((nodup_range.filter _).filter _);injection heq with _ heq
    omega
   ·exact List.Pairwise.nil
  ·refine List.Pairwise.imp ?_ (nodup_range.filter _);intro k j (hkj:k≠j) x hx y hy heq;obtain⟨_,_,p,_,rfl,_⟩:=L4 hx;obtain⟨_,_,q,_,rfl,_⟩:=L4 hy;injection heq with h1 _
   omega
 have h1:=ZS hnd (l₂:=s.rem.map (·.1)) (by
  intro r hr;obtain⟨k,hk,hr⟩:=mem_flatMap.1 hr;obtain⟨g,e,p,h1,rfl,h2,h3,h4⟩:=L4 hr;unfold KG at h4;split at h4
  ·rename_i a b hl;obtain⟨f,hf⟩:=hI.link k g e p a b h1 h2 h3 hl;rw[hf] at h4;have h4:f.region≠e.region:=by simpa using h4
   have:=(Fk hI h1 h2 h3 a).2 ⟨a,b,f,hl,hf,h4,rfl⟩;exact mem_map.2 ⟨_,UC this,rfl⟩
  ·cases h4)
 have h2:=ZS hI.nd (l₂:=(Zy s.tab).flatMap (Z1 s)) (by
  intro r hr;obtain⟨⟨r',t⟩,hm,rfl⟩:=mem_map.1 hr;obtain⟨k,p,g,e,a,b,f,rfl,h1,h2,h3,h4,h5,h6,_⟩:=(hI.rem r' t).1 ((Yl hI.nd).2 hm);have hkl:=(List.getElem?_eq_some_iff.1 h1).1;refine mem_flatMap.2 ⟨k,mem_filter.2 ⟨mem_range.2 hkl,B9.2 ⟨g,e,h1⟩⟩,?_⟩;rw[L3 h1];exact mem_map.2 ⟨p,mem_filter.2 ⟨mem_filter.2 ⟨mem_range.2 h2,h3⟩,by rw[Pp h4 h5];simpa using h6⟩,rfl⟩)
 rw[length_map] at h1 h2;omega
theorem Ps (s:CS) (k:Nat) (e:Q7) (a b:List Nat):ZM s k e (a++b)=ZM s k e a++ZM s k e b:=by
 unfold ZM;rw[filter_append,map_append]
theorem j7 (s:CS) (k:Nat) (e:Q7) (a:List Nat) (p:Nat):(ZM s k e (a++[p])).length=(ZM s k e a).length+if KG s e p=true then 1 else 0:=by
 rw[Ps,length_append];unfold ZM;rw[filter_cons];split <;> rfl
theorem j8 {s:CS} (hI:Inv s) {ks t:List Nat} {k g:Nat} {e:Q7} (hk:s.tab[k]? = some ⟨g,some e⟩) (h:Zy s.tab=ks++k::t) {kp t2:List Nat} (h2:XQ (QN s e) e.ws.length=kp++t2):(ks.flatMap (Z1 s)).length+(ZM s k e kp).length≤s.rem.length:=by
 rw[← Pr hI,h,flatMap_append,length_append,flatMap_cons,length_append,L3 hk,h2,Ps,length_append];omega
set_option maxRecDepth 10000 in
theorem j9 [Q4] (p:Nat) (s:CS) (m:MS) (told:List (Nat×Nat)) (hI:Inv s) {w:World} {fr:List Q2} [hT:YX 0 Lib.deBruijn64tab fr] (H:Q0 w (GU p s m told::fr)) :
  Calls Tryz.prog 51 #[pp p] w (ret fun v w'=>v = .bool true∧Q0 w' (GU p s m told::fr)):=by
 obtain⟨c,mo,a,cap,H⟩:=Co H;obtain⟨q,mem,hw,hm,H⟩:=Vv H.swap;replace H:=Js [4,0,9,4,0,0,0,0,0,0,0,0,0,0] 0 H;obtain⟨tq,H,hTAB⟩:=OT H;refine Q9 Tryz.func51 rfl (by kernel_rfl) ?_;refine Vp H ?_;clear H;intro b2 w H;refine J2 H ?_;refine Yd H ?_;refine VZ H ?_;clear H;intro b3 w H;refine Kg H ?_;clear H;intro w H;refine J2 H ?_;refine Vp H ?_;clear H;intro b4 w H;refine Kg H ?_;clear H;intro w H;refine J2 H ?_;refine GS H ?_;refine ZB H ?_;refine Jc rfl rfl (Ob q.tp H) ?_;clear H;rintro v w ⟨bt,rfl,H⟩;refine RR H ?_;refine QP (XA (a:=[]) (b:=[pp bt]) H rfl (fun yl D w H=>?_));generalize hL:LR _ yl _ _ _ _ D .ready=L at H ⊢;obtain⟨J,hJ⟩:∃ J:List Nat→Q2,J=fun ks=>star [L,pts b4 (row 3 [.int .i64 ((ks.flatMap (Z1 s)).length:Nat)]),pts b3 (row 44 [pp c]),Qv c q,RS q.rp s.rem,Qt q.ip q.sp q.bp,Qh q.bp s.lays,ST q.sp s.size mem s.own]:=⟨_,rfl⟩
 have hin:∀ (ks:List Nat) (w:World) (l':List Q2),Q0 w (L::pts b4 (row 3 [.int .i64 ((ks.flatMap (Z1 s)).length:Nat)])::pts b3 (row 44 [pp c])::Qv c q::RS q.rp s.rem::Qt q.ip q.sp q.bp::Qh q.bp s.lays::ST q.sp s.size mem s.own::l')→Q0 w (J ks::l'):=by
  intro ks w l' H;rw[hJ];exact Q0.star.2 H
 have hout:∀ (ks:List Nat) (w:World) (l':List Q2),Q0 w (J ks::l')→Q0 w (L::pts b4 (row 3 [.int .i64 ((ks.flatMap (Z1 s)).length:Nat)])::pts b3 (row 44 [pp c])::Qv c q::RS q.rp s.rem::Qt q.ip q.sp q.bp::Qh q.bp s.lays::ST q.sp s.size mem s.own::l'):=by
  intro ks w l' H;rw[hJ] at H;exact Q0.star.1 H
 replace H:=Js [0,2,2,4,5,5,5,5,1,2,0,0,0,0,0,0,0,0,0,0] 0 H;replace H:=hin [] _ _ H;refine call (Oc yl bt q.tp s.tab tq J ?_ H) ?_
 ·clear H;intro ks k g e rest w hk hpre H;obtain⟨t1,hpre⟩:=hpre;replace H:=hout _ _ _ H;subst hL;refine UF (args:=[Gw k g,.agg (Vg e).toArray]) H rfl rfl ?_;refine Vp H ?_;clear H;intro b5 w H;refine J4 H ?_;clear H;intro w H;refine J2 H ?_;refine Vp H ?_;clear H;intro b6 w H;refine J4 H ?_;clear H;intro w H;refine J2 H ?_;replace H:=Js [2,0,0,0,0,0,0,0,0,0,0] 0 H;refine⟨rfl,_,H,fun w H=>QP ?_⟩;refine J1 H ?_;clear H;intro w H;refine EL H ?_;refine Jf 4 ?_;refine Jl 5 [6] H ?_;refine Jo 6 H ?_;refine Jk rfl rfl (O1 q.ip e.addr H) ?_;clear H;rintro v w ⟨bm,ba,rfl,H⟩;refine Jx H ?_;replace H:=Js [2,0,0,0,0,0,0,0,0,0,0,0,0] 0 H;refine J6 H ?_;refine QP (TB (a:=[]) (b:=[pp bm,pp ba]) H rfl (fun yl2 w H=>?_));generalize hL2:LR _ yl2 _ _ _ _ D .ready=L2 at H ⊢;generalize hLB:LR _ yl _ _ _ _ D .busy=LB at H ⊢;obtain⟨J3,hJ3⟩:∃ J3:List Nat→Q2,J3=fun kp=>star [L2,LB,pts b6 (row 113 (Vg e)),pts b5 (row 69 [.int .i64 k,.int .i64 g]),pts b4 (row 3 [.int .i64 (((ks.flatMap (Z1 s)).length+(ZM s k e kp).length:Nat):Int)]),pts b3 (row 44 [pp c]),Qv c q,RS q.rp s.rem,ZJ q.tp s.tab tq]:=⟨_,rfl⟩
  have hin3:∀ (kp:List Nat) (w:World) (l':List Q2),Q0 w (L2::LB::pts b6 (row 113 (Vg e))::pts b5 (row 69 [.int .i64 k,.int .i64 g])::pts b4 (row 3 [.int .i64 (((ks.flatMap (Z1 s)).length+(ZM s k e kp).length:Nat):Int)])::pts b3 (row 44 [pp c])::Qv c q::RS q.rp s.rem::ZJ q.tp s.tab tq::l')→Q0 w (J3 kp::l'):=by
   intro kp w l' H;rw[hJ3];exact Q0.star.2 H
  have hout3:∀ (kp:List Nat) (w:World) (l':List Q2),Q0 w (J3 kp::l')→Q0 w (L2::LB::pts b6 (row 113 (Vg e))::pts b5 (row 69 [.int .i64 k,.int .i64 g])::pts b4 (row 3 [.int .i64 (((ks.flatMap (Z1 s)).length+(ZM s k e kp).length:Nat):Int)])::pts b3 (row 44 [pp c])::Qv c q::RS q.rp s.rem::ZJ q.tp s.tab tq::l'):=by
   intro kp w l' H;rw[hJ3] at H;exact Q0.star.1 H
  replace H:=Js [0,0,2,2,2,2,2,2,5,0,0,0,0,0] 0 H;replace H:=hin3 [] _ _ H;refine call (O2 yl2 bm ba q.ip q.sp q.bp s.size s.lays s.own e.addr e.lay e.count k e.ws.length (QN s e) (Vb e) (fun x=>x=mem) (fun x hx=>by rw[hx];exact O3 hw hm hk) J3 ?_ rfl H) ?_
  ·clear H;intro kp pl mem' rest2 w hme hpre2 H;have hme:mem'=mem:=hme;rw[hme] at H;obtain⟨t2,hpre2⟩:=hpre2;obtain⟨hpl,hpr⟩:=Io hpre2;replace H:=hout3 _ _ _ H;have hb:=j8 hI hk hpre hpre2;have hb2:=FM hw hI.rk;have he:=j7 s k e kp pl
   rcases j6 hw hI hk hpl hpr with ⟨a1,b1,f,hlk,hlt,hfp,hfd⟩|⟨kd,hkd,hkv,hlt,hfp,hfd⟩
   ·rw[show Z5 (Vb e pl) = .agg #[.int .i64 2,.int .i64 a1,.int .i64 b1] by rw[hlk]];subst hL2;refine UF (args:=[.int .i64 pl,.agg #[.int .i64 2,.int .i64 a1,.int .i64 b1]]) H rfl rfl ?_;refine VB H ?_;refine Vp H ?_;clear H;intro b8 w H;refine J4 H ?_;clear H;intro w H;refine J2 H ?_;replace H:=Js [1,0,0,0,0,0,0,0,0,0,0,0,0] 0 H;refine⟨rfl,_,H,fun w H=>QP ?_⟩;replace H:=Js [8,7,6,4,1,2,2,2,0,0,0,0,0] 0 H;refine J1 H ?_;clear H;intro w H;refine EJ H ?_;refine Ja 6 ?_;refine Zq 7 rfl (Q8.none rfl) rfl (by kernel_rfl) ?_;refine Jo 8 H ?_;refine Jk rfl rfl (I6 q.rp s.rem ((k:Int),(pl:Int)) H) ?_;clear H;rintro v w ⟨rfl,H⟩;rw[hfd];by_cases hne:f.region≠e.region
    ·rw[if_pos hne,Option.getD_some,Option.isSome_some];rw[hfp,decide_eq_true hne,if_pos rfl] at he;have he1:(ks.flatMap (Z1 s)).length+(ZM s k e kp).length+1=(ks.flatMap (Z1 s)).length+(ZM s k e (kp++[pl])).length:=by omega
     refine Dq H ?_;refine Jx H ?_;replace H:=Js [7,1,1,2,0,0,0,0,0,0,0,0,0] 0 H;refine J1 H ?_;clear H;intro w H;refine Jl 0 [6,11] H ?_;refine XN H ?_;refine Ah H ?_;refine Jw 6 10 H rfl rfl (V1 (a:=[]) (b:=[]) rfl rfl (call (B8 q.tp s.tab tq a1 b1 H) ?_)) (Vo H rfl ?_)
     ·clear H;rintro v w ⟨rfl,H⟩;rw[hlt];refine WO H ?_;clear H;intro b11 w H;refine Ut H ?_;clear H;intro w H;refine Eg H ?_;rw[show ((f.region:Int) != e.region)=true from bne_iff_ne.2 hne];refine Ma H ?_;refine WJ H ?_;refine AZ H ?_;refine UM H ?_;rw[show (((a1:Nat):Int) != ((a1:Nat):Int))=false from bne_self_eq_false _];refine Xr H ?_;refine J7 H ?_;refine Vh rfl ?_;refine GS H ?_;refine Kg H ?_;clear H;intro w H;refine J2 H ?_;rw[Qc (by omega),he1] at H;replace H:=Js [9,9,7,6,6,3,2,3,1,2,2,2] 2 H;exact⟨rfl,_,H,fun w H=>⟨rfl,mem,rfl,hin3 _ _ _ H⟩⟩
     ·clear H;intro b11 w H;refine Jo 6 H ?_;refine Jk rfl rfl (B8 q.tp s.tab tq a1 b1 H.swap) ?_;clear H;rintro v w ⟨rfl,H⟩;rw[hlt];refine Ja 7 ?_;refine Ja 8 ?_;refine Ja 9 ?_;replace H:=H.swap;refine Ut H ?_;clear H;intro w H;refine Eg H ?_;rw[show ((f.region:Int) != e.region)=true from bne_iff_ne.2 hne];refine Ma H ?_;refine WJ H ?_;refine AZ H ?_;refine UM H ?_;rw[show (((a1:Nat):Int) != ((a1:Nat):Int))=false from bne_self_eq_false _];refine Xr H ?_;refine J7 H ?_;refine Vh rfl ?_;refine GS H ?_;refine Kg H ?_;clear H;intro w H;refine J2 H ?_;rw[Qc (by omega),he1] at H;replace H:=Js [9,9,7,6,6,3,2,3,1,2,2,2] 2 H;exact⟨rfl,_,H,fun w H=>⟨rfl,mem,rfl,hin3 _ _ _ H⟩⟩
    ·rw[if_neg hne,Option.getD_none,Option.isSome_none];rw[hfp,decide_eq_false hne,if_neg (by decide)] at he;have hne':f.region=e.region:=Classical.byContradiction hne;have he1:(ks.flatMap (Z1 s)).length+(ZM s k e kp).length=(ks.flatMap (Z1 s)).length+(ZM s k e (kp++[pl])).length:=by omega
     refine Dq H ?_;refine Jx H ?_;replace H:=Js [7,1,1,2,0,0,0,0,0,0,0,0,0] 0 H;refine J1 H ?_;clear H;intro w H;refine Jl 0 [6,11] H ?_;refine XN H ?_;refine Ah H ?_;refine Jw 6 10 H rfl rfl (V1 (a:=[]) (b:=[]) rfl rfl (call (B8 q.tp s.tab tq a1 b1 H) ?_)) (Vo H rfl ?_)
     ·clear H;rintro v w ⟨rfl,H⟩;rw[hlt];refine WO H ?_;clear H;intro b11 w H;refine Ut H ?_;clear H;intro w H;refine Eg H ?_;rw[show ((f.region:Int) != e.region)=false by rw[hne'];exact bne_self_eq_false _];refine Eh H ?_;rw[he1] at H;replace H:=Js [9,9,7,6,6,3,2,3,1,2,2,2] 2 H;exact⟨rfl,_,H,fun w H=>⟨rfl,mem,rfl,hin3 _ _ _ H⟩⟩
     ·clear H;intro b11 w H;refine Jo 6 H ?_;refine Jk rfl rfl (B8 q.tp s.tab tq a1 b1 H.swap) ?_;clear H;rintro v w ⟨rfl,H⟩;rw[hlt];refine Ja 7 ?_;refine Ja 8 ?_;refine Ja 9 ?_;replace H:=H.swap;refine Ut H ?_;clear H;intro w H;refine Eg H ?_;rw[show ((f.region:Int) != e.region)=false by rw[hne'];exact bne_self_eq_false _];refine Eh H ?_;rw[he1] at H;replace H:=Js [9,9,7,6,6,3,2,3,1,2,2,2] 2 H;exact⟨rfl,_,H,fun w H=>⟨rfl,mem,rfl,hin3 _ _ _ H⟩⟩
   ·rw[hkv];subst hL2;refine UF (args:=[.int .i64 pl,.agg #[.int .i64 kd,.int .i64 0,.int .i64 0]]) H rfl rfl ?_;refine VB H ?_;refine Vp H ?_;clear H;intro b8 w H;refine J4 H ?_;clear H;intro w H;refine J2 H ?_;replace H:=Js [1,0,0,0,0,0,0,0,0,0,0,0,0] 0 H;refine⟨rfl,_,H,fun w H=>QP ?_⟩;replace H:=Js [8,7,6,4,1,2,2,2,0,0,0,0,0] 0 H;refine J1 H ?_;clear H;intro w H;refine EJ H ?_;refine Ja 6 ?_;refine Zq 7 rfl (Q8.none rfl) rfl (by kernel_rfl) ?_;refine Jo 8 H ?_;refine Jk rfl rfl (I6 q.rp s.rem ((k:Int),(pl:Int)) H) ?_;clear H;rintro v w ⟨rfl,H⟩;rw[hfd];rw[Option.getD_none,Option.isSome_none];rw[hfp,if_neg (by decide)] at he;have he1:(ks.flatMap (Z1 s)).length+(ZM s k e kp).length=(ks.flatMap (Z1 s)).length+(ZM s k e (kp++[pl])).length:=by omega
    refine Dq H ?_;refine Jx H ?_;replace H:=Js [7,1,1,2,0,0,0,0,0,0,0,0,0] 0 H;refine J1 H ?_;clear H;intro w H;refine Jl 0 [6,11] H ?_;refine XN H ?_;refine Ah H ?_;refine Jw 6 10 H rfl rfl (V1 (a:=[]) (b:=[]) rfl rfl (call (B8 q.tp s.tab tq 0 0 H) ?_)) (Vo H rfl ?_)
    ·clear H;rintro v w ⟨rfl,H⟩;rw[hlt];refine WO H ?_;clear H;intro b11 w H;refine Ut H ?_;clear H;intro w H;refine Ux H ?_;refine Xq H ?_;rw[show (((kd:Nat):Int) == 2)=false by rw[beq_eq_false_iff_ne];omega];refine Jv ?_;refine C0 H ?_;refine Qm rfl rfl rfl ?_;refine Eh H ?_;rw[he1] at H;replace H:=Js [9,9,7,6,6,3,2,3,1,2,2,2] 2 H;exact⟨rfl,_,H,fun w H=>⟨rfl,mem,rfl,hin3 _ _ _ H⟩⟩
    ·clear H;intro b11 w H;refine Jo 6 H ?_;refine Jk rfl rfl (B8 q.tp s.tab tq 0 0 H.swap) ?_;clear H;rintro v w ⟨rfl,H⟩;rw[hlt];refine Ja 7 ?_;refine Ja 8 ?_;refine Ja 9 ?_;replace H:=H.swap;refine Ut H ?_;clear H;intro w H;refine Ux H ?_;refine Xq H ?_;rw[show (((kd:Nat):Int) == 2)=false by rw[beq_eq_false_iff_ne];omega];refine Jv ?_;refine C0 H ?_;refine Qm rfl rfl rfl ?_;refine Eh H ?_;rw[he1] at H;replace H:=Js [9,9,7,6,6,3,2,3,1,2,2,2] 2 H;exact⟨rfl,_,H,fun w H=>⟨rfl,mem,rfl,hin3 _ _ _ H⟩⟩
  ·clear H;rintro v w H;obtain⟨mem',hme,H⟩:=H;have hme:mem'=mem:=hme;rw[hme] at H;replace H:=hout3 _ _ _ H;subst hL2;refine⟨_,H,fun w H=>?_⟩;subst hLB
   have hc:(ks.flatMap (Z1 s)).length+(ZM s k e (XQ (QN s e) e.ws.length)).length=((ks++[k]).flatMap (Z1 s)).length:=by
    rw[flatMap_append,length_append,← L3 hk];simp
   rw[hc] at H;replace H:=Js [0,2,2,2,2,5,5,5,2] 4 H;exact⟨rfl,_,H,fun w H=>⟨rfl,hin _ _ _ H⟩⟩
 ·clear H;rintro v w H;replace H:=hout _ _ _ H;rw[Pr hI] at H;subst hL;refine⟨_,H,fun w H=>?_⟩;replace H:=Js [3,2,1,0,0,0,0,0,0,0,0,0,0,0,0,0,0,0,0] 0 H;refine J1 H ?_;clear H;intro w H;refine Jl 0 [4,7] H ?_;refine XN H ?_;refine Jl 3 [4,7] H ?_;refine Jl 5 [7] H ?_;refine Jo 4 H ?_;refine Jk rfl rfl (aH q.rp s.rem H) ?_;clear H;rintro v w ⟨rfl,H⟩;refine Ja 6 ?_;rw[show ((s.rem.length:Int) == (s.rem.length:Int))=true from beq_self_eq_true _];refine Jo 7 H ?_;refine UQ H ?_;clear H;intro w H;refine Jx H ?_;replace H:=Js [8,0,0,0,0,0,0,0,0,0,0,0,0,0,0,0,0,0,0] 0 H;replace H:=hTAB _ _ H;replace H:=Js [2,4,4,4,0,7,0,6,6,6,6,5,5,5,3,3] 3 H;replace H:=VR hw hm H;replace H:=Js [1,0,0,0,0,0] 0 H;replace H:=YK H;replace H:=Js [1,1,0] 0 H;exact Q3 (HI (ms:=[D]) _ (.inr rfl) ((Q0.star (k:=[pts D (.deferred (some []))])).2 H) (fun w' H' => .cell1 H' rfl rfl .nil) fun w' H'=>⟨rfl,H'.drop⟩)
theorem jQ {ids:List Nat} (hn:ids.Nodup) {r:Nat} (h:r∈ids):(ids.map fun i=>if r=i then 1 else 0).sum=1:=by
 induction ids with
 | nil=>cases h
 | cons a l ih=>
  rw[nodup_cons] at hn;rw[map_cons,sum_cons];by_cases hr:r=a
  ·subst hr
   have h0:∀ l':List Nat,r∉l'→(l'.map fun i=>if r=i then 1 else 0).sum=0:=by
    intro l'
    induction l' with
    | nil=>intro _;rfl
    | cons b l' ih=>
     intro h;rw[mem_cons,not_or] at h;rw[map_cons,sum_cons,if_neg h.1,ih h.2]
   rw[if_pos rfl,h0 l hn.1]
  ·rw[if_neg hr,Nat.zero_add];rw[mem_cons] at h;exact ih hn.2 (h.resolve_left hr)
theorem jV (ids:List Nat) (f g:Nat→Nat):(ids.map fun i=>f i+g i).sum=(ids.map f).sum+(ids.map g).sum:=by
 induction ids with
 | nil=>rfl
 | cons a l ih=>rw[map_cons,sum_cons,ih,map_cons,sum_cons,map_cons,sum_cons];omega
theorem L5 {α:Type} {ids:List Nat} (hn:ids.Nodup) (f:α→Nat):∀ {L:List α},(∀ a∈L,f a∈ids)→(ids.map fun i=>(L.filter fun a=>decide (f a=i)).length).sum=L.length
 | [],_=>by
  have:∀ l:List Nat,(l.map fun i=>(([]:List α).filter fun a=>decide (f a=i)).length).sum=0:=by
   intro l
   induction l with
   | nil=>rfl
   | cons b l ih=>rw[map_cons,sum_cons,ih];rfl
  exact this ids
 | a::L,h=>by
  have ih:=L5 hn f (L:=L) fun b hb=>h b (mem_cons_of_mem _ hb);have h1:=jQ hn (h a mem_cons_self)
  have e:(fun i=>((a::L).filter fun a=>decide (f a=i)).length)=fun i=>(if f a=i then 1 else 0)+(L.filter fun a=>decide (f a=i)).length:=by
   funext i
   rw[filter_cons];by_cases hi:f a=i
   ·rw[if_pos (by simpa using hi),if_pos hi,length_cons,Nat.add_comm]
   ·rw[if_neg (by simpa using hi),if_neg hi,Nat.zero_add]
  rw[e,jV,h1,ih,length_cons,Nat.add_comm]
def KU (ts:List QX) (i:Nat):Nat:=match ts[i]? with
 | some ⟨_,some e⟩=>e.region.toNat
 | _=>0
theorem jY {s:CS} (hw:WF s) {x:Int×Nat×List Nat} (hx:x∈s.mns):x.2.2=(Zy s.tab).filter fun i=>decide (KU s.tab i=x.1.toNat):=by
 obtain⟨h1,h2⟩:=hw.mine x hx
 have hx1:1≤x.1:=by
  have:x.1∈s.mns.map (·.1):=mem_map.2 ⟨x,hx,rfl⟩;rw[hw.mkeys] at this;obtain⟨⟨r,q⟩,hq,he⟩:=mem_map.1 this;have:=(hw.par.2.2 r q hq).1;have he:r=x.1:=he;omega
 refine Im h1 ((pairwise_lt_range.filter _).filter _) fun i=>?_;rw[h2,mem_filter];unfold Zy;rw[mem_filter,mem_range,B9];constructor
 ·rintro⟨g,e,h3,h4⟩;refine⟨⟨(List.getElem?_eq_some_iff.1 h3).1,g,e,h3⟩,?_⟩;have:KU s.tab i=e.region.toNat:=by unfold KU;rw[h3]
  rw[this,h4];simp
 ·rintro⟨⟨_,g,e,h3⟩,h4⟩;refine⟨g,e,h3,?_⟩;have:KU s.tab i=e.region.toNat:=by unfold KU;rw[h3]
  rw[this] at h4;have h4:e.region.toNat=x.1.toNat:=by simpa using h4
  obtain⟨_,_,q,hq⟩:=hw.obj i g e h3;have:=(hw.par.2.2 _ _ hq).1;omega
theorem Pt {α:Type} {f:Nat→Bool} {g:α→Bool} {ts:List α} (h:∀ (i:Nat) (t:α),ts[i]? = some t→f i=g t):((List.range ts.length).filter f).length=(ts.filter g).length:=by
 have e2:∀ (l:List α) (k:Nat),(∀ (i:Nat) (t:α),l[i]? = some t→f (k+i)=g t)→((List.range' k l.length).filter f).length=(l.filter g).length:=by
  intro l
  induction l with
  | nil=>intro k _;rfl
  | cons a l ih=>
   intro k hk;have h0:=hk 0 a rfl;have hr:=ih (k+1) (fun i t ht=>by rw[show k+1+i=k+(i+1) by omega];exact hk (i+1) t (by simpa using ht));rw[length_cons,range'_succ,filter_cons,filter_cons];rw[Nat.add_zero] at h0;rw[h0];split
   ·simp[hr]
   ·exact hr
 rw[range_eq_range'];exact e2 ts 0 (fun i t ht=>by rw[Nat.zero_add];exact h i t ht)
theorem jZ (ts:List QX):(Zy ts).length=(ts.filter fun t=>t.ent.isSome).length:=by
 refine Pt fun i t ht=>?_;unfold GX;rw[ht];obtain⟨g,e⟩:=t;cases e <;> rfl
theorem Pu:∀ ts:List QX,Zx ts=(ts.filter fun t=>t.ent.isSome).length+YH ts
 | []=>rfl
 | t::ts=>by
  have ih:=Pu ts;unfold Zx YH at *;obtain⟨g,e⟩:=t;cases e with
  | some e=>
   have a:(⟨g,some e⟩::ts:List QX).filter busy=⟨g,some e⟩::ts.filter busy:=filter_cons_of_pos rfl;have b:(⟨g,some e⟩::ts:List QX).filter (fun t=>t.ent.isNone && t.gen == 255)=ts.filter (fun t=>t.ent.isNone && t.gen == 255):=filter_cons_of_neg (by simp);have c:(⟨g,some e⟩::ts:List QX).filter (fun t=>t.ent.isSome)=⟨g,some e⟩::ts.filter (fun t=>t.ent.isSome):=filter_cons_of_pos rfl;rw[a,b,c,length_cons,length_cons];omega
  | none=>
   have c:(⟨g,none⟩::ts:List QX).filter (fun t=>t.ent.isSome)=ts.filter (fun t=>t.ent.isSome):=filter_cons_of_neg (by simp);by_cases hg:(g == 255)=true
   ·have a:(⟨g,none⟩::ts:List QX).filter busy=⟨g,none⟩::ts.filter busy:=filter_cons_of_pos hg;have b:(⟨g,none⟩::ts:List QX).filter (fun t=>t.ent.isNone && t.gen == 255)=⟨g,none⟩::ts.filter (fun t=>t.ent.isNone && t.gen == 255):=filter_cons_of_pos hg;rw[a,b,c,length_cons,length_cons];omega
   ·have a:(⟨g,none⟩::ts:List QX).filter busy=ts.filter busy:=filter_cons_of_neg hg;have b:(⟨g,none⟩::ts:List QX).filter (fun t=>t.ent.isNone && t.gen == 255)=ts.filter (fun t=>t.ent.isNone && t.gen == 255):=filter_cons_of_neg hg;rw[a,b,c];omega
theorem Pv (ts:List QX):Zx ts - YH ts=(Zy ts).length:=by
 rw[jZ,Pu];omega
def R3 (own:List Nat):List Nat:=(List.range own.length).filter fun c=>decide (own.getD c 0≠0)
theorem Pw (own:List Nat):(R3 own).length=(own.filter (· != 0)).length:=by
 refine Pt fun i t ht=>?_;rw[getD_eq_getElem?_getD,ht,Option.getD_some];by_cases h:t=0
 ·subst h;rfl
 ·rw[decide_eq_true h];exact(bne_iff_ne.2 h).symm
theorem Px {s:CS} (hw:WF s) {x:Int×Nat×QE} (hx:x∈s.sps):(QU x.2.2.parts).length=((R3 s.own).filter fun c=>decide (s.own.getD c 0=x.1.toNat)).length:=by
 have h:=hw.spc x hx
 have hx1:1≤x.1:=by
  have:x.1∈s.sps.map (·.1):=mem_map.2 ⟨x,hx,rfl⟩;rw[hw.skeys] at this;obtain⟨⟨r,q⟩,hq,he⟩:=mem_map.1 this;have:=(hw.par.2.2 r q hq).1;have he:r=x.1:=he;omega
 have hm:∀ c,c∈QU x.2.2.parts↔c∈(R3 s.own).filter fun c=>decide (s.own.getD c 0=x.1.toNat):=by
  intro c;rw[h.owned];unfold R3;rw[mem_filter,mem_filter,mem_range];constructor
  ·rintro⟨q,h1,h2,h3⟩;have h4:s.own.getD c 0=q:=by rw[getD_eq_getElem?_getD,h1,Option.getD_some]
   rw[h4];exact⟨⟨(List.getElem?_eq_some_iff.1 h1).1,by simpa using h3⟩,by rw[decide_eq_true];omega⟩
  ·rintro⟨⟨h1,h2⟩,h3⟩;have h4:=getElem?_eq_getElem h1;have h5:s.own.getD c 0=s.own[c]:=by rw[getD_eq_getElem?_getD,h4,Option.getD_some]
   rw[h5] at h2 h3;have h2:s.own[c]≠0:=by simpa using h2
   have h3:s.own[c]=x.1.toNat:=by simpa using h3
   exact⟨s.own[c],h4,by omega,h2⟩
 refine Nat.le_antisymm (ZS h.nodup fun z hz=>(hm z).1 hz) (ZS ((nodup_range.filter _).filter _) fun z hz=>(hm z).2 hz)
theorem Py (l:List Nat) (f:Nat→Nat) (i:Nat):((l.take i).map f).sum≤(l.map f).sum:=by
 conv=>rhs;rw[← take_append_drop i l]
 rw[map_append,sum_append];omega
theorem Pz {l:List Nat} (f:Nat→Nat) {i x:Nat} (h:l[i]? = some x):((l.take (i+1)).map f).sum=((l.take i).map f).sum+f x:=by
 rw[take_add_one,h,map_append,sum_append];simp
theorem S0 {s:CS} {m:MS} {told:List (Nat×Nat)} (R:X9 s m told) {r q:Int} (h:(r,q)∈s.par):∃ k:Nat,r=k∧k∈V0 m.P:=by
 obtain⟨k,h1,h2,h3,h4⟩:=(R.tree r q).1 h;exact⟨k,h1,FA.2 ⟨q,h3,h2,h4⟩⟩
theorem jG {s:CS} {m:MS} {told:List (Nat×Nat)} (hw:WF s) (R:X9 s m told):((V0 m.P).map fun r=>((Zy s.tab).filter fun i=>decide (KU s.tab i=r)).length).sum=(Zy s.tab).length:=by
 refine L5 (If m.P) (KU s.tab) fun i hi=>?_;obtain⟨g,e,hk⟩:=B9.1 (mem_filter.1 hi).2;obtain⟨_,_,q,hq⟩:=hw.obj i g e hk;obtain⟨k,h1,h2⟩:=S0 R hq;have:KU s.tab i=e.region.toNat:=by unfold KU;rw[hk]
 rw[this,h1];exact h2
theorem jU {s:CS} {m:MS} {told:List (Nat×Nat)} (hw:WF s) (R:X9 s m told):((V0 m.P).map fun r=>((R3 s.own).filter fun c=>decide (s.own.getD c 0=r)).length).sum=(R3 s.own).length:=by
 refine L5 (If m.P) (fun c=>s.own.getD c 0) fun c hc=>?_;obtain⟨h1,h2⟩:=mem_filter.1 hc;have hcl:=mem_range.1 h1;have h3:=getElem?_eq_getElem hcl;generalize s.own[c]=oc at h3;have h4:s.own.getD c 0=oc:=by rw[getD_eq_getElem?_getD,h3,Option.getD_some]
 have h2:s.own.getD c 0≠0:=by simpa using h2
 obtain⟨q,hq⟩:=hw.live c _ h3 (by rw[← h4];exact h2);obtain⟨k,h5,h6⟩:=S0 R hq;rw[h4];have:oc=k:=by omega
 rw[this];exact h6
theorem jX (s:CS):(Zy s.tab).length≤s.tab.length:=by
 unfold Zy;exact Nat.le_trans (length_filter_le _ _) (by rw[length_range];exact Nat.le_refl _)
theorem S3 (l:List Nat):(R3 l).length≤l.length:=by
 unfold R3;exact Nat.le_trans (length_filter_le _ _) (by rw[length_range];exact Nat.le_refl _)
theorem jK {s:CS} (hw:WF s):(s.mns.map Qx).length=(s.sps.map VE).length:=by
 have h1:=congrArg List.length hw.mkeys;have h2:=congrArg List.length hw.skeys;rw[length_map,length_map] at h1 h2;rw[length_map,length_map];omega
theorem jR {s:CS} (hw:WF s) {x:Int×Nat×QE} (hx:x∈s.sps):x.2.2.parts.length≤63∧(∀ p∈x.2.2.parts,p.1+p.2≤63)∧(QU x.2.2.parts).length≤63∧∀ c∈QU x.2.2.parts,c < s.own.length∧(s.own.getD c 0:Int)=x.1:=by
 have h:=hw.spc x hx;have ho:=hw.own.2;refine⟨Nat.le_trans (Ib h) ho,fun p hp=>Nat.le_trans (h.parts p hp).2 ho,?_,fun c hc=>?_⟩
 ·rw[Px hw hx];exact Nat.le_trans (length_filter_le _ _) (Nat.le_trans (S3 _) ho)
 ·obtain⟨q,h1,h2,_⟩:=(h.owned c).1 hc;refine⟨(List.getElem?_eq_some_iff.1 h1).1,?_⟩;rw[getD_eq_getElem?_getD,h1,Option.getD_some];exact h2
end Go.Proofs.YtmjdnljneifpcaaGreatDoor
