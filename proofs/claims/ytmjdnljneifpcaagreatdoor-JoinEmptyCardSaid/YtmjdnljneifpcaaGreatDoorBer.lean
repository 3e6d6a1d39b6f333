/- Cells: what is proved on the way: every input of the statement; no condition. Texts joined: SplR ActB JnA ActC ActD ActE JnB ActF EmpP. -/
import Derived.Test.YtmjdnljneifpcaaGreatDoorBee
import Derived.Test.YtmjdnljneifpcaaGreatDoorBeq
import Derived.Test.YtmjdnljneifpcaaGreatDoorBed
import Derived.Test.YtmjdnljneifpcaaGreatDoorBep
import Derived.Test.YtmjdnljneifpcaaGreatDoorBem
import Derived.Test.YtmjdnljneifpcaaGreatDoorBel
set_option linter.unusedVariables false
set_option linter.unusedSimpArgs false
set_option linter.unusedSectionVars false
namespace Go.Proofs.YtmjdnljneifpcaaGreatDoor
open List
open Go.SL
theorem xP {T:QO} (h:T.at'≤T.fin):Gf ⟨[],0,0⟩ T=T:=by
 obtain⟨ps,x,y⟩:=T;have h:x≤y:=h;unfold Gf;by_cases h0:y=0
 ·subst h0;obtain rfl:x=0:=by omega
  rfl
 ·show QO.mk _ (if y=0 then 0 else x) (if y=0 then 0 else y)=_;rw[if_neg h0,if_neg h0];rfl
theorem Lj:XA Tryz.prog 69 kp:=dq inferInstance
set_option maxRecDepth 10000 in
theorem lR [Q4] (p:Nat) (s:CS) (r:Nat) (Qx:(QV s.par (r:Int)).isSome=true) (hT:ZJ s.par) (hP:Yi s) (UD:s.last+1 < 1000000) (v:Value) (l:List (Nat×Nat)) (hl:l.length≤1000) {w:World} {fr:List Q2} [hTab:Z6 0 Lib.deBruijn64tab fr] (H:Q0 w (QD p s::VD v l::fr)) :
  Calls Tryz.prog 20 #[pp p,.int .i64 r,v] w (ret fun x w'=>
   (Gi s r l≠0∧x = .tuple #[.int .i64 0,.int .i64 (Gi s r l:Nat)]∧Q0 w' (QD p s::VD v l::fr)) ∨
   (Gi s r l=0∧x = .tuple #[.int .i64 0,.int .i64 11]∧s.own.length - (s.own.filter (· != 0)).length < l.length∧Q0 w' (QD p s::VD v l::fr)) ∨
   (Gi s r l=0∧x = .tuple #[.int .i64 ((s.last+1:Nat):Int),.int .i64 0]∧∃ (Z:List Pl) (s':CS),Z.map (fun z=>(z.k,z.g))=l∧AC s r Z s'∧Q0 w' (QD p s'::VD v l::fr))):=by
 obtain⟨a,c,rfl⟩:=QI H.drop (Cc l) (by decide);obtain⟨u,mem,hw,hm,H⟩:=Y9 H;have ZK:=Lb hT Qx;refine QQ Tryz.func20 rfl (by kernel_rfl) ?_;refine J3 H ?_;replace H:=Js [5,0,0,0,0,0,0,0,0,0,0,0] 0 H;refine J9 H ?_;refine Jc rfl rfl (Oh p u s.last s.par r H) ?_;clear H;rintro v w ⟨rfl,H⟩;rw[if_pos Qx];refine ZT H ?_;replace H:=Js [5,1,0,8,0,0,0,0,0,0,0,0] 0 H;refine Y7 H ?_;refine Jc rfl rfl (ww p u s r (.slice a l.length c) l hl H) ?_;clear H;rintro v w ⟨rfl,H⟩;refine ZX H ?_;by_cases hc:Gi s r l=0
 case neg=>
  rw[show (((Gi s r l:Nat):Int) != 0)=true by rw[bne_iff_ne];omega];refine My H ?_;replace H:=Js [1,3,3,3,0,0,1,1,1,1,1,0] 0 H;exact Q3 (Jy H rfl fun w' H' => .inl ⟨hc,rfl,VJ hw hm H'⟩)
 rw[hc];refine Vf H ?_;have K6:(r:Int)∈s.par.map (·.1):=Di Qx;obtain⟨b0,WL⟩:=R8 (l:=s.sps) (f:=fun x=>x.1) (g:=fun x=>x.2.1) (k:=(r:Int)) (by rw[hw.skeys];exact K6);obtain⟨⟨r1,b0',S⟩,p1,p2,VL,Vn,Yo⟩:=R7 WL;have Vn:r1=(r:Int):=Vn;have Yo:b0'=b0:=Yo;subst Vn Yo;obtain⟨c0,ZW⟩:=R8 (l:=s.mns) (f:=fun x=>x.1) (g:=fun x=>x.2.1) (k:=(r:Int)) (by rw[hw.mkeys];exact K6);obtain⟨⟨r2,c0',M⟩,m1,m2,Vk,EQ,EV⟩:=R7 ZW;have EQ:r2=(r:Int):=EQ;have EV:c0'=c0:=EV;subst EQ EV;have CP:QV (s.sps.map Vt) (r:Int)=some b0':=WL;have Xh:QV (s.mns.map VU) (r:Int)=some c0':=ZW;have Yu:((r:Int),b0',S)∈s.sps:=by rw[VL];simp
 obtain⟨t1,t2,t3,t4,t5,t6⟩:=H8 hw Yu;have t1:S.parts.length≤63:=t1;have t2:∀ x∈S.parts,1≤x.2∧x.1+x.2≤s.own.length:=t2;have ho:=hw.own.2;have Ve:=hw.size;refine VM H ?_;refine Q5 rfl (GH (key:=(r:Int)) H rfl rfl Vp rfl ?_);rw[CP];refine J0 H ?_;refine VM H ?_;refine Jc rfl rfl (Sq u.sp r (by omega) H) ?_;clear H;rintro w0 w ⟨bt,rfl,H⟩;refine U2 H ?_;replace H:=Js [7,0,0,0,0,0,0,0,0,0,0,0,0] 0 H;refine G1 H ?_;refine Jc rfl rfl (Io u.sp s.size mem s.own H) ?_;clear H;rintro v w ⟨rfl,H⟩;refine J0 H ?_;refine Uv H ?_;refine Q5 rfl (AS v1 kp H rfl ?_);clear H;intro bat w H;refine Ml H ?_;replace H:=Js [11,0,0,0,0,0,0,0,0,0,0,0,0,0] 0 H;replace H:Q0 w (Qy b0' u.sp r S::star ((p1++p2).map (Vx u.sp))::_):=(Q0.pick (R:=Vx u.sp) (x:=((r:Int),b0',S)) VL).1 H;replace H:=Js [8,5,5,0,3,2,3,3,1,1,1,1,0,0,0] 0 H
 have bH:Gh s.tab r [] l=0:=by
  unfold Gi at hc;split at hc
  ·cases hc
  ·split at hc
   ·rename_i h1 h2;exact absurd hc h2
   ·rename_i h1 h2;exact Classical.not_not.1 h2
 obtain⟨ZG,xS⟩:=Og bH;have xT:=hm.len;refine J6 H ?_
 refine Yx (fun ms σ w=>ms=[]∧∃ (Z:List Pl) (own' mem':List Nat) (T:QO) (at':List ((Int×Int)×Int)),Z.map (fun z=>(z.k,z.g))=l∧(∀ z∈Z,s.tab[z.k]? = some ⟨z.g,some z.e⟩∧z.e.region=(r:Int))∧Zb s r S Z mem own' mem' T∧(∀ z∈Z,QV at' ((z.k:Int),(z.g:Int))=some (z.a:Int)) ∧
  σ 0=pp p∧σ 1 = .int .i64 r∧σ 2 = .slice a l.length c∧σ 10=pp b0'∧σ 11=pp bt∧σ 13 = .int .i64 s.size∧σ 14 = .map (some bat)∧Q0 w (VD (.slice a l.length c) l::Qr u.tp s.tab::VY p u::Qy b0' u.sp r S::Qy bt u.sp r T::ST u.sp s.size mem' own'::V6 u.ip u.sp u.bp::Qp u.bp s.lays::mp kp v1 bat at'::Qo u.trp s.last s.par::RS u.rp s.rem::mp (ki .i64) Qz u.sm (s.sps.map Vt)::star ((p1++p2).map (Vx u.sp))::mp (ki .i64) Qz u.mm (s.mns.map VU)::star (s.mns.map VV)::fr)) ?_ ?_
 ·refine Qe ?_
  refine Qq (fun ms σ w z=>ms=[]∧∃ (i:Nat) (Z:List Pl) (own' mem':List Nat) (T:QO) (at':List ((Int×Int)×Int)),i≤l.length∧z=l.length - i∧Z.map (fun z=>(z.k,z.g))=l.take i∧(∀ z∈Z,s.tab[z.k]? = some ⟨z.g,some z.e⟩∧z.e.region=(r:Int))∧Zb s r S Z mem own' mem' T∧(∀ z∈Z,QV at' ((z.k:Int),(z.g:Int))=some (z.a:Int)) ∧
   σ 0=pp p∧σ 1 = .int .i64 r∧σ 2 = .slice a l.length c∧σ 10=pp b0'∧σ 11=pp bt∧σ 13 = .int .i64 s.size∧σ 14 = .map (some bat)∧σ 66 = .slice a l.length c∧σ 67 = .int .i64 l.length∧σ 68 = .int .i64 i∧Q0 w (VD (.slice a l.length c) l::Qr u.tp s.tab::VY p u::Qy b0' u.sp r S::Qy bt u.sp r T::ST u.sp s.size mem' own'::V6 u.ip u.sp u.bp::Qp u.bp s.lays::mp kp v1 bat at'::Qo u.trp s.last s.par::RS u.rp s.rem::mp (ki .i64) Qz u.sm (s.sps.map Vt)::star ((p1++p2).map (Vx u.sp))::mp (ki .i64) Qz u.mm (s.mns.map VU)::star (s.mns.map VV)::fr)) (m:=l.length) ⟨rfl,0,[],s.own,mem,⟨[],0,0⟩,[],by omega,by omega,rfl,(fun z hz=>(by cases hz)),Zb.start s r S mem,(fun z hz=>(by cases hz)),rfl,rfl,rfl,rfl,rfl,rfl,rfl,rfl,rfl,rfl,H⟩ ?_
  clear H;rintro ms σ w z ⟨rfl,i,Z,own',mem',T,at',hi,rfl,hZ,Cq,hA,GG,g0,g1,g2,g10,g11,g13,g14,g66,g67,g68,H⟩;rw[Q1 g0,Q1 g1,Q1 g2,Q1 g10,Q1 g11,Q1 g13,Q1 g14,Q1 g66,Q1 g67,Q1 g68];refine J7 H ?_;refine Qm rfl (fun h=>QF ?_) (fun h=>Qv ?_)
  ·have Q6:i < l.length:=by omega
   have hx:=getElem?_eq_getElem Q6;have Qj:l.take (i+1)=l.take i++[l[i]]:=by rw[take_add_one,hx];rfl
   have VR:=getElem_mem Q6
   have KT:l[i]∉l.take i:=fun hh=>by
    obtain⟨j,hj⟩:=getElem?_of_mem hh;rw[getElem?_take] at hj;split at hj
    ·rename_i Yf;obtain⟨BI,Ka⟩:=List.getElem?_eq_some_iff.1 hj;exact(pairwise_iff_getElem.1 xS) j i BI Q6 Yf Ka
    ·cases hj
   generalize l[i]=tt at hx Qj VR KT;obtain⟨k,n⟩:=tt;obtain⟨⟨e,hk,Q1c,UF,Q1d⟩,_⟩:=ZG _ VR;have hk:s.tab[k]? = some ⟨n,some e⟩:=hk;have hL:Qk s.tab k n=some (k,e):=HW hk;obtain⟨bT,sT,rfl,H,QM⟩:=VX H (by omega);refine Z7 H ?_;refine Jd ?_;refine Q5 rfl (Vz H rfl (AG hx) rfl ?_);refine VS H ?_;clear H;intro b16 w H;refine J5 H ?_;clear H;intro w H;refine J2 H ?_;replace H:=Js [1,0] 0 H;replace H:=QM _ _ H;replace H:Q0 w (VD (.slice (some ⟨bT,0,none⟩) l.length c) l::pts b16 (row 69 [.int .i64 k,.int .i64 n])::_):=H;replace H:=Js [2,1,0,0,0,0,0,0,0,0] 0 H;refine J6 H ?_;refine Qt (fun ms σ w=>ms=[]∧∃ b17,σ 0=pp p∧σ 1 = .int .i64 r∧σ 2 = .slice (some ⟨bT,0,none⟩) l.length c∧σ 10=pp b0'∧σ 11=pp bt∧σ 13 = .int .i64 s.size∧σ 14 = .map (some bat)∧σ 16=pp b16∧σ 17=pp b17∧σ 66 = .slice (some ⟨bT,0,none⟩) l.length c∧σ 67 = .int .i64 l.length∧σ 68 = .int .i64 i∧Q0 w (Qr u.tp s.tab::pts b17 (row 113 (YX e))::pts b16 (row 69 [.int .i64 k,.int .i64 n])::VD (.slice (some ⟨bT,0,none⟩) l.length c) l::VY p u::Qy b0' u.sp r S::Qy bt u.sp r T::ST u.sp s.size mem' own'::V6 u.ip u.sp u.bp::Qp u.bp s.lays::mp kp v1 bat at'::Qo u.trp s.last s.par::RS u.rp s.rem::mp (ki .i64) Qz u.sm (s.sps.map Vt)::star ((p1++p2).map (Vx u.sp))::mp (ki .i64) Qz u.mm (s.mns.map VU)::star (s.mns.map VV)::fr)) ?_ ?_
   ·refine J1 H ?_;clear H;intro w H;refine C6 H ?_;refine Jw 5 9 H rfl rfl (V1 (a:=[]) (b:=[]) rfl rfl (call (U9 u.tp s.tab k n H) ?_)) (YH H rfl ?_)
    ·clear H;rintro v w ⟨rfl,H⟩;rw[hL];refine C7 H ?_;clear H;intro b17 w H;refine C8 H ?_;clear H;intro w H;refine XI H ?_;replace H:=Js [1,0] 0 H;exact⟨rfl,rfl,b17,rfl,rfl,rfl,rfl,rfl,rfl,rfl,rfl,rfl,rfl,rfl,rfl,H⟩
    ·clear H;intro b17 w H;refine Jo 5 H ?_;refine Jk rfl rfl (U9 u.tp s.tab k n H.swap) ?_;clear H;rintro v w ⟨rfl,H⟩;rw[hL];refine C9 H ?_;clear H;intro w H;refine XI H ?_;exact⟨rfl,rfl,b17,rfl,rfl,rfl,rfl,rfl,rfl,rfl,rfl,rfl,rfl,rfl,rfl,H⟩
   clear H;rintro ms σ w ⟨rfl,b17,g0,g1,g2,g10,g11,g13,g14,g16,g17,g66,g67,g68,H⟩;rw[Q1 g0,Q1 g1,Q1 g2,Q1 g10,Q1 g11,Q1 g13,Q1 g14,Q1 g16,Q1 g17,Q1 g66,Q1 g67,Q1 g68];refine Xt H ?_;refine Gm H ?_;refine Q5 rfl (Ry (ek:=kp) (vv:=v1) (v:=((e.addr:Nat):Int)) (key:=(((k:Nat):Int),((n:Nat):Int))) H rfl rfl rfl Lj rfl ?_);clear H;intro w H;refine J2 H ?_;replace H:=Js [5,0,0,0,0,0] 0 H
   have O9:e.addr < 9223372036854775808:=by
    have h1:=(hw.obj k n e hk).2.1.1;have h2:=Nat.mul_le_mul ho Ve.2;unfold Qa at h1;omega
   refine Z4 H ?_;refine N0 H ?_
   refine Kh (v := .int .i64 ((e.addr / s.size:Nat):Int)) (by
    show (if IntKind.i64=IntKind.i64 then (if ((s.size:Nat):Int)=0 then none else some (Value.int IntKind.i64 (IntKind.i64.wrap (Int.tdiv ((e.addr:Nat):Int) ((s.size:Nat):Int))))) else none)=_;rw[if_pos rfl,if_neg (by omega),CK O9]) rfl ?_
   refine Jc rfl rfl (xH b0' u.sp r S (e.addr / s.size) (by omega) (fun x hx=>by have:=(t2 x hx).2;omega) H) ?_;clear H;rintro v w ⟨rfl,H⟩;refine J2 H ?_
   have lW:∀ (v:Int) (z:Pl),z∈Z→QV (Yg at' (((k:Nat):Int),((n:Nat):Int)) v) ((z.k:Int),(z.g:Int))=QV at' ((z.k:Int),(z.g:Int)):=fun v z hz=>by
    rw[KX,if_neg];intro h1;injection h1 with h1 h2
    have h3:(z.k,z.g)∈l.take i:=by rw[← hZ];exact mem_map.2 ⟨z,hz,rfl⟩
    have h4:k=z.k:=by omega
    have h5:n=z.g:=by omega
    subst h4 h5;exact KT h3
   cases hb:Uo S s.size e with
   | true=>
    have Hd:Li S (e.addr / s.size)=true:=hb;rw[Hd];refine Vr H ?_;refine Qv ?_;replace H:=Js [4,1,3,0,2,2,2,2,2] 2 H;show C _ _ _ _ _ _ _ _;refine J3 H ?_;refine⟨_,⟨rfl,i+1,Z++[⟨k,n,e,e.addr⟩],own',mem',T,_,Q6,rfl,by rw[map_append,hZ,Qj];rfl,(fun z hz=>?_),hA.big hb rfl,(fun z hz=>?_),rfl,rfl,rfl,rfl,rfl,rfl,rfl,rfl,rfl,Qh (by omega),H⟩,by omega⟩
    ·rcases mem_append.1 hz with hz|hz
     ·exact Cq z hz
     ·rw[mem_singleton] at hz;subst hz;exact⟨hk,UF⟩
    ·rcases mem_append.1 hz with hz|hz
     ·rw[lW _ z hz];exact GG z hz
     ·rw[mem_singleton] at hz;subst hz;rw[KX,if_pos rfl]
   | false=>
    have Hd:Li S (e.addr / s.size)=false:=hb;rw[Hd];refine Vf H ?_;have Lk:=hA.img hw (by omega) hm hk;have O7:e.ws.length+1≤s.size:=v6 hw hT.nd hP hk (by rw[UF];exact Yu) hb;replace H:=Js [8,8,7,0,0,0,0,0,0,0,0] 0 H;refine J6 H ?_;refine Qt (fun ms σ w=>ms=[]∧σ 0=pp p∧σ 1 = .int .i64 r∧σ 2 = .slice (some ⟨bT,0,none⟩) l.length c∧σ 10=pp b0'∧σ 11=pp bt∧σ 13 = .int .i64 s.size∧σ 14 = .map (some bat)∧σ 16=pp b16∧σ 17=pp b17∧σ 20 = .int .i64 ((e.ws.length+1:Nat):Int)∧σ 66 = .slice (some ⟨bT,0,none⟩) l.length c∧σ 67 = .int .i64 l.length∧σ 68 = .int .i64 i∧Q0 w (V6 u.ip u.sp u.bp::Qp u.bp s.lays::ST u.sp s.size mem' own'::Qy b0' u.sp r S::Qr u.tp s.tab::pts b17 (row 113 (YX e))::pts b16 (row 69 [.int .i64 k,.int .i64 n])::VD (.slice (some ⟨bT,0,none⟩) l.length c) l::VY p u::Qy bt u.sp r T::mp kp v1 bat (Yg at' (((k:Nat):Int),((n:Nat):Int)) ((e.addr:Nat):Int))::Qo u.trp s.last s.par::RS u.rp s.rem::mp (ki .i64) Qz u.sm (s.sps.map Vt)::star ((p1++p2).map (Vx u.sp))::mp (ki .i64) Qz u.mm (s.mns.map VU)::star (s.mns.map VV)::fr)) ?_ ?_
    ·refine J1 H ?_;clear H;intro w H;refine YN H ?_;refine Jl 3 [6,12] H ?_;refine Jf 4 ?_;refine Jl 5 [6,12] H ?_;refine Jw 6 11 H rfl rfl (V1 (a:=[]) (b:=[]) rfl rfl (call (Dg u.ip u.sp u.bp s.size s.lays mem' own' e.addr e.lay e.count k e.ws.length (Qd s e) Lk H) ?_)) (YH H rfl ?_)
     ·clear H;rintro v w ⟨rfl,H⟩;refine FX H ?_;refine FK H ?_;clear H;intro b19 w H;refine Rg H ?_;clear H;intro w H;refine B0 H ?_;replace H:=Js [1,1,1] 1 H;exact⟨rfl,rfl,rfl,rfl,rfl,rfl,rfl,rfl,rfl,rfl,rfl,rfl,rfl,rfl,rfl,H⟩
     ·clear H;intro b19 w H;replace H:=Js [1,1,1,0] 0 H;refine Jo 6 H ?_;refine Jk rfl rfl (Dg u.ip u.sp u.bp s.size s.lays mem' own' e.addr e.lay e.count k e.ws.length (Qd s e) Lk H) ?_;clear H;rintro v w ⟨rfl,H⟩;refine FX H ?_;refine Rg H ?_;clear H;intro w H;refine B0 H ?_;replace H:=Js [0,0,0] 1 H;exact⟨rfl,rfl,rfl,rfl,rfl,rfl,rfl,rfl,rfl,rfl,rfl,rfl,rfl,rfl,rfl,H⟩
    clear H;rintro ms σ w ⟨rfl,g0,g1,g2,g10,g11,g13,g14,g16,g17,g20,g66,g67,g68,H⟩;rw[Q1 g0,Q1 g1,Q1 g2,Q1 g10,Q1 g11,Q1 g13,Q1 g14,Q1 g16,Q1 g17,Q1 g20,Q1 g66,Q1 g67,Q1 g68];obtain⟨v1',v2',v3',v4'⟩:=hA.bnd hw;replace H:=Js [9,2,0,0,0,0,0,0,0,0,0] 0 H;refine J9 H ?_;refine Jc rfl rfl (fw bt u.sp r s.size (e.ws.length+1) T mem' own' (by omega) (by omega) (by omega) hA.at1 (by omega) (by rw[hA.ol];exact ho) Ve.1 Ve.2 (by omega) H) ?_;clear H;rintro v w (⟨a2,own2,mem2,T2,rfl,al,H⟩|⟨rfl,lA,H⟩)
    ·refine Px H ?_;refine KC H ?_;refine Ia H ?_;refine Q5 rfl (Ry (ek:=kp) (vv:=v1) (v:=((a2:Nat):Int)) (key:=(((k:Nat):Int),((n:Nat):Int))) H rfl rfl rfl Lj rfl ?_);clear H;intro w H;refine J2 H ?_;replace H:=Js [8,5,7,4,0,0,0,0,2] 2 H;refine J3 H ?_;refine⟨_,⟨rfl,i+1,Z++[⟨k,n,e,a2⟩],own2,mem2,T2,_,Q6,rfl,by rw[map_append,hZ,Qj];rfl,(fun z hz=>?_),hA.small hw (by omega) xT (z:=⟨k,n,e,a2⟩) hb O7 al,(fun z hz=>?_),rfl,rfl,rfl,rfl,rfl,rfl,rfl,rfl,rfl,Qh (by omega),H⟩,by omega⟩
     ·rcases mem_append.1 hz with hz|hz
      ·exact Cq z hz
      ·rw[mem_singleton] at hz;subst hz;exact⟨hk,UF⟩
     ·rcases mem_append.1 hz with hz|hz
      ·rw[KX,if_neg,lW _ z hz]
       ·exact GG z hz
       ·intro h1;injection h1 with h1 h2
        have h3:(z.k,z.g)∈l.take i:=by rw[← hZ];exact mem_map.2 ⟨z,hz,rfl⟩
        have h4:k=z.k:=by omega
        have h5:n=z.g:=by omega
        subst h4 h5;exact KT h3
      ·rw[mem_singleton] at hz;subst hz;rw[KX,if_pos rfl]
    ·refine I9 H ?_;refine Vr H ?_;refine Z4 H ?_;refine Jc rfl rfl (jc bt u.sp r T s.size mem' own' (fun x hx=>by obtain⟨y1,y2⟩:=hA.parts x hx;have:=(List.getElem?_eq_some_iff.1 y2).1;rw[hA.ol];omega) hA.nd (fun d hd=>by rw[hA.og,if_pos hd];omega) v1' (by omega) (by rw[hA.ol];exact ho) Ve.2 v3' H) ?_;clear H;rintro v w ⟨rfl,own3,bI,xa,H⟩;have xb:=hA.undo hw bI xa;subst xb;refine DD H ?_;replace H:=Js [3,12,7,1,1,0,0,4,4,4,4,4,2] 3 H;replace H:=(Q0.pick (R:=Vx u.sp) (x:=((r:Int),b0',S)) VL).2 H;replace H:=Js [1,1,1,1,1,1,1,1,0,0,0,0] 0 H;replace H:=VJ hw (jy hw hA hm rfl rfl rfl) H
     have lB:Z.length=i:=by
      have:=congrArg List.length hZ;rw[length_map,length_take] at this;omega
     have Zw:s.own.length - (s.own.filter (· != 0)).length≤Z.length:=hA.full hw fun a ha=>by
      have hz:(e.ws.length+1 - 1) / s.size=0:=Nat.div_eq_of_lt (by omega);rw[hz] at lA;obtain⟨j,j1,j2,j3⟩:=lA a (by omega);have:j=a:=by omega
      rw[← this];exact j3
     exact Q3 (.inr ⟨by simp,Jy H rfl fun w' H' => .inr (.inl ⟨rfl,rfl,by omega,H'⟩)⟩)
  ·obtain rfl:i=l.length:=by omega
   rw[take_length] at hZ;exact .inl ⟨rfl,rfl,Z,own',mem',T,at',hZ,Cq,hA,GG,rfl,rfl,rfl,rfl,rfl,rfl,rfl,H⟩
 clear H;rintro ms σ w ⟨rfl,Z,own',mem',T,at',hZ,Cq,hA,GG,g0,g1,g2,g10,g11,g13,g14,H⟩;rw[Q1 g0,Q1 g1,Q1 g2,Q1 g10,Q1 g11,Q1 g13,Q1 g14]
 have TB:s.par.length≠64:=by
  unfold Gi at hc;intro h;rw[if_neg (fun h1=>by rw[if_pos h1] at hc;cases hc),if_neg (fun h1=>h1 bH),if_pos h] at hc;cases hc
 have xd:Ga s.par r=0:=by
  unfold Ga;rw[if_neg (fun h=>by rw[Qx] at h;cases h.2),if_neg TB]
 obtain⟨v1',v2',v3',v4'⟩:=hA.bnd hw;replace H:=Js [9,0,0,0,0,0,0,0,0,0] 0 H;refine VM H ?_;refine Jc rfl rfl (fk u.trp s.last s.par r (by omega) (fun x q hx=>(hw.par.2.2 x q hx).2) H) ?_;clear H;rintro w0 w (⟨h1,_,_⟩|⟨_,rfl,H⟩)
 ·exact absurd xd h1
 refine U2 H ?_;refine VM H ?_;refine Jc rfl rfl (Sq u.sp (s.last+1) (by omega) H) ?_;clear H;rintro w0 w ⟨bs,rfl,H⟩;refine U2 H ?_
 have GK:((s.last+1:Nat):Int)∉s.par.map (·.1):=fun h=>by
  obtain⟨⟨x,q⟩,h1,h2⟩:=mem_map.1 h;have h2:x=((s.last+1:Nat):Int):=h2;have:=(hw.par.2.2 x q h1).2;omega
 have lC:((s.last+1:Nat):Int)∉(s.sps.map Vt).map (·.1):=by rw[map_map];show _∉s.sps.map fun z=>z.1;rw[hw.skeys];exact GK
 have Oz:((s.last+1:Nat):Int)∉(s.mns.map VU).map (·.1):=by rw[map_map];show _∉s.mns.map fun z=>z.1;rw[hw.mkeys];exact GK
 replace H:=Js [12,0,0,0,0,0,0,0,0,0,0,0,0,0,0] 0 H;obtain⟨es1,ct1,bJ,H⟩:=eP H;replace H:=Js [14,0,0,0,0,0,0,0,0,0,0,0,0,0,0] 0 H;obtain⟨es2,ct2,bM,H⟩:=eP H;refine J1 H ?_;clear H;intro w H;refine YN H ?_;refine Jl 3 [12,14,15,17] H ?_;refine Me H ?_;refine Jl 8 [12,14,15,17] H ?_;refine Ja 9 ?_;refine Ja 10 ?_;refine Jo 11 H ?_;refine Jk rfl rfl (Su H) ?_;clear H;rintro w0 w ⟨bm,rfl,H⟩;replace H:=Js [2,0,0] 0 H;refine Jo 12 H ?_;refine eT (ek:=ki .i64) (vv:=Qz) (key:=((s.last+1:Nat):Int)) H bJ lC rfl rfl Vp rfl ?_;clear H;intro w H;refine Ja 13 ?_;refine Jo 14 H ?_;refine eb H bJ.born rfl rfl rfl rfl ?_;clear H;intro w H;replace H:=eS (bJ.push lC bs) H;replace H:=Js [2,0,0] 0 H;refine Jo 15 H ?_;refine eT (ek:=ki .i64) (vv:=Qz) (key:=((s.last+1:Nat):Int)) H bM Oz rfl rfl Vp rfl ?_;clear H;intro w H;refine Ja 16 ?_;refine Jo 17 H ?_;refine eb H bM.born rfl rfl rfl rfl ?_;clear H;intro w H;replace H:=eS (bM.push Oz bm) H;refine Jx H ?_;replace H:=Js [3,8,8,0,0,0,0,0,0,0,0] 0 H;refine J9 H ?_
 have xe:∀ x∈T.parts,1≤x.2∧x.1+x.2≤own'.length:=fun x hx=>by
  obtain⟨y1,y2⟩:=hA.parts x hx;have:=(List.getElem?_eq_some_iff.1 y2).1;rw[hA.ol];omega
 have hJ:=jh bs bt u.sp (s.last+1) r ⟨[],0,0⟩ T s.size mem' own' (by omega) (by simp) (by omega) (by rw[hA.ol];exact ho) xe (fun d hd=>by rw[hA.og,if_pos hd];omega) H;refine Jc rfl rfl (hJ) ?_;clear H hJ;rintro w0 w ⟨rfl,own2,Co,HZ,H⟩;rw[xP hA.at1] at H;refine J2 H ?_;refine KF H ?_;obtain⟨s1,ER⟩:∃ x:CS,x={ s with own:=own2,last:=s.last+1,par:=s.par++[(((s.last+1:Nat):Int),(r:Int))],sps:=s.sps++[(((s.last+1:Nat):Int),bs,T)],mns:=s.mns++[(((s.last+1:Nat):Int),bm,[])] }:=⟨_,rfl⟩;have lD:own2.length=s.own.length:=Co.trans hA.ol;have HR:WF s1:=by rw[ER];exact vZ hw hA (by have:=hw.par.1;omega) UD Co HZ bs bm
 have ZY:Y8 s1 mem':=by rw[ER];exact jy hw hA hm lD rfl rfl
 have Oa:(Z.map Pl.k).Nodup:=by
  have h1:=vn bH;rw[← hZ,map_map] at h1;exact h1
 have bN:RK s r (s.last+1) [] Z s1 S T:=by rw[ER];exact vR hw hT.nd hP Yu hA Cq Oa lD (vK hA Co HZ) bs bm
 have xf:s1.sps=p1++((r:Int),b0',S)::(p2++[(((s.last+1:Nat):Int),bs,T)]):=by rw[ER];show s.sps++_=_;rw[VL];simp
 have xi:s1.mns=m1++((r:Int),c0',M)::(m2++[(((s.last+1:Nat):Int),bm,[])]):=by rw[ER];show s.mns++_=_;rw[Vk];simp
 have lB:Z.length=l.length:=by rw[← hZ,length_map]
 have xj:QV (s.mns.map VU++[(((s.last+1:Nat):Int),bm)]) (r:Int)=some c0':=by
  rw[← Wh Oz,KX,if_neg (fun h=>GK (by rw[h];exact K6))];exact Xh
 have xm:QV (s.mns.map VU++[(((s.last+1:Nat):Int),bm)]) ((s.last+1:Nat):Int)=some bm:=by rw[← Wh Oz,KX,if_pos rfl]
 have xn:s1.own=own2:=by rw[ER]
 have xo:s1.tab=s.tab:=by rw[ER]
 replace H:=Js [16,0,0,0,0,0,0,0,0,0,0,0,0,0,0,0,0] 0 H;replace H:Q0 w (VQ c0' M::star ((m1++m2).map VV)::_):=(Q0.pick (R:=VV) (x:=((r:Int),c0',M)) Vk).1 H;replace H:=Js [9,9,9,5,0,5,6,1,2,4,4,4,3,3,2,2,0,0] 0 H;replace H:=Js [0,0,0,0,0,0,0,0,0,0,0,0,0,0,0,0,0] 1 H;refine J6 H ?_;refine Qt (fun ms σ w=>ms=[]∧∃ (s':CS) (mem1:List Nat) (S1 T1:QO) (M1 N1:List Nat),(WF s'∧Y8 s' mem1∧RK s r (s.last+1) (Z) ([]) s' S1 T1∧s'.sps=p1++((r:Int),b0',S1)::(p2++[(((s.last+1:Nat):Int),bs,T1)])∧s'.mns=m1++((r:Int),c0',M1)::(m2++[(((s.last+1:Nat):Int),bm,N1)]))∧σ 0=pp p∧σ 1 = .int .i64 r∧σ 2 = .slice a l.length c∧σ 10=pp b0'∧σ 13 = .int .i64 s.size∧σ 14 = .map (some bat)∧σ 24 = .int .i64 ((s.last+1:Nat):Int)∧σ 26=pp bs∧Q0 w (VD (.slice a l.length c) l::Qr u.tp s'.tab::VY p u::mp (ki .i64) Qz u.mm (s.mns.map VU++[(((s.last+1:Nat):Int),bm)])::VQ c0' M1::VQ bm N1::Qy b0' u.sp r S1::Qy bs u.sp (s.last+1) T1::ST u.sp s.size mem1 s'.own::V6 u.ip u.sp u.bp::Qp u.bp s.lays::mp kp v1 bat at'::Qo u.trp (s.last+1) (s.par++[(((s.last+1:Nat):Int),(r:Int))])::RS u.rp s.rem::mp (ki .i64) Qz u.sm (s.sps.map Vt++[(((s.last+1:Nat):Int),bs)])::star ((p1++p2).map (Vx u.sp))::star ((m1++m2).map VV)::fr)) ?_ ?_
 ·refine Qe ?_;refine Qq (fun ms σ w q=>ms=[]∧∃ (i:Nat) (s':CS) (mem1:List Nat) (S1 T1:QO) (M1 N1:List Nat),i≤l.length∧q=l.length - i∧(WF s'∧Y8 s' mem1∧RK s r (s.last+1) (Z.take i) (Z.drop i) s' S1 T1∧s'.sps=p1++((r:Int),b0',S1)::(p2++[(((s.last+1:Nat):Int),bs,T1)])∧s'.mns=m1++((r:Int),c0',M1)::(m2++[(((s.last+1:Nat):Int),bm,N1)]))∧σ 0=pp p∧σ 1 = .int .i64 r∧σ 2 = .slice a l.length c∧σ 10=pp b0'∧σ 13 = .int .i64 s.size∧σ 14 = .map (some bat)∧σ 24 = .int .i64 ((s.last+1:Nat):Int)∧σ 26=pp bs∧σ 154 = .slice a l.length c∧σ 155 = .int .i64 l.length∧σ 156 = .int .i64 i∧Q0 w (VD (.slice a l.length c) l::Qr u.tp s'.tab::VY p u::mp (ki .i64) Qz u.mm (s.mns.map VU++[(((s.last+1:Nat):Int),bm)])::VQ c0' M1::VQ bm N1::Qy b0' u.sp r S1::Qy bs u.sp (s.last+1) T1::ST u.sp s.size mem1 s'.own::V6 u.ip u.sp u.bp::Qp u.bp s.lays::mp kp v1 bat at'::Qo u.trp (s.last+1) (s.par++[(((s.last+1:Nat):Int),(r:Int))])::RS u.rp s.rem::mp (ki .i64) Qz u.sm (s.sps.map Vt++[(((s.last+1:Nat):Int),bs)])::star ((p1++p2).map (Vx u.sp))::star ((m1++m2).map VV)::fr)) (m:=l.length) ⟨rfl,0,s1,mem',S,T,M,[],by omega,by omega,⟨HR,ZY,bN,xf,xi⟩,rfl,rfl,rfl,rfl,rfl,rfl,rfl,rfl,rfl,rfl,rfl,by rw[xn,xo];exact H⟩ ?_;clear H;rintro ms σ w q ⟨rfl,i,s',mem1,S1,T1,M1,N1,hi,rfl,⟨VI,V7,hB,Yw,Bg⟩,g0,g1,g2,g10,g13,g14,g24,g26,g154,g155,g156,H⟩;rw[Q1 g0,Q1 g1,Q1 g2,Q1 g10,Q1 g13,Q1 g14,Q1 g24,Q1 g26,Q1 g154,Q1 g155,Q1 g156];refine J7 H ?_;refine Qm rfl (fun h=>QF ?_) (fun h=>Qv ?_)
  ·have Q6:i < l.length:=by omega
   have RU:i < Z.length:=by omega
   have bP:=getElem?_eq_getElem RU;have lE:Z.take (i+1)=Z.take i++[Z[i]]:=by rw[take_add_one,bP];rfl
   have lF:=drop_eq_getElem_cons RU;have lH:=getElem_mem RU;have hx:l[i]? = some (Z[i].k,Z[i].g):=by rw[← hZ,getElem?_map,bP];rfl
   rw[lF] at hB;generalize Z[i]=z at bP lE lF lH hx hB;have xq:=hB.pend z mem_cons_self;have Ll:=GG z lH;obtain⟨zk,zg,ze,za⟩:=z;obtain⟨hk,HD,Dp⟩:=xq;have hk:s'.tab[zk]? = some ⟨zg,some ze⟩:=hk;have HD:ze.region=(r:Int):=HD;have Ll:QV at' ((zk:Int),(zg:Int))=some (za:Int):=Ll;have hx:l[i]? = some (zk,zg):=hx;have hL:Qk s'.tab zk zg=some (zk,ze):=HW hk
   have bc:(s'.par.map (·.1)).Nodup:=by
    rw[hB.par,map_append,nodup_append];refine⟨hT.nd,by simp,fun x hx y hy Yv=>?_⟩;subst Yv;simp at hy;exact GK (by rw[← show x=((s.last+1:Nat):Int) by omega];exact hx)
   obtain⟨bT,sT,rfl,H,QM⟩:=VX H (by omega);refine Z7 H ?_;refine Jd ?_;refine Q5 rfl (Vz H rfl (AG hx) rfl ?_);refine VS H ?_;clear H;intro b29 w H;refine J5 H ?_;clear H;intro w H;refine J2 H ?_;replace H:=Js [1,0] 0 H;replace H:=QM _ _ H;replace H:Q0 w (VD (.slice (some ⟨bT,0,none⟩) l.length c) l::pts b29 (row 69 [.int .i64 zk,.int .i64 zg])::_):=H;replace H:=Js [2,1,0] 0 H;refine J6 H ?_;refine Qt (fun ms σ w=>ms=[]∧∃ b30,σ 0=pp p∧σ 1 = .int .i64 r∧σ 2 = .slice (some ⟨bT,0,none⟩) l.length c∧σ 10=pp b0'∧σ 13 = .int .i64 s.size∧σ 14 = .map (some bat)∧σ 24 = .int .i64 ((s.last+1:Nat):Int)∧σ 26=pp bs∧σ 154 = .slice (some ⟨bT,0,none⟩) l.length c∧σ 155 = .int .i64 l.length∧σ 156 = .int .i64 i∧σ 29=pp b29∧σ 30=pp b30∧Q0 w (Qr u.tp s'.tab::pts b30 (row 113 (YX ze))::pts b29 (row 69 [.int .i64 zk,.int .i64 zg])::VD (.slice (some ⟨bT,0,none⟩) l.length c) l::VY p u::mp (ki .i64) Qz u.mm (s.mns.map VU++[(((s.last+1:Nat):Int),bm)])::VQ c0' M1::VQ bm N1::Qy b0' u.sp r S1::Qy bs u.sp (s.last+1) T1::ST u.sp s.size mem1 s'.own::V6 u.ip u.sp u.bp::Qp u.bp s.lays::mp kp v1 bat at'::Qo u.trp (s.last+1) (s.par++[(((s.last+1:Nat):Int),(r:Int))])::RS u.rp s.rem::mp (ki .i64) Qz u.sm (s.sps.map Vt++[(((s.last+1:Nat):Int),bs)])::star ((p1++p2).map (Vx u.sp))::star ((m1++m2).map VV)::fr)) ?_ ?_
   ·refine J1 H ?_;clear H;intro w H;refine C6 H ?_;refine Jw 5 9 H rfl rfl (V1 (a:=[]) (b:=[]) rfl rfl (call (U9 u.tp s'.tab zk zg H) ?_)) (YH H rfl ?_)
    ·clear H;rintro v w ⟨rfl,H⟩;rw[hL];refine C7 H ?_;clear H;intro b30 w H;refine C8 H ?_;clear H;intro w H;refine XI H ?_;replace H:=Js [1,0] 0 H;exact⟨rfl,rfl,b30,rfl,rfl,rfl,rfl,rfl,rfl,rfl,rfl,rfl,rfl,rfl,rfl,rfl,H⟩
    ·clear H;intro b30 w H;refine Jo 5 H ?_;refine Jk rfl rfl (U9 u.tp s'.tab zk zg H.swap) ?_;clear H;rintro v w ⟨rfl,H⟩;rw[hL];refine C9 H ?_;clear H;intro w H;refine XI H ?_;exact⟨rfl,rfl,b30,rfl,rfl,rfl,rfl,rfl,rfl,rfl,rfl,rfl,rfl,rfl,rfl,rfl,H⟩
   clear H;rintro ms σ w ⟨rfl,b30,g0,g1,g2,g10,g13,g14,g24,g26,g154,g155,g156,g29,g30,H⟩;rw[Q1 g0,Q1 g1,Q1 g2,Q1 g10,Q1 g13,Q1 g14,Q1 g24,Q1 g26,Q1 g154,Q1 g155,Q1 g156,Q1 g29,Q1 g30];refine J1 H ?_;clear H;intro w H;refine Ja 0 ?_;refine Vw 1 [] H rfl (Q9.none rfl) rfl (by repeat first|exact .nil _|apply QY.cons rfl) (by kernel_rfl) ?_;refine RL 2 [] (key:=(((zk:Nat):Int),((zg:Nat):Int))) H rfl (Q9.none rfl) rfl rfl Lj (by kernel_rfl) ?_;rw[Ll];refine Jf 3 ?_;refine Jl 4 [] H ?_;refine Ja 5 ?_;refine Jx H ?_;have xv:((r:Int),b0',S1)∈s'.sps:=by rw[Yw];simp
   have lI:(((s.last+1:Nat):Int),bs,T1)∈s'.sps:=by rw[Yw];simp
   have bd:((s.last+1:Nat):Int)≠(r:Int):=fun h=>GK (by rw[h];exact K6);have xx:s'.own.length≤63:=VI.own.2;obtain⟨w1',w2',w3',w4',w5',w6'⟩:=H8 VI xv;obtain⟨x1',_,_,_,_,_⟩:=H8 VI lI;have w1':S1.parts.length≤63:=w1';have x1':T1.parts.length≤63:=x1';have w4':(QR S1.parts).Nodup:=w4'
   have xz:ze.addr < 9223372036854775808:=by
    have h1:=(VI.obj zk zg ze hk).2.1.1;have h2:=Nat.mul_le_mul VI.own.2 VI.size.2;unfold Qa at h1;omega
   refine J6 H ?_;refine Qt (fun ms σ w=>ms=[]∧∃ (s2:CS) (mem2:List Nat) (S2 T2:QO),(WF s2∧Y8 s2 mem2∧RK s r (s.last+1) (Z.take i++[⟨zk,zg,ze,za⟩]) (Z.drop (i+1)) s2 S2 T2∧s2.sps=p1++((r:Int),b0',S2)::(p2++[(((s.last+1:Nat):Int),bs,T2)])∧s2.mns=m1++((r:Int),c0',M1.filter (·≠zk))::(m2++[(((s.last+1:Nat):Int),bm,Za N1 zk)])∧s2.tab=s'.tab.set zk ⟨zg,some { ze with region:=((s.last+1:Nat):Int),addr:=za }⟩)∧σ 0=pp p∧σ 1 = .int .i64 r∧σ 2 = .slice (some ⟨bT,0,none⟩) l.length c∧σ 10=pp b0'∧σ 13 = .int .i64 s.size∧σ 14 = .map (some bat)∧σ 24 = .int .i64 ((s.last+1:Nat):Int)∧σ 26=pp bs∧σ 29=pp b29∧σ 154 = .slice (some ⟨bT,0,none⟩) l.length c∧σ 155 = .int .i64 l.length∧σ 156 = .int .i64 i∧Q0 w (Qr u.tp s'.tab::pts b29 (row 69 [.int .i64 zk,.int .i64 zg])::VD (.slice (some ⟨bT,0,none⟩) l.length c) l::VY p u::mp (ki .i64) Qz u.mm (s.mns.map VU++[(((s.last+1:Nat):Int),bm)])::VQ c0' M1::VQ bm N1::Qy b0' u.sp r S2::Qy bs u.sp (s.last+1) T2::ST u.sp s.size mem2 s2.own::V6 u.ip u.sp u.bp::Qp u.bp s.lays::mp kp v1 bat at'::Qo u.trp (s.last+1) (s.par++[(((s.last+1:Nat):Int),(r:Int))])::RS u.rp s.rem::mp (ki .i64) Qz u.sm (s.sps.map Vt++[(((s.last+1:Nat):Int),bs)])::star ((p1++p2).map (Vx u.sp))::star ((m1++m2).map VV)::fr)) ?_ ?_
   ·rcases Dp with ⟨Rq,⟨cc,nn⟩,y1,y2,y3⟩|⟨Rq,OT,y8⟩
    ·have Rq:za=ze.addr:=Rq;subst Rq;have y2:2≤nn:=y2;obtain⟨A,B,Lm⟩:=append_of_mem y1;have Dc:=OP (by rw[← Lm];exact w4':(QR (A++(cc,nn)::B)).Nodup)
     have y9:∀ y∈A,y.1≠cc:=fun y hy h=>by
      have GR:=(w2' y (by show y∈S1.parts;rw[Lm];exact mem_append.2 (.inl hy))).1;exact Dc.2 cc (Nat.le_refl _) (by show cc < cc+nn;omega) (BS (mem_append.2 (.inl hy)) (by omega) (by omega))
     have yQ:ze.addr / s.size=cc:=by
      rcases y3 with ⟨h1,_⟩|⟨_,h1,_⟩
      ·have h1:nn=1:=h1;omega
      ·have h1:ze.addr=cc*s'.size:=h1;rw[hB.size] at h1;rw[h1];exact Nat.mul_div_cancel _ (by omega)
     have RX:cc+nn≤s'.own.length:=(w2' (cc,nn) y1).2;rw[show (((ze.addr:Nat):Int) == ((ze.addr:Nat):Int))=true from beq_self_eq_true _];refine YY rfl ?_;replace H:=Js [8,8,8,0,0,0,0,0,0,0,0,0,0] 0 H;refine VM H ?_
     refine Kh (v := .int .i64 ((ze.addr / s.size:Nat):Int)) (by
      show (if IntKind.i64=IntKind.i64 then (if ((s.size:Nat):Int)=0 then none else some (Value.int IntKind.i64 (IntKind.i64.wrap (Int.tdiv ((ze.addr:Nat):Int) ((s.size:Nat):Int))))) else none)=_;rw[if_pos rfl,if_neg (by omega),CK xz]) rfl ?_
     rw[yQ];have lJ:=xF b0' bs u.sp r (s.last+1) S1 T1 s.size mem1 s'.own Lm y9 y2 (by omega) (by omega) (by omega) xx RX (fun d h1 h2=>w5' d (BS y1 h1 h2)) H;refine Jc rfl rfl (lJ) ?_;clear H lJ;rintro w0 w ⟨rfl,H⟩;refine J2 H ?_;replace H:=Js [3,4,4,4,4,4,4,0,0,0,1,1] 1 H;have UK:=uv (id:=s.last+1) VI hB.part hk HD bd bc Yw Bg Lm y2 y3;refine⟨rfl,rfl,{ s' with own:=VT s'.own cc nn (s.last+1),tab:=s'.tab.set zk ⟨zg,some { ze with region:=((s.last+1:Nat):Int),addr:=ze.addr }⟩,sps:=p1++((r:Int),b0',{ S1 with parts:=A++B })::(p2++[(((s.last+1:Nat):Int),bs,{ T1 with parts:=T1.parts++[(cc,nn)] })]),mns:=m1++((r:Int),c0',M1.filter (·≠zk))::(m2++[(((s.last+1:Nat):Int),bm,Za N1 zk)]) },mem1,_,_,⟨UK,?_,?_,rfl,rfl,rfl⟩,rfl,rfl,rfl,rfl,rfl,rfl,rfl,rfl,rfl,rfl,rfl,rfl,H⟩
     ·exact js (id:=((s.last+1:Nat):Int)) (a:=ze.addr) VI V7 hk (fun j n f hj KG=>by
       show Qa f≤ze.addr∨ze.addr+(ze.ws.length+1)≤f.addr
       rcases VI.apart j zk n zg f ze hj KG hk with h1|h1
       ·exact .inl h1
       ·have h1:ze.addr+1+ze.ws.length≤f.addr:=h1;right;omega) rfl (fun _ _=>rfl) (fun _ _=>rfl) (Yh RX) rfl rfl
     ·exact hB.hand VI bc rfl Yw Lm y2 y3 rfl (Yh RX) rfl rfl rfl rfl rfl rfl
    ·have Rq:za≠ze.addr:=Rq;rw[show (((za:Nat):Int) == ((ze.addr:Nat):Int))=false by rw[beq_eq_false_iff_ne];omega];refine Vu rfl ?_;have Zw:∀ (j n:Nat) (f:Q8),j≠zk→s'.tab[j]? = some ⟨n,some f⟩→Qa f≤za∨za+(ze.ws.length+1)≤f.addr:=fun j n f _ hj=>y8 j n f hj;have UK:=ur VI hk HD bd bc Yw Bg OT Zw;have VB:=(List.getElem?_eq_some_iff.1 hk).1;have CT:Ug s'.size s'.own { ze with region:=((s.last+1:Nat):Int),addr:=za }:=(UK.obj zk zg _ (getElem?_set_self VB)).2.1;have Z9:=i8 CT;have Q1e:=V7.len
     have Be:za+(ze.ws.length+1)≤mem1.length:=by
      have h1:za+1+ze.ws.length≤s'.own.length*s'.size:=CT.1;omega
     have AY:ze.addr+(ze.ws.length+1)≤mem1.length:=by
      have h1:ze.addr+1+ze.ws.length≤s'.own.length*s'.size:=(VI.obj zk zg ze hk).2.1.1;omega
     have Lk:=WJ VI V7 hk;rw[hB.lays,hB.size] at Lk;rw[hB.size] at Z9;replace H:=Js [11,11,10,0,0,0,0,0,0,0,0,0,0] 0 H;refine J1 H ?_;clear H;intro w H;refine Mu H ?_;refine Ja 4 ?_;refine Vw 5 [9] H rfl (Q9.none rfl) rfl (by repeat first|exact .nil _|apply QY.cons rfl) (by kernel_rfl) ?_;refine RL 6 [9] (key:=(((zk:Nat):Int),((zg:Nat):Int))) H rfl (Q9.none rfl) rfl rfl Lj (by kernel_rfl) ?_;rw[Ll];refine Jf 7 ?_;refine Jl 8 [9] H ?_;have lL:=xO u.ip u.sp u.bp s.size s.lays mem1 s'.own za ze.addr ze.lay ze.count zk ze.ws.length (Qd s' ze) Lk Be Z9 H;refine Jo 9 H ?_;refine Jk rfl rfl (lL) ?_;clear H lL;rintro w0 w ⟨rfl,H⟩;refine Jx H ?_;replace H:=Js [3,4,4,4,4,4,4,4,4,2,0,0] 1 H;refine⟨rfl,rfl,{ s' with tab:=s'.tab.set zk ⟨zg,some { ze with region:=((s.last+1:Nat):Int),addr:=za }⟩,mns:=m1++((r:Int),c0',M1.filter (·≠zk))::(m2++[(((s.last+1:Nat):Int),bm,Za N1 zk)]) },Rs mem1 za ze.addr (ze.ws.length+1),S1,T1,⟨UK,?_,?_,Yw,rfl,rfl⟩,rfl,rfl,rfl,rfl,rfl,rfl,rfl,rfl,rfl,rfl,rfl,rfl,H⟩
     ·exact js (id:=((s.last+1:Nat):Int)) (a:=za) VI V7 hk Zw (lK Be AY) (fun j hj=>xJ Be AY hj) (fun j hj=>xL Be AY hj) rfl rfl rfl
     ·exact hB.shift Rq lI rfl rfl rfl rfl rfl rfl rfl rfl
   clear H;rintro ms σ w ⟨rfl,s2,mem2,S2,T2,⟨UK,Zo,Ci,yV,yY,yZ⟩,g0,g1,g2,g10,g13,g14,g24,g26,g29,g154,g155,g156,H⟩;rw[Q1 g0,Q1 g1,Q1 g2,Q1 g10,Q1 g13,Q1 g14,Q1 g24,Q1 g26,Q1 g29,Q1 g154,Q1 g155,Q1 g156];have be:=VI.mine ((r:Int),c0',M1) (by rw[Bg];simp);have P2:=VI.mine (((s.last+1:Nat):Int),bm,N1) (by rw[Bg];simp)
   have CU:∀ L:List Nat,L.Pairwise (· < ·)→(∀ y∈L,y < s'.tab.length)→L.length≤64:=fun L h1 h2=>by
    have:=B6 L 0 64 (fun y hy=>⟨Nat.zero_le _,by have:=h2 y hy;have:=VI.slots.2;omega⟩) h1;omega
   have Q1f:M1.length≤64:=CU M1 be.1 fun y hy=>by
    obtain⟨g,f,h3,_⟩:=(be.2 y).1 hy;exact(List.getElem?_eq_some_iff.1 h3).1
   have Q1g:N1.length≤64:=CU N1 P2.1 fun y hy=>by
    obtain⟨g,f,h3,_⟩:=(P2.2 y).1 hy;exact(List.getElem?_eq_some_iff.1 h3).1
   have E5:zk∉N1:=fun h=>by
    obtain⟨g,f,h3,h4⟩:=(P2.2 zk).1 h;rw[hk] at h3;injection h3 with h3
    injection h3 with _ h3
    injection h3 with h3
    subst h3;exact bd (h4.symm.trans HD)
   replace H:=Js [0,2,2,2,2,0,0] 0 H;refine J1 H ?_;clear H;intro w H;refine Ja 0 ?_;refine Jf 1 ?_;refine Jl 2 [7] H ?_;refine Ja 3 ?_;refine Ja 4 ?_;refine S5 H ?_;refine RL 6 [7] (key:=(((zk:Nat):Int),((zg:Nat):Int))) H rfl (Q9.none rfl) rfl rfl Lj (by kernel_rfl) ?_;rw[Ll];have lM:=lY p u s'.tab (s.mns.map VU++[(((s.last+1:Nat):Int),bm)]) zk zg ze hk ((s.last+1:Nat):Int) za c0' bm M1 N1 (by rw[HD];exact xj) xm be.1 (by omega) P2.1 (by omega) E5 H;refine Jo 7 H ?_;refine Jk rfl rfl (lM) ?_;clear H lM;rintro w0 w ⟨rfl,H⟩;rw[← yZ] at H;refine Jx H ?_;refine J3 H ?_;replace H:=Js [6,0,0,0,0,0,1,1,1,1,1] 1 H;exact⟨_,⟨rfl,i+1,s2,mem2,S2,T2,M1.filter (·≠zk),Za N1 zk,Q6,rfl,⟨UK,Zo,by rw[lE];exact Ci,yV,yY⟩,rfl,rfl,rfl,rfl,rfl,rfl,rfl,rfl,rfl,rfl,Qh (by omega),H⟩,by omega⟩
  ·obtain rfl:i=l.length:=by omega
   rw[← lB,take_length,drop_length] at hB;exact⟨rfl,rfl,s',mem1,S1,T1,M1,N1,⟨VI,V7,hB,Yw,Bg⟩,rfl,rfl,rfl,rfl,rfl,rfl,rfl,rfl,H⟩
 clear H;rintro ms σ w ⟨rfl,s',mem1,S1,T1,M1,N1,⟨VI,V7,hB,Yw,Bg⟩,g0,g1,g2,g10,g13,g14,g24,g26,H⟩;rw[Q1 g0,Q1 g1,Q1 g2,Q1 g10,Q1 g13,Q1 g14,Q1 g24,Q1 g26];replace H:=Js [5,15,4,5,12,4,0,0,0,0,0,0,0,1,1,1] 1 H;replace H:=(Q0.pick (R:=VV) (x:=(((s.last+1:Nat):Int),bm,N1)) (gs:=m1++(m2++[(((s.last+1:Nat):Int),bm,N1)])) (g1:=m1++m2) (g2:=[]) (by simp)).2 (by rw[append_nil];exact H);replace H:=Js [1,0] 0 H;replace H:=(Q0.pick (R:=VV) (x:=((r:Int),c0',M1)) Bg).2 H;replace H:=Js [1,1,1,0] 0 H;replace H:=(Q0.pick (R:=Vx u.sp) (x:=(((s.last+1:Nat):Int),bs,T1)) (gs:=p1++(p2++[(((s.last+1:Nat):Int),bs,T1)])) (g1:=p1++p2) (g2:=[]) (by simp)).2 (by rw[append_nil];exact H);replace H:=Js [1,0] 0 H;replace H:=(Q0.pick (R:=Vx u.sp) (x:=((r:Int),b0',S1)) Yw).2 H;have XT:s.mns.map VU++[(((s.last+1:Nat):Int),bm)]=s'.mns.map VU:=by rw[Bg,Vk];simp
 have VN:s.sps.map Vt++[(((s.last+1:Nat):Int),bs)]=s'.sps.map Vt:=by rw[Yw,VL];simp
 rw[XT,VN,← hB.par,← hB.last,← hB.rem,← hB.lays,← hB.size] at H;have QP:=Fq (H.pull 10);replace H:=Js [4,6,6,5,3,4,4,4,0,2,0,0] 0 H;replace H:=VJ VI V7 H;refine Y7 H ?_;refine Uw H ?_;clear H;intro bS w H;replace H:Q0 w (pts bS (row 3 (Qn [(r:Int),((s.last+1:Nat):Int)]++[]))::QD p { s' with rem:=s'.rem }::VD (.slice a l.length c) l::fr):=H;replace H:=GI (E:=3) (k:=1) (len:=2) (cap:=2) (c:=Qn [(r:Int),((s.last+1:Nat):Int)]) (spare:=[]) rfl ⟨by decide,by decide⟩ (by decide) H
 have Fb:=lZ p s' s'.rem QP _ [(r:Int),((s.last+1:Nat):Int)] (fun x hx=>by
  rw[Bg]
  rcases mem_cons.1 hx with rfl|hx
  ·simp
  ·rw[mem_singleton] at hx;subst hx;simp) (by simp) H
 refine Jc rfl rfl (Fb) ?_;clear H Fb;rintro w0 w ⟨rfl,D,R',hD,hN,H⟩;refine DD H ?_;refine Q3 (Jy H rfl fun w' H' => .inr (.inr ⟨rfl,rfl,Z,{ s' with rem:=R' },hZ,⟨hB.size,hB.own,hB.lays,hB.last,hB.par,hB.tabl,hB.tab,Cq,Oa,⟨D,fun x=>?_,⟨hN.nd,hN.on,fun x hx=>by rw[hN.off x hx,hB.rem]⟩⟩,hB.part,fun yG=>hB.zero (by rw[yG];rfl)⟩,H'⟩));rw[hD x];constructor
 ·rintro⟨k,g,e,h1,h2,h3⟩;refine⟨k,g,e,⟨g,e,h1,?_⟩,h1,h3⟩
  rcases mem_cons.1 h2 with h2|h2
  ·exact .inl h2
  ·exact .inr (mem_singleton.1 h2)
 ·rintro⟨k,g,e,⟨g',e',h1,h2⟩,h3,h4⟩;refine⟨k,g,e,h3,?_,h4⟩;have h1:=h1.symm.trans h3;injection h1 with h1
  injection h1 with _ h1
  injection h1 with h1
  rw[← h1]
  rcases h2 with h2|h2
  ·rw[h2];exact mem_cons_self
  ·rw[h2];exact mem_cons_of_mem _ (mem_singleton.2 rfl)
structure Zl (s:CS) (m:MS) (told:List (Nat×Nat)) (n:Nat):Prop where
 R:Rel s m told
 I:Inv s
 T:ZJ s.par
 P:Yi s
 G:∀ (k:Nat) (t:QW),s.tab[k]? = some t→t.gen≤told.length
 O:m.objs.length≤n
 Q:m.P.length≤n+1
theorem Zl.start (n size slots:Nat):Zl (WO n size slots) X6 [] 0:=by
 refine⟨jQ n size slots,(t7 n size slots).inv,⟨nodup_nil,fun r q h=>(by cases h)⟩,fun k g e h=>?_,fun k t h=>?_,Nat.le_refl _,Nat.le_refl _⟩
 ·have h:(List.replicate slots (⟨0,none⟩:QW))[k]? = some ⟨g,some e⟩:=h;rw[getElem?_replicate] at h;split at h <;> cases h
 ·have h:(List.replicate slots (⟨0,none⟩:QW))[k]? = some t:=h;rw[getElem?_replicate] at h;split at h
  ·injection h with h
   subst h;exact Nat.le_refl _
  ·cases h
theorem yU {ts us:List QW} (h:YF us=YF ts) {k:Nat} {u:QW} (hk:us[k]? = some u):∃ t,ts[k]? = some t∧t.gen=u.gen:=by
 have h1:(YF us)[k]? = some (u.gen,u.ent.isSome):=by
  unfold YF;rw[getElem?_map,hk];rfl
 rw[h] at h1;unfold YF at h1;rw[getElem?_map] at h1;cases ht:ts[k]? with
 | none=>rw[ht] at h1;cases h1
 | some t=>
  rw[ht] at h1;injection h1 with h1
  injection h1 with h1 _
  exact⟨t,rfl,h1⟩
theorem Zl.step {s s':CS} {m m':MS} {told told':List (Nat×Nat)} {n:Nat} (J:Zl s m told n) (R':Rel s' m' told') (S:LG s m told s' m' told'):Zl s' m' told' (n+1):=by
 have h1:=S.objs;have h2:=S.P;have h3:=J.O;have h4:=J.Q;refine⟨R',S.inv J.I,S.tree J.T,S.part J.P,fun k t hk=>?_,by omega,by omega⟩
 rcases S.tab with ⟨e1,e2⟩|⟨k0,g0,e1,e2,_,e4⟩
 ·obtain⟨t0,a,b⟩:=yU e2 hk;rw[e1,← b];exact J.G k t0 a
 ·have Qw:told'.length=told.length+1:=by rw[e1,length_append];rfl
  rw[Qw]
  have hs:(YF s'.tab)[k]? = some (t.gen,t.ent.isSome):=by
   unfold YF;rw[getElem?_map,hk];rfl
  rw[e4,getElem?_set] at hs;split at hs
  ·split at hs
   ·injection hs with hs
    injection hs with hs _
    have:=J.G k0 _ e2;dsimp only at this;omega
   ·cases hs
  ·unfold YF at hs;rw[getElem?_map] at hs;cases ht:s.tab[k]? with
   | none=>rw[ht] at hs;cases hs
   | some t0=>
    rw[ht] at hs;injection hs with hs
    injection hs with hs _
    have:=J.G k t0 ht;have hs:t0.gen=t.gen:=hs;omega
theorem Zl.free {s s':CS} {m:MS} {told:List (Nat×Nat)} {n:Nat} (J:Zl s m told n) (hm:Vc m) {id:Int} (Qx:(QV s.par id).isSome=true) {L:List Int} (h1:L.Nodup) (h2:L.Pairwise (·≤·)) (h3:∀ c,c∈L↔Ge s.par id c) (hF:LN s L s'):L=(Uq m.P id).map (fun k:Nat=>(k:Int))∧Zl s' (AE m (Uq m.P id)) told (n+1):=by
 have hL:=wE J.R J.T Qx h1 h2 h3;refine⟨hL,?_⟩;obtain⟨G,D,hT⟩:=hF.t;have EW:=hT;rw[hL] at EW;have h4:=J.O;have h5:=J.Q;refine⟨ka J.R hm J.I EW,kT hT J.I,by rw[hT.par];exact wB J.T h3,hT.part J.P,fun k t hk=>?_,?_,?_⟩
 ·have Q6:k < s.tab.length:=by
   have:=(List.getElem?_eq_some_iff.1 hk).1;rw[hT.tabl] at this;exact this
  have ht:=getElem?_eq_getElem Q6;generalize s.tab[k]=t0 at ht;have:=hT.tab k t0 ht;rw[hk] at this;injection this with this
  have hg:=J.G k t0 ht;rw[this];split <;> exact hg
 ·show ((m.objs.map _).map _).length≤_;rw[length_map,length_map];omega
 ·show (Yd m.P _).length≤_;unfold Yd;rw[length_mapIdx];omega
theorem lN {s s':CS} {mv:Nat→Q8→Q8} (h:RG s s' mv) {n:Nat} (hg:∀ (k:Nat) (t:QW),s.tab[k]? = some t→t.gen≤n):∀ (k:Nat) (t:QW),s'.tab[k]? = some t→t.gen≤n:=by
 intro k t hk
 have Q6:k < s.tab.length:=by
  have:=(List.getElem?_eq_some_iff.1 hk).1;rw[h.tabl] at this;exact this
 have ht:=getElem?_eq_getElem Q6;generalize s.tab[k]=t0 at ht;have:=h.tab k t0 ht;rw[hk] at this;injection this with this
 rw[this];exact hg k t0 ht
theorem Zl.merge {s s':CS} {m:MS} {told:List (Nat×Nat)} {n:Nat} (J:Zl s m told n) {id q:Nat} (Qx:QV s.par (id:Int)=some (q:Int)) (hq:q≠0) (hM:HV s id q s'):Zl s' (Od m id q) told (n+1):=by
 have h4:=J.O;have h5:=J.Q;obtain⟨u1,u2,u3⟩:=J.T.up _ _ Qx;have QB:id≠q:=by omega
 refine⟨ve J.R (by omega) QB hM,um hM (by omega) J.I,uk J.T Qx (by omega) hM.par,hM.part J.P,lN hM.mv J.G,?_,?_⟩
 ·show (m.objs.map _).length≤_;rw[length_map];omega
 ·show (Gg m.P id q).length≤_;unfold Gg;rw[length_mapIdx];omega
theorem Zl.split {s s':CS} (hw:WF s) {m:MS} {told:List (Nat×Nat)} {n:Nat} (J:Zl s m told n) {r:Nat} (hr:(QV s.par (r:Int)).isSome=true) {Z:List Pl} {os:List Nat} (h:AC s r Z s') (Ah:∀ (o k g:Nat) (x:QT),told[o]? = some (k,g)→m.objs[o]? = some x→x.gone=false→(o∈os↔k∈Z.map Pl.k)):Zl s' (E8 m r os) told (n+1):=by
 have h4:=J.O;have h5:=J.Q
 have AK:((r:Nat):Int)≤s.last:=by
  cases hf:QV s.par (r:Int) with
  | none=>rw[hf] at hr;cases hr
  | some q=>exact(hw.par.2.2 _ _ ((YI J.T.nd).1 hf)).2
 refine⟨vj hw J.R h Ah,kQ hw AK h J.I,?_,h.part,lN h.mv J.G,?_,?_⟩
 ·rw[h.par];exact Tk J.T (.inr hr) (by omega) (fun x q hx=>(hw.par.2.2 x q hx).2) AK
 ·show (m.objs.mapIdx _).length≤_;rw[length_mapIdx];omega
 ·show (m.P++[_]).length≤_;rw[length_append];show _+1≤_;omega
theorem yX {s:CS} {m:MS} {told:List (Nat×Nat)} (R:Rel s m told) {r:Nat} {ys:List ((Nat×Nat)×Int)} (hy:∀ y∈ys,Ct told y) (h0:Gh s.tab r [] (ys.map (·.1))=0) {Z:List Pl} (hZ:Z.map (fun z=>(z.k,z.g))=ys.map (·.1)) :
  (∀ o∈ys.map (fun y=>y.2.toNat),o < m.objs.length)∧ys.map (·.2)=(ys.map fun y=>y.2.toNat).map (fun o:Nat=>(o:Int))∧∀ (o k g:Nat) (x:QT),told[o]? = some (k,g)→m.objs[o]? = some x→x.gone=false→(o∈ys.map (fun y=>y.2.toNat)↔k∈Z.map Pl.k):=by
 obtain⟨c1,c2⟩:=Og h0
 have GG:∀ y∈ys,∃ n:Nat,y.2=n∧told[n]? = some y.1:=by
  intro y GM
  rcases hy y GM with h|⟨h1,h2⟩
  ·exact h
  ·exfalso;obtain⟨⟨e,he,_⟩,_⟩:=c1 y.1 (mem_map.2 ⟨y,GM,rfl⟩);obtain⟨o,ho⟩:=R.used _ _ _ he;rw[h2] at ho;cases ho
 refine⟨fun o ho=>?_,?_,fun o k g x ht hx hg=>⟨fun ho=>?_,fun hk=>?_⟩⟩
 ·obtain⟨y,GM,rfl⟩:=mem_map.1 ho;obtain⟨n,h1,h2⟩:=GG y GM;rw[h1,Int.toNat_natCast,← R.len];exact(List.getElem?_eq_some_iff.1 h2).1
 ·rw[map_map];refine map_congr_left fun y GM=>?_;obtain⟨n,h1,_⟩:=GG y GM;show y.2=((y.2.toNat:Nat):Int);rw[h1,Int.toNat_natCast]
 ·obtain⟨y,GM,rfl⟩:=mem_map.1 ho;obtain⟨n,h1,h2⟩:=GG y GM;rw[h1,Int.toNat_natCast,h2] at ht;injection ht with ht
  have:(k,g)∈Z.map (fun z=>(z.k,z.g)):=by rw[hZ];exact mem_map.2 ⟨y,GM,ht⟩
  obtain⟨z,z1,z2⟩:=mem_map.1 this;injection z2 with z2 _
  exact mem_map.2 ⟨z,z1,z2⟩
 ·obtain⟨z,z1,z2⟩:=mem_map.1 hk;have:(z.k,z.g)∈ys.map (·.1):=by rw[← hZ];exact mem_map.2 ⟨z,z1,rfl⟩
  obtain⟨y,GM,GR⟩:=mem_map.1 this;obtain⟨⟨e,he,_⟩,_⟩:=c1 y.1 (mem_map.2 ⟨y,GM,rfl⟩);obtain⟨n,h1,h2⟩:=GG y GM;rw[GR] at he h2;dsimp only at he;obtain⟨e',W1,_⟩:=R.obj o x k g hx ht hg;rw[z2,W1] at he;injection he with he
  injection he with hgg _
  have Xj:=OZ R.nodup ht (by rw[h2,← z2,hgg]);refine mem_map.2 ⟨y,GM,?_⟩;rw[h1,Int.toNat_natCast,Xj]
theorem bh [Q4] (p:Nat) (s:CS) (region:Int) {w:World} {fr:List Q2} (H:Q0 w (QD p s::fr)) :
  Calls Tryz.prog 54 #[pp p,.int .i64 region] w (ret fun v w'=>v = .int .i64 (if (QV s.par region).isSome then 0 else 15)∧Q0 w' (QD p s::fr)):=by
 obtain⟨q,mem,hw,hm,H⟩:=Y9 H;replace H:=Js [5,0,0,0,0,0] 0 H;refine call (Oh p q s.last s.par region H) ?_;clear H;rintro v w ⟨rfl,H⟩;replace H:=Js [1,1,1,1,1,0] 0 H;exact⟨rfl,VJ hw hm H⟩
theorem yK [Q4] (p:Nat) (s:CS) (region:Int) (hf:QV s.par region=none) {w:World} {fr:List Q2} (H:Q0 w (QD p s::fr)) :
  Calls Tryz.prog 14 #[pp p,.int .i64 region] w (ret fun v w'=>v = .tuple #[.slice none 0 0,.int .i64 15]∧Q0 w' (QD p s::fr)):=by
 refine QQ Tryz.func14 rfl (by kernel_rfl) ?_;refine GV H ?_;clear H;intro b2 w H;refine J4 H ?_;replace H:=H.swap;refine XJ H ?_;refine Jc rfl rfl (bh p s region H) ?_;clear H;rintro v w ⟨rfl,H⟩;rw[hf];refine FA H ?_;exact Q3 (Jy H rfl fun w' H'=>⟨rfl,H'.swap.drop⟩)
theorem yR [Q4] (p:Nat) (s:CS) (region:Int) (hf:QV s.par region=none) {w:World} {fr:List Q2} (H:Q0 w (QD p s::fr)) :
  Calls Tryz.prog 27 #[pp p,.int .i64 region] w (ret fun v w'=>v = .tuple #[.int .i64 0,.int .i64 15]∧Q0 w' (QD p s::fr)):=by
 refine QQ Tryz.func27 rfl (by kernel_rfl) ?_;refine GV H ?_;clear H;intro b2 w H;refine J4 H ?_;replace H:=H.swap;refine XJ H ?_;refine Jc rfl rfl (bh p s region H) ?_;clear H;rintro v w ⟨rfl,H⟩;rw[hf];refine FA H ?_;exact Q3 (Jy H rfl fun w' H'=>⟨rfl,H'.swap.drop⟩)
theorem lO [Q4] (p:Nat) (s:CS) (region:Int) (l:Value) (hf:QV s.par region=none) {w:World} {fr:List Q2} (H:Q0 w (QD p s::fr)) :
  Calls Tryz.prog 20 #[pp p,.int .i64 region,l] w (ret fun v w'=>v = .tuple #[.int .i64 0,.int .i64 15]∧Q0 w' (QD p s::fr)):=by
 refine QQ Tryz.func20 rfl (by kernel_rfl) ?_;refine WV H ?_;refine Jc rfl rfl (bh p s region H) ?_;clear H;rintro v w ⟨rfl,H⟩;rw[hf];refine FA H ?_;exact Q3 (Jy H rfl fun w' H'=>⟨rfl,H'⟩)
theorem yW [Q4] (p:Nat) (m:MS) (r:Int) (hl:Yb m.P r=false) {w:World} {fr:List Q2} (H:Q0 w (V0 p m::fr)) :
  Calls Tryz.prog 102 #[pp p,.int .i64 r] w (ret fun v w'=>v = .tuple #[.int .i64 0,.int .i64 15]∧Q0 w' (V0 p m::fr)):=by
 obtain⟨t,lc,oc,aL,cL,aO,cO,h1,h2,h3,h4,h5,H⟩:=GA H;refine QQ Tryz.func102 rfl (by kernel_rfl) ?_;refine IM H ?_;replace H:=H.swap;refine Jc rfl rfl (CN t m.P r H) ?_;clear H;rintro v w ⟨rfl,H⟩;rw[hl];refine IP H ?_;exact Q3 (Jy (Zq h1 h2 h3 H.swap) rfl fun w' H'=>⟨rfl,H'⟩)
@[reducible] def HE (K k A B C:Int) (X:Nat) (vW:Value) (raw:Bool) (i g rg:Int) (vL:Value):List Value:=[.int .i64 K,.int .i64 k,.int .i64 A,.int .i64 B,.int .i64 C,.int .u64 X,vW,.bool raw,.int .i64 i,.int .i64 g,.int .i64 rg,vL]
theorem yA [Q4] (p:Nat) (s:CS) (m:MS) (told:List (Nat×Nat)) (n:Nat) (J:Zl s m told n) (hn:n≤60) (K k A B C i g:Int) (yB:K≠3) (X:Nat) (hX:X < 18446744073709551616) (vW:Value) (ws:List Nat) (Yq:∀ x∈ws,x < 18446744073709551616) (raw:Bool) (rg:Int) (vL:Value) (L:List Int) (hL:L.length≤80)
  {w:World} {fr:List Q2} [hT:Z6 0 Lib.deBruijn64tab fr] (Kd:Ya fr vW ws.length 1 (Qi ws)) (AH:Ya fr vL L.length 1 (Qn L)) (H:Q0 w (UO p s m told::fr)) :
  Calls Tryz.prog 36 #[.agg (HE K k A B C X vW raw i g rg vL).toArray,pp p] w (ret fun v w'=>v = .bool true∧∃ s' m' told',Zl s' m' told' (n+1)∧Q0 w' (UO p s' m' told'::fr)):=by
 obtain⟨_,adW,capW,rfl,_⟩:=id Kd;obtain⟨_,adL,capL,rfl,_⟩:=id AH;have hO:=J.O;have hQ:=J.Q;have Qw:=J.R.len;have bj:=az J.R J.T;have Jn:Zl s m told (n+1):=⟨J.R,J.I,J.T,J.P,J.G,by omega,by omega⟩
 have Oj:∀ (k g:Nat) (e:Q8),s.tab[k]? = some ⟨g,some e⟩→g < 255:=fun k g e hk=>by
  have:=J.G k _ hk;dsimp only at this;omega
 refine QQ Tryz.func36 rfl (by kernel_rfl) ?_;refine J8 H ?_;clear H;intro b2 w H;refine DW H ?_;refine J2 H ?_;refine F8 H ?_;by_cases hK0:K=0
 ·subst hK0;refine Vr H ?_;refine Z4 H ?_;refine NR H ?_;refine Jc rfl rfl (sr p s m told J.R (by omega) (by omega) k A B C i g X hX _ ws Yq raw Kd.there H.swap) ?_;clear H;rintro v w ⟨rfl,s',m',told',R',S',H⟩;refine J0 H ?_;exact Q3 (Jy H.swap.drop rfl fun w' H'=>⟨rfl,s',m',told',J.step R' S',H'⟩)
 rw[show (K == 0)=false by simpa using hK0];refine UW H ?_;obtain⟨c,mo,a,cap,H⟩:=Dx H.swap;obtain⟨_,_,hw,_,_⟩:=Y9 H.swap;obtain⟨_,_,_,_,_,_,_,Ul,_⟩:=GA (H.sel [2,0,0,0] 0);by_cases hK1:K=1
 ·subst hK1;refine Vr H ?_;replace H:=Js [1,3,0,0,0] 0 H;refine J1 H ?_;clear H;intro w H;refine S7 H ?_;cases hf:QV s.par rg with
  | none=>
   have ZQ:Yb m.P rg=false:=by rw[← Cb J.R,hf];rfl
   refine Jo 6 H ?_;refine Jk rfl rfl (yK c s rg hf H) ?_;clear H;rintro v w ⟨rfl,H⟩;refine KB H ?_;replace H:=Js [3,0,0,0,0] 0 H;refine J1 H ?_;clear H;intro w H;refine Wx H ?_;refine Jk rfl rfl (kw mo m rg bj H) ?_;clear H;rintro v w (⟨_,rfl,H⟩|⟨hl,_⟩)
   case inr=>rw[ZQ] at hl;cases hl
   refine NW H ?_;refine GL H ?_;replace H:=Zy (E:=3) (k:=1) (Zy (E:=3) (k:=1) H);refine QS rfl rfl rfl (V1 (a:=[]) (b:=[]) rfl rfl (call (JG (.slice none 0 0) (.slice none 0 0) [] [] (by simp) H) ?_));clear H;rintro v w ⟨rfl,H⟩;replace H:=H.drop.drop;refine J4 H ?_;replace H:=Js [2,2,1,0,0] 0 H;exact Q3 (Jy (Z1 H.drop) rfl fun w' H'=>⟨rfl,s,m,told,Jn,H'⟩)
  | some q=>
   have Qx:(QV s.par rg).isSome=true:=by rw[hf];rfl
   have ZQ:Yb m.P rg=true:=by rw[← Cb J.R,Qx]
   have Uk:=hw.par.1;refine Jo 6 H ?_;refine Jk rfl rfl (aN c s rg J.T Qx J.I Oj H) ?_;clear H;rintro v w ⟨u,L',s',rfl,UN,US,Cu,Ol,P3,H⟩;obtain⟨P4,J'⟩:=J.free Ul Qx UN US Cu P3;obtain⟨au,mu,cu,rfl⟩:=V8 H;refine KB H ?_;replace H:=Js [4,0,0,0,0] 0 H;refine J1 H ?_;clear H;intro w H;refine Wx H ?_;refine Jk rfl rfl (kw mo m rg bj H) ?_;clear H;rintro v w (⟨hl,_⟩|⟨_,vl,rfl,H⟩)
   ·rw[ZQ] at hl;cases hl
   rw[Le,← P4] at H;obtain⟨av,mv,cv,rfl⟩:=V8 H;refine KB H ?_;replace H:=Js [2,0,0] 0 H;refine Wr H ?_;refine GL H ?_;refine QS rfl rfl rfl (V1 (a:=[]) (b:=[]) rfl rfl (call (JG _ _ L' L' (by omega) H) ?_));clear H;rintro v w ⟨rfl,H⟩;rw[decide_eq_true rfl];replace H:=H.drop.drop;refine J4 H ?_;replace H:=Js [2,2,1,0,0] 0 H;exact Q3 (Jy (Z1 H.drop) rfl fun w' H'=>⟨rfl,s',_,told,J',H'⟩)
 rw[show (K == 1)=false by simpa using hK1];refine UW H ?_;by_cases hK2:K=2
 ·subst hK2;refine Vr H ?_;replace H:=Js [1,3,0,0,0] 0 H;refine J1 H ?_;clear H;intro w H;refine S7 H ?_;cases hf:QV s.par rg with
  | none=>
   have ZQ:Yb m.P rg=false:=by rw[← Cb J.R,hf];rfl
   refine Jo 6 H ?_;refine Jk rfl rfl (yR c s rg hf H) ?_;clear H;rintro v w ⟨rfl,H⟩;refine KB H ?_;replace H:=Js [3,0,0,0,0] 0 H;refine J1 H ?_;clear H;intro w H;refine Wx H ?_;refine Jk rfl rfl (yW mo m rg ZQ H) ?_;clear H;rintro v w ⟨rfl,H⟩;refine NW H ?_;refine MO H ?_;replace H:=Js [2,2,1,0,0] 0 H;exact Q3 (Jy (Z1 H.drop) rfl fun w' H'=>⟨rfl,s,m,told,Jn,H'⟩)
  | some q=>
   obtain⟨id,rfl,OS,lP,K9⟩:=(J.R.tree _ _).1 ((YI J.R.nd).1 hf);obtain⟨qn,rfl⟩:∃ qn:Nat,q=qn:=⟨q.toNat,by omega⟩;refine Jo 6 H ?_;refine Jk rfl rfl (xG c s (id:Int) (qn:Int) hf J.T H) ?_;clear H;rintro v w (⟨hz,rfl,H⟩|⟨hz,rfl,s',hM,H⟩)
   ·refine KB H ?_;replace H:=Js [3,0,0,0,0] 0 H;refine J1 H ?_;clear H;intro w H;refine Wx H ?_;refine Jk rfl rfl (kj mo m id (qn:Int) OS lP K9 H) ?_;clear H;rintro v w (⟨_,rfl,H⟩|⟨UX,_⟩)
    case inr=>exact absurd hz UX
    refine NW H ?_;refine MO H ?_;replace H:=Js [2,2,1,0,0] 0 H;exact Q3 (Jy (Z1 H.drop) rfl fun w' H'=>⟨rfl,s,m,told,Jn,H'⟩)
   ·have J':=J.merge hf (by omega) hM;refine KB H ?_;replace H:=Js [3,0,0,0,0] 0 H;refine J1 H ?_;clear H;intro w H;refine Wx H ?_;refine Jk rfl rfl (kj mo m id (qn:Int) OS lP K9 H) ?_;clear H;rintro v w (⟨UX,_⟩|⟨_,rfl,H⟩)
    ·exact absurd UX hz
    rw[Int.toNat_natCast] at H;refine KB H ?_;refine Y7 H ?_;rw[XQ ((qn:Nat):Int)];refine DL H ?_;refine J4 H ?_;replace H:=Js [2,2,1,0,0] 0 H;exact Q3 (Jy (Z1 H.drop) rfl fun w' H'=>⟨rfl,s',_,told,J',H'⟩)
 rw[show (K == 2)=false by simpa using hK2];refine UW H ?_;rw[show (K == 3)=false by simpa using yB];refine Ay H ?_;replace H:=Js [4,0,0,0,0] 0 H;exact Q3 (Jy (Z1 H.drop) rfl fun w' H'=>⟨rfl,s,m,told,Jn,H'⟩)
theorem yC {s:CS} {r:Int} {l:List (Nat×Nat)} (h:Gi s r l=0):l.length≤64∧Gh s.tab r [] l=0:=by
 unfold Gi at h;split at h
 ·cases h
 ·rename_i h1;split at h
  ·rename_i h2;exact absurd h h2
  ·rename_i h2;exact⟨by omega,Classical.not_not.1 h2⟩
theorem yD {m:MS} {r:Int} {os:List Int} (h:Xp m r os=0):Gc m.P r=0:=by
 unfold Xp at h;split at h
 ·cases h
 ·rename_i h1;split at h
  ·cases h
  ·split at h
   ·rename_i h2;exact absurd h h2
   ·split at h
    ·cases h
    ·rename_i h3;unfold Gc;rw[if_neg (fun h4=>h1 h4.2),if_neg h3]
theorem yE [Q4] (p:Nat) (m:MS) (r:Nat) (os:List Nat) (al:Option Addr) (cl:Nat) (hd:Gc m.P (r:Int)=0) (BJ:m.P.length < 100000) (Ah:∀ o∈os,o < m.objs.length) (hl:os.length≤64) (OL:List Int) (EA:OL=os.map fun o:Nat=>(o:Int)) {w:World} {fr:List Q2} (H:Q0 w (V0 p m::IL (.slice al OL.length cl) OL::fr)) :
  Calls Tryz.prog 104 #[pp p,.int .i64 r,.slice al OL.length cl] w (ret fun v w'=>v = .int .i64 m.P.length∧Q0 w' (V0 p (E8 m r os)::IL (.slice al OL.length cl) OL::fr)):=by
 have e:OL.length=os.length:=by rw[EA,length_map]
 have h:=wN p m r os al cl hd BJ Ah hl (w:=w) (fr:=fr) (by rw[Le,← EA,← e];exact H);rw[Le,← EA,← e] at h;exact h
theorem yF [Q4] (p:Nat) (s:CS) (m:MS) (told:List (Nat×Nat)) (n:Nat) (J:Zl s m told n) (hn:n≤60) (k A B C i g:Int) (X:Nat) (hX:X < 18446744073709551616) (vW:Value) (ws:List Nat) (Yq:∀ x∈ws,x < 18446744073709551616) (raw:Bool) (rg:Int) (vL:Value) (L:List Int) (hL:L.length≤80)
  {w:World} {fr:List Q2} [hT:Z6 0 Lib.deBruijn64tab fr] (Kd:Ya fr vW ws.length 1 (Qi ws)) (AH:Ya fr vL L.length 1 (Qn L)) (H:Q0 w (UO p s m told::fr)) :
  Calls Tryz.prog 36 #[.agg (HE 3 k A B C X vW raw i g rg vL).toArray,pp p] w (ret fun v w'=>v = .bool true∧∃ s' m' told',Zl s' m' told' (n+1)∧Q0 w' (UO p s' m' told'::fr)):=by
 obtain⟨_,adW,capW,rfl,_⟩:=id Kd;obtain⟨_,adL,capL,rfl,_⟩:=id AH;have hO:=J.O;have hQ:=J.Q;have Qw:=J.R.len;have bj:=az J.R J.T;have Jn:Zl s m told (n+1):=⟨J.R,J.I,J.T,J.P,J.G,by omega,by omega⟩
 have Oj:∀ (k g:Nat) (e:Q8),s.tab[k]? = some ⟨g,some e⟩→g < 255:=fun k g e hk=>by
  have:=J.G k _ hk;dsimp only at this;omega
 refine QQ Tryz.func36 rfl (by kernel_rfl) ?_;refine J8 H ?_;clear H;intro b2 w H;refine DW H ?_;refine J2 H ?_;refine F8 H ?_;refine UW H ?_;obtain⟨c,mo,a,cap,H⟩:=Dx H.swap;obtain⟨_,_,hw,_,_⟩:=Y9 H.swap;obtain⟨_,_,_,_,_,_,_,Ul,_⟩:=GA (H.sel [2,0,0,0] 0);refine UW H ?_;refine UW H ?_;refine Vr H ?_;replace H:=Js [0,2,0,0,0] 0 H;refine NU H ?_;refine Jc rfl rfl (wv p c mo a cap told (by omega) _ L (by omega) AH.there.there.there H) ?_;clear H;rintro v w ⟨ys,vt,vo,rfl,Ox,YJ,H⟩;generalize hTL:ys.map (·.1)=TL at H;generalize EA:ys.map (·.2)=OL at H;obtain⟨at',ct,rfl⟩:=QI (m:=TL.length) H (Cc _) (by decide);obtain⟨ao,co,rfl⟩:=QI (m:=OL.length) H.drop (YC _) (by decide);have Z0:TL.length=ys.length:=by rw[← hTL,length_map]
 have Y5:OL.length=ys.length:=by rw[← EA,length_map]
 refine U2 H ?_;replace H:=Js [4,0,0,0,0] 0 H;refine J1 H ?_;clear H;intro w H;refine Ja 0 ?_;refine Ja 1 ?_;refine Jf 2 ?_;refine Jl 3 [7] H ?_;refine Jf 4 ?_;refine Jl 5 [7] H ?_;refine Ja 6 ?_;cases hf:QV s.par rg with
 | none=>
  have ZQ:Yb m.P rg=false:=by rw[← Cb J.R,hf];rfl
  have hW:Xp m rg OL=15:=by unfold Xp;rw[if_pos ZQ]
  refine Jo 7 H ?_;refine Jk rfl rfl (lO c s rg (.slice at' TL.length ct) hf H) ?_;clear H;rintro v w ⟨rfl,H⟩;refine FF H ?_;replace H:=Js [5,2,0,0,0,0] 0 H;refine J1 H ?_;clear H;intro w H;refine ND H ?_;refine Jk rfl rfl (Ou mo m rg OL ao co (by omega) H) ?_;clear H;rintro v w ⟨rfl,H⟩;rw[hW];refine WY H ?_;refine Wt H ?_;refine WQ H ?_;refine Wr H ?_;refine GL H ?_;refine J4 H ?_;replace H:=Js [6,3,1,2,1,0,0] 0 H;exact Q3 (Jy (Z1 H.drop.drop.drop) rfl fun w' H'=>⟨rfl,s,m,told,Jn,H'⟩)
 | some q=>
  obtain⟨r,rfl,ZK,yH,K9⟩:=(J.R.tree _ _).1 ((YI J.R.nd).1 hf);have Qx:(QV s.par (r:Int)).isSome=true:=by rw[hf];rfl
  have UD:=J.R.last;have U6:=vp J.R hw Qx YJ;rw[hTL,EA] at U6;refine Jo 7 H ?_;refine Jk rfl rfl (lR c s r Qx J.T J.P (by omega) (.slice at' TL.length ct) TL (by omega) H) ?_;clear H;rintro v w (⟨hc,rfl,H⟩|⟨hc,rfl,RM,H⟩|⟨hc,rfl,Z,s',hZ,hS,H⟩)
  ·refine FF H ?_;replace H:=Js [5,2,0,0,0,0] 0 H;refine J1 H ?_;clear H;intro w H;refine ND H ?_;refine Jk rfl rfl (Ou mo m r OL ao co (by omega) H) ?_;clear H;rintro v w ⟨rfl,H⟩;rw[← U6];refine WY H ?_;generalize Gi s r TL=E at hc U6;refine XE H ?_;refine Vj H ?_;rw[show (((E:Nat):Int) != 0)=true by rw[bne_iff_ne];omega];refine NK H ?_;rw[XQ ((E:Nat):Int)];refine Rb H ?_;refine J4 H ?_;replace H:=Js [6,3,1,2,1,0,0] 0 H;exact Q3 (Jy (Z1 H.drop.drop.drop) rfl fun w' H'=>⟨rfl,s,m,told,Jn,H'⟩)
  ·refine FF H ?_;replace H:=Js [5,2,0,0,0,0] 0 H;refine J1 H ?_;clear H;intro w H;refine ND H ?_;refine Jk rfl rfl (Ou mo m r OL ao co (by omega) H) ?_;clear H;rintro v w ⟨rfl,H⟩;rw[← U6,hc];refine WY H ?_;refine Wt H ?_;refine Ig H ?_;refine WQ H ?_;replace H:=Js [2,0,0] 0 H;obtain⟨u,mem,UK,Zo,H⟩:=Y9 H;refine Ao H ?_;refine Xu H ?_;refine Ra H ?_;replace H:=Js [3,0,0,0] 0 H;refine QS rfl rfl rfl (V1 (a:=[]) (b:=[]) rfl rfl (call (Ip u.sp s.size mem s.own H) ?_));clear H;rintro v w ⟨rfl,H⟩;replace H:=Js [1,1,1,0] 0 H;replace H:=VJ UK Zo H;refine Zm H ?_;refine QS rfl rfl rfl (Gk rfl rfl ?_);refine Zm H ?_;have hTO:TL.length=OL.length:=by omega
   rw[show decide (((s.own.length - (s.own.filter (· != 0)).length:Nat):Int) < ((OL.length:Nat):Int))=true from decide_eq_true (by omega)];refine J4 H ?_;replace H:=Js [6,3,2,2,0,0,0] 0 H;exact Q3 (Jy (Z1 H.drop.drop.drop) rfl fun w' H'=>⟨rfl,s,m,told,Jn,H'⟩)
  ·refine FF H ?_;replace H:=Js [5,2,0,0,0,0] 0 H;refine J1 H ?_;clear H;intro w H;refine ND H ?_;refine Jk rfl rfl (Ou mo m r OL ao co (by omega) H) ?_;clear H;rintro v w ⟨rfl,H⟩;rw[← U6,hc];refine WY H ?_;refine Wt H ?_;refine Ig H ?_;refine YS H ?_;refine J1 H ?_;clear H;intro w H;refine Ii H ?_;refine Mv H ?_;refine Jl 7 [11] H ?_;refine Jf 8 ?_;refine Jl 9 [11] H ?_;refine Ja 10 ?_;have Ed:Xp m r OL=0:=by rw[← U6];exact hc
   obtain⟨hlT,lS⟩:=yC hc;rw[← hTL] at lS hZ;obtain⟨OF,LA,bI⟩:=yX J.R YJ lS hZ;have J':=J.split hw Qx hS bI;have Vi:(ys.map fun y=>y.2.toNat).length=ys.length:=length_map _;have lT:OL=(ys.map fun y=>y.2.toNat).map fun o:Nat=>(o:Int):=by rw[← EA];exact LA
   generalize (ys.map fun y=>y.2.toNat)=os at OF lT J' Vi;refine Jo 11 H ?_;refine Jk rfl rfl (yE mo m r os ao co (yD Ed) (by omega) OF (by omega) OL lT H) ?_;clear H;rintro v w ⟨rfl,H⟩;refine Ja 12 ?_;rw[UD,XQ ((m.P.length:Nat):Int)];refine B0 H ?_;replace H:=Js [6,3,1,2,1,0,0] 0 H;exact Q3 (Jy (Z1 H.drop.drop.drop) rfl fun w' H'=>⟨rfl,s',_,told,J',H'⟩)
structure ZN where
 K:Int
 a:Ac
 rg:Int
 vL:Value
 L:List Int
def UT (x:ZN):List Value:=HE x.K x.a.k x.a.A x.a.B x.a.C x.a.X x.a.vW x.a.raw x.a.i x.a.g x.rg x.vL
def AI (l:List ZN):List Value:=l.flatMap UT
def EB (fr:List Q2) (x:ZN):Prop:=OK fr x.a∧Ya fr x.vL x.L.length 1 (Qn x.L)
theorem EB.there {A:Q2} {fr:List Q2} {x:ZN} (h:EB fr x):EB (A::fr) x:=⟨⟨h.1.1,h.1.2.1,h.1.2.2.there⟩,h.2.there⟩
theorem yI (l:List ZN):(AI l).length=l.length*12:=by
 induction l with
 | nil=>rfl
 | cons p L ih=>simp only[AI,UT,flatMap_cons,length_append,length_cons,length_nil] at ih ⊢;omega
theorem yJ {L:List ZN} {i:Nat} {x:ZN} (h:L[i]? = some x):∀ j v,(UT x)[j]? = some v→(AI L)[i*12+j]? = some v:=by
 induction L generalizing i with
 | nil=>simp at h
 | cons y L ih=>
  intro j v hj;have Tr:j < 12:=(List.getElem?_eq_some_iff.1 hj).1;cases i with
  | zero=>
   simp at h;subst h;show (UT y++L.flatMap UT)[0*12+j]? = _;rw[Nat.zero_mul,Nat.zero_add,getElem?_append_left Tr];exact hj
  | succ i=>
   have:=ih (i:=i) (by simpa using h) j v hj;show (UT y++L.flatMap UT)[(i+1)*12+j]? = _;rw[getElem?_append_right (by show 12≤_;omega)];show (L.flatMap UT)[(i+1)*12+j - 12]? = _;rw[show (i+1)*12+j - 12=i*12+j by omega];exact this
theorem ld {c:List Value} {o n:Nat} {L:List ZN} (h:QY c o n (AI L)) {i:Nat} {x:ZN} (hp:L[i]? = some x):QY c (o+i*12) 12 (UT x):=
 h.part (es:=UT x) fun j v hj=>yJ hp j v hj
theorem yL {i:Nat} (h:i < 9223372036854775807):Value.int .i64 (IntKind.i64.wrap ((i:Int)+1)) = .int .i64 ((i+1:Nat):Int):=by
 rw[Qg (by omega) (by omega)];rfl
theorem sls_rd [Q4] {w:World} {l:List Q2} {E k m cap:Nat} {a:Option Addr} {c:List Value} (hc:c.length=m*k) (H:Q0 w (QE E k (.slice a m cap) c::l)):∃ A:Q2,Q0 w (A::l)∧Ya (A::l) (.slice a m cap) m k c:=by
 by_cases hm:m=0
 ·exact⟨prop True,Q0.prop.2 ⟨trivial,H.drop⟩,hc,a,cap,rfl,.inl hm⟩
 ·obtain⟨b,s,rfl,H,_⟩:=VX H (by omega);refine⟨_,H,hc,_,cap,rfl,.inr ⟨b,0,E,(0,0),c++s,rfl,inferInstance,?_⟩⟩;rw[← hc];refine QY.of_get fun j v hj=>?_;rw[Nat.zero_add,getElem?_append_left (List.getElem?_eq_some_iff.1 hj).1];exact hj
theorem yM [Q4] (v:Value) (l:List Ac) (hl:l.length≤9223372036854775807) {w:World} {fr:List Q2} (hr:Ya fr v l.length 9 (AR l)) (QX:∀ x∈l,OK fr x) (H:Q0 w fr) :
  Calls Tryz.prog 34 #[v] w (ret fun r w'=>∃ b:Bool,r = .int .i64 (if b then 1 else 0)∧(b=false→l.length≤60)∧Q0 w' fr):=by
 refine QQ Tryz.func34 rfl (by kernel_rfl) ?_;refine Vl H ?_;obtain⟨_,ad,cap,rfl,_⟩:=id hr;refine Z4 H ?_;refine Jc rfl rfl (sz _ l hl hr QX H) ?_;clear H;rintro r w ⟨b,rfl,hb,H⟩;refine J2 H ?_;cases b with
 | true=>
  refine ZD H ?_;exact Q3 (Jy H rfl fun w' H'=>⟨true,rfl,fun h=>(by cases h),H'⟩)
 | false=>
  refine Ay H ?_;exact Q3 (Jy H rfl fun w' H'=>⟨false,rfl,hb,H'⟩)
theorem yN [Q4] (v:Value) (l:List ZN) (hl:l.length*128≤140737488351232) {w:World} {fr:List Q2} (hr:Ya fr v l.length 12 (AI l)) (QX:∀ x∈l,EB fr x) (H:Q0 w fr) :
  Calls Tryz.prog 9 #[v] w (ret fun r w'=>∃ b,r = .bool b∧(b=false→l.length≤60∧∀ x∈l,x.L.length≤80)∧Q0 w' fr):=by
 obtain⟨h0,ad,cap,rfl,Qu⟩:=hr;refine QQ Tryz.func9 rfl (by kernel_rfl) ?_;refine Vl H ?_;refine Ei H ?_;refine Qq (fun ms σ w n=>ms=[]∧∃ (i:Nat) (vi:Value),i≤l.length∧n=l.length - i∧(∀ x∈l.take i,x.L.length≤80)∧σ 3=vi∧σ 6 = .slice ad l.length cap∧σ 7 = .int .i64 l.length∧σ 8 = .int .i64 i∧Q0 w (QE 93 9 vi (AR ((l.take i).map ZN.a))::fr)) (m:=l.length) ⟨rfl,0,_,by omega,rfl,fun x hx=>(by simp at hx),rfl,rfl,rfl,rfl,Zy H⟩ ?_;clear H;rintro ms σ w n ⟨rfl,i,vi,hi,rfl,Zg,g3,g6,g7,g8,H⟩;obtain⟨ai,mi,ci,rfl⟩:=V8 H;rw[Q1 g3,Q1 g6,Q1 g7,Q1 g8];refine J7 H ?_;refine Qm rfl (fun h=>QF ?_) (fun h=>Qv ?_)
 ·have Q6:i < l.length:=by omega
  have hy:=getElem?_eq_getElem Q6;have Qj:l.take (i+1)=l.take i++[l[i]]:=by rw[take_add_one,hy];rfl
  generalize l[i]=y at hy Qj;have Ts:=QX y (mem_of_getElem? hy)
  rcases Qu with hz|⟨b,o,E,fz,c,rfl,hA,Qu⟩
  ·omega
  haveI:=hA;obtain⟨K,⟨k,A,B,C,X,vW,ws,raw,i1,gg1⟩,rg,vL,L⟩:=y;obtain⟨⟨_,_,_,adW,capW,Rn,_⟩,_,adL,capL,EC,_⟩:=Ts;replace Rn:vW = .slice adW ws.length capW:=Rn;replace EC:vL = .slice adL L.length capL:=EC;subst Rn EC;refine Z7 H ?_;refine Jd ?_;refine Q5 rfl (Vz H rfl (ld Qu hy) rfl ?_);refine VS H ?_;clear H;intro b5 w H;refine J5 H ?_;clear H;intro w H;refine J2 H ?_;replace H:Q0 w (pts b5 (row 95 (HE K k A B C X (.slice adW ws.length capW) raw i1 gg1 rg (.slice adL L.length capL)))::_):=H;refine Ew H ?_;refine W7 H ?_;by_cases P5:(L.length:Int) > 80
  ·rw[show decide ((L.length:Int) > 80)=true from decide_eq_true (by omega)];refine ZD H ?_;exact Q3 (Jy H.drop.drop rfl fun w' H'=>⟨true,rfl,fun h=>(by cases h),H'⟩)
  ·rw[show decide ((L.length:Int) > 80)=false from decide_eq_false (by omega)];refine Et H ?_;refine NR H ?_;refine Uw H ?_;clear H;intro b19 w H;replace H:=Js [2,0,0] 0 H
   refine Q5 rfl (oE H rfl rfl (by repeat first|exact .nil _|apply QY.cons rfl) rfl (by decide) (fun n hn=>by
    rw[Tq,length_map,length_take] at hn;omega) rfl rfl ?_);clear H;intro v20 w H
   obtain⟨a20,m20,c20,rfl⟩:=V8 H;refine J0 H ?_;replace H:=Js [1,1,0] 0 H;replace H:=H.drop.drop
   have e1:AR ((l.take i).map ZN.a)++[.int .i64 k,.int .i64 A,.int .i64 B,.int .i64 C,.int .u64 X,.slice adW ws.length capW,.bool raw,.int .i64 i1,.int .i64 gg1]=AR ((l.take (i+1)).map ZN.a):=by
    rw[Qj,map_append];unfold AR;rw[flatMap_append];rfl
   rw[e1] at H;refine J3 H ?_;refine⟨_,⟨rfl,i+1,_,Q6,rfl,fun x hx=>?_,rfl,rfl,rfl,yL (by omega),H⟩,by omega⟩;rw[Qj] at hx
   rcases mem_append.1 hx with hx|hx
   ·exact Zg x hx
   ·rw[mem_singleton] at hx;subst hx;show L.length≤80;omega
 ·obtain rfl:i=l.length:=by omega
  rw[take_length] at H Zg;have A1:(l.map ZN.a).length=l.length:=length_map _;obtain⟨ai,ci,hv⟩:=QI (m:=(l.map ZN.a).length) H (Tq _) (by decide);injection hv with hv1 hv2 hv3
  subst hv1 hv2 hv3;refine Z4 H ?_;obtain⟨A,H,hR⟩:=sls_rd (Tq _) H
  refine Q5 rfl (V1 (a:=[]) (b:=[]) rfl rfl (call (yM _ (l.map ZN.a) (by omega) hR (fun x hx=>by
     obtain⟨y,hy,rfl⟩:=mem_map.1 hx;have:=(QX y hy).1;exact⟨this.1,this.2.1,this.2.2.there⟩) H) ?_))
  clear H;rintro r w ⟨b,rfl,hb,H⟩;cases b with
  | true=>
   refine J4 H ?_;exact Q3 (Jy H.drop rfl fun w' H'=>⟨true,rfl,fun h=>(by cases h),H'⟩)
  | false=>
   refine J4 H ?_;have:=hb rfl;exact Q3 (Jy H.drop rfl fun w' H'=>⟨false,rfl,fun _=>⟨by omega,Zg⟩,H'⟩)
def jB:MS:=⟨[-1,0,1],[L0],[]⟩
def jC:MS:=BA jB 1 1 0
def jD:MS:=BA jC 2 1 0
def jE:MS:=(Zr jD 0 1 1).1
def jF:MS:=AE jE [2]
theorem lf:Vc jB:=⟨⟨by simp[jB],by simp[jB]⟩,⟨by simp[jB],fun l h=>by simp[jB] at h;subst h;exact tV⟩,(fun x h=>by simp[jB] at h),by simp[jB]⟩
theorem lg:YO jB 1 1 0=(2,0):=by decide
theorem lh:YO jC 2 1 0=(2,0):=by decide
theorem li:Vc jC:=T3 (by rw[lg]) lf (by simp[jB])
theorem br:Vc jD:=T3 (by rw[lh]) li (by show (jB.objs++[_]).length < _;simp[jB])
theorem yO:Vc jE:=by
 show Vc (G4 jD 0 { X7 1 1 0 2 with kind:=(X7 1 1 0 2).kind.set 1 2,to:=(X7 1 1 0 2).to.set 1 1 });exact Dm br (T0 (br.objs _ (show X7 1 1 0 2∈[X7 1 1 0 2,X7 2 1 0 2] from mem_cons_self)) 1 2 1 (fun _=>by decide))
theorem yP {s:CS} {m:MS} {told:List (Nat×Nat)} (R:Rel s m told) (h:m.P=[-1,0,1]) (r q:Int):QV s.par r=some q↔(r=1∧q=0)∨(r=2∧q=1):=by
 rw[YI R.nd,R.tree,h];constructor
 ·rintro⟨k,rfl,h1,h2,h3⟩
  match k,h1,h2 with
  | 1,_,h2=>injection h2 with h2;exact .inl ⟨rfl,h2.symm⟩
  | 2,_,h2=>injection h2 with h2;exact .inr ⟨rfl,h2.symm⟩
  | k+3,_,h2=>cases h2
 ·rintro(⟨rfl,rfl⟩|⟨rfl,rfl⟩)
  ·exact⟨1,rfl,by omega,rfl,by omega⟩
  ·exact⟨2,rfl,by omega,rfl,by omega⟩
theorem yS {L:List Int} {x:Int} (QP:L.Nodup) (h:∀ c,c∈L↔c=x):L=[x]:=by
 cases L with
 | nil=>have:=(h x).2 rfl;cases this
 | cons a L=>
  obtain rfl:=(h a).1 mem_cons_self;cases L with
  | nil=>rfl
  | cons b L=>
   obtain rfl:=(h b).1 (by simp);simp at QP
theorem lj [Q4] {w:World} {fr:List Q2} [hT:Z6 0 Lib.deBruijn64tab fr] (H:Q0 w fr) :
  Calls Tryz.prog 8 #[] w (ret fun v w'=>v = .bool true∧Q0 w' fr):=by
 have Rs0:=jQ 6 8 6;have ll:R5 (WO 6 8 6) [2,2,0]=({ WO 6 8 6 with lays:=[L0] },1,0):=by rw[Fr tQ];rfl
 refine QQ Tryz.func8 rfl (by kernel_rfl) ?_;refine IA H ?_;refine Jc rfl rfl (gu 6 8 6 (by omega) (by omega) (by omega) (by omega) (by omega) (by omega) H) ?_;clear H;rintro v w ⟨c,rfl,H⟩;replace H:Q0 w (QD c (WO 6 8 6)::fr):=H;refine U2 H ?_;refine Y7 H ?_;refine Zm H ?_;refine ID H ?_;refine Z4 H ?_;refine Uw H ?_;clear H;intro b22 w H;replace H:=H.swap;have Qu:Ya (pts b22 (row 83 [.int .u64 2,.int .u64 2,.int .u64 0])::fr) (.slice (some ⟨b22,0,none⟩) 3 3) 3 1 (Qi [2,2,0]):=⟨rfl,_,_,rfl,.inr ⟨b22,0,_,_,_,rfl,inferInstance,.cons rfl (.cons rfl (.cons rfl (.nil _)))⟩⟩;refine Jc rfl rfl (gr c (WO 6 8 6) _ [2,2,0] (by decide) Qu H) ?_;clear H;rintro v w ⟨rfl,H⟩;rw[ll] at H ⊢
 have RA:Rel { WO 6 8 6 with lays:=[L0] } ⟨[-1],[L0],[]⟩ []:=by
  have h:=(iD Rs0 tY [2,2,0]).2;rw[ll] at h;exact h
 refine II H ?_;refine Jc rfl rfl (TA c _ 0 (by decide) H) ?_;clear H;rintro v w (⟨h1,rfl,H⟩|⟨_,ob,ob2,rfl,H⟩)
 ·exact absurd rfl h1
 have RO:=TO RA (parent:=0) rfl ob ob2;generalize hsA:Dr { WO 6 8 6 with lays:=[L0] } 0 ob ob2=sA at H RO;have lm:sA.par=[(1,0)]∧sA.last=1:=by rw[← hsA];exact⟨rfl,rfl⟩
 refine II H ?_;have PS:Ga sA.par 1=0:=by rw[lm.1];decide
 refine Jc rfl rfl (TA c _ 1 (by rw[lm.2];decide) H) ?_;clear H;rintro v w (⟨h1,rfl,H⟩|⟨_,oc,oc2,rfl,H⟩)
 ·exact absurd PS h1
 have RB:=TO RO (parent:=1) (by decide) oc oc2;generalize hsB:Dr sA 1 oc oc2=sB at H RB;have bN:sB.size=8:=by rw[← hsB,← hsA];rfl
 have Ci:sB.own=List.replicate 6 0:=by rw[← hsB,← hsA];rfl
 have P6:sB.tab=List.replicate 6 ⟨0,none⟩:=by rw[← hsB,← hsA];rfl
 have FB:Cg sB []:=⟨⟨6,by rw[P6];rfl⟩,rfl,io (by rw[← hsB,← hsA];rfl) (by rw[P6];exact iq)⟩;replace RB:Rel sB jB []:=RB;refine II H ?_;refine Jc rfl rfl (OX c sB 1 1 0 H) ?_;clear H;rintro v w ⟨i1,g1,e1,sC,rfl,Bd,H⟩;obtain⟨rfl,rfl,rfl,RC,FC,Vo,ZR,ln⟩:=jV RB lf FB Bd lg bN (by rw[P6];decide) ⟨0,by rw[Ci];decide,by rw[Ci];rfl⟩;rw[P6] at ln;rw[Ci] at ZR;replace RC:Rel sC jC [(0,1)]:=RC;replace FC:Cg sC [(0,1)]:=FC
 have Zw:∃ a,a < sC.own.length∧sC.own.getD a 0=0:=by
  obtain⟨hl,a0,k0,Xl,hg⟩:=ZR
  have hz:∀ a,a≠a0→sC.own.getD a 0=0:=by
   intro a ha;refine Classical.byContradiction fun h=>?_
   rcases hg a h with h1|h1
   ·exact h1 (TT 6 a)
   ·omega
  have hl4:sC.own.length=6:=hl;by_cases h0:a0=0
  ·exact⟨1,by omega,hz 1 (by omega)⟩
  ·exact⟨0,by omega,hz 0 (by omega)⟩
 refine YA H ?_;clear H;intro b3 w H;refine J5 H ?_;clear H;intro w H;refine J0 H ?_;replace H:=H.swap;refine Z4 H ?_;refine Jc rfl rfl (OX c sC 2 1 0 H) ?_;clear H;rintro v w ⟨i2,g2,e2,sD,rfl,Lh,H⟩;obtain⟨rfl,rfl,rfl,RD,FD,Y2,Zj,hD3⟩:=jV RC li FC Lh lh Vo (by rw[ln];decide) Zw;replace RD:Rel sD jD [(0,1),(1,1)]:=RD;refine YA H ?_;clear H;intro b5 w H;refine J5 H ?_;clear H;intro w H;refine J0 H ?_;replace H:=Js [1,0,0] 0 H;refine Ao H ?_;refine DZ H ?_;refine DG H ?_;refine DG H ?_;obtain⟨_,_,lp,_,_⟩:=Y9 H;have P0:K8 [(0,1),(1,1)] 0 1 0 := .inl ⟨0,1,0,rfl,rfl,rfl,rfl⟩;have P1:K8 [(0,1),(1,1)] 1 1 1 := .inl ⟨1,1,1,rfl,rfl,rfl,rfl⟩;obtain⟨t1,RE⟩:=iW RD lp br P0 P1 1;rw[show (Zr jD 0 1 1).2=0 by decide] at t1;replace RE:Rel (G6 sD 0 1 1 1 1).1 jE [(0,1),(1,1)]:=RE;have IE:=il lp FD.inv 0 1 1 1 1;have shE:=iv sD 0 1 1 1 1;refine QS rfl rfl rfl (V1 (a:=[]) (b:=[]) rfl rfl (call (gp c sD 0 1 1 1 1 H) ?_));clear H;rintro v w ⟨rfl,H⟩;rw[t1];generalize (G6 sD 0 1 1 1 1).1=sE at H RE IE shE
 have yT:∀ (k g:Nat) (e:Q8),sE.tab[k]? = some ⟨g,some e⟩→g < 255:=by
  intro k g e hk;obtain⟨⟨r,hs⟩,_,_⟩:=id FD;rw[← shE] at hs
  rcases Fx hs hk with ⟨_,h1,_⟩|⟨_,_,h1,_⟩
  ·have h1:g=1:=h1;omega
  ·have h1:g=0:=h1;omega
 have P7:=yP RE rfl
 have bw:ZJ sE.par:=by
  refine⟨RE.nd,fun r q hr=>?_⟩
  rcases (P7 r q).1 hr with ⟨rfl,rfl⟩|⟨rfl,rfl⟩
  ·exact⟨by omega,by omega,.inl rfl⟩
  ·exact⟨by omega,by omega,.inr (by rw[(P7 1 0).2 (.inl ⟨rfl,rfl⟩)];rfl)⟩
 refine W2 H ?_;refine Z4 H ?_;refine Jc rfl rfl (aN c sE 2 bw (by rw[(P7 2 1).2 (.inr ⟨rfl,rfl⟩)];rfl) IE yT H) ?_;clear H;rintro v w ⟨u,L,sF,rfl,UN,US,Cu,Ol,hF,H⟩
 have ya:L=[2]:=yS UN fun c=>by
  rw[Cu];constructor
  ·intro d;cases d with
   | self=>rfl
   | kid hd hf=>
    rcases (P7 _ _).1 hf with ⟨rfl,rfl⟩|⟨rfl,rfl⟩
    ·have:=hd.ge bw;omega
    ·have:=hd.ge bw;omega
  ·rintro rfl;exact .self
 subst ya;obtain⟨aL,cL,rfl⟩:=QI H (YC [2]) (by decide);obtain⟨G,D,hT⟩:=hF.t;have RF:Rel sF jF [(0,1),(1,1)]:=ka (L:=[2]) RE yO IE hT;refine U2 H ?_
 have t4:Ys sF 0 1 1=(.grave,0):=by
  rcases TJ RF P0 1 with ⟨h1,h2⟩|⟨h1,n,j,x,h2,h3,h4,_,_,_,_,h5⟩
  ·exact absurd (by decide) h1
  ·obtain rfl:n=0:=by omega
   obtain rfl:j=1:=by omega
   rw[h5];have h6:jF.objs[0]? = some ⟨1,1,0,[0,0],[0,1],[0,0],true,false,false⟩:=by rfl
   rw[h6] at h4;injection h4 with h4
   rw[← h4];rfl
 replace H:=Js [1,0,0,0] 0 H;refine Xt H ?_;refine Jc rfl rfl (JD c sF 0 1 1 H) ?_;clear H;rintro v w ⟨rfl,H⟩;rw[t4];refine YA H ?_;clear H;intro b9 w H;refine J5 H ?_;clear H;intro w H;refine Mx H ?_;refine Zm H ?_;refine QS rfl rfl rfl (Ad H rfl rfl rfl ?_);clear H;intro b66 w H;replace H:Q0 w (IL (.slice (some ⟨b66,0,none⟩) 1 1) [2]::_):=RN rfl H;replace H:=Js [3,0,0,0,0,0] 0 H;have lq:=JG (.slice aL 1 cL) (.slice (some ⟨b66,0,none⟩) 1 1) [2] [2] (by decide) H;refine QS rfl rfl rfl (V1 (a:=[]) (b:=[]) rfl rfl (call (lq) ?_));clear lq;clear H;rintro v w ⟨rfl,H⟩;rw[show decide ([2]=([2]:List Int))=true from rfl];refine Jv ?_;refine Jv ?_;refine VG rfl rfl rfl rfl ?_;refine VG rfl rfl rfl rfl ?_;refine Jv ?_;refine Jv ?_;refine Ie H ?_;refine QS rfl rfl rfl (Hr rfl rfl rfl rfl (.inl rfl) rfl ?_);refine J4 H ?_;replace H:Q0 w fr:=H.drop.drop.drop.drop.drop.drop.drop;exact Q3 (Jy H rfl fun w' H'=>⟨rfl,H'⟩)
theorem yc [Q4] (p:Nat) (s:CS) (m:MS) (told:List (Nat×Nat)) (n:Nat) (J:Zl s m told n) (hn:n≤60) (K k A B C i g:Int) (X:Nat) (hX:X < 18446744073709551616) (vW:Value) (ws:List Nat) (Yq:∀ x∈ws,x < 18446744073709551616) (raw:Bool) (rg:Int) (vL:Value) (L:List Int) (hL:L.length≤80)
  {w:World} {fr:List Q2} [hT:Z6 0 Lib.deBruijn64tab fr] (Kd:Ya fr vW ws.length 1 (Qi ws)) (AH:Ya fr vL L.length 1 (Qn L)) (H:Q0 w (UO p s m told::fr)) :
  Calls Tryz.prog 36 #[.agg (HE K k A B C X vW raw i g rg vL).toArray,pp p] w (ret fun v w'=>v = .bool true∧∃ s' m' told',Zl s' m' told' (n+1)∧Q0 w' (UO p s' m' told'::fr)):=by
 by_cases hK:K=3
 ·subst hK;exact yF p s m told n J hn k A B C i g X hX vW ws Yq raw rg vL L hL Kd AH H
 ·exact yA p s m told n J hn K k A B C i g hK X hX vW ws Yq raw rg vL L hL Kd AH H
theorem yd [Q4] (z1 z2 z3:Int) (v:Value) (l:List ZN) (hl:l.length≤60) (P5:∀ x∈l,x.L.length≤80) {w:World} {fr:List Q2} [hT:Z6 0 Lib.deBruijn64tab fr] (hr:Ya fr v l.length 12 (AI l)) (QX:∀ x∈l,EB fr x) (H:Q0 w fr) :
  Calls Tryz.prog 10 #[.agg #[.int .i64 z1,.int .i64 z2,.int .i64 z3],v] w (ret fun r w'=>∃ p s m told,r = .tuple #[pp p,.bool true]∧Zl s m told 60∧Q0 w' (UO p s m told::fr)):=by
 obtain⟨_,ad,cap,rfl,Qu⟩:=id hr;refine QQ Tryz.func10 rfl (by kernel_rfl) ?_;refine J8 H ?_;clear H;intro b2 w H;refine J4 H ?_;refine XD H ?_;refine Jc rfl rfl (t8 z1 z2 z3 H) ?_;clear H;rintro r w ⟨p,n,size,slots,rfl,Xy,Gp,Vn,Yo,Nj,FN,H⟩;refine F4 H ?_;replace H:=H.swap.drop;refine Z4 H ?_;refine Ax H ?_;refine Qq (fun ms σ w n=>ms=[]∧∃ (i:Nat) (s:CS) (m:MS) (told:List (Nat×Nat)),i≤l.length∧n=l.length - i∧Zl s m told i∧σ 6=pp p∧σ 13 = .slice ad l.length cap∧σ 14 = .int .i64 l.length∧σ 15 = .int .i64 i∧Q0 w (UO p s m told::fr)) (m:=l.length) ⟨rfl,0,_,_,_,by omega,rfl,Zl.start n size slots,rfl,rfl,rfl,rfl,H⟩ ?_;clear H;rintro ms σ w n' ⟨rfl,i,s,m,told,hi,rfl,J,g6,g13,g14,g15,H⟩;rw[Q1 g6,Q1 g13,Q1 g14,Q1 g15];refine J7 H ?_;refine Qm rfl (fun h=>QF ?_) (fun h=>Qv ?_)
 ·have Q6:i < l.length:=by omega
  have hy:=getElem?_eq_getElem Q6;generalize l[i]=y at hy;have hm:=mem_of_getElem? hy;obtain⟨⟨hX,Yq,Kd⟩,AH⟩:=QX y hm;have hL:=P5 y hm
  rcases Qu with hz|⟨b,o,E,fz,c,rfl,hA,Qu⟩
  ·omega
  haveI:=hA;obtain⟨K,⟨k,A,B,C,X,vW,ws,raw,i1,gg1⟩,rg,vL,L⟩:=y;obtain⟨_,adW,capW,Rn,_⟩:=id Kd;obtain⟨_,adL,capL,EC,_⟩:=id AH;replace Rn:vW = .slice adW ws.length capW:=Rn;replace EC:vL = .slice adL L.length capL:=EC;subst Rn EC;refine Z7 H ?_;refine Jd ?_;refine Q5 rfl (Vz H rfl (ld Qu hy) rfl ?_);refine VS H ?_;clear H;intro b8 w H;refine J5 H ?_;clear H;intro w H;refine J2 H ?_;replace H:Q0 w (pts b8 (row 95 (HE K k A B C X (.slice adW ws.length capW) raw i1 gg1 rg (.slice adL L.length capL)))::_):=H;refine Ey H ?_;refine Jc rfl rfl (yc p s m told i J (by omega) K k A B C i1 gg1 X hX _ ws Yq raw rg _ L hL Kd.there AH.there H.swap) ?_;clear H;rintro r w ⟨rfl,s',m',told',J',H⟩;refine CV H ?_;exact⟨_,⟨rfl,i+1,s',m',told',Q6,rfl,J',rfl,rfl,rfl,Qh (by omega),H.swap.drop⟩,by omega⟩
 ·refine Vj H ?_;have KI:Zl s m told 60:=⟨J.R,J.I,J.T,J.P,J.G,by have:=J.O;omega,by have:=J.Q;omega⟩;exact Q3 (Jy H rfl fun w' H'=>⟨p,s,m,told,rfl,KI,H'⟩)
theorem ye {α:Type} {L:List α} {x:α} (hn:L.Nodup) (h:∀ c,c∈L↔c=x):L=[x]:=by
 cases L with
 | nil=>exact absurd ((h x).2 rfl) (by simp)
 | cons y l=>
  obtain rfl:y=x:=(h y).1 mem_cons_self;cases l with
  | nil=>rfl
  | cons z l=>
   exfalso;obtain rfl:z=y:=(h z).1 (mem_cons_of_mem _ mem_cons_self);rw[nodup_cons] at hn;exact hn.1 mem_cons_self
theorem lr (o:Option Q8) {f:Q8→Q8} (hf:∀ e,f e=e):o.map f=o:=by
 cases o with
 | none=>rfl
 | some e=>show some (f e)=some e;rw[hf]
theorem bz {s s':CS} {r:Int} (h:AC s r [] s'):s'.tab=s.tab:=by
 refine ext_getElem? fun k=>?_;cases hk:s.tab[k]? with
 | none=>
  have h1:=List.getElem?_eq_none_iff.1 hk;exact List.getElem?_eq_none_iff.2 (by rw[h.tabl];exact h1)
 | some t=>
  rw[h.tab k t hk,lr _ (fun e=>HG (by simp) e)]
theorem cQ {s:CS} (hw:WF s) (hT:ZJ s.par) {r:Int} (hr:(QV s.par r).isSome=true) {s':CS} {Z:List Pl} (h:AC s r Z s') :
  QV s.par ((s.last+1:Nat):Int)=none∧r≠((s.last+1:Nat):Int)∧QV s'.par ((s.last+1:Nat):Int)=some r∧(∀ c,QV s'.par c≠some ((s.last+1:Nat):Int))∧ZJ s'.par∧∀ c,c≠((s.last+1:Nat):Int)→QV s'.par c=QV s.par c:=by
 have GK:∀ x q,QV s.par x=some q→x≤s.last:=fun x q hx=>(hw.par.2.2 x q ((YI hT.nd).1 hx)).2
 have AK:r≤s.last:=by
  cases hf:QV s.par r with
  | none=>rw[hf] at hr;cases hr
  | some q=>exact GK _ _ hf
 have h0:QV s.par ((s.last+1:Nat):Int)=none:=by
  cases hf:QV s.par ((s.last+1:Nat):Int) with
  | none=>rfl
  | some q=>have:=GK _ _ hf;omega
 have MB:0≤r:=by
  cases hf:QV s.par r with
  | none=>rw[hf] at hr;cases hr
  | some q=>have:=hT.up _ _ hf;omega
 have EW:ZJ s'.par:=by
  rw[h.par];exact Tk hT (.inr hr) MB (fun x q hx=>(hw.par.2.2 x q hx).2) AK
 have Qx:QV s'.par ((s.last+1:Nat):Int)=some r:=(YI EW.nd).2 (by rw[h.par];simp)
 have A6:∀ c,c≠((s.last+1:Nat):Int)→QV s'.par c=QV s.par c:=fun c hc=>by
  cases hf:QV s.par c with
  | some q=>exact(YI EW.nd).2 (by rw[h.par];exact mem_append.2 (.inl ((YI hT.nd).1 hf)))
  | none=>
   cases Ze:QV s'.par c with
   | none=>rfl
   | some q=>
    have h1:=(YI EW.nd).1 Ze;rw[h.par] at h1
    rcases mem_append.1 h1 with h1|h1
    ·rw[(YI hT.nd).2 h1] at hf;cases hf
    ·rw[mem_singleton] at h1;injection h1 with h1 _
     exact absurd h1 hc
 refine⟨h0,by omega,Qx,fun c hc=>?_,EW,A6⟩;by_cases QM:c=((s.last+1:Nat):Int)
 ·rw[QM,Qx] at hc;injection hc with hc
  omega
 ·rw[A6 c QM] at hc;obtain⟨_,_,h1⟩:=hT.up _ _ hc
  rcases h1 with h1|h1
  ·omega
  ·rw[h0] at h1;cases h1
theorem yf {par:List (Int×Int)} {id:Int} (VZ:∀ c,QV par c≠some id) (c:Int):Ge par id c↔c=id:=by
 constructor
 ·intro d
  induction d with
  | self=>rfl
  | kid d hf ih=>subst ih;exact absurd hf (VZ _)
 ·rintro rfl;exact .self
structure cV (s s2:CS):Prop where
 lays:s2.lays=s.lays
 par:s2.par=s.par
 tab:s2.tab=s.tab
 own:s2.own=s.own
theorem yg {s s' s2:CS} (hw:WF s) (hT:ZJ s.par) {r:Int} (hr:(QV s.par r).isSome=true) (h:AC s r [] s') {L:List Int} (hN:L.Nodup) (hL:∀ c,c∈L↔Ge s'.par ((s.last+1:Nat):Int) c) (hF:LN s' L s2):L=[((s.last+1:Nat):Int)]∧cV s s2:=by
 obtain⟨n1,n2,n3,n4,n5,n6⟩:=cQ hw hT hr h;have UN:L=[((s.last+1:Nat):Int)]:=ye hN fun c=>by rw[hL,yf n4]
 refine⟨UN,?_⟩;obtain⟨G,D,t⟩:=hF.t;have ht:=bz h
 have hG:∀ k,k∉G:=fun k hk=>by
  obtain⟨g,e,h1,h2⟩:=(t.gone.2 k).1 hk;rw[ht] at h1;obtain⟨_,_,q,hq⟩:=hw.obj k g e h1;rw[UN,mem_singleton] at h2;rw[h2] at hq;rw[(YI hT.nd).2 hq] at n1;cases n1
 have hD:D=[]:=eq_nil_iff_forall_not_mem.2 fun x hx=>by
  obtain⟨⟨k,h1,_⟩,_⟩:=(t.cut x).1 hx;exact hG k h1
 subst hD;refine⟨t.lays.trans h.lays,?_,ext_getElem? fun k=>?_,?_⟩
 ·rw[t.par,UN,h.par];have:=n5.nd;rw[h.par] at this;have h1:=CF (l1:=s.par) (l2:=[]) (p:=(((s.last+1:Nat):Int),r)) this;rw[append_nil] at h1;exact h1
 ·cases hk:s.tab[k]? with
  | none=>
   have h1:=List.getElem?_eq_none_iff.1 hk;exact List.getElem?_eq_none_iff.2 (by rw[t.tabl,h.tabl];exact h1)
  | some x=>
   rw[t.tab k x (by rw[ht];exact hk),if_neg (hG k),lr _ (fun e=>jd k e)]
 ·have ho:s2.own.length=s.own.length:=t.own.trans h.own;have hz:=h.zero rfl;refine ext_getElem ho fun j j1 j2=>?_;have h5:=t.owns j;rw[hz,UN,if_neg,getD_eq_getElem?_getD,getD_eq_getElem?_getD,getElem?_eq_getElem j1,getElem?_eq_getElem j2] at h5
  ·exact h5
  ·intro h6;rw[mem_singleton,getD_eq_getElem?_getD,getElem?_eq_getElem j2] at h6;have h6:((s.own[j]:Nat):Int)=((s.last+1:Nat):Int):=h6;obtain⟨q,hq⟩:=hw.live j s.own[j] (getElem?_eq_getElem j2) (by omega);rw[h6] at hq;rw[(YI hT.nd).2 hq] at n1;cases n1
theorem cV.rel {s s2:CS} (h:cV s s2) {m:MS} {told:List (Nat×Nat)} (R:Xi s m told):Xi s2 m told:=
 ⟨R.len,by rw[h.lays];exact R.lays,fun r q=>by rw[h.par];exact R.tree r q,by rw[h.par];exact R.nd,fun o x k g h1 h2 h3=>by rw[h.tab];exact R.obj o x k g h1 h2 h3,fun o x k g h1 h2 h3=>by rw[h.tab];exact R.gone o x k g h1 h2 h3⟩
theorem yh {s s':CS} (hw:WF s) (VI:WF s') (hT:ZJ s.par) {r:Int} (hr:(QV s.par r).isSome=true) (h:AC s r [] s') {b:Nat} {M:List Nat} (hM:(((s.last+1:Nat):Int),b,M)∈s'.mns):M=[]:=by
 obtain⟨n1,_⟩:=cQ hw hT hr h;refine eq_nil_iff_forall_not_mem.2 fun k hk=>?_;obtain⟨g,e,h1,h2⟩:=((VI.mine _ hM).2 k).1 hk;rw[bz h] at h1;obtain⟨_,_,q,hq⟩:=hw.obj k g e h1;have h2:e.region=((s.last+1:Nat):Int):=h2;rw[h2] at hq;rw[(YI hT.nd).2 hq] at n1;cases n1
theorem lu (s:CS) (r:Int):Gi s r []=if s.par.length=64 then 5 else 0:=rfl
end Go.Proofs.YtmjdnljneifpcaaGreatDoor
