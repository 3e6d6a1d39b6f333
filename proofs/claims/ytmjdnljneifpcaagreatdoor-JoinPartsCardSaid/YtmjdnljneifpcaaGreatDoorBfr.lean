/- Cells: what is proved on the way: every input of the statement; no condition. Texts joined: SplR ActB JnA ActC ActD ActE JnB ActF EmpP PrsP. -/
import Derived.Test.YtmjdnljneifpcaaGreatDoorBfe
import Derived.Test.YtmjdnljneifpcaaGreatDoorBfq
import Derived.Test.YtmjdnljneifpcaaGreatDoorBfd
import Derived.Test.YtmjdnljneifpcaaGreatDoorBfp
import Derived.Test.YtmjdnljneifpcaaGreatDoorBfm
import Derived.Test.YtmjdnljneifpcaaGreatDoorBfl
set_option linter.unusedVariables false
set_option linter.unusedSimpArgs false
set_option linter.unusedSectionVars false
namespace Go.Proofs.YtmjdnljneifpcaaGreatDoor
open List
open Go.SL
theorem yQ {T:QP} (h:T.at'≤T.fin):Gj ⟨[],0,0⟩ T=T:=by
 obtain⟨ps,x,y⟩:=T;have h:x≤y:=h;unfold Gj;by_cases h0:y=0
 ·subst h0;obtain rfl:x=0:=by omega
  rfl
 ·show QP.mk _ (if y=0 then 0 else x) (if y=0 then 0 else y)=_;rw[if_neg h0,if_neg h0];rfl
theorem Ly:XH Tryz.prog 69 kp:=eK inferInstance
set_option maxRecDepth 10000 in
theorem lf [Q4] (p:Nat) (s:CS) (r:Nat) (Qx:(QV s.par (r:Int)).isSome=true) (hT:ZK s.par) (hP:Yc s) (Gc:s.last+1 < 1000000) (v:Value) (l:List (Nat×Nat)) (hl:l.length≤1000) {w:World} {fr:List Q2} [hTab:Z5 0 Lib.deBruijn64tab fr] (H:Q0 w (QD p s::V8 v l::fr)) :
  Calls Tryz.prog 20 #[pp p,.int .i64 r,v] w (ret fun x w'=>
   (UW s r l≠0∧x = .tuple #[.int .i64 0,.int .i64 (UW s r l:Nat)]∧Q0 w' (QD p s::V8 v l::fr)) ∨
   (UW s r l=0∧x = .tuple #[.int .i64 0,.int .i64 11]∧s.own.length - (s.own.filter (· != 0)).length < l.length∧Q0 w' (QD p s::V8 v l::fr)) ∨
   (UW s r l=0∧x = .tuple #[.int .i64 ((s.last+1:Nat):Int),.int .i64 0]∧∃ (Z:List Pl) (s':CS),Z.map (fun z=>(z.k,z.g))=l∧Wj s r Z s'∧Q0 w' (QD p s'::V8 v l::fr))):=by
 obtain⟨a,c,rfl⟩:=QI H.drop (Bf l) (by decide);obtain⟨u,mem,hw,hm,H⟩:=YQ H;have ZG:=Lq hT Qx;refine QQ Tryz.func20 rfl (by kernel_rfl) ?_;refine J3 H ?_;replace H:=Js [5,0,0,0,0,0,0,0,0,0,0,0] 0 H;refine J9 H ?_;refine Jc rfl rfl (Ow p u s.last s.par r H) ?_;rintro v w ⟨rfl,H⟩;rw[if_pos Qx];refine Za H ?_;replace H:=Js [5,1,0,8,0,0,0,0,0,0,0,0] 0 H;refine YJ H ?_;refine Jc rfl rfl (xC p u s r (.slice a l.length c) l hl H) ?_;rintro v w ⟨rfl,H⟩;refine ZZ H ?_;by_cases hc:UW s r l=0
 case neg=>
  rw[show (((UW s r l:Nat):Int) != 0)=true by rw[bne_iff_ne];omega];refine NQ H ?_;replace H:=Js [1,3,3,3,0,0,1,1,1,1,1,0] 0 H;exact Q3 (Jy H rfl fun w' H' => .inl ⟨hc,rfl,VM hw hm H'⟩)
 rw[hc];refine Vk H ?_;have KY:(r:Int)∈s.par.map (·.1):=Du Qx;obtain⟨b0,WT⟩:=RK (l:=s.sps) (f:=fun x=>x.1) (g:=fun x=>x.2.1) (k:=(r:Int)) (by rw[hw.skeys];exact KY);obtain⟨⟨r1,b0',S⟩,p1,p2,VN,Vn,Yp⟩:=RX WT;have Vn:r1=(r:Int):=Vn;have Yp:b0'=b0:=Yp;subst Vn Yp;obtain⟨c0,ZX⟩:=RK (l:=s.mns) (f:=fun x=>x.1) (g:=fun x=>x.2.1) (k:=(r:Int)) (by rw[hw.mkeys];exact KY);obtain⟨⟨r2,c0',M⟩,m1,m2,Vl,ED,EE⟩:=RX ZX;have ED:r2=(r:Int):=ED;have EE:c0'=c0:=EE;subst ED EE;have Ci:QV (s.sps.map Vv) (r:Int)=some b0':=WT;have Xm:QV (s.mns.map VX) (r:Int)=some c0':=ZX;have Yx:((r:Int),b0',S)∈s.sps:=by rw[VN];simp
 obtain⟨t1,t2,t3,t4,t5,t6⟩:=HE hw Yx;have t1:S.parts.length≤63:=t1;have t2:∀ x∈S.parts,1≤x.2∧x.1+x.2≤s.own.length:=t2;have ho:=hw.own.2;have Va:=hw.size;refine Vb H ?_;refine Q5 rfl (GO (key:=(r:Int)) H rfl rfl Vp rfl ?_);rw[Ci];refine J0 H ?_;refine Vb H ?_;refine Jc rfl rfl (T0 u.sp r (by omega) H) ?_;rintro w0 w ⟨bt,rfl,H⟩;refine Gt H ?_;replace H:=Js [7,0,0,0,0,0,0,0,0,0,0,0,0] 0 H;refine G6 H ?_;refine Jc rfl rfl (JU u.sp s.size mem s.own H) ?_;rintro v w ⟨rfl,H⟩;refine J0 H ?_;refine Ui H ?_;refine Q5 rfl (Ao v1 kp H rfl ?_);intro bat w H;refine Mv H ?_;replace H:=Js [11,0,0,0,0,0,0,0,0,0,0,0,0,0] 0 H;replace H:Q0 w (V1 b0' u.sp r S::star ((p1++p2).map (Y0 u.sp))::_):=(Q0.pick (R:=Y0 u.sp) (x:=((r:Int),b0',S)) VN).1 H;replace H:=Js [8,5,5,0,3,2,3,3,1,1,1,1,0,0,0] 0 H
 have Hi:Zz s.tab r [] l=0:=by
  unfold UW at hc;split at hc
  ·cases hc
  ·split at hc
   ·rename_i h1 h2;exact absurd hc h2
   ·rename_i h1 h2;exact Classical.not_not.1 h2
 obtain⟨Z3,yV⟩:=HT Hi;have yY:=hm.len;refine J6 H ?_
 refine Z0 (fun ms σ w=>ms=[]∧∃ (Z:List Pl) (own' mem':List Nat) (T:QP) (at':List ((Int×Int)×Int)),Z.map (fun z=>(z.k,z.g))=l∧(∀ z∈Z,s.tab[z.k]? = some ⟨z.g,some z.e⟩∧z.e.region=(r:Int))∧Ze s r S Z mem own' mem' T∧(∀ z∈Z,QV at' ((z.k:Int),(z.g:Int))=some (z.a:Int)) ∧
  σ 0=pp p∧σ 1 = .int .i64 r∧σ 2 = .slice a l.length c∧σ 10=pp b0'∧σ 11=pp bt∧σ 13 = .int .i64 s.size∧σ 14 = .map (some bat)∧Q0 w (V8 (.slice a l.length c) l::Qr u.tp s.tab::VU p u::V1 b0' u.sp r S::V1 bt u.sp r T::ST u.sp s.size mem' own'::V6 u.ip u.sp u.bp::Qq u.bp s.lays::mp kp v1 bat at'::Qo u.trp s.last s.par::RS u.rp s.rem::mp (ki .i64) V2 u.sm (s.sps.map Vv)::star ((p1++p2).map (Y0 u.sp))::mp (ki .i64) V2 u.mm (s.mns.map VX)::star (s.mns.map VG)::fr)) ?_ ?_
 ·refine Qd ?_
  refine Qp (fun ms σ w z=>ms=[]∧∃ (i:Nat) (Z:List Pl) (own' mem':List Nat) (T:QP) (at':List ((Int×Int)×Int)),i≤l.length∧z=l.length - i∧Z.map (fun z=>(z.k,z.g))=l.take i∧(∀ z∈Z,s.tab[z.k]? = some ⟨z.g,some z.e⟩∧z.e.region=(r:Int))∧Ze s r S Z mem own' mem' T∧(∀ z∈Z,QV at' ((z.k:Int),(z.g:Int))=some (z.a:Int)) ∧
   σ 0=pp p∧σ 1 = .int .i64 r∧σ 2 = .slice a l.length c∧σ 10=pp b0'∧σ 11=pp bt∧σ 13 = .int .i64 s.size∧σ 14 = .map (some bat)∧σ 66 = .slice a l.length c∧σ 67 = .int .i64 l.length∧σ 68 = .int .i64 i∧Q0 w (V8 (.slice a l.length c) l::Qr u.tp s.tab::VU p u::V1 b0' u.sp r S::V1 bt u.sp r T::ST u.sp s.size mem' own'::V6 u.ip u.sp u.bp::Qq u.bp s.lays::mp kp v1 bat at'::Qo u.trp s.last s.par::RS u.rp s.rem::mp (ki .i64) V2 u.sm (s.sps.map Vv)::star ((p1++p2).map (Y0 u.sp))::mp (ki .i64) V2 u.mm (s.mns.map VX)::star (s.mns.map VG)::fr)) (m:=l.length) ⟨rfl,0,[],s.own,mem,⟨[],0,0⟩,[],by omega,by omega,rfl,(fun z hz=>(by cases hz)),Ze.start s r S mem,(fun z hz=>(by cases hz)),rfl,rfl,rfl,rfl,rfl,rfl,rfl,rfl,rfl,rfl,H⟩ ?_
  rintro ms σ w z ⟨rfl,i,Z,own',mem',T,at',hi,rfl,hZ,AO,hA,GC,g0,g1,g2,g10,g11,g13,g14,g66,g67,g68,H⟩;rw[Q1 g0,Q1 g1,Q1 g2,Q1 g10,Q1 g11,Q1 g13,Q1 g14,Q1 g66,Q1 g67,Q1 g68];refine J7 H ?_;refine Qk rfl (fun h=>QE ?_) (fun h=>Qu ?_)
  ·have Q6:i < l.length:=by omega
   have hx:=getElem?_eq_getElem Q6;have Qi:l.take (i+1)=l.take i++[l[i]]:=by rw[take_add_one,hx];rfl
   have VR:=getElem_mem Q6
   have Ke:l[i]∉l.take i:=fun hh=>by
    obtain⟨j,hj⟩:=getElem?_of_mem hh;rw[getElem?_take] at hj;split at hj
    ·rename_i Yg;obtain⟨Bg,Kf⟩:=List.getElem?_eq_some_iff.1 hj;exact(pairwise_iff_getElem.1 yV) j i Bg Q6 Yg Kf
    ·cases hj
   generalize l[i]=tt at hx Qi VR Ke;obtain⟨k,n⟩:=tt;obtain⟨⟨e,hk,lg,Gx,Q2e⟩,_⟩:=Z3 _ VR;have hk:s.tab[k]? = some ⟨n,some e⟩:=hk;have hL:Ql s.tab k n=some (k,e):=EF hk;obtain⟨bT,sT,rfl,H,QJ⟩:=VY H (by omega);refine Z8 H ?_;refine Jd ?_;refine Q5 rfl (Vy H rfl (Wa hx) rfl ?_);refine VO H ?_;intro b16 w H;refine J5 H ?_;intro w H;refine J2 H ?_;replace H:=Js [1,0] 0 H;replace H:=QJ _ _ H;replace H:Q0 w (V8 (.slice (some ⟨bT,0,none⟩) l.length c) l::pts b16 (row 69 [.int .i64 k,.int .i64 n])::_):=H;replace H:=Js [2,1,0,0,0,0,0,0,0,0] 0 H;refine J6 H ?_;refine Qt (fun ms σ w=>ms=[]∧∃ b17,σ 0=pp p∧σ 1 = .int .i64 r∧σ 2 = .slice (some ⟨bT,0,none⟩) l.length c∧σ 10=pp b0'∧σ 11=pp bt∧σ 13 = .int .i64 s.size∧σ 14 = .map (some bat)∧σ 16=pp b16∧σ 17=pp b17∧σ 66 = .slice (some ⟨bT,0,none⟩) l.length c∧σ 67 = .int .i64 l.length∧σ 68 = .int .i64 i∧Q0 w (Qr u.tp s.tab::pts b17 (row 113 (YR e))::pts b16 (row 69 [.int .i64 k,.int .i64 n])::V8 (.slice (some ⟨bT,0,none⟩) l.length c) l::VU p u::V1 b0' u.sp r S::V1 bt u.sp r T::ST u.sp s.size mem' own'::V6 u.ip u.sp u.bp::Qq u.bp s.lays::mp kp v1 bat at'::Qo u.trp s.last s.par::RS u.rp s.rem::mp (ki .i64) V2 u.sm (s.sps.map Vv)::star ((p1++p2).map (Y0 u.sp))::mp (ki .i64) V2 u.mm (s.mns.map VX)::star (s.mns.map VG)::fr)) ?_ ?_
   ·refine J1 H ?_;intro w H;refine B8 H ?_;refine Jw 5 9 H rfl rfl (V3 (a:=[]) (b:=[]) rfl rfl (call (UZ u.tp s.tab k n H) ?_)) (YW H rfl ?_)
    ·rintro v w ⟨rfl,H⟩;rw[hL];refine B9 H ?_;intro b17 w H;refine A7 H ?_;intro w H;refine Uj H ?_;replace H:=Js [1,0] 0 H;exact⟨rfl,rfl,b17,rfl,rfl,rfl,rfl,rfl,rfl,rfl,rfl,rfl,rfl,rfl,rfl,H⟩
    ·intro b17 w H;refine Jo 5 H ?_;refine Jk rfl rfl (UZ u.tp s.tab k n H.swap) ?_;rintro v w ⟨rfl,H⟩;rw[hL];refine CC H ?_;intro w H;refine Uj H ?_;exact⟨rfl,rfl,b17,rfl,rfl,rfl,rfl,rfl,rfl,rfl,rfl,rfl,rfl,rfl,rfl,H⟩
   rintro ms σ w ⟨rfl,b17,g0,g1,g2,g10,g11,g13,g14,g16,g17,g66,g67,g68,H⟩;rw[Q1 g0,Q1 g1,Q1 g2,Q1 g10,Q1 g11,Q1 g13,Q1 g14,Q1 g16,Q1 g17,Q1 g66,Q1 g67,Q1 g68];refine Xy H ?_;refine Gs H ?_;refine Q5 rfl (W7 (ek:=kp) (vv:=v1) (v:=((e.addr:Nat):Int)) (key:=(((k:Nat):Int),((n:Nat):Int))) H rfl rfl rfl Ly rfl ?_);intro w H;refine J2 H ?_;replace H:=Js [5,0,0,0,0,0] 0 H
   have OE:e.addr < 9223372036854775808:=by
    have h1:=(hw.obj k n e hk).2.1.1;have h2:=Nat.mul_le_mul ho Va.2;unfold QT at h1;omega
   refine Z6 H ?_;refine NY H ?_
   refine Kn (v := .int .i64 ((e.addr / s.size:Nat):Int)) (by
    show (if IntKind.i64=IntKind.i64 then (if ((s.size:Nat):Int)=0 then none else some (Value.int IntKind.i64 (IntKind.i64.wrap (Int.tdiv ((e.addr:Nat):Int) ((s.size:Nat):Int))))) else none)=_;rw[if_pos rfl,if_neg (by omega),CM OE]) rfl ?_
   refine Jc rfl rfl (xo b0' u.sp r S (e.addr / s.size) (by omega) (fun x hx=>by have:=(t2 x hx).2;omega) H) ?_;rintro v w ⟨rfl,H⟩;refine J2 H ?_
   have lh:∀ (v:Int) (z:Pl),z∈Z→QV (Yh at' (((k:Nat):Int),((n:Nat):Int)) v) ((z.k:Int),(z.g:Int))=QV at' ((z.k:Int),(z.g:Int)):=fun v z hz=>by
    rw[KD,if_neg];intro h1;injection h1 with h1 h2
    have h3:(z.k,z.g)∈l.take i:=by rw[← hZ];exact mem_map.2 ⟨z,hz,rfl⟩
    have h4:k=z.k:=by omega
    have h5:n=z.g:=by omega
    subst h4 h5;exact Ke h3
   cases hb:Uv S s.size e with
   | true=>
    have Hy:Lx S (e.addr / s.size)=true:=hb;rw[Hy];refine Vt H ?_;refine Qu ?_;replace H:=Js [4,1,3,0,2,2,2,2,2] 2 H;show C _ _ _ _ _ _ _ _;refine J3 H ?_;refine⟨_,⟨rfl,i+1,Z++[⟨k,n,e,e.addr⟩],own',mem',T,_,Q6,rfl,by rw[map_append,hZ,Qi];rfl,(fun z hz=>?_),hA.big hb rfl,(fun z hz=>?_),rfl,rfl,rfl,rfl,rfl,rfl,rfl,rfl,rfl,Qg (by omega),H⟩,by omega⟩
    ·rcases mem_append.1 hz with hz|hz
     ·exact AO z hz
     ·rw[mem_singleton] at hz;subst hz;exact⟨hk,Gx⟩
    ·rcases mem_append.1 hz with hz|hz
     ·rw[lh _ z hz];exact GC z hz
     ·rw[mem_singleton] at hz;subst hz;rw[KD,if_pos rfl]
   | false=>
    have Hy:Lx S (e.addr / s.size)=false:=hb;rw[Hy];refine Vk H ?_;have Lz:=hA.img hw (by omega) hm hk;have OB:e.ws.length+1≤s.size:=ve hw hT.nd hP hk (by rw[Gx];exact Yx) hb;replace H:=Js [8,8,7,0,0,0,0,0,0,0,0] 0 H;refine J6 H ?_;refine Qt (fun ms σ w=>ms=[]∧σ 0=pp p∧σ 1 = .int .i64 r∧σ 2 = .slice (some ⟨bT,0,none⟩) l.length c∧σ 10=pp b0'∧σ 11=pp bt∧σ 13 = .int .i64 s.size∧σ 14 = .map (some bat)∧σ 16=pp b16∧σ 17=pp b17∧σ 20 = .int .i64 ((e.ws.length+1:Nat):Int)∧σ 66 = .slice (some ⟨bT,0,none⟩) l.length c∧σ 67 = .int .i64 l.length∧σ 68 = .int .i64 i∧Q0 w (V6 u.ip u.sp u.bp::Qq u.bp s.lays::ST u.sp s.size mem' own'::V1 b0' u.sp r S::Qr u.tp s.tab::pts b17 (row 113 (YR e))::pts b16 (row 69 [.int .i64 k,.int .i64 n])::V8 (.slice (some ⟨bT,0,none⟩) l.length c) l::VU p u::V1 bt u.sp r T::mp kp v1 bat (Yh at' (((k:Nat):Int),((n:Nat):Int)) ((e.addr:Nat):Int))::Qo u.trp s.last s.par::RS u.rp s.rem::mp (ki .i64) V2 u.sm (s.sps.map Vv)::star ((p1++p2).map (Y0 u.sp))::mp (ki .i64) V2 u.mm (s.mns.map VX)::star (s.mns.map VG)::fr)) ?_ ?_
    ·refine J1 H ?_;intro w H;refine YI H ?_;refine Jl 3 [6,12] H ?_;refine Jf 4 ?_;refine Jl 5 [6,12] H ?_;refine Jw 6 11 H rfl rfl (V3 (a:=[]) (b:=[]) rfl rfl (call (Dr u.ip u.sp u.bp s.size s.lays mem' own' e.addr e.lay e.count k e.ws.length (Qc s e) Lz H) ?_)) (YW H rfl ?_)
     ·rintro v w ⟨rfl,H⟩;refine Da H ?_;refine Fa H ?_;intro b19 w H;refine Ro H ?_;intro w H;refine Rl H ?_;replace H:=Js [1,1,1] 1 H;exact⟨rfl,rfl,rfl,rfl,rfl,rfl,rfl,rfl,rfl,rfl,rfl,rfl,rfl,rfl,rfl,H⟩
     ·intro b19 w H;replace H:=Js [1,1,1,0] 0 H;refine Jo 6 H ?_;refine Jk rfl rfl (Dr u.ip u.sp u.bp s.size s.lays mem' own' e.addr e.lay e.count k e.ws.length (Qc s e) Lz H) ?_;rintro v w ⟨rfl,H⟩;refine Da H ?_;refine Ro H ?_;intro w H;refine Rl H ?_;replace H:=Js [0,0,0] 1 H;exact⟨rfl,rfl,rfl,rfl,rfl,rfl,rfl,rfl,rfl,rfl,rfl,rfl,rfl,rfl,rfl,H⟩
    rintro ms σ w ⟨rfl,g0,g1,g2,g10,g11,g13,g14,g16,g17,g20,g66,g67,g68,H⟩;rw[Q1 g0,Q1 g1,Q1 g2,Q1 g10,Q1 g11,Q1 g13,Q1 g14,Q1 g16,Q1 g17,Q1 g20,Q1 g66,Q1 g67,Q1 g68];obtain⟨v1',v2',v3',v4'⟩:=hA.bnd hw;replace H:=Js [9,2,0,0,0,0,0,0,0,0,0] 0 H;refine J9 H ?_;refine Jc rfl rfl (gH bt u.sp r s.size (e.ws.length+1) T mem' own' (by omega) (by omega) (by omega) hA.at1 (by omega) (by rw[hA.ol];exact ho) Va.1 Va.2 (by omega) H) ?_;rintro v w (⟨a2,own2,mem2,T2,rfl,al,H⟩|⟨rfl,li,H⟩)
    ·refine S7 H ?_;refine KL H ?_;refine It H ?_;refine Q5 rfl (W7 (ek:=kp) (vv:=v1) (v:=((a2:Nat):Int)) (key:=(((k:Nat):Int),((n:Nat):Int))) H rfl rfl rfl Ly rfl ?_);intro w H;refine J2 H ?_;replace H:=Js [8,5,7,4,0,0,0,0,2] 2 H;refine J3 H ?_;refine⟨_,⟨rfl,i+1,Z++[⟨k,n,e,a2⟩],own2,mem2,T2,_,Q6,rfl,by rw[map_append,hZ,Qi];rfl,(fun z hz=>?_),hA.small hw (by omega) yY (z:=⟨k,n,e,a2⟩) hb OB al,(fun z hz=>?_),rfl,rfl,rfl,rfl,rfl,rfl,rfl,rfl,rfl,Qg (by omega),H⟩,by omega⟩
     ·rcases mem_append.1 hz with hz|hz
      ·exact AO z hz
      ·rw[mem_singleton] at hz;subst hz;exact⟨hk,Gx⟩
     ·rcases mem_append.1 hz with hz|hz
      ·rw[KD,if_neg,lh _ z hz]
       ·exact GC z hz
       ·intro h1;injection h1 with h1 h2
        have h3:(z.k,z.g)∈l.take i:=by rw[← hZ];exact mem_map.2 ⟨z,hz,rfl⟩
        have h4:k=z.k:=by omega
        have h5:n=z.g:=by omega
        subst h4 h5;exact Ke h3
      ·rw[mem_singleton] at hz;subst hz;rw[KD,if_pos rfl]
    ·refine FY H ?_;refine Vt H ?_;refine Z6 H ?_;refine Jc rfl rfl (jt bt u.sp r T s.size mem' own' (fun x hx=>by obtain⟨y1,y2⟩:=hA.parts x hx;have:=(List.getElem?_eq_some_iff.1 y2).1;rw[hA.ol];omega) hA.nd (fun d hd=>by rw[hA.og,if_pos hd];omega) v1' (by omega) (by rw[hA.ol];exact ho) Va.2 v3' H) ?_;rintro v w ⟨rfl,own3,cQ,yZ,H⟩;have yG:=hA.undo hw cQ yZ;subst yG;refine DJ H ?_;replace H:=Js [3,12,7,1,1,0,0,4,4,4,4,4,2] 3 H;replace H:=(Q0.pick (R:=Y0 u.sp) (x:=((r:Int),b0',S)) VN).2 H;replace H:=Js [1,1,1,1,1,1,1,1,0,0,0,0] 0 H;replace H:=VM hw (kF hw hA hm rfl rfl rfl) H
     have PY:Z.length=i:=by
      have:=congrArg List.length hZ;rw[length_map,length_take] at this;omega
     have G2:s.own.length - (s.own.filter (· != 0)).length≤Z.length:=hA.full hw fun a ha=>by
      have hz:(e.ws.length+1 - 1) / s.size=0:=Nat.div_eq_of_lt (by omega);rw[hz] at li;obtain⟨j,j1,j2,j3⟩:=li a (by omega);have:j=a:=by omega
      rw[← this];exact j3
     exact Q3 (.inr ⟨by simp,Jy H rfl fun w' H' => .inr (.inl ⟨rfl,rfl,by omega,H'⟩)⟩)
  ·obtain rfl:i=l.length:=by omega
   rw[take_length] at hZ;exact .inl ⟨rfl,rfl,Z,own',mem',T,at',hZ,AO,hA,GC,rfl,rfl,rfl,rfl,rfl,rfl,rfl,H⟩
 rintro ms σ w ⟨rfl,Z,own',mem',T,at',hZ,AO,hA,GC,g0,g1,g2,g10,g11,g13,g14,H⟩;rw[Q1 g0,Q1 g1,Q1 g2,Q1 g10,Q1 g11,Q1 g13,Q1 g14]
 have TP:s.par.length≠64:=by
  unfold UW at hc;intro h;rw[if_neg (fun h1=>by rw[if_pos h1] at hc;cases hc),if_neg (fun h1=>h1 Hi),if_pos h] at hc;cases hc
 have yU:Gf s.par r=0:=by
  unfold Gf;rw[if_neg (fun h=>by rw[Qx] at h;cases h.2),if_neg TP]
 obtain⟨v1',v2',v3',v4'⟩:=hA.bnd hw;replace H:=Js [9,0,0,0,0,0,0,0,0,0] 0 H;refine Vb H ?_;refine Jc rfl rfl (gA u.trp s.last s.par r (by omega) (fun x q hx=>(hw.par.2.2 x q hx).2) H) ?_;rintro w0 w (⟨h1,_,_⟩|⟨_,rfl,H⟩)
 ·exact absurd yU h1
 refine Gt H ?_;refine Vb H ?_;refine Jc rfl rfl (T0 u.sp (s.last+1) (by omega) H) ?_;rintro w0 w ⟨bs,rfl,H⟩;refine Gt H ?_
 have Zt:((s.last+1:Nat):Int)∉s.par.map (·.1):=fun h=>by
  obtain⟨⟨x,q⟩,h1,h2⟩:=mem_map.1 h;have h2:x=((s.last+1:Nat):Int):=h2;have:=(hw.par.2.2 x q h1).2;omega
 have lj:((s.last+1:Nat):Int)∉(s.sps.map Vv).map (·.1):=by rw[map_map];show _∉s.sps.map fun z=>z.1;rw[hw.skeys];exact Zt
 have PZ:((s.last+1:Nat):Int)∉(s.mns.map VX).map (·.1):=by rw[map_map];show _∉s.mns.map fun z=>z.1;rw[hw.mkeys];exact Zt
 replace H:=Js [12,0,0,0,0,0,0,0,0,0,0,0,0,0,0] 0 H;obtain⟨es1,ct1,cV,H⟩:=fG H;replace H:=Js [14,0,0,0,0,0,0,0,0,0,0,0,0,0,0] 0 H;obtain⟨es2,ct2,cY,H⟩:=fG H;refine J1 H ?_;intro w H;refine YI H ?_;refine Jl 3 [12,14,15,17] H ?_;refine Mp H ?_;refine Jl 8 [12,14,15,17] H ?_;refine CQ H ?_;refine Jo 11 H ?_;refine Jk rfl rfl (T5 H) ?_;rintro w0 w ⟨bm,rfl,H⟩;replace H:=Js [2,0,0] 0 H;refine Jo 12 H ?_;refine fX (ek:=ki .i64) (vv:=V2) (key:=((s.last+1:Nat):Int)) H cV lj rfl rfl Vp rfl ?_;intro w H;refine Ja 13 ?_;refine Jo 14 H ?_;refine fK H cV.born rfl rfl rfl rfl ?_;intro w H;replace H:=fU (cV.push lj bs) H;replace H:=Js [2,0,0] 0 H;refine Jo 15 H ?_;refine fX (ek:=ki .i64) (vv:=V2) (key:=((s.last+1:Nat):Int)) H cY PZ rfl rfl Vp rfl ?_;intro w H;refine Ja 16 ?_;refine Jo 17 H ?_;refine fK H cY.born rfl rfl rfl rfl ?_;intro w H;replace H:=fU (cY.push PZ bm) H;refine Jx H ?_;replace H:=Js [3,8,8,0,0,0,0,0,0,0,0] 0 H;refine J9 H ?_
 have yX:∀ x∈T.parts,1≤x.2∧x.1+x.2≤own'.length:=fun x hx=>by
  obtain⟨y1,y2⟩:=hA.parts x hx;have:=(List.getElem?_eq_some_iff.1 y2).1;rw[hA.ol];omega
 have hJ:=jy bs bt u.sp (s.last+1) r ⟨[],0,0⟩ T s.size mem' own' (by omega) (by simp) (by omega) (by rw[hA.ol];exact ho) yX (fun d hd=>by rw[hA.og,if_pos hd];omega) H;refine Jc rfl rfl (hJ) ?_;clear H hJ;rintro w0 w ⟨rfl,own2,Cx,HL,H⟩;rw[yQ hA.at1] at H;refine J2 H ?_;refine XN H ?_;obtain⟨s1,EO⟩:∃ x:CS,x={ s with own:=own2,last:=s.last+1,par:=s.par++[(((s.last+1:Nat):Int),(r:Int))],sps:=s.sps++[(((s.last+1:Nat):Int),bs,T)],mns:=s.mns++[(((s.last+1:Nat):Int),bm,[])] }:=⟨_,rfl⟩;have ll:own2.length=s.own.length:=Cx.trans hA.ol;have Hd:WF s1:=by rw[EO];exact vn hw hA (by have:=hw.par.1;omega) Gc Cx HL bs bm
 have ZQ:YY s1 mem':=by rw[EO];exact kF hw hA hm ll rfl rfl
 have Oq:(Z.map Pl.k).Nodup:=by
  have h1:=wI Hi;rw[← hZ,map_map] at h1;exact h1
 have cZ:RN s r (s.last+1) [] Z s1 S T:=by rw[EO];exact w9 hw hT.nd hP Yx hA AO Oq ll (vz hA Cx HL) bs bm
 have yK:s1.sps=p1++((r:Int),b0',S)::(p2++[(((s.last+1:Nat):Int),bs,T)]):=by rw[EO];show s.sps++_=_;rw[VN];simp
 have yR:s1.mns=m1++((r:Int),c0',M)::(m2++[(((s.last+1:Nat):Int),bm,[])]):=by rw[EO];show s.mns++_=_;rw[Vl];simp
 have PY:Z.length=l.length:=by rw[← hZ,length_map]
 have yW:QV (s.mns.map VX++[(((s.last+1:Nat):Int),bm)]) (r:Int)=some c0':=by
  rw[← Wp PZ,KD,if_neg (fun h=>Zt (by rw[h];exact KY))];exact Xm
 have yA:QV (s.mns.map VX++[(((s.last+1:Nat):Int),bm)]) ((s.last+1:Nat):Int)=some bm:=by rw[← Wp PZ,KD,if_pos rfl]
 have yB:s1.own=own2:=by rw[EO]
 have yC:s1.tab=s.tab:=by rw[EO]
 replace H:=Js [16,0,0,0,0,0,0,0,0,0,0,0,0,0,0,0,0] 0 H;replace H:Q0 w (VV c0' M::star ((m1++m2).map VG)::_):=(Q0.pick (R:=VG) (x:=((r:Int),c0',M)) Vl).1 H;replace H:=Js [9,9,9,5,0,5,6,1,2,4,4,4,3,3,2,2,0,0] 0 H;replace H:=Js [0,0,0,0,0,0,0,0,0,0,0,0,0,0,0,0,0] 1 H;refine J6 H ?_;refine Qt (fun ms σ w=>ms=[]∧∃ (s':CS) (mem1:List Nat) (S1 T1:QP) (M1 N1:List Nat),(WF s'∧YY s' mem1∧RN s r (s.last+1) (Z) ([]) s' S1 T1∧s'.sps=p1++((r:Int),b0',S1)::(p2++[(((s.last+1:Nat):Int),bs,T1)])∧s'.mns=m1++((r:Int),c0',M1)::(m2++[(((s.last+1:Nat):Int),bm,N1)]))∧σ 0=pp p∧σ 1 = .int .i64 r∧σ 2 = .slice a l.length c∧σ 10=pp b0'∧σ 13 = .int .i64 s.size∧σ 14 = .map (some bat)∧σ 24 = .int .i64 ((s.last+1:Nat):Int)∧σ 26=pp bs∧Q0 w (V8 (.slice a l.length c) l::Qr u.tp s'.tab::VU p u::mp (ki .i64) V2 u.mm (s.mns.map VX++[(((s.last+1:Nat):Int),bm)])::VV c0' M1::VV bm N1::V1 b0' u.sp r S1::V1 bs u.sp (s.last+1) T1::ST u.sp s.size mem1 s'.own::V6 u.ip u.sp u.bp::Qq u.bp s.lays::mp kp v1 bat at'::Qo u.trp (s.last+1) (s.par++[(((s.last+1:Nat):Int),(r:Int))])::RS u.rp s.rem::mp (ki .i64) V2 u.sm (s.sps.map Vv++[(((s.last+1:Nat):Int),bs)])::star ((p1++p2).map (Y0 u.sp))::star ((m1++m2).map VG)::fr)) ?_ ?_
 ·refine Qd ?_;refine Qp (fun ms σ w q=>ms=[]∧∃ (i:Nat) (s':CS) (mem1:List Nat) (S1 T1:QP) (M1 N1:List Nat),i≤l.length∧q=l.length - i∧(WF s'∧YY s' mem1∧RN s r (s.last+1) (Z.take i) (Z.drop i) s' S1 T1∧s'.sps=p1++((r:Int),b0',S1)::(p2++[(((s.last+1:Nat):Int),bs,T1)])∧s'.mns=m1++((r:Int),c0',M1)::(m2++[(((s.last+1:Nat):Int),bm,N1)]))∧σ 0=pp p∧σ 1 = .int .i64 r∧σ 2 = .slice a l.length c∧σ 10=pp b0'∧σ 13 = .int .i64 s.size∧σ 14 = .map (some bat)∧σ 24 = .int .i64 ((s.last+1:Nat):Int)∧σ 26=pp bs∧σ 154 = .slice a l.length c∧σ 155 = .int .i64 l.length∧σ 156 = .int .i64 i∧Q0 w (V8 (.slice a l.length c) l::Qr u.tp s'.tab::VU p u::mp (ki .i64) V2 u.mm (s.mns.map VX++[(((s.last+1:Nat):Int),bm)])::VV c0' M1::VV bm N1::V1 b0' u.sp r S1::V1 bs u.sp (s.last+1) T1::ST u.sp s.size mem1 s'.own::V6 u.ip u.sp u.bp::Qq u.bp s.lays::mp kp v1 bat at'::Qo u.trp (s.last+1) (s.par++[(((s.last+1:Nat):Int),(r:Int))])::RS u.rp s.rem::mp (ki .i64) V2 u.sm (s.sps.map Vv++[(((s.last+1:Nat):Int),bs)])::star ((p1++p2).map (Y0 u.sp))::star ((m1++m2).map VG)::fr)) (m:=l.length) ⟨rfl,0,s1,mem',S,T,M,[],by omega,by omega,⟨Hd,ZQ,cZ,yK,yR⟩,rfl,rfl,rfl,rfl,rfl,rfl,rfl,rfl,rfl,rfl,rfl,by rw[yB,yC];exact H⟩ ?_;rintro ms σ w q ⟨rfl,i,s',mem1,S1,T1,M1,N1,hi,rfl,⟨VB,V7,hB,Yz,Bu⟩,g0,g1,g2,g10,g13,g14,g24,g26,g154,g155,g156,H⟩;rw[Q1 g0,Q1 g1,Q1 g2,Q1 g10,Q1 g13,Q1 g14,Q1 g24,Q1 g26,Q1 g154,Q1 g155,Q1 g156];refine J7 H ?_;refine Qk rfl (fun h=>QE ?_) (fun h=>Qu ?_)
  ·have Q6:i < l.length:=by omega
   have KR:i < Z.length:=by omega
   have EP:=getElem?_eq_getElem KR;have lm:Z.take (i+1)=Z.take i++[Z[i]]:=by rw[take_add_one,EP];rfl
   have ln:=drop_eq_getElem_cons KR;have M0:=getElem_mem KR;have hx:l[i]? = some (Z[i].k,Z[i].g):=by rw[← hZ,getElem?_map,EP];rfl
   rw[ln] at hB;generalize Z[i]=z at EP lm ln M0 hx hB;have yD:=hB.pend z mem_cons_self;have M3:=GC z M0;obtain⟨zk,zg,ze,za⟩:=z;obtain⟨hk,Hj,E0⟩:=yD;have hk:s'.tab[zk]? = some ⟨zg,some ze⟩:=hk;have Hj:ze.region=(r:Int):=Hj;have M3:QV at' ((zk:Int),(zg:Int))=some (za:Int):=M3;have hx:l[i]? = some (zk,zg):=hx;have hL:Ql s'.tab zk zg=some (zk,ze):=EF hk
   have cG:(s'.par.map (·.1)).Nodup:=by
    rw[hB.par,map_append,nodup_append];refine⟨hT.nd,by simp,fun x hx y hy Yy=>?_⟩;subst Yy;simp at hy;exact Zt (by rw[← show x=((s.last+1:Nat):Int) by omega];exact hx)
   obtain⟨bT,sT,rfl,H,QJ⟩:=VY H (by omega);refine Z8 H ?_;refine Jd ?_;refine Q5 rfl (Vy H rfl (Wa hx) rfl ?_);refine VO H ?_;intro b29 w H;refine J5 H ?_;intro w H;refine J2 H ?_;replace H:=Js [1,0] 0 H;replace H:=QJ _ _ H;replace H:Q0 w (V8 (.slice (some ⟨bT,0,none⟩) l.length c) l::pts b29 (row 69 [.int .i64 zk,.int .i64 zg])::_):=H;replace H:=Js [2,1,0] 0 H;refine J6 H ?_;refine Qt (fun ms σ w=>ms=[]∧∃ b30,σ 0=pp p∧σ 1 = .int .i64 r∧σ 2 = .slice (some ⟨bT,0,none⟩) l.length c∧σ 10=pp b0'∧σ 13 = .int .i64 s.size∧σ 14 = .map (some bat)∧σ 24 = .int .i64 ((s.last+1:Nat):Int)∧σ 26=pp bs∧σ 154 = .slice (some ⟨bT,0,none⟩) l.length c∧σ 155 = .int .i64 l.length∧σ 156 = .int .i64 i∧σ 29=pp b29∧σ 30=pp b30∧Q0 w (Qr u.tp s'.tab::pts b30 (row 113 (YR ze))::pts b29 (row 69 [.int .i64 zk,.int .i64 zg])::V8 (.slice (some ⟨bT,0,none⟩) l.length c) l::VU p u::mp (ki .i64) V2 u.mm (s.mns.map VX++[(((s.last+1:Nat):Int),bm)])::VV c0' M1::VV bm N1::V1 b0' u.sp r S1::V1 bs u.sp (s.last+1) T1::ST u.sp s.size mem1 s'.own::V6 u.ip u.sp u.bp::Qq u.bp s.lays::mp kp v1 bat at'::Qo u.trp (s.last+1) (s.par++[(((s.last+1:Nat):Int),(r:Int))])::RS u.rp s.rem::mp (ki .i64) V2 u.sm (s.sps.map Vv++[(((s.last+1:Nat):Int),bs)])::star ((p1++p2).map (Y0 u.sp))::star ((m1++m2).map VG)::fr)) ?_ ?_
   ·refine J1 H ?_;intro w H;refine B8 H ?_;refine Jw 5 9 H rfl rfl (V3 (a:=[]) (b:=[]) rfl rfl (call (UZ u.tp s'.tab zk zg H) ?_)) (YW H rfl ?_)
    ·rintro v w ⟨rfl,H⟩;rw[hL];refine B9 H ?_;intro b30 w H;refine A7 H ?_;intro w H;refine Uj H ?_;replace H:=Js [1,0] 0 H;exact⟨rfl,rfl,b30,rfl,rfl,rfl,rfl,rfl,rfl,rfl,rfl,rfl,rfl,rfl,rfl,rfl,H⟩
    ·intro b30 w H;refine Jo 5 H ?_;refine Jk rfl rfl (UZ u.tp s'.tab zk zg H.swap) ?_;rintro v w ⟨rfl,H⟩;rw[hL];refine CC H ?_;intro w H;refine Uj H ?_;exact⟨rfl,rfl,b30,rfl,rfl,rfl,rfl,rfl,rfl,rfl,rfl,rfl,rfl,rfl,rfl,rfl,H⟩
   rintro ms σ w ⟨rfl,b30,g0,g1,g2,g10,g13,g14,g24,g26,g154,g155,g156,g29,g30,H⟩;rw[Q1 g0,Q1 g1,Q1 g2,Q1 g10,Q1 g13,Q1 g14,Q1 g24,Q1 g26,Q1 g154,Q1 g155,Q1 g156,Q1 g29,Q1 g30];refine J1 H ?_;intro w H;refine Ja 0 ?_;refine Vz 1 [] H rfl (Q8.none rfl) rfl (by repeat first|exact .nil _|apply QY.cons rfl) (by kernel_rfl) ?_;refine Rc 2 [] (key:=(((zk:Nat):Int),((zg:Nat):Int))) H rfl (Q8.none rfl) rfl rfl Ly (by kernel_rfl) ?_;rw[M3];refine Jf 3 ?_;refine Jl 4 [] H ?_;refine Ja 5 ?_;refine Jx H ?_;have yE:((r:Int),b0',S1)∈s'.sps:=by rw[Yz];simp
   have lp:(((s.last+1:Nat):Int),bs,T1)∈s'.sps:=by rw[Yz];simp
   have cX:((s.last+1:Nat):Int)≠(r:Int):=fun h=>Zt (by rw[h];exact KY);have yF:s'.own.length≤63:=VB.own.2;obtain⟨w1',w2',w3',w4',w5',w6'⟩:=HE VB yE;obtain⟨x1',_,_,_,_,_⟩:=HE VB lp;have w1':S1.parts.length≤63:=w1';have x1':T1.parts.length≤63:=x1';have w4':(QR S1.parts).Nodup:=w4'
   have yH:ze.addr < 9223372036854775808:=by
    have h1:=(VB.obj zk zg ze hk).2.1.1;have h2:=Nat.mul_le_mul VB.own.2 VB.size.2;unfold QT at h1;omega
   refine J6 H ?_;refine Qt (fun ms σ w=>ms=[]∧∃ (s2:CS) (mem2:List Nat) (S2 T2:QP),(WF s2∧YY s2 mem2∧RN s r (s.last+1) (Z.take i++[⟨zk,zg,ze,za⟩]) (Z.drop (i+1)) s2 S2 T2∧s2.sps=p1++((r:Int),b0',S2)::(p2++[(((s.last+1:Nat):Int),bs,T2)])∧s2.mns=m1++((r:Int),c0',M1.filter (·≠zk))::(m2++[(((s.last+1:Nat):Int),bm,Zc N1 zk)])∧s2.tab=s'.tab.set zk ⟨zg,some { ze with region:=((s.last+1:Nat):Int),addr:=za }⟩)∧σ 0=pp p∧σ 1 = .int .i64 r∧σ 2 = .slice (some ⟨bT,0,none⟩) l.length c∧σ 10=pp b0'∧σ 13 = .int .i64 s.size∧σ 14 = .map (some bat)∧σ 24 = .int .i64 ((s.last+1:Nat):Int)∧σ 26=pp bs∧σ 29=pp b29∧σ 154 = .slice (some ⟨bT,0,none⟩) l.length c∧σ 155 = .int .i64 l.length∧σ 156 = .int .i64 i∧Q0 w (Qr u.tp s'.tab::pts b29 (row 69 [.int .i64 zk,.int .i64 zg])::V8 (.slice (some ⟨bT,0,none⟩) l.length c) l::VU p u::mp (ki .i64) V2 u.mm (s.mns.map VX++[(((s.last+1:Nat):Int),bm)])::VV c0' M1::VV bm N1::V1 b0' u.sp r S2::V1 bs u.sp (s.last+1) T2::ST u.sp s.size mem2 s2.own::V6 u.ip u.sp u.bp::Qq u.bp s.lays::mp kp v1 bat at'::Qo u.trp (s.last+1) (s.par++[(((s.last+1:Nat):Int),(r:Int))])::RS u.rp s.rem::mp (ki .i64) V2 u.sm (s.sps.map Vv++[(((s.last+1:Nat):Int),bs)])::star ((p1++p2).map (Y0 u.sp))::star ((m1++m2).map VG)::fr)) ?_ ?_
   ·rcases E0 with ⟨W0,⟨cc,nn⟩,y1,y2,y3⟩|⟨W0,Oo,yI⟩
    ·have W0:za=ze.addr:=W0;subst W0;have y2:2≤nn:=y2;obtain⟨A,B,M4⟩:=append_of_mem y1;have Dk:=Om (by rw[← M4];exact w4':(QR (A++(cc,nn)::B)).Nodup)
     have yJ:∀ y∈A,y.1≠cc:=fun y hy h=>by
      have GH:=(w2' y (by show y∈S1.parts;rw[M4];exact mem_append.2 (.inl hy))).1;exact Dk.2 cc (Nat.le_refl _) (by show cc < cc+nn;omega) (Bm (mem_append.2 (.inl hy)) (by omega) (by omega))
     have yL:ze.addr / s.size=cc:=by
      rcases y3 with ⟨h1,_⟩|⟨_,h1,_⟩
      ·have h1:nn=1:=h1;omega
      ·have h1:ze.addr=cc*s'.size:=h1;rw[hB.size] at h1;rw[h1];exact Nat.mul_div_cancel _ (by omega)
     have RM:cc+nn≤s'.own.length:=(w2' (cc,nn) y1).2;rw[show (((ze.addr:Nat):Int) == ((ze.addr:Nat):Int))=true from beq_self_eq_true _];refine YU rfl ?_;replace H:=Js [8,8,8,0,0,0,0,0,0,0,0,0,0] 0 H;refine Vb H ?_
     refine Kn (v := .int .i64 ((ze.addr / s.size:Nat):Int)) (by
      show (if IntKind.i64=IntKind.i64 then (if ((s.size:Nat):Int)=0 then none else some (Value.int IntKind.i64 (IntKind.i64.wrap (Int.tdiv ((ze.addr:Nat):Int) ((s.size:Nat):Int))))) else none)=_;rw[if_pos rfl,if_neg (by omega),CM yH]) rfl ?_
     rw[yL];have lq:=xn b0' bs u.sp r (s.last+1) S1 T1 s.size mem1 s'.own M4 yJ y2 (by omega) (by omega) (by omega) yF RM (fun d h1 h2=>w5' d (Bm y1 h1 h2)) H;refine Jc rfl rfl (lq) ?_;clear H lq;rintro w0 w ⟨rfl,H⟩;refine J2 H ?_;replace H:=Js [3,4,4,4,4,4,4,0,0,0,1,1] 1 H;have UE:=vN (id:=s.last+1) VB hB.part hk Hj cX cG Yz Bu M4 y2 y3;refine⟨rfl,rfl,{ s' with own:=Vc s'.own cc nn (s.last+1),tab:=s'.tab.set zk ⟨zg,some { ze with region:=((s.last+1:Nat):Int),addr:=ze.addr }⟩,sps:=p1++((r:Int),b0',{ S1 with parts:=A++B })::(p2++[(((s.last+1:Nat):Int),bs,{ T1 with parts:=T1.parts++[(cc,nn)] })]),mns:=m1++((r:Int),c0',M1.filter (·≠zk))::(m2++[(((s.last+1:Nat):Int),bm,Zc N1 zk)]) },mem1,_,_,⟨UE,?_,?_,rfl,rfl,rfl⟩,rfl,rfl,rfl,rfl,rfl,rfl,rfl,rfl,rfl,rfl,rfl,rfl,H⟩
     ·exact kA (id:=((s.last+1:Nat):Int)) (a:=ze.addr) VB V7 hk (fun j n f hj KB=>by
       show QT f≤ze.addr∨ze.addr+(ze.ws.length+1)≤f.addr
       rcases VB.apart j zk n zg f ze hj KB hk with h1|h1
       ·exact .inl h1
       ·have h1:ze.addr+1+ze.ws.length≤f.addr:=h1;right;omega) rfl (fun _ _=>rfl) (fun _ _=>rfl) (Yi RM) rfl rfl
     ·exact hB.hand VB cG rfl Yz M4 y2 y3 rfl (Yi RM) rfl rfl rfl rfl rfl rfl
    ·have W0:za≠ze.addr:=W0;rw[show (((za:Nat):Int) == ((ze.addr:Nat):Int))=false by rw[beq_eq_false_iff_ne];omega];refine Vw rfl ?_;have G2:∀ (j n:Nat) (f:Q9),j≠zk→s'.tab[j]? = some ⟨n,some f⟩→QT f≤za∨za+(ze.ws.length+1)≤f.addr:=fun j n f _ hj=>yI j n f hj;have UE:=vJ VB hk Hj cX cG Yz Bu Oo G2;have VC:=(List.getElem?_eq_some_iff.1 hk).1;have Cj:Un s'.size s'.own { ze with region:=((s.last+1:Nat):Int),addr:=za }:=(UE.obj zk zg _ (getElem?_set_self VC)).2.1;have ZC:=iE Cj;have Q2f:=V7.len
     have Km:za+(ze.ws.length+1)≤mem1.length:=by
      have h1:za+1+ze.ws.length≤s'.own.length*s'.size:=Cj.1;omega
     have AD:ze.addr+(ze.ws.length+1)≤mem1.length:=by
      have h1:ze.addr+1+ze.ws.length≤s'.own.length*s'.size:=(VB.obj zk zg ze hk).2.1.1;omega
     have Lz:=WS VB V7 hk;rw[hB.lays,hB.size] at Lz;rw[hB.size] at ZC;replace H:=Js [11,11,10,0,0,0,0,0,0,0,0,0,0] 0 H;refine J1 H ?_;intro w H;refine N6 H ?_;refine Ja 4 ?_;refine Vz 5 [9] H rfl (Q8.none rfl) rfl (by repeat first|exact .nil _|apply QY.cons rfl) (by kernel_rfl) ?_;refine Rc 6 [9] (key:=(((zk:Nat):Int),((zg:Nat):Int))) H rfl (Q8.none rfl) rfl rfl Ly (by kernel_rfl) ?_;rw[M3];refine Jf 7 ?_;refine Jl 8 [9] H ?_;have lr:=y9 u.ip u.sp u.bp s.size s.lays mem1 s'.own za ze.addr ze.lay ze.count zk ze.ws.length (Qc s' ze) Lz Km ZC H;refine Jo 9 H ?_;refine Jk rfl rfl (lr) ?_;clear H lr;rintro w0 w ⟨rfl,H⟩;refine Jx H ?_;replace H:=Js [3,4,4,4,4,4,4,4,4,2,0,0] 1 H;refine⟨rfl,rfl,{ s' with tab:=s'.tab.set zk ⟨zg,some { ze with region:=((s.last+1:Nat):Int),addr:=za }⟩,mns:=m1++((r:Int),c0',M1.filter (·≠zk))::(m2++[(((s.last+1:Nat):Int),bm,Zc N1 zk)]) },W1 mem1 za ze.addr (ze.ws.length+1),S1,T1,⟨UE,?_,?_,Yz,rfl,rfl⟩,rfl,rfl,rfl,rfl,rfl,rfl,rfl,rfl,rfl,rfl,rfl,rfl,H⟩
     ·exact kA (id:=((s.last+1:Nat):Int)) (a:=za) VB V7 hk G2 (ld Km AD) (fun j hj=>xv Km AD hj) (fun j hj=>xx Km AD hj) rfl rfl rfl
     ·exact hB.shift W0 lp rfl rfl rfl rfl rfl rfl rfl rfl
   rintro ms σ w ⟨rfl,s2,mem2,S2,T2,⟨UE,Zu,Cq,yM,yN,yO⟩,g0,g1,g2,g10,g13,g14,g24,g26,g29,g154,g155,g156,H⟩;rw[Q1 g0,Q1 g1,Q1 g2,Q1 g10,Q1 g13,Q1 g14,Q1 g24,Q1 g26,Q1 g29,Q1 g154,Q1 g155,Q1 g156];have cR:=VB.mine ((r:Int),c0',M1) (by rw[Bu];simp);have PG:=VB.mine (((s.last+1:Nat):Int),bm,N1) (by rw[Bu];simp)
   have CI:∀ L:List Nat,L.Pairwise (· < ·)→(∀ y∈L,y < s'.tab.length)→L.length≤64:=fun L h1 h2=>by
    have:=BK L 0 64 (fun y hy=>⟨Nat.zero_le _,by have:=h2 y hy;have:=VB.slots.2;omega⟩) h1;omega
   have Q2g:M1.length≤64:=CI M1 cR.1 fun y hy=>by
    obtain⟨g,f,h3,_⟩:=(cR.2 y).1 hy;exact(List.getElem?_eq_some_iff.1 h3).1
   have Q2h:N1.length≤64:=CI N1 PG.1 fun y hy=>by
    obtain⟨g,f,h3,_⟩:=(PG.2 y).1 hy;exact(List.getElem?_eq_some_iff.1 h3).1
   have ER:zk∉N1:=fun h=>by
    obtain⟨g,f,h3,h4⟩:=(PG.2 zk).1 h;rw[hk] at h3;injection h3 with h3
    injection h3 with _ h3
    injection h3 with h3
    subst h3;exact cX (h4.symm.trans Hj)
   replace H:=Js [0,2,2,2,2,0,0] 0 H;refine J1 H ?_;intro w H;refine Ja 0 ?_;refine Jf 1 ?_;refine Jl 2 [7] H ?_;refine Ja 3 ?_;refine Ja 4 ?_;refine SY H ?_;refine Rc 6 [7] (key:=(((zk:Nat):Int),((zg:Nat):Int))) H rfl (Q8.none rfl) rfl rfl Ly (by kernel_rfl) ?_;rw[M3];have lu:=lM p u s'.tab (s.mns.map VX++[(((s.last+1:Nat):Int),bm)]) zk zg ze hk ((s.last+1:Nat):Int) za c0' bm M1 N1 (by rw[Hj];exact yW) yA cR.1 (by omega) PG.1 (by omega) ER H;refine Jo 7 H ?_;refine Jk rfl rfl (lu) ?_;clear H lu;rintro w0 w ⟨rfl,H⟩;rw[← yO] at H;refine Jx H ?_;refine J3 H ?_;replace H:=Js [6,0,0,0,0,0,1,1,1,1,1] 1 H;exact⟨_,⟨rfl,i+1,s2,mem2,S2,T2,M1.filter (·≠zk),Zc N1 zk,Q6,rfl,⟨UE,Zu,by rw[lm];exact Cq,yM,yN⟩,rfl,rfl,rfl,rfl,rfl,rfl,rfl,rfl,rfl,rfl,Qg (by omega),H⟩,by omega⟩
  ·obtain rfl:i=l.length:=by omega
   rw[← PY,take_length,drop_length] at hB;exact⟨rfl,rfl,s',mem1,S1,T1,M1,N1,⟨VB,V7,hB,Yz,Bu⟩,rfl,rfl,rfl,rfl,rfl,rfl,rfl,rfl,H⟩
 rintro ms σ w ⟨rfl,s',mem1,S1,T1,M1,N1,⟨VB,V7,hB,Yz,Bu⟩,g0,g1,g2,g10,g13,g14,g24,g26,H⟩;rw[Q1 g0,Q1 g1,Q1 g2,Q1 g10,Q1 g13,Q1 g14,Q1 g24,Q1 g26];replace H:=Js [5,15,4,5,12,4,0,0,0,0,0,0,0,1,1,1] 1 H;replace H:=(Q0.pick (R:=VG) (x:=(((s.last+1:Nat):Int),bm,N1)) (gs:=m1++(m2++[(((s.last+1:Nat):Int),bm,N1)])) (g1:=m1++m2) (g2:=[]) (by simp)).2 (by rw[append_nil];exact H);replace H:=Js [1,0] 0 H;replace H:=(Q0.pick (R:=VG) (x:=((r:Int),c0',M1)) Bu).2 H;replace H:=Js [1,1,1,0] 0 H;replace H:=(Q0.pick (R:=Y0 u.sp) (x:=(((s.last+1:Nat):Int),bs,T1)) (gs:=p1++(p2++[(((s.last+1:Nat):Int),bs,T1)])) (g1:=p1++p2) (g2:=[]) (by simp)).2 (by rw[append_nil];exact H);replace H:=Js [1,0] 0 H;replace H:=(Q0.pick (R:=Y0 u.sp) (x:=((r:Int),b0',S1)) Yz).2 H;have Xe:s.mns.map VX++[(((s.last+1:Nat):Int),bm)]=s'.mns.map VX:=by rw[Bu,Vl];simp
 have VP:s.sps.map Vv++[(((s.last+1:Nat):Int),bs)]=s'.sps.map Vv:=by rw[Yz,VN];simp
 rw[Xe,VP,← hB.par,← hB.last,← hB.rem,← hB.lays,← hB.size] at H;have QN:=HZ (H.pull 10);replace H:=Js [4,6,6,5,3,4,4,4,0,2,0,0] 0 H;replace H:=VM VB V7 H;refine YJ H ?_;refine X7 H ?_;intro bS w H;replace H:Q0 w (pts bS (row 3 (Qm [(r:Int),((s.last+1:Nat):Int)]++[]))::QD p { s' with rem:=s'.rem }::V8 (.slice a l.length c) l::fr):=H;replace H:=Gn (E:=3) (k:=1) (len:=2) (cap:=2) (c:=Qm [(r:Int),((s.last+1:Nat):Int)]) (spare:=[]) rfl ⟨by decide,by decide⟩ (by decide) H
 have Fu:=lN p s' s'.rem QN _ [(r:Int),((s.last+1:Nat):Int)] (fun x hx=>by
  rw[Bu]
  rcases mem_cons.1 hx with rfl|hx
  ·simp
  ·rw[mem_singleton] at hx;subst hx;simp) (by simp) H
 refine Jc rfl rfl (Fu) ?_;clear H Fu;rintro w0 w ⟨rfl,D,R',hD,hN,H⟩;refine DJ H ?_;refine Q3 (Jy H rfl fun w' H' => .inr (.inr ⟨rfl,rfl,Z,{ s' with rem:=R' },hZ,⟨hB.size,hB.own,hB.lays,hB.last,hB.par,hB.tabl,hB.tab,AO,Oq,⟨D,fun x=>?_,⟨hN.nd,hN.on,fun x hx=>by rw[hN.off x hx,hB.rem]⟩⟩,hB.part,fun yP=>hB.zero (by rw[yP];rfl)⟩,H'⟩));rw[hD x];constructor
 ·rintro⟨k,g,e,h1,h2,h3⟩;refine⟨k,g,e,⟨g,e,h1,?_⟩,h1,h3⟩
  rcases mem_cons.1 h2 with h2|h2
  ·exact .inl h2
  ·exact .inr (mem_singleton.1 h2)
 ·rintro⟨k,g,e,⟨g',e',h1,h2⟩,h3,h4⟩;refine⟨k,g,e,h3,?_,h4⟩;have h1:=h1.symm.trans h3;injection h1 with h1
  injection h1 with _ h1
  injection h1 with h1
  rw[← h1]
  rcases h2 with h2|h2
  ·rw[h2];exact mem_cons_self
  ·rw[h2];exact mem_cons_of_mem _ (mem_singleton.2 rfl)
structure Zn (s:CS) (m:MS) (told:List (Nat×Nat)) (n:Nat):Prop where
 R:Rel s m told
 I:Inv s
 T:ZK s.par
 P:Yc s
 G:∀ (k:Nat) (t:QW),s.tab[k]? = some t→t.gen≤told.length
 O:m.objs.length≤n
 Q:m.P.length≤n+1
theorem Zn.start (n size slots:Nat):Zn (Wd n size slots) XZ [] 0:=by
 refine⟨jN n size slots,(tS n size slots).inv,⟨nodup_nil,fun r q h=>(by cases h)⟩,fun k g e h=>?_,fun k t h=>?_,Nat.le_refl _,Nat.le_refl _⟩
 ·have h:(List.replicate slots (⟨0,none⟩:QW))[k]? = some ⟨g,some e⟩:=h;rw[getElem?_replicate] at h;split at h <;> cases h
 ·have h:(List.replicate slots (⟨0,none⟩:QW))[k]? = some t:=h;rw[getElem?_replicate] at h;split at h
  ·injection h with h
   subst h;exact Nat.le_refl _
  ·cases h
theorem yS {ts us:List QW} (h:YH us=YH ts) {k:Nat} {u:QW} (hk:us[k]? = some u):∃ t,ts[k]? = some t∧t.gen=u.gen:=by
 have h1:(YH us)[k]? = some (u.gen,u.ent.isSome):=by
  unfold YH;rw[getElem?_map,hk];rfl
 rw[h] at h1;unfold YH at h1;rw[getElem?_map] at h1;cases ht:ts[k]? with
 | none=>rw[ht] at h1;cases h1
 | some t=>
  rw[ht] at h1;injection h1 with h1
  injection h1 with h1 _
  exact⟨t,rfl,h1⟩
theorem Zn.step {s s':CS} {m m':MS} {told told':List (Nat×Nat)} {n:Nat} (J:Zn s m told n) (R':Rel s' m' told') (S:LO s m told s' m' told'):Zn s' m' told' (n+1):=by
 have h1:=S.objs;have h2:=S.P;have h3:=J.O;have h4:=J.Q;refine⟨R',S.inv J.I,S.tree J.T,S.part J.P,fun k t hk=>?_,by omega,by omega⟩
 rcases S.tab with ⟨e1,e2⟩|⟨k0,g0,e1,e2,_,e4⟩
 ·obtain⟨t0,a,b⟩:=yS e2 hk;rw[e1,← b];exact J.G k t0 a
 ·have Qw:told'.length=told.length+1:=by rw[e1,length_append];rfl
  rw[Qw]
  have hs:(YH s'.tab)[k]? = some (t.gen,t.ent.isSome):=by
   unfold YH;rw[getElem?_map,hk];rfl
  rw[e4,getElem?_set] at hs;split at hs
  ·split at hs
   ·injection hs with hs
    injection hs with hs _
    have:=J.G k0 _ e2;dsimp only at this;omega
   ·cases hs
  ·unfold YH at hs;rw[getElem?_map] at hs;cases ht:s.tab[k]? with
   | none=>rw[ht] at hs;cases hs
   | some t0=>
    rw[ht] at hs;injection hs with hs
    injection hs with hs _
    have:=J.G k t0 ht;have hs:t0.gen=t.gen:=hs;omega
theorem Zn.free {s s':CS} {m:MS} {told:List (Nat×Nat)} {n:Nat} (J:Zn s m told n) (hm:VF m) {id:Int} (Qx:(QV s.par id).isSome=true) {L:List Int} (h1:L.Nodup) (h2:L.Pairwise (·≤·)) (h3:∀ c,c∈L↔UK s.par id c) (hF:Oy s L s'):L=(Ux m.P id).map (fun k:Nat=>(k:Int))∧Zn s' (Aa m (Ux m.P id)) told (n+1):=by
 have hL:=wp J.R J.T Qx h1 h2 h3;refine⟨hL,?_⟩;obtain⟨G,D,hT⟩:=hF.t;have ES:=hT;rw[hL] at ES;have h4:=J.O;have h5:=J.Q;refine⟨l7 J.R hm J.I ES,wl hT J.I,by rw[hT.par];exact wm J.T h3,hT.part J.P,fun k t hk=>?_,?_,?_⟩
 ·have Q6:k < s.tab.length:=by
   have:=(List.getElem?_eq_some_iff.1 hk).1;rw[hT.tabl] at this;exact this
  have ht:=getElem?_eq_getElem Q6;generalize s.tab[k]=t0 at ht;have:=hT.tab k t0 ht;rw[hk] at this;injection this with this
  have hg:=J.G k t0 ht;rw[this];split <;> exact hg
 ·show ((m.objs.map _).map _).length≤_;rw[length_map,length_map];omega
 ·show (Ye m.P _).length≤_;unfold Ye;rw[length_mapIdx];omega
theorem lw {s s':CS} {mv:Nat→Q9→Q9} (h:RL s s' mv) {n:Nat} (hg:∀ (k:Nat) (t:QW),s.tab[k]? = some t→t.gen≤n):∀ (k:Nat) (t:QW),s'.tab[k]? = some t→t.gen≤n:=by
 intro k t hk
 have Q6:k < s.tab.length:=by
  have:=(List.getElem?_eq_some_iff.1 hk).1;rw[h.tabl] at this;exact this
 have ht:=getElem?_eq_getElem Q6;generalize s.tab[k]=t0 at ht;have:=h.tab k t0 ht;rw[hk] at this;injection this with this
 rw[this];exact hg k t0 ht
theorem Zn.merge {s s':CS} {m:MS} {told:List (Nat×Nat)} {n:Nat} (J:Zn s m told n) {id q:Nat} (Qx:QV s.par (id:Int)=some (q:Int)) (hq:q≠0) (hM:EK s id q s'):Zn s' (EB m id q) told (n+1):=by
 have h4:=J.O;have h5:=J.Q;obtain⟨u1,u2,u3⟩:=J.T.up _ _ Qx;have QA:id≠q:=by omega
 refine⟨kS J.R (by omega) QA hM,kK hM (by omega) J.I,vD J.T Qx (by omega) hM.par,hM.part J.P,lw hM.mv J.G,?_,?_⟩
 ·show (m.objs.map _).length≤_;rw[length_map];omega
 ·show (GU m.P id q).length≤_;unfold GU;rw[length_mapIdx];omega
theorem Zn.split {s s':CS} (hw:WF s) {m:MS} {told:List (Nat×Nat)} {n:Nat} (J:Zn s m told n) {r:Nat} (hr:(QV s.par (r:Int)).isSome=true) {Z:List Pl} {os:List Nat} (h:Wj s r Z s') (Au:∀ (o k g:Nat) (x:QS),told[o]? = some (k,g)→m.objs[o]? = some x→x.gone=false→(o∈os↔k∈Z.map Pl.k)):Zn s' (AP m r os) told (n+1):=by
 have h4:=J.O;have h5:=J.Q
 have AI:((r:Nat):Int)≤s.last:=by
  cases hf:QV s.par (r:Int) with
  | none=>rw[hf] at hr;cases hr
  | some q=>exact(hw.par.2.2 _ _ ((YP J.T.nd).1 hf)).2
 refine⟨ka hw J.R h Au,kI hw AI h J.I,?_,h.part,lw h.mv J.G,?_,?_⟩
 ·rw[h.par];exact Tv J.T (.inr hr) (by omega) (fun x q hx=>(hw.par.2.2 x q hx).2) AI
 ·show (m.objs.mapIdx _).length≤_;rw[length_mapIdx];omega
 ·show (m.P++[_]).length≤_;rw[length_append];show _+1≤_;omega
theorem cW {s:CS} {m:MS} {told:List (Nat×Nat)} (R:Rel s m told) {r:Nat} {ys:List ((Nat×Nat)×Int)} (hy:∀ y∈ys,Bp told y) (h0:Zz s.tab r [] (ys.map (·.1))=0) {Z:List Pl} (hZ:Z.map (fun z=>(z.k,z.g))=ys.map (·.1)) :
  (∀ o∈ys.map (fun y=>y.2.toNat),o < m.objs.length)∧ys.map (·.2)=(ys.map fun y=>y.2.toNat).map (fun o:Nat=>(o:Int))∧∀ (o k g:Nat) (x:QS),told[o]? = some (k,g)→m.objs[o]? = some x→x.gone=false→(o∈ys.map (fun y=>y.2.toNat)↔k∈Z.map Pl.k):=by
 obtain⟨c1,c2⟩:=HT h0
 have GC:∀ y∈ys,∃ n:Nat,y.2=n∧told[n]? = some y.1:=by
  intro y Zr
  rcases hy y Zr with h|⟨h1,h2⟩
  ·exact h
  ·exfalso;obtain⟨⟨e,he,_⟩,_⟩:=c1 y.1 (mem_map.2 ⟨y,Zr,rfl⟩);obtain⟨o,ho⟩:=R.used _ _ _ he;rw[h2] at ho;cases ho
 refine⟨fun o ho=>?_,?_,fun o k g x ht hx hg=>⟨fun ho=>?_,fun hk=>?_⟩⟩
 ·obtain⟨y,Zr,rfl⟩:=mem_map.1 ho;obtain⟨n,h1,h2⟩:=GC y Zr;rw[h1,Int.toNat_natCast,← R.len];exact(List.getElem?_eq_some_iff.1 h2).1
 ·rw[map_map];refine map_congr_left fun y Zr=>?_;obtain⟨n,h1,_⟩:=GC y Zr;show y.2=((y.2.toNat:Nat):Int);rw[h1,Int.toNat_natCast]
 ·obtain⟨y,Zr,rfl⟩:=mem_map.1 ho;obtain⟨n,h1,h2⟩:=GC y Zr;rw[h1,Int.toNat_natCast,h2] at ht;injection ht with ht
  have:(k,g)∈Z.map (fun z=>(z.k,z.g)):=by rw[hZ];exact mem_map.2 ⟨y,Zr,ht⟩
  obtain⟨z,z1,z2⟩:=mem_map.1 this;injection z2 with z2 _
  exact mem_map.2 ⟨z,z1,z2⟩
 ·obtain⟨z,z1,z2⟩:=mem_map.1 hk;have:(z.k,z.g)∈ys.map (·.1):=by rw[← hZ];exact mem_map.2 ⟨z,z1,rfl⟩
  obtain⟨y,Zr,GH⟩:=mem_map.1 this;obtain⟨⟨e,he,_⟩,_⟩:=c1 y.1 (mem_map.2 ⟨y,Zr,rfl⟩);obtain⟨n,h1,h2⟩:=GC y Zr;rw[GH] at he h2;dsimp only at he;obtain⟨e',Kq,_⟩:=R.obj o x k g hx ht hg;rw[z2,Kq] at he;injection he with he
  injection he with hgg _
  have Xn:=OJ R.nodup ht (by rw[h2,← z2,hgg]);refine mem_map.2 ⟨y,Zr,?_⟩;rw[h1,Int.toNat_natCast,Xn]
theorem cB [Q4] (p:Nat) (s:CS) (region:Int) {w:World} {fr:List Q2} (H:Q0 w (QD p s::fr)) :
  Calls Tryz.prog 54 #[pp p,.int .i64 region] w (ret fun v w'=>v = .int .i64 (if (QV s.par region).isSome then 0 else 15)∧Q0 w' (QD p s::fr)):=by
 obtain⟨q,mem,hw,hm,H⟩:=YQ H;replace H:=Js [5,0,0,0,0,0] 0 H;refine call (Ow p q s.last s.par region H) ?_;rintro v w ⟨rfl,H⟩;replace H:=Js [1,1,1,1,1,0] 0 H;exact⟨rfl,VM hw hm H⟩
theorem yT [Q4] (p:Nat) (s:CS) (region:Int) (hf:QV s.par region=none) {w:World} {fr:List Q2} (H:Q0 w (QD p s::fr)) :
  Calls Tryz.prog 14 #[pp p,.int .i64 region] w (ret fun v w'=>v = .tuple #[.slice none 0 0,.int .i64 15]∧Q0 w' (QD p s::fr)):=by
 refine QQ Tryz.func14 rfl (by kernel_rfl) ?_;refine GW H ?_;intro b2 w H;refine J4 H ?_;replace H:=H.swap;refine XP H ?_;refine Jc rfl rfl (cB p s region H) ?_;rintro v w ⟨rfl,H⟩;rw[hf];refine Fe H ?_;exact Q3 (Jy H rfl fun w' H'=>⟨rfl,H'.swap.drop⟩)
theorem ya [Q4] (p:Nat) (s:CS) (region:Int) (hf:QV s.par region=none) {w:World} {fr:List Q2} (H:Q0 w (QD p s::fr)) :
  Calls Tryz.prog 27 #[pp p,.int .i64 region] w (ret fun v w'=>v = .tuple #[.int .i64 0,.int .i64 15]∧Q0 w' (QD p s::fr)):=by
 refine QQ Tryz.func27 rfl (by kernel_rfl) ?_;refine GW H ?_;intro b2 w H;refine J4 H ?_;replace H:=H.swap;refine XP H ?_;refine Jc rfl rfl (cB p s region H) ?_;rintro v w ⟨rfl,H⟩;rw[hf];refine Fe H ?_;exact Q3 (Jy H rfl fun w' H'=>⟨rfl,H'.swap.drop⟩)
theorem lz [Q4] (p:Nat) (s:CS) (region:Int) (l:Value) (hf:QV s.par region=none) {w:World} {fr:List Q2} (H:Q0 w (QD p s::fr)) :
  Calls Tryz.prog 20 #[pp p,.int .i64 region,l] w (ret fun v w'=>v = .tuple #[.int .i64 0,.int .i64 15]∧Q0 w' (QD p s::fr)):=by
 refine QQ Tryz.func20 rfl (by kernel_rfl) ?_;refine WR H ?_;refine Jc rfl rfl (cB p s region H) ?_;rintro v w ⟨rfl,H⟩;rw[hf];refine Fe H ?_;exact Q3 (Jy H rfl fun w' H'=>⟨rfl,H'⟩)
theorem yc [Q4] (p:Nat) (m:MS) (r:Int) (hl:Yj m.P r=false) {w:World} {fr:List Q2} (H:Q0 w (Qy p m::fr)) :
  Calls Tryz.prog 102 #[pp p,.int .i64 r] w (ret fun v w'=>v = .tuple #[.int .i64 0,.int .i64 15]∧Q0 w' (Qy p m::fr)):=by
 obtain⟨t,lc,oc,aL,cL,aO,cO,h1,h2,h3,h4,h5,H⟩:=GI H;refine QQ Tryz.func102 rfl (by kernel_rfl) ?_;refine Iq H ?_;replace H:=H.swap;refine Jc rfl rfl (Dw t m.P r H) ?_;rintro v w ⟨rfl,H⟩;rw[hl];refine Ir H ?_;exact Q3 (Jy (Zv h1 h2 h3 H.swap) rfl fun w' H'=>⟨rfl,H'⟩)
@[reducible] def Hk (K k A B C:Int) (X:Nat) (vW:Value) (raw:Bool) (i g rg:Int) (vL:Value):List Value:=[.int .i64 K,.int .i64 k,.int .i64 A,.int .i64 B,.int .i64 C,.int .u64 X,vW,.bool raw,.int .i64 i,.int .i64 g,.int .i64 rg,vL]
theorem yd [Q4] (p:Nat) (s:CS) (m:MS) (told:List (Nat×Nat)) (n:Nat) (J:Zn s m told n) (hn:n≤60) (K k A B C i g:Int) (ye:K≠3) (X:Nat) (hX:X < 18446744073709551616) (vW:Value) (ws:List Nat) (Yr:∀ x∈ws,x < 18446744073709551616) (raw:Bool) (rg:Int) (vL:Value) (L:List Int) (hL:L.length≤80)
  {w:World} {fr:List Q2} [hT:Z5 0 Lib.deBruijn64tab fr] (XR:YM fr vW ws.length 1 (Qj ws)) (Ad:YM fr vL L.length 1 (Qm L)) (H:Q0 w (Ua p s m told::fr)) :
  Calls Tryz.prog 36 #[.agg (Hk K k A B C X vW raw i g rg vL).toArray,pp p] w (ret fun v w'=>v = .bool true∧∃ s' m' told',Zn s' m' told' (n+1)∧Q0 w' (Ua p s' m' told'::fr)):=by
 obtain⟨_,adW,capW,rfl,_⟩:=id XR;obtain⟨_,adL,capL,rfl,_⟩:=id Ad;have hO:=J.O;have hQ:=J.Q;have Qw:=J.R.len;have cC:=bI J.R J.T;have Jn:Zn s m told (n+1):=⟨J.R,J.I,J.T,J.P,J.G,by omega,by omega⟩
 have Oz:∀ (k g:Nat) (e:Q9),s.tab[k]? = some ⟨g,some e⟩→g < 255:=fun k g e hk=>by
  have:=J.G k _ hk;dsimp only at this;omega
 refine QQ Tryz.func36 rfl (by kernel_rfl) ?_;refine J8 H ?_;intro b2 w H;refine DE H ?_;refine J2 H ?_;refine Dd H ?_;by_cases hK0:K=0
 ·subst hK0;refine Vt H ?_;refine Z6 H ?_;refine NN H ?_;refine Jc rfl rfl (tL p s m told J.R (by omega) (by omega) k A B C i g X hX _ ws Yr raw XR.there H.swap) ?_;rintro v w ⟨rfl,s',m',told',R',S',H⟩;refine J0 H ?_;exact Q3 (Jy H.swap.drop rfl fun w' H'=>⟨rfl,s',m',told',J.step R' S',H'⟩)
 rw[show (K == 0)=false by simpa using hK0];refine UH H ?_;obtain⟨c,mo,a,cap,H⟩:=E8 H.swap;obtain⟨_,_,hw,_,_⟩:=YQ H.swap;obtain⟨_,_,_,_,_,_,_,U4,_⟩:=GI (H.sel [2,0,0,0] 0);by_cases hK1:K=1
 ·subst hK1;refine Vt H ?_;replace H:=Js [1,3,0,0,0] 0 H;refine J1 H ?_;intro w H;refine SU H ?_;cases hf:QV s.par rg with
  | none=>
   have ZE:Yj m.P rg=false:=by rw[← E7 J.R,hf];rfl
   refine Jo 6 H ?_;refine Jk rfl rfl (yT c s rg hf H) ?_;rintro v w ⟨rfl,H⟩;refine KJ H ?_;replace H:=Js [3,0,0,0,0] 0 H;refine J1 H ?_;intro w H;refine A8 H ?_;refine Jk rfl rfl (lR mo m rg cC H) ?_;rintro v w (⟨_,rfl,H⟩|⟨hl,_⟩)
   case inr=>rw[ZE] at hl;cases hl
   refine NO H ?_;refine Gq H ?_;replace H:=GK (E:=3) (k:=1) (GK (E:=3) (k:=1) H);refine Qe rfl rfl rfl (V3 (a:=[]) (b:=[]) rfl rfl (call (OY (.slice none 0 0) (.slice none 0 0) [] [] (by simp) H) ?_));rintro v w ⟨rfl,H⟩;replace H:=H.drop.drop;refine J4 H ?_;replace H:=Js [2,2,1,0,0] 0 H;exact Q3 (Jy (Yw H.drop) rfl fun w' H'=>⟨rfl,s,m,told,Jn,H'⟩)
  | some q=>
   have Qx:(QV s.par rg).isSome=true:=by rw[hf];rfl
   have ZE:Yj m.P rg=true:=by rw[← E7 J.R,Qx]
   have Us:=hw.par.1;refine Jo 6 H ?_;refine Jk rfl rfl (km c s rg J.T Qx J.I Oz H) ?_;rintro v w ⟨u,L',s',rfl,Rv,Uy,Ha,bV,yf,H⟩;obtain⟨yg,J'⟩:=J.free U4 Qx Rv Uy Ha yf;obtain⟨au,mu,cu,rfl⟩:=VZ H;refine KJ H ?_;replace H:=Js [4,0,0,0,0] 0 H;refine J1 H ?_;intro w H;refine A8 H ?_;refine Jk rfl rfl (lR mo m rg cC H) ?_;rintro v w (⟨hl,_⟩|⟨_,vl,rfl,H⟩)
   ·rw[ZE] at hl;cases hl
   rw[Hg,← yg] at H;obtain⟨av,mv,cv,rfl⟩:=VZ H;refine KJ H ?_;replace H:=Js [2,0,0] 0 H;refine A2 H ?_;refine Gq H ?_;refine Qe rfl rfl rfl (V3 (a:=[]) (b:=[]) rfl rfl (call (OY _ _ L' L' (by omega) H) ?_));rintro v w ⟨rfl,H⟩;rw[decide_eq_true rfl];replace H:=H.drop.drop;refine J4 H ?_;replace H:=Js [2,2,1,0,0] 0 H;exact Q3 (Jy (Yw H.drop) rfl fun w' H'=>⟨rfl,s',_,told,J',H'⟩)
 rw[show (K == 1)=false by simpa using hK1];refine UH H ?_;by_cases hK2:K=2
 ·subst hK2;refine Vt H ?_;replace H:=Js [1,3,0,0,0] 0 H;refine J1 H ?_;intro w H;refine SU H ?_;cases hf:QV s.par rg with
  | none=>
   have ZE:Yj m.P rg=false:=by rw[← E7 J.R,hf];rfl
   refine Jo 6 H ?_;refine Jk rfl rfl (ya c s rg hf H) ?_;rintro v w ⟨rfl,H⟩;refine KJ H ?_;replace H:=Js [3,0,0,0,0] 0 H;refine J1 H ?_;intro w H;refine A8 H ?_;refine Jk rfl rfl (yc mo m rg ZE H) ?_;rintro v w ⟨rfl,H⟩;refine NO H ?_;refine WZ H ?_;refine J4 H ?_;replace H:=Js [2,2,1,0,0] 0 H;exact Q3 (Jy (Yw H.drop) rfl fun w' H'=>⟨rfl,s,m,told,Jn,H'⟩)
  | some q=>
   obtain⟨id,rfl,On,m3,Kj⟩:=(J.R.tree _ _).1 ((YP J.R.nd).1 hf);obtain⟨qn,rfl⟩:∃ qn:Nat,q=qn:=⟨q.toNat,by omega⟩;refine Jo 6 H ?_;refine Jk rfl rfl (lP c s (id:Int) (qn:Int) hf J.T H) ?_;rintro v w (⟨hz,rfl,H⟩|⟨hz,rfl,s',hM,H⟩)
   ·refine KJ H ?_;replace H:=Js [3,0,0,0,0] 0 H;refine J1 H ?_;intro w H;refine A8 H ?_;refine Jk rfl rfl (lY mo m id (qn:Int) On m3 Kj H) ?_;rintro v w (⟨_,rfl,H⟩|⟨UD,_⟩)
    case inr=>exact absurd hz UD
    refine NO H ?_;refine WZ H ?_;refine J4 H ?_;replace H:=Js [2,2,1,0,0] 0 H;exact Q3 (Jy (Yw H.drop) rfl fun w' H'=>⟨rfl,s,m,told,Jn,H'⟩)
   ·have J':=J.merge hf (by omega) hM;refine KJ H ?_;replace H:=Js [3,0,0,0,0] 0 H;refine J1 H ?_;intro w H;refine A8 H ?_;refine Jk rfl rfl (lY mo m id (qn:Int) On m3 Kj H) ?_;rintro v w (⟨UD,_⟩|⟨_,rfl,H⟩)
    ·exact absurd UD hz
    rw[Int.toNat_natCast] at H;refine KJ H ?_;refine YJ H ?_;rw[XK ((qn:Nat):Int)];refine DS H ?_;refine J4 H ?_;replace H:=Js [2,2,1,0,0] 0 H;exact Q3 (Jy (Yw H.drop) rfl fun w' H'=>⟨rfl,s',_,told,J',H'⟩)
 rw[show (K == 2)=false by simpa using hK2];refine UH H ?_;rw[show (K == 3)=false by simpa using ye];refine De H ?_;replace H:=Js [4,0,0,0,0] 0 H;exact Q3 (Jy (Yw H.drop) rfl fun w' H'=>⟨rfl,s,m,told,Jn,H'⟩)
theorem m6 {s:CS} {r:Int} {l:List (Nat×Nat)} (h:UW s r l=0):l.length≤64∧Zz s.tab r [] l=0:=by
 unfold UW at h;split at h
 ·cases h
 ·rename_i h1;split at h
  ·rename_i h2;exact absurd h h2
  ·rename_i h2;exact⟨by omega,Classical.not_not.1 h2⟩
theorem yh {m:MS} {r:Int} {os:List Int} (h:Xu m r os=0):Gh m.P r=0:=by
 unfold Xu at h;split at h
 ·cases h
 ·rename_i h1;split at h
  ·cases h
  ·split at h
   ·rename_i h2;exact absurd h h2
   ·split at h
    ·cases h
    ·rename_i h3;unfold Gh;rw[if_neg (fun h4=>h1 h4.2),if_neg h3]
theorem yi [Q4] (p:Nat) (m:MS) (r:Nat) (os:List Nat) (al:Option Addr) (cl:Nat) (hd:Gh m.P (r:Int)=0) (Bh:m.P.length < 100000) (Au:∀ o∈os,o < m.objs.length) (hl:os.length≤64) (OL:List Int) (Ae:OL=os.map fun o:Nat=>(o:Int)) {w:World} {fr:List Q2} (H:Q0 w (Qy p m::IL (.slice al OL.length cl) OL::fr)) :
  Calls Tryz.prog 104 #[pp p,.int .i64 r,.slice al OL.length cl] w (ret fun v w'=>v = .int .i64 m.P.length∧Q0 w' (Qy p (AP m r os)::IL (.slice al OL.length cl) OL::fr)):=by
 have e:OL.length=os.length:=by rw[Ae,length_map]
 have h:=wv p m r os al cl hd Bh Au hl (w:=w) (fr:=fr) (by rw[Hg,← Ae,← e];exact H);rw[Hg,← Ae,← e] at h;exact h
theorem yj [Q4] (p:Nat) (s:CS) (m:MS) (told:List (Nat×Nat)) (n:Nat) (J:Zn s m told n) (hn:n≤60) (k A B C i g:Int) (X:Nat) (hX:X < 18446744073709551616) (vW:Value) (ws:List Nat) (Yr:∀ x∈ws,x < 18446744073709551616) (raw:Bool) (rg:Int) (vL:Value) (L:List Int) (hL:L.length≤80)
  {w:World} {fr:List Q2} [hT:Z5 0 Lib.deBruijn64tab fr] (XR:YM fr vW ws.length 1 (Qj ws)) (Ad:YM fr vL L.length 1 (Qm L)) (H:Q0 w (Ua p s m told::fr)) :
  Calls Tryz.prog 36 #[.agg (Hk 3 k A B C X vW raw i g rg vL).toArray,pp p] w (ret fun v w'=>v = .bool true∧∃ s' m' told',Zn s' m' told' (n+1)∧Q0 w' (Ua p s' m' told'::fr)):=by
 obtain⟨_,adW,capW,rfl,_⟩:=id XR;obtain⟨_,adL,capL,rfl,_⟩:=id Ad;have hO:=J.O;have hQ:=J.Q;have Qw:=J.R.len;have cC:=bI J.R J.T;have Jn:Zn s m told (n+1):=⟨J.R,J.I,J.T,J.P,J.G,by omega,by omega⟩
 have Oz:∀ (k g:Nat) (e:Q9),s.tab[k]? = some ⟨g,some e⟩→g < 255:=fun k g e hk=>by
  have:=J.G k _ hk;dsimp only at this;omega
 refine QQ Tryz.func36 rfl (by kernel_rfl) ?_;refine J8 H ?_;intro b2 w H;refine DE H ?_;refine J2 H ?_;refine Dd H ?_;refine UH H ?_;obtain⟨c,mo,a,cap,H⟩:=E8 H.swap;obtain⟨_,_,hw,_,_⟩:=YQ H.swap;obtain⟨_,_,_,_,_,_,_,U4,_⟩:=GI (H.sel [2,0,0,0] 0);refine UH H ?_;refine UH H ?_;refine Vt H ?_;replace H:=Js [0,2,0,0,0] 0 H;refine NI H ?_;refine Jc rfl rfl (lH p c mo a cap told (by omega) _ L (by omega) Ad.there.there.there H) ?_;rintro v w ⟨ys,vt,vo,rfl,Lt,YV,H⟩;generalize hTL:ys.map (·.1)=TL at H;generalize Ae:ys.map (·.2)=OL at H;obtain⟨at',ct,rfl⟩:=QI (m:=TL.length) H (Bf _) (by decide);obtain⟨ao,co,rfl⟩:=QI (m:=OL.length) H.drop (YZ _) (by decide);have Ys:TL.length=ys.length:=by rw[← hTL,length_map]
 have Vu:OL.length=ys.length:=by rw[← Ae,length_map]
 refine Gt H ?_;replace H:=Js [4,0,0,0,0] 0 H;refine J1 H ?_;intro w H;refine Ja 0 ?_;refine Ja 1 ?_;refine Jf 2 ?_;refine Jl 3 [7] H ?_;refine Jf 4 ?_;refine Jl 5 [7] H ?_;refine Ja 6 ?_;cases hf:QV s.par rg with
 | none=>
  have ZE:Yj m.P rg=false:=by rw[← E7 J.R,hf];rfl
  have hW:Xu m rg OL=15:=by unfold Xu;rw[if_pos ZE]
  refine Jo 7 H ?_;refine Jk rfl rfl (lz c s rg (.slice at' TL.length ct) hf H) ?_;rintro v w ⟨rfl,H⟩;refine Fh H ?_;replace H:=Js [5,2,0,0,0,0] 0 H;refine J1 H ?_;intro w H;refine Nb H ?_;refine Jk rfl rfl (P7 mo m rg OL ao co (by omega) H) ?_;rintro v w ⟨rfl,H⟩;rw[hW];refine A5 H ?_;refine A4 H ?_;refine Rm H ?_;refine A2 H ?_;refine Gq H ?_;refine J4 H ?_;replace H:=Js [6,3,1,2,1,0,0] 0 H;exact Q3 (Jy (Yw H.drop.drop.drop) rfl fun w' H'=>⟨rfl,s,m,told,Jn,H'⟩)
 | some q=>
  obtain⟨r,rfl,ZG,hPr,Kj⟩:=(J.R.tree _ _).1 ((YP J.R.nd).1 hf);have Qx:(QV s.par (r:Int)).isSome=true:=by rw[hf];rfl
  have Gc:=J.R.last;have UV:=wJ J.R hw Qx YV;rw[hTL,Ae] at UV;refine Jo 7 H ?_;refine Jk rfl rfl (lf c s r Qx J.T J.P (by omega) (.slice at' TL.length ct) TL (by omega) H) ?_;rintro v w (⟨hc,rfl,H⟩|⟨hc,rfl,Wt,H⟩|⟨hc,rfl,Z,s',hZ,hS,H⟩)
  ·refine Fh H ?_;replace H:=Js [5,2,0,0,0,0] 0 H;refine J1 H ?_;intro w H;refine Nb H ?_;refine Jk rfl rfl (P7 mo m r OL ao co (by omega) H) ?_;rintro v w ⟨rfl,H⟩;rw[← UV];refine A5 H ?_;generalize UW s r TL=E at hc UV;refine Uh H ?_;refine Vj H ?_;rw[show (((E:Nat):Int) != 0)=true by rw[bne_iff_ne];omega];refine NM H ?_;rw[XK ((E:Nat):Int)];refine KO H ?_;refine J4 H ?_;replace H:=Js [6,3,1,2,1,0,0] 0 H;exact Q3 (Jy (Yw H.drop.drop.drop) rfl fun w' H'=>⟨rfl,s,m,told,Jn,H'⟩)
  ·refine Fh H ?_;replace H:=Js [5,2,0,0,0,0] 0 H;refine J1 H ?_;intro w H;refine Nb H ?_;refine Jk rfl rfl (P7 mo m r OL ao co (by omega) H) ?_;rintro v w ⟨rfl,H⟩;rw[← UV,hc];refine A5 H ?_;refine A4 H ?_;refine Iy H ?_;refine Rm H ?_;replace H:=Js [2,0,0] 0 H;obtain⟨u,mem,UE,Zu,H⟩:=YQ H;refine CY H ?_;refine Ug H ?_;refine Kt H ?_;replace H:=Js [3,0,0,0] 0 H;refine Qe rfl rfl rfl (V3 (a:=[]) (b:=[]) rfl rfl (call (fh u.sp s.size mem s.own H) ?_));rintro v w ⟨rfl,H⟩;replace H:=Js [1,1,1,0] 0 H;replace H:=VM UE Zu H;refine Zq H ?_;refine SX H ?_;have hTO:TL.length=OL.length:=by omega
   rw[show decide (((s.own.length - (s.own.filter (· != 0)).length:Nat):Int) < ((OL.length:Nat):Int))=true from decide_eq_true (by omega)];refine J4 H ?_;replace H:=Js [6,3,2,2,0,0,0] 0 H;exact Q3 (Jy (Yw H.drop.drop.drop) rfl fun w' H'=>⟨rfl,s,m,told,Jn,H'⟩)
  ·refine Fh H ?_;replace H:=Js [5,2,0,0,0,0] 0 H;refine J1 H ?_;intro w H;refine Nb H ?_;refine Jk rfl rfl (P7 mo m r OL ao co (by omega) H) ?_;rintro v w ⟨rfl,H⟩;rw[← UV,hc];refine A5 H ?_;refine A4 H ?_;refine Iy H ?_;refine YT H ?_;refine J1 H ?_;intro w H;refine JQ H ?_;refine N7 H ?_;refine Jl 7 [11] H ?_;refine Jf 8 ?_;refine Jl 9 [11] H ?_;refine Ja 10 ?_;have Et:Xu m r OL=0:=by rw[← UV];exact hc
   obtain⟨hlT,m7⟩:=m6 hc;rw[← hTL] at m7 hZ;obtain⟨Ct,Lc,cQ⟩:=cW J.R YV m7 hZ;have J':=J.split hw Qx hS cQ;have VH:(ys.map fun y=>y.2.toNat).length=ys.length:=length_map _;have Hl:OL=(ys.map fun y=>y.2.toNat).map fun o:Nat=>(o:Int):=by rw[← Ae];exact Lc
   generalize (ys.map fun y=>y.2.toNat)=os at Ct Hl J' VH;refine Jo 11 H ?_;refine Jk rfl rfl (yi mo m r os ao co (yh Et) (by omega) Ct (by omega) OL Hl H) ?_;rintro v w ⟨rfl,H⟩;refine Ja 12 ?_;rw[Gc,XK ((m.P.length:Nat):Int)];refine Rl H ?_;replace H:=Js [6,3,1,2,1,0,0] 0 H;exact Q3 (Jy (Yw H.drop.drop.drop) rfl fun w' H'=>⟨rfl,s',_,told,J',H'⟩)
structure ZN where
 K:Int
 a:Ac
 rg:Int
 vL:Value
 L:List Int
def Uc (x:ZN):List Value:=Hk x.K x.a.k x.a.A x.a.B x.a.C x.a.X x.a.vW x.a.raw x.a.i x.a.g x.rg x.vL
def Af (l:List ZN):List Value:=l.flatMap Uc
def ET (fr:List Q2) (x:ZN):Prop:=OP fr x.a∧YM fr x.vL x.L.length 1 (Qm x.L)
theorem ET.there {A:Q2} {fr:List Q2} {x:ZN} (h:ET fr x):ET (A::fr) x:=⟨⟨h.1.1,h.1.2.1,h.1.2.2.there⟩,h.2.there⟩
theorem yk (l:List ZN):(Af l).length=l.length*12:=by
 induction l with
 | nil=>rfl
 | cons p L ih=>simp only[Af,Uc,flatMap_cons,length_append,length_cons,length_nil] at ih ⊢;omega
theorem ym {L:List ZN} {i:Nat} {x:ZN} (h:L[i]? = some x):∀ j v,(Uc x)[j]? = some v→(Af L)[i*12+j]? = some v:=by
 induction L generalizing i with
 | nil=>simp at h
 | cons y L ih=>
  intro j v hj;have aY:j < 12:=(List.getElem?_eq_some_iff.1 hj).1;cases i with
  | zero=>
   simp at h;subst h;show (Uc y++L.flatMap Uc)[0*12+j]? = _;rw[Nat.zero_mul,Nat.zero_add,getElem?_append_left aY];exact hj
  | succ i=>
   have:=ih (i:=i) (by simpa using h) j v hj;show (Uc y++L.flatMap Uc)[(i+1)*12+j]? = _;rw[getElem?_append_right (by show 12≤_;omega)];show (L.flatMap Uc)[(i+1)*12+j - 12]? = _;rw[show (i+1)*12+j - 12=i*12+j by omega];exact this
theorem m9 {c:List Value} {o n:Nat} {L:List ZN} (h:QY c o n (Af L)) {i:Nat} {x:ZN} (hp:L[i]? = some x):QY c (o+i*12) 12 (Uc x):=
 h.part (es:=Uc x) fun j v hj=>ym hp j v hj
theorem yn {i:Nat} (h:i < 9223372036854775807):Value.int .i64 (IntKind.i64.wrap ((i:Int)+1)) = .int .i64 ((i+1:Nat):Int):=by
 rw[Qh (by omega) (by omega)];rfl
theorem sls_rd [Q4] {w:World} {l:List Q2} {E k m cap:Nat} {a:Option Addr} {c:List Value} (hc:c.length=m*k) (H:Q0 w (QF E k (.slice a m cap) c::l)):∃ A:Q2,Q0 w (A::l)∧YM (A::l) (.slice a m cap) m k c:=by
 by_cases hm:m=0
 ·exact⟨prop True,Q0.prop.2 ⟨trivial,H.drop⟩,hc,a,cap,rfl,.inl hm⟩
 ·obtain⟨b,s,rfl,H,_⟩:=VY H (by omega);refine⟨_,H,hc,_,cap,rfl,.inr ⟨b,0,E,(0,0),c++s,rfl,inferInstance,?_⟩⟩;rw[← hc];refine QY.of_get fun j v hj=>?_;rw[Nat.zero_add,getElem?_append_left (List.getElem?_eq_some_iff.1 hj).1];exact hj
theorem yp [Q4] (v:Value) (l:List Ac) (hl:l.length≤9223372036854775807) {w:World} {fr:List Q2} (hr:YM fr v l.length 9 (AJ l)) (QK:∀ x∈l,OP fr x) (H:Q0 w fr) :
  Calls Tryz.prog 34 #[v] w (ret fun r w'=>∃ b:Bool,r = .int .i64 (if b then 1 else 0)∧(b=false→l.length≤60)∧Q0 w' fr):=by
 refine QQ Tryz.func34 rfl (by kernel_rfl) ?_;refine Vg H ?_;obtain⟨_,ad,cap,rfl,_⟩:=id hr;refine Z6 H ?_;refine Jc rfl rfl (tP _ l hl hr QK H) ?_;rintro r w ⟨b,rfl,hb,H⟩;refine J2 H ?_;cases b with
 | true=>
  refine ZB H ?_;exact Q3 (Jy H rfl fun w' H'=>⟨true,rfl,fun h=>(by cases h),H'⟩)
 | false=>
  refine De H ?_;exact Q3 (Jy H rfl fun w' H'=>⟨false,rfl,hb,H'⟩)
theorem yq [Q4] (v:Value) (l:List ZN) (hl:l.length*128≤140737488351232) {w:World} {fr:List Q2} (hr:YM fr v l.length 12 (Af l)) (QK:∀ x∈l,ET fr x) (H:Q0 w fr) :
  Calls Tryz.prog 9 #[v] w (ret fun r w'=>∃ b,r = .bool b∧(b=false→l.length≤60∧∀ x∈l,x.L.length≤80)∧Q0 w' fr):=by
 obtain⟨h0,ad,cap,rfl,Qv⟩:=hr;refine QQ Tryz.func9 rfl (by kernel_rfl) ?_;refine Vg H ?_;refine Ey H ?_;refine Qp (fun ms σ w n=>ms=[]∧∃ (i:Nat) (vi:Value),i≤l.length∧n=l.length - i∧(∀ x∈l.take i,x.L.length≤80)∧σ 3=vi∧σ 6 = .slice ad l.length cap∧σ 7 = .int .i64 l.length∧σ 8 = .int .i64 i∧Q0 w (QF 93 9 vi (AJ ((l.take i).map ZN.a))::fr)) (m:=l.length) ⟨rfl,0,_,by omega,rfl,fun x hx=>(by simp at hx),rfl,rfl,rfl,rfl,GK H⟩ ?_;rintro ms σ w n ⟨rfl,i,vi,hi,rfl,Zi,g3,g6,g7,g8,H⟩;obtain⟨ai,mi,ci,rfl⟩:=VZ H;rw[Q1 g3,Q1 g6,Q1 g7,Q1 g8];refine J7 H ?_;refine Qk rfl (fun h=>QE ?_) (fun h=>Qu ?_)
 ·have Q6:i < l.length:=by omega
  have hy:=getElem?_eq_getElem Q6;have Qi:l.take (i+1)=l.take i++[l[i]]:=by rw[take_add_one,hy];rfl
  generalize l[i]=y at hy Qi;have aZ:=QK y (mem_of_getElem? hy)
  rcases Qv with hz|⟨b,o,E,fz,c,rfl,hA,Qv⟩
  ·omega
  haveI:=hA;obtain⟨K,⟨k,A,B,C,X,vW,ws,raw,i1,gg1⟩,rg,vL,L⟩:=y;obtain⟨⟨_,_,_,adW,capW,Ry,_⟩,_,adL,capL,Ea,_⟩:=aZ;replace Ry:vW = .slice adW ws.length capW:=Ry;replace Ea:vL = .slice adL L.length capL:=Ea;subst Ry Ea;refine Z8 H ?_;refine Jd ?_;refine Q5 rfl (Vy H rfl (m9 Qv hy) rfl ?_);refine VO H ?_;intro b5 w H;refine J5 H ?_;intro w H;refine J2 H ?_;replace H:Q0 w (pts b5 (row 95 (Hk K k A B C X (.slice adW ws.length capW) raw i1 gg1 rg (.slice adL L.length capL)))::_):=H;refine FZ H ?_;refine WU H ?_;by_cases PU:(L.length:Int) > 80
  ·rw[show decide ((L.length:Int) > 80)=true from decide_eq_true (by omega)];refine ZB H ?_;exact Q3 (Jy H.drop.drop rfl fun w' H'=>⟨true,rfl,fun h=>(by cases h),H'⟩)
  ·rw[show decide ((L.length:Int) > 80)=false from decide_eq_false (by omega)];refine F8 H ?_;refine NN H ?_;refine X7 H ?_;intro b19 w H;replace H:=Js [2,0,0] 0 H
   refine Q5 rfl (p3 H rfl rfl (by repeat first|exact .nil _|apply QY.cons rfl) rfl (by decide) (fun n hn=>by
    rw[aV,length_map,length_take] at hn;omega) rfl rfl ?_);intro v20 w H
   obtain⟨a20,m20,c20,rfl⟩:=VZ H;refine J0 H ?_;replace H:=Js [1,1,0] 0 H;replace H:=H.drop.drop
   have e1:AJ ((l.take i).map ZN.a)++[.int .i64 k,.int .i64 A,.int .i64 B,.int .i64 C,.int .u64 X,.slice adW ws.length capW,.bool raw,.int .i64 i1,.int .i64 gg1]=AJ ((l.take (i+1)).map ZN.a):=by
    rw[Qi,map_append];unfold AJ;rw[flatMap_append];rfl
   rw[e1] at H;refine J3 H ?_;refine⟨_,⟨rfl,i+1,_,Q6,rfl,fun x hx=>?_,rfl,rfl,rfl,yn (by omega),H⟩,by omega⟩;rw[Qi] at hx
   rcases mem_append.1 hx with hx|hx
   ·exact Zi x hx
   ·rw[mem_singleton] at hx;subst hx;show L.length≤80;omega
 ·obtain rfl:i=l.length:=by omega
  rw[take_length] at H Zi;have AY:(l.map ZN.a).length=l.length:=length_map _;obtain⟨ai,ci,hv⟩:=QI (m:=(l.map ZN.a).length) H (aV _) (by decide);injection hv with hv1 hv2 hv3
  subst hv1 hv2 hv3;refine Z6 H ?_;obtain⟨A,H,hR⟩:=sls_rd (aV _) H
  refine Q5 rfl (V3 (a:=[]) (b:=[]) rfl rfl (call (yp _ (l.map ZN.a) (by omega) hR (fun x hx=>by
     obtain⟨y,hy,rfl⟩:=mem_map.1 hx;have:=(QK y hy).1;exact⟨this.1,this.2.1,this.2.2.there⟩) H) ?_))
  rintro r w ⟨b,rfl,hb,H⟩;cases b with
  | true=>
   refine J4 H ?_;exact Q3 (Jy H.drop rfl fun w' H'=>⟨true,rfl,fun h=>(by cases h),H'⟩)
  | false=>
   refine J4 H ?_;have:=hb rfl;exact Q3 (Jy H.drop rfl fun w' H'=>⟨false,rfl,fun _=>⟨by omega,Zi⟩,H'⟩)
def jB:MS:=⟨[-1,0,1],[L0],[]⟩
def jC:MS:=BO jB 1 1 0
def jD:MS:=BO jC 2 1 0
def jE:MS:=(Zw jD 0 1 1).1
def jF:MS:=Aa jE [2]
theorem mQ:VF jB:=⟨⟨by simp[jB],by simp[jB]⟩,⟨by simp[jB],fun l h=>by simp[jB] at h;subst h;exact tf⟩,(fun x h=>by simp[jB] at h),by simp[jB]⟩
theorem mV:YO jB 1 1 0=(2,0):=by decide
theorem mY:YO jC 2 1 0=(2,0):=by decide
theorem mZ:VF jC:=TZ (by rw[mV]) mQ (by simp[jB])
theorem cD:VF jD:=TZ (by rw[mY]) mZ (by show (jB.objs++[_]).length < _;simp[jB])
theorem yr:VF jE:=by
 show VF (G9 jD 0 { XG 1 1 0 2 with kind:=(XG 1 1 0 2).kind.set 1 2,to:=(XG 1 1 0 2).to.set 1 1 });exact Dy cD (TY (cD.objs _ (show XG 1 1 0 2∈[XG 1 1 0 2,XG 2 1 0 2] from mem_cons_self)) 1 2 1 (fun _=>by decide))
theorem yu {s:CS} {m:MS} {told:List (Nat×Nat)} (R:Rel s m told) (h:m.P=[-1,0,1]) (r q:Int):QV s.par r=some q↔(r=1∧q=0)∨(r=2∧q=1):=by
 rw[YP R.nd,R.tree,h];constructor
 ·rintro⟨k,rfl,h1,h2,h3⟩
  match k,h1,h2 with
  | 1,_,h2=>injection h2 with h2;exact .inl ⟨rfl,h2.symm⟩
  | 2,_,h2=>injection h2 with h2;exact .inr ⟨rfl,h2.symm⟩
  | k+3,_,h2=>cases h2
 ·rintro(⟨rfl,rfl⟩|⟨rfl,rfl⟩)
  ·exact⟨1,rfl,by omega,rfl,by omega⟩
  ·exact⟨2,rfl,by omega,rfl,by omega⟩
theorem yv {L:List Int} {x:Int} (QN:L.Nodup) (h:∀ c,c∈L↔c=x):L=[x]:=by
 cases L with
 | nil=>have:=(h x).2 rfl;cases this
 | cons a L=>
  obtain rfl:=(h a).1 mem_cons_self;cases L with
  | nil=>rfl
  | cons b L=>
   obtain rfl:=(h b).1 (by simp);simp at QN
theorem cE [Q4] {w:World} {fr:List Q2} [hT:Z5 0 Lib.deBruijn64tab fr] (H:Q0 w fr) :
  Calls Tryz.prog 8 #[] w (ret fun v w'=>v = .bool true∧Q0 w' fr):=by
 have Rs0:=jN 6 8 6;have mG:RG (Wd 6 8 6) [2,2,0]=({ Wd 6 8 6 with lays:=[L0] },1,0):=by rw[HG tc];rfl
 refine QQ Tryz.func8 rfl (by kernel_rfl) ?_;refine Ih H ?_;refine Jc rfl rfl (iR 6 8 6 (by omega) (by omega) (by omega) (by omega) (by omega) (by omega) H) ?_;rintro v w ⟨c,rfl,H⟩;replace H:Q0 w (QD c (Wd 6 8 6)::fr):=H;refine Gt H ?_;refine YJ H ?_;refine Zq H ?_;refine Ik H ?_;refine Z6 H ?_;refine X7 H ?_;intro b22 w H;replace H:=H.swap;have Qv:YM (pts b22 (row 83 [.int .u64 2,.int .u64 2,.int .u64 0])::fr) (.slice (some ⟨b22,0,none⟩) 3 3) 3 1 (Qj [2,2,0]):=⟨rfl,_,_,rfl,.inr ⟨b22,0,_,_,_,rfl,inferInstance,.cons rfl (.cons rfl (.cons rfl (.nil _)))⟩⟩;refine Jc rfl rfl (iK c (Wd 6 8 6) _ [2,2,0] (by decide) Qv H) ?_;rintro v w ⟨rfl,H⟩;rw[mG] at H ⊢
 have RA:Rel { Wd 6 8 6 with lays:=[L0] } ⟨[-1],[L0],[]⟩ []:=by
  have h:=(ie Rs0 th [2,2,0]).2;rw[mG] at h;exact h
 refine Io H ?_;refine Jc rfl rfl (TO c _ 0 (by decide) H) ?_;rintro v w (⟨h1,rfl,H⟩|⟨_,ob,ob2,rfl,H⟩)
 ·exact absurd rfl h1
 have RO:=Tg RA (parent:=0) rfl ob ob2;generalize hsA:E2 { Wd 6 8 6 with lays:=[L0] } 0 ob ob2=sA at H RO;have mU:sA.par=[(1,0)]∧sA.last=1:=by rw[← hsA];exact⟨rfl,rfl⟩
 refine Io H ?_;have Pg:Gf sA.par 1=0:=by rw[mU.1];decide
 refine Jc rfl rfl (TO c _ 1 (by rw[mU.2];decide) H) ?_;rintro v w (⟨h1,rfl,H⟩|⟨_,oc,oc2,rfl,H⟩)
 ·exact absurd Pg h1
 have RB:=Tg RO (parent:=1) (by decide) oc oc2;generalize hsB:E2 sA 1 oc oc2=sB at H RB;have cZ:sB.size=8:=by rw[← hsB,← hsA];rfl
 have Cq:sB.own=List.replicate 6 0:=by rw[← hsB,← hsA];rfl
 have PX:sB.tab=List.replicate 6 ⟨0,none⟩:=by rw[← hsB,← hsA];rfl
 have FB:Co sB []:=⟨⟨6,by rw[PX];rfl⟩,rfl,jV (by rw[← hsB,← hsA];rfl) (by rw[PX];exact jY)⟩;replace RB:Rel sB jB []:=RB;refine Io H ?_;refine Jc rfl rfl (OO c sB 1 1 0 H) ?_;rintro v w ⟨i1,g1,e1,sC,rfl,Br,H⟩;obtain⟨rfl,rfl,rfl,RC,FC,Vo,ZU,mX⟩:=jO RB mQ FB Br mV cZ (by rw[PX];decide) ⟨0,by rw[Cq];decide,by rw[Cq];rfl⟩;rw[PX] at mX;rw[Cq] at ZU;replace RC:Rel sC jC [(0,1)]:=RC;replace FC:Co sC [(0,1)]:=FC
 have G2:∃ a,a < sC.own.length∧sC.own.getD a 0=0:=by
  obtain⟨hl,a0,k0,Xp,hg⟩:=ZU
  have hz:∀ a,a≠a0→sC.own.getD a 0=0:=by
   intro a ha;refine Classical.byContradiction fun h=>?_
   rcases hg a h with h1|h1
   ·exact h1 (Tj 6 a)
   ·omega
  have hl4:sC.own.length=6:=hl;by_cases h0:a0=0
  ·exact⟨1,by omega,hz 1 (by omega)⟩
  ·exact⟨0,by omega,hz 0 (by omega)⟩
 refine YC H ?_;intro b3 w H;refine J5 H ?_;intro w H;refine J0 H ?_;replace H:=H.swap;refine Z6 H ?_;refine Jc rfl rfl (OO c sC 2 1 0 H) ?_;rintro v w ⟨i2,g2,e2,sD,rfl,Lw,H⟩;obtain⟨rfl,rfl,rfl,RD,FD,Y5,Zl,hD3⟩:=jO RC mZ FC Lw mY Vo (by rw[mX];decide) G2;replace RD:Rel sD jD [(0,1),(1,1)]:=RD;refine YC H ?_;intro b5 w H;refine J5 H ?_;intro w H;refine J0 H ?_;replace H:=Js [1,0,0] 0 H;refine CY H ?_;refine Wz H ?_;refine DA H ?_;refine DA H ?_;obtain⟨_,_,mK,_,_⟩:=YQ H;have P0:KU [(0,1),(1,1)] 0 1 0 := .inl ⟨0,1,0,rfl,rfl,rfl,rfl⟩;have P1:KU [(0,1),(1,1)] 1 1 1 := .inl ⟨1,1,1,rfl,rfl,rfl,rfl⟩;obtain⟨t1,RE⟩:=iT RD mK cD P0 P1 1;rw[show (Zw jD 0 1 1).2=0 by decide] at t1;replace RE:Rel (GV sD 0 1 1 1 1).1 jE [(0,1),(1,1)]:=RE;have IE:=j9 mK FD.inv 0 1 1 1 1;have shE:=jU sD 0 1 1 1 1;refine Qe rfl rfl rfl (V3 (a:=[]) (b:=[]) rfl rfl (call (iX c sD 0 1 1 1 1 H) ?_));rintro v w ⟨rfl,H⟩;rw[t1];generalize (GV sD 0 1 1 1 1).1=sE at H RE IE shE
 have yw:∀ (k g:Nat) (e:Q9),sE.tab[k]? = some ⟨g,some e⟩→g < 255:=by
  intro k g e hk;obtain⟨⟨r,hs⟩,_,_⟩:=id FD;rw[← shE] at hs
  rcases HA hs hk with ⟨_,h1,_⟩|⟨_,_,h1,_⟩
  ·have h1:g=1:=h1;omega
  ·have h1:g=0:=h1;omega
 have PK:=yu RE rfl
 have cF:ZK sE.par:=by
  refine⟨RE.nd,fun r q hr=>?_⟩
  rcases (PK r q).1 hr with ⟨rfl,rfl⟩|⟨rfl,rfl⟩
  ·exact⟨by omega,by omega,.inl rfl⟩
  ·exact⟨by omega,by omega,.inr (by rw[(PK 1 0).2 (.inl ⟨rfl,rfl⟩)];rfl)⟩
 refine WQ H ?_;refine Z6 H ?_;refine Jc rfl rfl (km c sE 2 cF (by rw[(PK 2 1).2 (.inr ⟨rfl,rfl⟩)];rfl) IE yw H) ?_;rintro v w ⟨u,L,sF,rfl,Rv,Uy,Ha,bV,hF,H⟩
 have yx:L=[2]:=yv Rv fun c=>by
  rw[Ha];constructor
  ·intro d;cases d with
   | self=>rfl
   | kid hd hf=>
    rcases (PK _ _).1 hf with ⟨rfl,rfl⟩|⟨rfl,rfl⟩
    ·have:=hd.ge cF;omega
    ·have:=hd.ge cF;omega
  ·rintro rfl;exact .self
 subst yx;obtain⟨aL,cL,rfl⟩:=QI H (YZ [2]) (by decide);obtain⟨G,D,hT⟩:=hF.t;have RF:Rel sF jF [(0,1),(1,1)]:=l7 (L:=[2]) RE yr IE hT;refine Gt H ?_
 have t4:Yu sF 0 1 1=(.grave,0):=by
  rcases Te RF P0 1 with ⟨h1,h2⟩|⟨h1,n,j,x,h2,h3,h4,_,_,_,_,h5⟩
  ·exact absurd (by decide) h1
  ·obtain rfl:n=0:=by omega
   obtain rfl:j=1:=by omega
   rw[h5];have h6:jF.objs[0]? = some ⟨1,1,0,[0,0],[0,1],[0,0],true,false,false⟩:=by rfl
   rw[h6] at h4;injection h4 with h4
   rw[← h4];rfl
 replace H:=Js [1,0,0,0] 0 H;refine Xy H ?_;refine Jc rfl rfl (L5 c sF 0 1 1 H) ?_;rintro v w ⟨rfl,H⟩;rw[t4];refine YC H ?_;intro b9 w H;refine J5 H ?_;intro w H;refine N9 H ?_;refine Zq H ?_;refine Qe rfl rfl rfl (C3 H rfl rfl rfl ?_);intro b66 w H;replace H:Q0 w (IL (.slice (some ⟨b66,0,none⟩) 1 1) [2]::_):=Rd rfl H;replace H:=Js [3,0,0,0,0,0] 0 H;have mR:=OY (.slice aL 1 cL) (.slice (some ⟨b66,0,none⟩) 1 1) [2] [2] (by decide) H;refine Qe rfl rfl rfl (V3 (a:=[]) (b:=[]) rfl rfl (call (mR) ?_));clear mR;rintro v w ⟨rfl,H⟩;rw[show decide ([2]=([2]:List Int))=true from rfl];refine Jv ?_;refine Jv ?_;refine VW rfl rfl rfl rfl ?_;refine VW rfl rfl rfl rfl ?_;refine Jv ?_;refine Jv ?_;refine Iv H ?_;refine Qe rfl rfl rfl (IY rfl rfl rfl rfl (.inl rfl) rfl ?_);refine J4 H ?_;replace H:Q0 w fr:=H.drop.drop.drop.drop.drop.drop.drop;exact Q3 (Jy H rfl fun w' H'=>⟨rfl,H'⟩)
theorem yy [Q4] (p:Nat) (s:CS) (m:MS) (told:List (Nat×Nat)) (n:Nat) (J:Zn s m told n) (hn:n≤60) (K k A B C i g:Int) (X:Nat) (hX:X < 18446744073709551616) (vW:Value) (ws:List Nat) (Yr:∀ x∈ws,x < 18446744073709551616) (raw:Bool) (rg:Int) (vL:Value) (L:List Int) (hL:L.length≤80)
  {w:World} {fr:List Q2} [hT:Z5 0 Lib.deBruijn64tab fr] (XR:YM fr vW ws.length 1 (Qj ws)) (Ad:YM fr vL L.length 1 (Qm L)) (H:Q0 w (Ua p s m told::fr)) :
  Calls Tryz.prog 36 #[.agg (Hk K k A B C X vW raw i g rg vL).toArray,pp p] w (ret fun v w'=>v = .bool true∧∃ s' m' told',Zn s' m' told' (n+1)∧Q0 w' (Ua p s' m' told'::fr)):=by
 by_cases hK:K=3
 ·subst hK;exact yj p s m told n J hn k A B C i g X hX vW ws Yr raw rg vL L hL XR Ad H
 ·exact yd p s m told n J hn K k A B C i g hK X hX vW ws Yr raw rg vL L hL XR Ad H
theorem yz [Q4] (z1 z2 z3:Int) (v:Value) (l:List ZN) (hl:l.length≤60) (PU:∀ x∈l,x.L.length≤80) {w:World} {fr:List Q2} [hT:Z5 0 Lib.deBruijn64tab fr] (hr:YM fr v l.length 12 (Af l)) (QK:∀ x∈l,ET fr x) (H:Q0 w fr) :
  Calls Tryz.prog 10 #[.agg #[.int .i64 z1,.int .i64 z2,.int .i64 z3],v] w (ret fun r w'=>∃ p s m told,r = .tuple #[pp p,.bool true]∧Zn s m told 60∧Q0 w' (Ua p s m told::fr)):=by
 obtain⟨_,ad,cap,rfl,Qv⟩:=id hr;refine QQ Tryz.func10 rfl (by kernel_rfl) ?_;refine J8 H ?_;intro b2 w H;refine J4 H ?_;refine XL H ?_;refine Jc rfl rfl (tT z1 z2 z3 H) ?_;rintro r w ⟨p,n,size,slots,rfl,K3,Gv,Vn,Yp,Nx,Fo,H⟩;refine FE H ?_;replace H:=H.swap.drop;refine Z6 H ?_;refine B7 H ?_;refine Qp (fun ms σ w n=>ms=[]∧∃ (i:Nat) (s:CS) (m:MS) (told:List (Nat×Nat)),i≤l.length∧n=l.length - i∧Zn s m told i∧σ 6=pp p∧σ 13 = .slice ad l.length cap∧σ 14 = .int .i64 l.length∧σ 15 = .int .i64 i∧Q0 w (Ua p s m told::fr)) (m:=l.length) ⟨rfl,0,_,_,_,by omega,rfl,Zn.start n size slots,rfl,rfl,rfl,rfl,H⟩ ?_;rintro ms σ w n' ⟨rfl,i,s,m,told,hi,rfl,J,g6,g13,g14,g15,H⟩;rw[Q1 g6,Q1 g13,Q1 g14,Q1 g15];refine J7 H ?_;refine Qk rfl (fun h=>QE ?_) (fun h=>Qu ?_)
 ·have Q6:i < l.length:=by omega
  have hy:=getElem?_eq_getElem Q6;generalize l[i]=y at hy;have hm:=mem_of_getElem? hy;obtain⟨⟨hX,Yr,XR⟩,Ad⟩:=QK y hm;have hL:=PU y hm
  rcases Qv with hz|⟨b,o,E,fz,c,rfl,hA,Qv⟩
  ·omega
  haveI:=hA;obtain⟨K,⟨k,A,B,C,X,vW,ws,raw,i1,gg1⟩,rg,vL,L⟩:=y;obtain⟨_,adW,capW,Ry,_⟩:=id XR;obtain⟨_,adL,capL,Ea,_⟩:=id Ad;replace Ry:vW = .slice adW ws.length capW:=Ry;replace Ea:vL = .slice adL L.length capL:=Ea;subst Ry Ea;refine Z8 H ?_;refine Jd ?_;refine Q5 rfl (Vy H rfl (m9 Qv hy) rfl ?_);refine VO H ?_;intro b8 w H;refine J5 H ?_;intro w H;refine J2 H ?_;replace H:Q0 w (pts b8 (row 95 (Hk K k A B C X (.slice adW ws.length capW) raw i1 gg1 rg (.slice adL L.length capL)))::_):=H;refine FU H ?_;refine Jc rfl rfl (yy p s m told i J (by omega) K k A B C i1 gg1 X hX _ ws Yr raw rg _ L hL XR.there Ad.there H.swap) ?_;rintro r w ⟨rfl,s',m',told',J',H⟩;refine BV H ?_;exact⟨_,⟨rfl,i+1,s',m',told',Q6,rfl,J',rfl,rfl,rfl,Qg (by omega),H.swap.drop⟩,by omega⟩
 ·refine Vj H ?_;have KO:Zn s m told 60:=⟨J.R,J.I,J.T,J.P,J.G,by have:=J.O;omega,by have:=J.Q;omega⟩;exact Q3 (Jy H rfl fun w' H'=>⟨p,s,m,told,rfl,KO,H'⟩)
theorem mW {s:CS} (hw:WF s) (hT:ZK s.par) {r:Int} (hr:(QV s.par r).isSome=true) {s':CS} {Z:List Pl} (h:Wj s r Z s') :
  QV s.par ((s.last+1:Nat):Int)=none∧r≠((s.last+1:Nat):Int)∧QV s'.par ((s.last+1:Nat):Int)=some r∧(∀ c,QV s'.par c≠some ((s.last+1:Nat):Int))∧ZK s'.par∧∀ c,c≠((s.last+1:Nat):Int)→QV s'.par c=QV s.par c:=by
 have Zt:∀ x q,QV s.par x=some q→x≤s.last:=fun x q hx=>(hw.par.2.2 x q ((YP hT.nd).1 hx)).2
 have AI:r≤s.last:=by
  cases hf:QV s.par r with
  | none=>rw[hf] at hr;cases hr
  | some q=>exact Zt _ _ hf
 have h0:QV s.par ((s.last+1:Nat):Int)=none:=by
  cases hf:QV s.par ((s.last+1:Nat):Int) with
  | none=>rfl
  | some q=>have:=Zt _ _ hf;omega
 have Mb:0≤r:=by
  cases hf:QV s.par r with
  | none=>rw[hf] at hr;cases hr
  | some q=>have:=hT.up _ _ hf;omega
 have ES:ZK s'.par:=by
  rw[h.par];exact Tv hT (.inr hr) Mb (fun x q hx=>(hw.par.2.2 x q hx).2) AI
 have Qx:QV s'.par ((s.last+1:Nat):Int)=some r:=(YP ES.nd).2 (by rw[h.par];simp)
 have AK:∀ c,c≠((s.last+1:Nat):Int)→QV s'.par c=QV s.par c:=fun c hc=>by
  cases hf:QV s.par c with
  | some q=>exact(YP ES.nd).2 (by rw[h.par];exact mem_append.2 (.inl ((YP hT.nd).1 hf)))
  | none=>
   cases Zg:QV s'.par c with
   | none=>rfl
   | some q=>
    have h1:=(YP ES.nd).1 Zg;rw[h.par] at h1
    rcases mem_append.1 h1 with h1|h1
    ·rw[(YP hT.nd).2 h1] at hf;cases hf
    ·rw[mem_singleton] at h1;injection h1 with h1 _
     exact absurd h1 hc
 refine⟨h0,by omega,Qx,fun c hc=>?_,ES,AK⟩;by_cases QJ:c=((s.last+1:Nat):Int)
 ·rw[QJ,Qx] at hc;injection hc with hc
  omega
 ·rw[AK c QJ] at hc;obtain⟨_,_,h1⟩:=hT.up _ _ hc
  rcases h1 with h1|h1
  ·omega
  ·rw[h0] at h1;cases h1
def ZO (m:MS) (os:List Nat) (v:Nat):MS:={ m with objs:=m.objs.mapIdx fun o x=>if o∈os then { x with region:=v } else x }
theorem cH (m:MS) (os:List Nat) (v o:Nat):(ZO m os v).objs[o]? = (m.objs[o]?).map fun x=>if o∈os then { x with region:=v } else x:=getElem?_mapIdx
def cI (s:CS) (m:MS) (told:List (Nat×Nat)) (r:Nat) (Z:List Pl) (os:List Nat):Prop:=
 (∀ o∈os,∃ (k g:Nat) (x:QS),told[o]? = some (k,g)∧m.objs[o]? = some x∧x.gone=false∧x.region=r∧k∈Z.map Pl.k)∧∀ (o k g:Nat) (x:QS),told[o]? = some (k,g)→m.objs[o]? = some x→x.gone=false→(o∈os↔k∈Z.map Pl.k)
theorem zQ {s:CS} {m:MS} {told:List (Nat×Nat)} {r:Nat} {Z:List Pl} {os:List Nat} (h:cI s m told r Z os) (v:Nat):ZO (ZO m os v) os r=m:=by
 have h1:(ZO (ZO m os v) os r).objs=m.objs:=by
  refine ext_getElem? fun o=>?_;rw[cH,cH];cases hx:m.objs[o]? with
  | none=>rfl
  | some x=>
   by_cases ho:o∈os
   ·obtain⟨k,g,y,_,hy,_,hr,_⟩:=h.1 o ho;rw[hx] at hy;injection hy with hy
    subst hy;simp only[Option.map_some,if_pos ho];rw[← hr]
   ·simp only[Option.map_some,if_neg ho]
 show ({ m with objs:=(ZO (ZO m os v) os r).objs }:MS)=m;rw[h1]
theorem zV {s:CS} {m:MS} {told:List (Nat×Nat)} (R:Rel s m told) {r:Nat} {ys:List ((Nat×Nat)×Int)} (hy:∀ y∈ys,Bp told y) (h0:Zz s.tab r [] (ys.map (·.1))=0) {Z:List Pl} (hZ:Z.map (fun z=>(z.k,z.g))=ys.map (·.1)) (AO:∀ z∈Z,s.tab[z.k]? = some ⟨z.g,some z.e⟩∧z.e.region=(r:Int)):cI s m told r Z (ys.map fun y=>y.2.toNat):=by
 obtain⟨h1,h2,h3⟩:=cW R hy h0 hZ;refine⟨fun o ho=>?_,h3⟩;have VH:=h1 o ho;have hx:=getElem?_eq_getElem VH;generalize m.objs[o]=x at hx;have X5:o < told.length:=by rw[R.len];exact VH
 have ht:=getElem?_eq_getElem X5;obtain⟨⟨⟨k,g⟩,yo⟩,Zr,EI⟩:=mem_map.1 ho;obtain⟨c1,c2⟩:=HT h0;obtain⟨⟨e,he,_⟩,_⟩:=c1 (k,g) (mem_map.2 ⟨_,Zr,rfl⟩)
 have Km:told[o]? = some (k,g):=by
  rcases hy _ Zr with ⟨n,h4,h5⟩|⟨_,h5⟩
  ·have:n=o:=by rw[← EI,h4,Int.toNat_natCast]
   rw[← this];exact h5
  ·rw[h5] at X5;exact absurd X5 (Nat.not_lt_zero _)
 have hg:x.gone=false:=by
  cases hgx:x.gone with
  | false=>rfl
  | true=>exact absurd he (R.gone o x k g hx Km hgx e)
 have hk:=(h3 o k g x Km hx hg).1 ho;obtain⟨z,z1,z2⟩:=mem_map.1 hk;obtain⟨e',Kq,hL⟩:=R.obj o x k g hx Km hg;obtain⟨z3,z4⟩:=AO z z1;rw[z2,Kq] at z3;injection z3 with z3
 injection z3 with _ z3
 injection z3 with z3
 refine⟨k,g,x,Km,hx,hg,?_,hk⟩;have:=hL.region;rw[z3,z4] at this;omega
theorem zY {s s' s2:CS} {m:MS} {told:List (Nat×Nat)} (hw:WF s) (R:Rel s m told) (hI:Inv s) (hT:ZK s.par) {r:Nat} (hr:(QV s.par (r:Int)).isSome=true) {Z:List Pl} {os:List Nat} (hS:Wj s r Z s') (hP:cI s m told r Z os) (hM:EK s' ((s.last+1:Nat):Int) r s2):KG s2 m told∧Inv s2:=by
 have Zt:∀ x q,QV s.par x=some q→x≤s.last:=fun x q hx=>(hw.par.2.2 x q ((YP hT.nd).1 hx)).2
 have AI:(r:Int)≤s.last:=by
  cases hf:QV s.par (r:Int) with
  | none=>rw[hf] at hr;cases hr
  | some q=>exact Zt _ _ hf
 have Gc:=R.last;have R2:=kS (ka hw R hS hP.2) (id:=s.last+1) (q:=r) (by omega) (by omega) hM;refine⟨?_,kK hM (by omega) (kI hw AI hS hI)⟩
 have Bc:∀ (o:Nat) (x:QS),m.objs[o]? = some x→∃ x2,(EB (AP m r os) (s.last+1) r).objs[o]? = some x2∧x2.gone=x.gone∧(x.gone=false→x2=x):=fun o x hx=>by
  have h1:(EB (AP m r os) (s.last+1) r).objs[o]? = some (UR (s.last+1) r (if o∈os then { x with region:=m.P.length } else x)):=by
   show ((m.objs.mapIdx _).map _)[o]? = _;rw[getElem?_map,getElem?_mapIdx,hx];rfl
  refine⟨_,h1,?_,fun hg=>?_⟩
  ·rw[ay];show (if o∈os then { x with region:=m.P.length } else x).gone=_;split <;> rfl
  ·by_cases ho:o∈os
   ·obtain⟨k,g,y,_,hy,_,zZ,_⟩:=hP.1 o ho;rw[hx] at hy;injection hy with hy
    subst hy;rw[if_pos ho];unfold UR;rw[if_pos (by show m.P.length=_;omega),← zZ]
   ·rw[if_neg ho];unfold UR;rw[if_neg];intro h2;have X5:o < told.length:=by rw[R.len];exact(List.getElem?_eq_some_iff.1 hx).1
    have ht:=getElem?_eq_getElem X5;generalize told[o]=t at ht;obtain⟨k,g⟩:=t;obtain⟨e,he,hL⟩:=R.obj o x k g hx ht hg;obtain⟨_,_,q,hq⟩:=hw.obj k g e he;have h3:=(hw.par.2.2 _ _ hq).2;have h4:=hL.region;omega
 have GZ:∀ (k:Nat) (q:Int),1≤k→0≤q→((EB (AP m r os) (s.last+1) r).P[k]? = some q↔m.P[k]? = some q):=fun k q hk hq=>by
  show (GU (m.P++[(r:Int)]) (s.last+1) r)[k]? = _↔_;unfold GU;rw[getElem?_mapIdx]
  rcases Nat.lt_or_ge k m.P.length with h1|h1
  ·rw[getElem?_append_left h1,getElem?_eq_getElem h1];generalize hz:m.P[k]=z;show some (if k=s.last+1 then (-1:Int) else if 1≤k∧z=((s.last+1:Nat):Int) then (r:Int) else z)=_↔_;rw[if_neg (by omega),if_neg];rintro⟨_,h2⟩;have h3:=(R.tree (k:Int) z).2 ⟨k,rfl,hk,by rw[getElem?_eq_getElem h1,hz],by omega⟩;have:=(hT.up _ _ ((YP hT.nd).2 h3)).2.1;omega
  ·constructor
   ·intro h2;exfalso
    rcases Nat.eq_or_lt_of_le h1 with h3|h3
    ·subst h3;rw[getElem?_append_right (Nat.le_refl _),Nat.sub_self] at h2;have h2:some (if m.P.length=s.last+1 then (-1:Int) else if 1≤m.P.length∧(r:Int)=((s.last+1:Nat):Int) then (r:Int) else (r:Int))=some q:=h2;rw[if_pos (by omega)] at h2;injection h2 with h2
     omega
    ·rw[List.getElem?_eq_none_iff.2 (by rw[length_append];show _+1≤_;omega)] at h2;cases h2
   ·intro h2;rw[List.getElem?_eq_none_iff.2 h1] at h2;cases h2
 refine⟨R.len,R2.lays,fun x q=>?_,R2.nd,fun o x k g hx ht hg=>?_,fun o x k g hx ht hg=>?_⟩
 ·rw[R2.tree];constructor
  ·rintro⟨k,h1,h2,h3,h4⟩;exact⟨k,h1,h2,(GZ k q h2 h4).1 h3,h4⟩
  ·rintro⟨k,h1,h2,h3,h4⟩;exact⟨k,h1,h2,(GZ k q h2 h4).2 h3,h4⟩
 ·obtain⟨x2,h1,h2,h3⟩:=Bc o x hx;have h4:=h3 hg;subst h4;exact R2.obj o x2 k g h1 ht hg
 ·obtain⟨x2,h1,h2,h3⟩:=Bc o x hx;exact R2.gone o x2 k g h1 ht (by rw[h2];exact hg)
end Go.Proofs.YtmjdnljneifpcaaGreatDoor
