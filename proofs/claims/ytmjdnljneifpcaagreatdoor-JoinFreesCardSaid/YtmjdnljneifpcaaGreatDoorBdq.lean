/- Cells: what is proved on the way: every input of the statement; no condition. Texts joined: SplR ActB JnA ActC ActD ActE JnB ActF FreP. -/
import Derived.Test.YtmjdnljneifpcaaGreatDoorBdd
import Derived.Test.YtmjdnljneifpcaaGreatDoorBdo
import Derived.Test.YtmjdnljneifpcaaGreatDoorBdp
import Derived.Test.YtmjdnljneifpcaaGreatDoorBdl
import Derived.Test.YtmjdnljneifpcaaGreatDoorBdn
set_option linter.unusedVariables false
set_option linter.unusedSimpArgs false
set_option linter.unusedSectionVars false
namespace Go.Proofs.YtmjdnljneifpcaaGreatDoor
open Go.SL
theorem gU {T:QE} (h:T.at'≤T.fin):Z5 ⟨[],0,0⟩ T=T:=by
 obtain⟨ps,x,y⟩:=T;have h:x≤y:=h;unfold Z5;by_cases h0:y=0
 ·subst h0;obtain rfl:x=0:=by omega
  rfl
 ·show QE.mk _ (if y=0 then 0 else x) (if y=0 then 0 else y)=_;rw[if_neg h0,if_neg h0];rfl
theorem Ce:G7 Tryz.prog 69 kp:=L9 inferInstance
set_option maxRecDepth 10000 in
theorem gX [Q4] (p:Nat) (s:CS) (r:Nat) (hid:(QZ s.par (r:Int)).isSome=true) (hT:Yd s.par) (hP:Vt s) (hlast:s.last+1 < 1000000) (v:Value) (l:List (Nat×Nat)) (hl:l.length≤1000) {w:World} {fr:List Q2} [hTab:YN 0 Lib.deBruijn64tab fr] (H:Q0 w (QR p s::VW v l::fr)) :
  Calls Tryz.prog 20 #[pp p,.int .i64 r,v] w (ret fun x w'=>
   (ZJ s r l≠0∧x = .tuple #[.int .i64 0,.int .i64 (ZJ s r l:Nat)]∧Q0 w' (QR p s::VW v l::fr)) ∨
   (ZJ s r l=0∧x = .tuple #[.int .i64 0,.int .i64 11]∧s.own.length - (s.own.filter (· != 0)).length < l.length∧Q0 w' (QR p s::VW v l::fr)) ∨
   (ZJ s r l=0∧x = .tuple #[.int .i64 ((s.last+1:Nat):Int),.int .i64 0]∧∃ (Z:List Pl) (s':CS),Z.map (fun z=>(z.k,z.g))=l∧Aj s r Z s'∧Q0 w' (QR p s'::VW v l::fr))):=by
 obtain⟨a,c,rfl⟩:=QD H.drop (Ra l) (by decide);obtain⟨u,mem,hw,hm,H⟩:=Vs H;have hr1:=CP hT hid;refine QQ Tryz.func20 rfl (by kernel_rfl) ?_;refine J4 H ?_;replace H:=Js [5,0,0,0,0,0,0,0,0,0,0,0] 0 H;refine J5 H ?_;refine Jc rfl rfl (F3 p u s.last s.par r H) ?_;clear H;rintro v w ⟨rfl,H⟩;rw[if_pos hid];refine Yi H ?_;replace H:=Js [5,1,0,8,0,0,0,0,0,0,0,0] 0 H;refine Vh H ?_;refine Jc rfl rfl (fg p u s r (.slice a l.length c) l hl H) ?_;clear H;rintro v w ⟨rfl,H⟩;refine YD H ?_;by_cases hc:ZJ s r l=0
 case neg=>
  rw[show (((ZJ s r l:Nat):Int) != 0)=true by rw[bne_iff_ne];omega];refine Dk H ?_;replace H:=Js [1,3,3,3,0,0,1,1,1,1,1,0] 0 H;exact Q3 (Jy H rfl fun w' H' => .inl ⟨hc,rfl,VG hw hm H'⟩)
 rw[hc];refine V5 H ?_;have hrk:(r:Int)∈s.par.map (·.1):=WX hid;obtain⟨b0,hkS⟩:=KP (l:=s.sps) (f:=fun x=>x.1) (g:=fun x=>x.2.1) (k:=(r:Int)) (by rw[hw.skeys];exact hrk);obtain⟨⟨r1,b0',S⟩,p1,p2,hsps,hs1,hs2⟩:=KO hkS;have hs1:r1=(r:Int):=hs1;have hs2:b0'=b0:=hs2;subst hs1 hs2;obtain⟨c0,hkM⟩:=KP (l:=s.mns) (f:=fun x=>x.1) (g:=fun x=>x.2.1) (k:=(r:Int)) (by rw[hw.mkeys];exact hrk);obtain⟨⟨r2,c0',M⟩,m1,m2,hmns,hs3,hs4⟩:=KO hkM;have hs3:r2=(r:Int):=hs3;have hs4:c0'=c0:=hs4;subst hs3 hs4;have hkS':QZ (s.sps.map VJ) (r:Int)=some b0':=hkS;have hkM':QZ (s.mns.map Qz) (r:Int)=some c0':=hkM;have hSm:((r:Int),b0',S)∈s.sps:=by rw[hsps];simp
 obtain⟨t1,t2,t3,t4,t5,t6⟩:=Ag hw hSm;have t1:S.parts.length≤63:=t1;have t2:∀ x∈S.parts,1≤x.2∧x.1+x.2≤s.own.length:=t2;have ho:=hw.own.2;have hsz:=hw.size;refine J9 H ?_;refine Q5 rfl (Zt (key:=(r:Int)) H rfl rfl VP rfl ?_);rw[hkS'];refine J0 H ?_;refine J9 H ?_;refine Jc rfl rfl (HN u.sp r (by omega) H) ?_;clear H;rintro w0 w ⟨bt,rfl,H⟩;refine Zh H ?_;replace H:=Js [7,0,0,0,0,0,0,0,0,0,0,0,0] 0 H;refine Ya H ?_;refine Jc rfl rfl (EF u.sp s.size mem s.own H) ?_;clear H;rintro v w ⟨rfl,H⟩;refine J0 H ?_;refine GZ H ?_;refine Q5 rfl (Ki v1 kp H rfl ?_);clear H;intro bat w H;refine DL H ?_;replace H:=Js [11,0,0,0,0,0,0,0,0,0,0,0,0,0] 0 H;replace H:Q0 w (Qi b0' u.sp r S::star ((p1++p2).map (VT u.sp))::_):=(Q0.pick (R:=VT u.sp) (x:=((r:Int),b0',S)) hsps).1 H;replace H:=Js [8,5,5,0,3,2,3,3,1,1,1,1,0,0,0] 0 H
 have hchk:Z7 s.tab r [] l=0:=by
  unfold ZJ at hc;split at hc
  ·cases hc
  ·split at hc
   ·rename_i h1 h2;exact absurd hc h2
   ·rename_i h1 h2;exact Classical.not_not.1 h2
 obtain⟨hall,hnodl⟩:=F2 hchk;have hmml:=hm.len;refine J8 H ?_
 refine Vy (fun ms σ w=>ms=[]∧∃ (Z:List Pl) (own' mem':List Nat) (T:QE) (at':List ((Int×Int)×Int)),Z.map (fun z=>(z.k,z.g))=l∧(∀ z∈Z,s.tab[z.k]? = some ⟨z.g,some z.e⟩∧z.e.region=(r:Int))∧YH s r S Z mem own' mem' T∧(∀ z∈Z,QZ at' ((z.k:Int),(z.g:Int))=some (z.a:Int)) ∧
  σ 0=pp p∧σ 1 = .int .i64 r∧σ 2 = .slice a l.length c∧σ 10=pp b0'∧σ 11=pp bt∧σ 13 = .int .i64 s.size∧σ 14 = .map (some bat)∧Q0 w (VW (.slice a l.length c) l::Qh u.tp s.tab::V7 p u::Qi b0' u.sp r S::Qi bt u.sp r T::ST u.sp s.size mem' own'::Qw u.ip u.sp u.bp::Ql u.bp s.lays::mp kp v1 bat at'::Qg u.trp s.last s.par::RS u.rp s.rem::mp (ki .i64) Qr u.sm (s.sps.map VJ)::star ((p1++p2).map (VT u.sp))::mp (ki .i64) Qr u.mm (s.mns.map Qz)::star (s.mns.map VY)::fr)) ?_ ?_
 ·refine QS ?_
  refine Qj (fun ms σ w z=>ms=[]∧∃ (i:Nat) (Z:List Pl) (own' mem':List Nat) (T:QE) (at':List ((Int×Int)×Int)),i≤l.length∧z=l.length - i∧Z.map (fun z=>(z.k,z.g))=l.take i∧(∀ z∈Z,s.tab[z.k]? = some ⟨z.g,some z.e⟩∧z.e.region=(r:Int))∧YH s r S Z mem own' mem' T∧(∀ z∈Z,QZ at' ((z.k:Int),(z.g:Int))=some (z.a:Int)) ∧
   σ 0=pp p∧σ 1 = .int .i64 r∧σ 2 = .slice a l.length c∧σ 10=pp b0'∧σ 11=pp bt∧σ 13 = .int .i64 s.size∧σ 14 = .map (some bat)∧σ 66 = .slice a l.length c∧σ 67 = .int .i64 l.length∧σ 68 = .int .i64 i∧Q0 w (VW (.slice a l.length c) l::Qh u.tp s.tab::V7 p u::Qi b0' u.sp r S::Qi bt u.sp r T::ST u.sp s.size mem' own'::Qw u.ip u.sp u.bp::Ql u.bp s.lays::mp kp v1 bat at'::Qg u.trp s.last s.par::RS u.rp s.rem::mp (ki .i64) Qr u.sm (s.sps.map VJ)::star ((p1++p2).map (VT u.sp))::mp (ki .i64) Qr u.mm (s.mns.map Qz)::star (s.mns.map VY)::fr)) (m:=l.length) ⟨rfl,0,[],s.own,mem,⟨[],0,0⟩,[],by omega,by omega,rfl,(fun z hz=>(by cases hz)),YH.start s r S mem,(fun z hz=>(by cases hz)),rfl,rfl,rfl,rfl,rfl,rfl,rfl,rfl,rfl,rfl,H⟩ ?_
  clear H;rintro ms σ w z ⟨rfl,i,Z,own',mem',T,at',hi,rfl,hZ,hents,hA,hat,g0,g1,g2,g10,g11,g13,g14,g66,g67,g68,H⟩;rw[Q1 g0,Q1 g1,Q1 g2,Q1 g10,Q1 g11,Q1 g13,Q1 g14,Q1 g66,Q1 g67,Q1 g68];refine J7 H ?_;refine Qf rfl (fun h=>QW ?_) (fun h=>Qp ?_)
  ·have hlt:i < l.length:=by omega
   have hx:=List.getElem?_eq_getElem hlt;have htk:l.take (i+1)=l.take i++[l[i]]:=by rw[List.take_add_one,hx];rfl
   have hmem:=List.getElem_mem hlt
   have hnt:l[i]∉l.take i:=fun hh=>by
    obtain⟨j,hj⟩:=List.getElem?_of_mem hh;rw[List.getElem?_take] at hj;split at hj
    ·rename_i hji;obtain⟨hj1,hj2⟩:=List.getElem?_eq_some_iff.1 hj;exact(List.pairwise_iff_getElem.1 hnodl) j i hj1 hlt hji hj2
    ·cases hj
   generalize l[i]=tt at hx htk hmem hnt;obtain⟨k,n⟩:=tt;obtain⟨⟨e,hk,hheld,hreg,hpin⟩,_⟩:=hall _ hmem;have hk:s.tab[k]? = some ⟨n,some e⟩:=hk;have hL:Qk s.tab k n=some (k,e):=Am hk;obtain⟨bT,sT,rfl,H,hcl⟩:=Qx H (by omega);refine YY H ?_;refine Jd ?_;refine Q5 rfl (VH H rfl (Ka hx) rfl ?_);refine VZ H ?_;clear H;intro b16 w H;refine J3 H ?_;clear H;intro w H;refine Q6 ?_;replace H:=Js [1,0] 0 H;replace H:=hcl _ _ H;replace H:Q0 w (VW (.slice (some ⟨bT,0,none⟩) l.length c) l::pts b16 (row 69 [.int .i64 k,.int .i64 n])::_):=H;replace H:=Js [2,1,0,0,0,0,0,0,0,0] 0 H;refine J8 H ?_;refine Qn (fun ms σ w=>ms=[]∧∃ b17,σ 0=pp p∧σ 1 = .int .i64 r∧σ 2 = .slice (some ⟨bT,0,none⟩) l.length c∧σ 10=pp b0'∧σ 11=pp bt∧σ 13 = .int .i64 s.size∧σ 14 = .map (some bat)∧σ 16=pp b16∧σ 17=pp b17∧σ 66 = .slice (some ⟨bT,0,none⟩) l.length c∧σ 67 = .int .i64 l.length∧σ 68 = .int .i64 i∧Q0 w (Qh u.tp s.tab::pts b17 (row 113 (YE e))::pts b16 (row 69 [.int .i64 k,.int .i64 n])::VW (.slice (some ⟨bT,0,none⟩) l.length c) l::V7 p u::Qi b0' u.sp r S::Qi bt u.sp r T::ST u.sp s.size mem' own'::Qw u.ip u.sp u.bp::Ql u.bp s.lays::mp kp v1 bat at'::Qg u.trp s.last s.par::RS u.rp s.rem::mp (ki .i64) Qr u.sm (s.sps.map VJ)::star ((p1++p2).map (VT u.sp))::mp (ki .i64) Qr u.mm (s.mns.map Qz)::star (s.mns.map VY)::fr)) ?_ ?_
   ·refine J1 H ?_;clear H;intro w H;refine R6 H ?_;refine Jw 5 9 H rfl rfl (V2 (a:=[]) (b:=[]) rfl rfl (call (ZF u.tp s.tab k n H) ?_)) (Vu H rfl ?_)
    ·clear H;rintro v w ⟨rfl,H⟩;rw[hL];refine R7 H ?_;clear H;intro b17 w H;refine R8 H ?_;clear H;intro w H;refine GX H ?_;replace H:=Js [1,0] 0 H;exact⟨rfl,rfl,b17,rfl,rfl,rfl,rfl,rfl,rfl,rfl,rfl,rfl,rfl,rfl,rfl,H⟩
    ·clear H;intro b17 w H;refine Jo 5 H ?_;refine Jk rfl rfl (ZF u.tp s.tab k n H.swap) ?_;clear H;rintro v w ⟨rfl,H⟩;rw[hL];refine R9 H ?_;clear H;intro w H;refine GX H ?_;exact⟨rfl,rfl,b17,rfl,rfl,rfl,rfl,rfl,rfl,rfl,rfl,rfl,rfl,rfl,rfl,H⟩
   clear H;rintro ms σ w ⟨rfl,b17,g0,g1,g2,g10,g11,g13,g14,g16,g17,g66,g67,g68,H⟩;rw[Q1 g0,Q1 g1,Q1 g2,Q1 g10,Q1 g11,Q1 g13,Q1 g14,Q1 g16,Q1 g17,Q1 g66,Q1 g67,Q1 g68];refine Ge H ?_;refine Gf H ?_;refine Q5 rfl (XI (ek:=kp) (vv:=v1) (v:=((e.addr:Nat):Int)) (key:=(((k:Nat):Int),((n:Nat):Int))) H rfl rfl rfl Ce rfl ?_);clear H;intro w H;refine Q6 ?_;replace H:=Js [5,0,0,0,0,0] 0 H
   have hfit:e.addr < 9223372036854775808:=by
    have h1:=(hw.obj k n e hk).2.1.1;have h2:=Nat.mul_le_mul ho hsz.2;unfold QM at h1;omega
   refine YZ H ?_;refine Bd H ?_
   refine UQ (v := .int .i64 ((e.addr / s.size:Nat):Int)) (by
    show (if IntKind.i64=IntKind.i64 then (if ((s.size:Nat):Int)=0 then none else some (Value.int IntKind.i64 (IntKind.i64.wrap (Int.tdiv ((e.addr:Nat):Int) ((s.size:Nat):Int))))) else none)=_;rw[if_pos rfl,if_neg (by omega),WQ hfit]) rfl ?_
   refine Jc rfl rfl (fw b0' u.sp r S (e.addr / s.size) (by omega) (fun x hx=>by have:=(t2 x hx).2;omega) H) ?_;clear H;rintro v w ⟨rfl,H⟩;refine Q6 ?_
   have hins:∀ (v:Int) (z:Pl),z∈Z→QZ (Vp at' (((k:Nat):Int),((n:Nat):Int)) v) ((z.k:Int),(z.g:Int))=QZ at' ((z.k:Int),(z.g:Int)):=fun v z hz=>by
    rw[U9,if_neg];intro h1;injection h1 with h1 h2
    have h3:(z.k,z.g)∈l.take i:=by rw[← hZ];exact List.mem_map.2 ⟨z,hz,rfl⟩
    have h4:k=z.k:=by omega
    have h5:n=z.g:=by omega
    subst h4 h5;exact hnt h3
   cases hb:Zo S s.size e with
   | true=>
    have hb':Cd S (e.addr / s.size)=true:=hb;rw[hb'];refine VD H ?_;refine Qp ?_;replace H:=Js [4,1,3,0,2,2,2,2,2] 2 H;show C _ _ _ _ _ _ _ _;refine J4 H ?_;refine⟨_,⟨rfl,i+1,Z++[⟨k,n,e,e.addr⟩],own',mem',T,_,hlt,rfl,by rw[List.map_append,hZ,htk];rfl,(fun z hz=>?_),hA.big hb rfl,(fun z hz=>?_),rfl,rfl,rfl,rfl,rfl,rfl,rfl,rfl,rfl,Qb (by omega),H⟩,by omega⟩
    ·rcases List.mem_append.1 hz with hz|hz
     ·exact hents z hz
     ·rw[List.mem_singleton] at hz;subst hz;exact⟨hk,hreg⟩
    ·rcases List.mem_append.1 hz with hz|hz
     ·rw[hins _ z hz];exact hat z hz
     ·rw[List.mem_singleton] at hz;subst hz;rw[U9,if_pos rfl]
   | false=>
    have hb':Cd S (e.addr / s.size)=false:=hb;rw[hb'];refine V5 H ?_;have hImg:=hA.img hw (by omega) hm hk;have hlen1:e.ws.length+1≤s.size:=eI hw hT.nd hP hk (by rw[hreg];exact hSm) hb;replace H:=Js [8,8,7,0,0,0,0,0,0,0,0] 0 H;refine J8 H ?_;refine Qn (fun ms σ w=>ms=[]∧σ 0=pp p∧σ 1 = .int .i64 r∧σ 2 = .slice (some ⟨bT,0,none⟩) l.length c∧σ 10=pp b0'∧σ 11=pp bt∧σ 13 = .int .i64 s.size∧σ 14 = .map (some bat)∧σ 16=pp b16∧σ 17=pp b17∧σ 20 = .int .i64 ((e.ws.length+1:Nat):Int)∧σ 66 = .slice (some ⟨bT,0,none⟩) l.length c∧σ 67 = .int .i64 l.length∧σ 68 = .int .i64 i∧Q0 w (Qw u.ip u.sp u.bp::Ql u.bp s.lays::ST u.sp s.size mem' own'::Qi b0' u.sp r S::Qh u.tp s.tab::pts b17 (row 113 (YE e))::pts b16 (row 69 [.int .i64 k,.int .i64 n])::VW (.slice (some ⟨bT,0,none⟩) l.length c) l::V7 p u::Qi bt u.sp r T::mp kp v1 bat (Vp at' (((k:Nat):Int),((n:Nat):Int)) ((e.addr:Nat):Int))::Qg u.trp s.last s.par::RS u.rp s.rem::mp (ki .i64) Qr u.sm (s.sps.map VJ)::star ((p1++p2).map (VT u.sp))::mp (ki .i64) Qr u.mm (s.mns.map Qz)::star (s.mns.map VY)::fr)) ?_ ?_
    ·refine J1 H ?_;clear H;intro w H;refine YT H ?_;refine Jl 3 [6,12] H ?_;refine Jf 4 ?_;refine Jl 5 [6,12] H ?_;refine Jw 6 11 H rfl rfl (V2 (a:=[]) (b:=[]) rfl rfl (call (C1 u.ip u.sp u.bp s.size s.lays mem' own' e.addr e.lay e.count k e.ws.length (QN s e) hImg H) ?_)) (Vu H rfl ?_)
     ·clear H;rintro v w ⟨rfl,H⟩;refine E4 H ?_;refine Bl H ?_;clear H;intro b19 w H;refine Xd H ?_;clear H;intro w H;refine AG H ?_;replace H:=Js [1,1,1] 1 H;exact⟨rfl,rfl,rfl,rfl,rfl,rfl,rfl,rfl,rfl,rfl,rfl,rfl,rfl,rfl,rfl,H⟩
     ·clear H;intro b19 w H;replace H:=Js [1,1,1,0] 0 H;refine Jo 6 H ?_;refine Jk rfl rfl (C1 u.ip u.sp u.bp s.size s.lays mem' own' e.addr e.lay e.count k e.ws.length (QN s e) hImg H) ?_;clear H;rintro v w ⟨rfl,H⟩;refine E4 H ?_;refine Xd H ?_;clear H;intro w H;refine AG H ?_;replace H:=Js [0,0,0] 1 H;exact⟨rfl,rfl,rfl,rfl,rfl,rfl,rfl,rfl,rfl,rfl,rfl,rfl,rfl,rfl,rfl,H⟩
    clear H;rintro ms σ w ⟨rfl,g0,g1,g2,g10,g11,g13,g14,g16,g17,g20,g66,g67,g68,H⟩;rw[Q1 g0,Q1 g1,Q1 g2,Q1 g10,Q1 g11,Q1 g13,Q1 g14,Q1 g16,Q1 g17,Q1 g20,Q1 g66,Q1 g67,Q1 g68];obtain⟨v1',v2',v3',v4'⟩:=hA.bnd hw;replace H:=Js [9,2,0,0,0,0,0,0,0,0,0] 0 H;refine J5 H ?_;refine Jc rfl rfl (MM bt u.sp r s.size (e.ws.length+1) T mem' own' (by omega) (by omega) (by omega) hA.at1 (by omega) (by rw[hA.ol];exact ho) hsz.1 hsz.2 (by omega) H) ?_;clear H;rintro v w (⟨a2,own2,mem2,T2,rfl,al,H⟩|⟨rfl,hfull,H⟩)
    ·refine Fj H ?_;refine Gu H ?_;refine Ge H ?_;refine Jv ?_;refine Q5 rfl (XI (ek:=kp) (vv:=v1) (v:=((a2:Nat):Int)) (key:=(((k:Nat):Int),((n:Nat):Int))) H rfl rfl rfl Ce rfl ?_);clear H;intro w H;refine Q6 ?_;replace H:=Js [8,5,7,4,0,0,0,0,2] 2 H;refine J4 H ?_;refine⟨_,⟨rfl,i+1,Z++[⟨k,n,e,a2⟩],own2,mem2,T2,_,hlt,rfl,by rw[List.map_append,hZ,htk];rfl,(fun z hz=>?_),hA.small hw (by omega) hmml (z:=⟨k,n,e,a2⟩) hb hlen1 al,(fun z hz=>?_),rfl,rfl,rfl,rfl,rfl,rfl,rfl,rfl,rfl,Qb (by omega),H⟩,by omega⟩
     ·rcases List.mem_append.1 hz with hz|hz
      ·exact hents z hz
      ·rw[List.mem_singleton] at hz;subst hz;exact⟨hk,hreg⟩
     ·rcases List.mem_append.1 hz with hz|hz
      ·rw[U9,if_neg,hins _ z hz]
       ·exact hat z hz
       ·intro h1;injection h1 with h1 h2
        have h3:(z.k,z.g)∈l.take i:=by rw[← hZ];exact List.mem_map.2 ⟨z,hz,rfl⟩
        have h4:k=z.k:=by omega
        have h5:n=z.g:=by omega
        subst h4 h5;exact hnt h3
      ·rw[List.mem_singleton] at hz;subst hz;rw[U9,if_pos rfl]
    ·refine BF H ?_;refine VD H ?_;refine YZ H ?_;refine Jc rfl rfl (O0 bt u.sp r T s.size mem' own' (fun x hx=>by obtain⟨y1,y2⟩:=hA.parts x hx;have:=(List.getElem?_eq_some_iff.1 y2).1;rw[hA.ol];omega) hA.nd (fun d hd=>by rw[hA.og,if_pos hd];omega) v1' (by omega) (by rw[hA.ol];exact ho) hsz.2 v3' H) ?_;clear H;rintro v w ⟨rfl,own3,ho3,hg3,H⟩;have hown3:=hA.undo hw ho3 hg3;subst hown3;refine Ry H ?_;replace H:=Js [3,12,7,1,1,0,0,4,4,4,4,4,2] 3 H;replace H:=(Q0.pick (R:=VT u.sp) (x:=((r:Int),b0',S)) hsps).2 H;replace H:=Js [1,1,1,1,1,1,1,1,0,0,0,0] 0 H;replace H:=VG hw (OX hw hA hm rfl rfl rfl) H
     have hZl:Z.length=i:=by
      have:=congrArg List.length hZ;rw[List.length_map,List.length_take] at this;omega
     have hfree:s.own.length - (s.own.filter (· != 0)).length≤Z.length:=hA.full hw fun a ha=>by
      have hz:(e.ws.length+1 - 1) / s.size=0:=Nat.div_eq_of_lt (by omega);rw[hz] at hfull;obtain⟨j,j1,j2,j3⟩:=hfull a (by omega);have:j=a:=by omega
      rw[← this];exact j3
     exact Q3 (.inr ⟨by simp,Jy H rfl fun w' H' => .inr (.inl ⟨rfl,rfl,by omega,H'⟩)⟩)
  ·obtain rfl:i=l.length:=by omega
   rw[List.take_length] at hZ;exact .inl ⟨rfl,rfl,Z,own',mem',T,at',hZ,hents,hA,hat,rfl,rfl,rfl,rfl,rfl,rfl,rfl,H⟩
 clear H;rintro ms σ w ⟨rfl,Z,own',mem',T,at',hZ,hents,hA,hat,g0,g1,g2,g10,g11,g13,g14,H⟩;rw[Q1 g0,Q1 g1,Q1 g2,Q1 g10,Q1 g11,Q1 g13,Q1 g14]
 have hl64:s.par.length≠64:=by
  unfold ZJ at hc;intro h;rw[if_neg (fun h1=>by rw[if_pos h1] at hc;cases hc),if_neg (fun h1=>h1 hchk),if_pos h] at hc;cases hc
 have hae:Yz s.par r=0:=by
  unfold Yz;rw[if_neg (fun h=>by rw[hid] at h;cases h.2),if_neg hl64]
 obtain⟨v1',v2',v3',v4'⟩:=hA.bnd hw;replace H:=Js [9,0,0,0,0,0,0,0,0,0] 0 H;refine J9 H ?_;refine Jc rfl rfl (ME u.trp s.last s.par r (by omega) (fun x q hx=>(hw.par.2.2 x q hx).2) H) ?_;clear H;rintro w0 w (⟨h1,_,_⟩|⟨_,rfl,H⟩)
 ·exact absurd hae h1
 refine Zh H ?_;refine J9 H ?_;refine Jc rfl rfl (HN u.sp (s.last+1) (by omega) H) ?_;clear H;rintro w0 w ⟨bs,rfl,H⟩;refine Zh H ?_
 have hup:((s.last+1:Nat):Int)∉s.par.map (·.1):=fun h=>by
  obtain⟨⟨x,q⟩,h1,h2⟩:=List.mem_map.1 h;have h2:x=((s.last+1:Nat):Int):=h2;have:=(hw.par.2.2 x q h1).2;omega
 have hkn1:((s.last+1:Nat):Int)∉(s.sps.map VJ).map (·.1):=by rw[List.map_map];show _∉s.sps.map fun z=>z.1;rw[hw.skeys];exact hup
 have hkn2:((s.last+1:Nat):Int)∉(s.mns.map Qz).map (·.1):=by rw[List.map_map];show _∉s.mns.map fun z=>z.1;rw[hw.mkeys];exact hup
 replace H:=Js [12,0,0,0,0,0,0,0,0,0,0,0,0,0,0] 0 H;obtain⟨es1,ct1,hmo1,H⟩:=Lh H;replace H:=Js [14,0,0,0,0,0,0,0,0,0,0,0,0,0,0] 0 H;obtain⟨es2,ct2,hmo2,H⟩:=Lh H;refine J1 H ?_;clear H;intro w H;refine YT H ?_;refine Jl 3 [12,14,15,17] H ?_;refine DB H ?_;refine Jl 8 [12,14,15,17] H ?_;refine Ja 9 ?_;refine Ja 10 ?_;refine Jo 11 H ?_;refine Jk rfl rfl (HT H) ?_;clear H;rintro w0 w ⟨bm,rfl,H⟩;replace H:=Js [2,0,0] 0 H;refine Jo 12 H ?_;refine Lj (ek:=ki .i64) (vv:=Qr) (key:=((s.last+1:Nat):Int)) H hmo1 hkn1 rfl rfl VP rfl ?_;clear H;intro w H;refine Ja 13 ?_;refine Jo 14 H ?_;refine Lk H hmo1.born rfl rfl rfl rfl ?_;clear H;intro w H;replace H:=Li (hmo1.push hkn1 bs) H;replace H:=Js [2,0,0] 0 H;refine Jo 15 H ?_;refine Lj (ek:=ki .i64) (vv:=Qr) (key:=((s.last+1:Nat):Int)) H hmo2 hkn2 rfl rfl VP rfl ?_;clear H;intro w H;refine Ja 16 ?_;refine Jo 17 H ?_;refine Lk H hmo2.born rfl rfl rfl rfl ?_;clear H;intro w H;replace H:=Li (hmo2.push hkn2 bm) H;refine Jx H ?_;replace H:=Js [3,8,8,0,0,0,0,0,0,0,0] 0 H;refine J5 H ?_
 have hTn:∀ x∈T.parts,1≤x.2∧x.1+x.2≤own'.length:=fun x hx=>by
  obtain⟨y1,y2⟩:=hA.parts x hx;have:=(List.getElem?_eq_some_iff.1 y2).1;rw[hA.ol];omega
 have hJ:=O4 bs bt u.sp (s.last+1) r ⟨[],0,0⟩ T s.size mem' own' (by omega) (by simp) (by omega) (by rw[hA.ol];exact ho) hTn (fun d hd=>by rw[hA.og,if_pos hd];omega) H;refine Jc rfl rfl (hJ) ?_;clear H hJ;rintro w0 w ⟨rfl,own2,hol2,hog2,H⟩;rw[gU hA.at1] at H;refine Q6 ?_;refine Gy H ?_;obtain⟨s1,hs1e⟩:∃ x:CS,x={ s with own:=own2,last:=s.last+1,par:=s.par++[(((s.last+1:Nat):Int),(r:Int))],sps:=s.sps++[(((s.last+1:Nat):Int),bs,T)],mns:=s.mns++[(((s.last+1:Nat):Int),bm,[])] }:=⟨_,rfl⟩;have hol3:own2.length=s.own.length:=hol2.trans hA.ol;have hw1:WF s1:=by rw[hs1e];exact eL hw hA (by have:=hw.par.1;omega) hlast hol2 hog2 bs bm
 have hm1:VI s1 mem':=by rw[hs1e];exact OX hw hA hm hol3 rfl rfl
 have hkeys:(Z.map Pl.k).Nodup:=by
  have h1:=fU hchk;rw[← hZ,List.map_map] at h1;exact h1
 have hB1:UP s r (s.last+1) [] Z s1 S T:=by rw[hs1e];exact eS hw hT.nd hP hSm hA hents hkeys hol3 (eP hA hol2 hog2) bs bm
 have hsp1:s1.sps=p1++((r:Int),b0',S)::(p2++[(((s.last+1:Nat):Int),bs,T)]):=by rw[hs1e];show s.sps++_=_;rw[hsps];simp
 have hmn1:s1.mns=m1++((r:Int),c0',M)::(m2++[(((s.last+1:Nat):Int),bm,[])]):=by rw[hs1e];show s.mns++_=_;rw[hmns];simp
 have hZl:Z.length=l.length:=by rw[← hZ,List.length_map]
 have hkMr:QZ (s.mns.map Qz++[(((s.last+1:Nat):Int),bm)]) (r:Int)=some c0':=by
  rw[← XE hkn2,U9,if_neg (fun h=>hup (by rw[h];exact hrk))];exact hkM'
 have hkMi:QZ (s.mns.map Qz++[(((s.last+1:Nat):Int),bm)]) ((s.last+1:Nat):Int)=some bm:=by rw[← XE hkn2,U9,if_pos rfl]
 have hown1:s1.own=own2:=by rw[hs1e]
 have htab1:s1.tab=s.tab:=by rw[hs1e]
 replace H:=Js [16,0,0,0,0,0,0,0,0,0,0,0,0,0,0,0,0] 0 H;replace H:Q0 w (Qs c0' M::star ((m1++m2).map VY)::_):=(Q0.pick (R:=VY) (x:=((r:Int),c0',M)) hmns).1 H;replace H:=Js [9,9,9,5,0,5,6,1,2,4,4,4,3,3,2,2,0,0] 0 H;replace H:=Js [0,0,0,0,0,0,0,0,0,0,0,0,0,0,0,0,0] 1 H;refine J8 H ?_;refine Qn (fun ms σ w=>ms=[]∧∃ (s':CS) (mem1:List Nat) (S1 T1:QE) (M1 N1:List Nat),(WF s'∧VI s' mem1∧UP s r (s.last+1) (Z) ([]) s' S1 T1∧s'.sps=p1++((r:Int),b0',S1)::(p2++[(((s.last+1:Nat):Int),bs,T1)])∧s'.mns=m1++((r:Int),c0',M1)::(m2++[(((s.last+1:Nat):Int),bm,N1)]))∧σ 0=pp p∧σ 1 = .int .i64 r∧σ 2 = .slice a l.length c∧σ 10=pp b0'∧σ 13 = .int .i64 s.size∧σ 14 = .map (some bat)∧σ 24 = .int .i64 ((s.last+1:Nat):Int)∧σ 26=pp bs∧Q0 w (VW (.slice a l.length c) l::Qh u.tp s'.tab::V7 p u::mp (ki .i64) Qr u.mm (s.mns.map Qz++[(((s.last+1:Nat):Int),bm)])::Qs c0' M1::Qs bm N1::Qi b0' u.sp r S1::Qi bs u.sp (s.last+1) T1::ST u.sp s.size mem1 s'.own::Qw u.ip u.sp u.bp::Ql u.bp s.lays::mp kp v1 bat at'::Qg u.trp (s.last+1) (s.par++[(((s.last+1:Nat):Int),(r:Int))])::RS u.rp s.rem::mp (ki .i64) Qr u.sm (s.sps.map VJ++[(((s.last+1:Nat):Int),bs)])::star ((p1++p2).map (VT u.sp))::star ((m1++m2).map VY)::fr)) ?_ ?_
 ·refine QS ?_;refine Qj (fun ms σ w q=>ms=[]∧∃ (i:Nat) (s':CS) (mem1:List Nat) (S1 T1:QE) (M1 N1:List Nat),i≤l.length∧q=l.length - i∧(WF s'∧VI s' mem1∧UP s r (s.last+1) (Z.take i) (Z.drop i) s' S1 T1∧s'.sps=p1++((r:Int),b0',S1)::(p2++[(((s.last+1:Nat):Int),bs,T1)])∧s'.mns=m1++((r:Int),c0',M1)::(m2++[(((s.last+1:Nat):Int),bm,N1)]))∧σ 0=pp p∧σ 1 = .int .i64 r∧σ 2 = .slice a l.length c∧σ 10=pp b0'∧σ 13 = .int .i64 s.size∧σ 14 = .map (some bat)∧σ 24 = .int .i64 ((s.last+1:Nat):Int)∧σ 26=pp bs∧σ 154 = .slice a l.length c∧σ 155 = .int .i64 l.length∧σ 156 = .int .i64 i∧Q0 w (VW (.slice a l.length c) l::Qh u.tp s'.tab::V7 p u::mp (ki .i64) Qr u.mm (s.mns.map Qz++[(((s.last+1:Nat):Int),bm)])::Qs c0' M1::Qs bm N1::Qi b0' u.sp r S1::Qi bs u.sp (s.last+1) T1::ST u.sp s.size mem1 s'.own::Qw u.ip u.sp u.bp::Ql u.bp s.lays::mp kp v1 bat at'::Qg u.trp (s.last+1) (s.par++[(((s.last+1:Nat):Int),(r:Int))])::RS u.rp s.rem::mp (ki .i64) Qr u.sm (s.sps.map VJ++[(((s.last+1:Nat):Int),bs)])::star ((p1++p2).map (VT u.sp))::star ((m1++m2).map VY)::fr)) (m:=l.length) ⟨rfl,0,s1,mem',S,T,M,[],by omega,by omega,⟨hw1,hm1,hB1,hsp1,hmn1⟩,rfl,rfl,rfl,rfl,rfl,rfl,rfl,rfl,rfl,rfl,rfl,by rw[hown1,htab1];exact H⟩ ?_;clear H;rintro ms σ w q ⟨rfl,i,s',mem1,S1,T1,M1,N1,hi,rfl,⟨hw',hm',hB,hsp,hmn⟩,g0,g1,g2,g10,g13,g14,g24,g26,g154,g155,g156,H⟩;rw[Q1 g0,Q1 g1,Q1 g2,Q1 g10,Q1 g13,Q1 g14,Q1 g24,Q1 g26,Q1 g154,Q1 g155,Q1 g156];refine J7 H ?_;refine Qf rfl (fun h=>QW ?_) (fun h=>Qp ?_)
  ·have hlt:i < l.length:=by omega
   have hiZ:i < Z.length:=by omega
   have hzi:=List.getElem?_eq_getElem hiZ;have htz:Z.take (i+1)=Z.take i++[Z[i]]:=by rw[List.take_add_one,hzi];rfl
   have hdz:=List.drop_eq_getElem_cons hiZ;have hzm:=List.getElem_mem hiZ;have hx:l[i]? = some (Z[i].k,Z[i].g):=by rw[← hZ,List.getElem?_map,hzi];rfl
   rw[hdz] at hB;generalize Z[i]=z at hzi htz hdz hzm hx hB;have hpend:=hB.pend z List.mem_cons_self;have hatz:=hat z hzm;obtain⟨zk,zg,ze,za⟩:=z;obtain⟨hk,hzr,hcase⟩:=hpend;have hk:s'.tab[zk]? = some ⟨zg,some ze⟩:=hk;have hzr:ze.region=(r:Int):=hzr;have hatz:QZ at' ((zk:Int),(zg:Int))=some (za:Int):=hatz;have hx:l[i]? = some (zk,zg):=hx;have hL:Qk s'.tab zk zg=some (zk,ze):=Am hk
   have hndp':(s'.par.map (·.1)).Nodup:=by
    rw[hB.par,List.map_append,List.nodup_append];refine⟨hT.nd,by simp,fun x hx y hy hxy=>?_⟩;subst hxy;simp at hy;exact hup (by rw[← show x=((s.last+1:Nat):Int) by omega];exact hx)
   obtain⟨bT,sT,rfl,H,hcl⟩:=Qx H (by omega);refine YY H ?_;refine Jd ?_;refine Q5 rfl (VH H rfl (Ka hx) rfl ?_);refine VZ H ?_;clear H;intro b29 w H;refine J3 H ?_;clear H;intro w H;refine Q6 ?_;replace H:=Js [1,0] 0 H;replace H:=hcl _ _ H;replace H:Q0 w (VW (.slice (some ⟨bT,0,none⟩) l.length c) l::pts b29 (row 69 [.int .i64 zk,.int .i64 zg])::_):=H;replace H:=Js [2,1,0] 0 H;refine J8 H ?_;refine Qn (fun ms σ w=>ms=[]∧∃ b30,σ 0=pp p∧σ 1 = .int .i64 r∧σ 2 = .slice (some ⟨bT,0,none⟩) l.length c∧σ 10=pp b0'∧σ 13 = .int .i64 s.size∧σ 14 = .map (some bat)∧σ 24 = .int .i64 ((s.last+1:Nat):Int)∧σ 26=pp bs∧σ 154 = .slice (some ⟨bT,0,none⟩) l.length c∧σ 155 = .int .i64 l.length∧σ 156 = .int .i64 i∧σ 29=pp b29∧σ 30=pp b30∧Q0 w (Qh u.tp s'.tab::pts b30 (row 113 (YE ze))::pts b29 (row 69 [.int .i64 zk,.int .i64 zg])::VW (.slice (some ⟨bT,0,none⟩) l.length c) l::V7 p u::mp (ki .i64) Qr u.mm (s.mns.map Qz++[(((s.last+1:Nat):Int),bm)])::Qs c0' M1::Qs bm N1::Qi b0' u.sp r S1::Qi bs u.sp (s.last+1) T1::ST u.sp s.size mem1 s'.own::Qw u.ip u.sp u.bp::Ql u.bp s.lays::mp kp v1 bat at'::Qg u.trp (s.last+1) (s.par++[(((s.last+1:Nat):Int),(r:Int))])::RS u.rp s.rem::mp (ki .i64) Qr u.sm (s.sps.map VJ++[(((s.last+1:Nat):Int),bs)])::star ((p1++p2).map (VT u.sp))::star ((m1++m2).map VY)::fr)) ?_ ?_
   ·refine J1 H ?_;clear H;intro w H;refine R6 H ?_;refine Jw 5 9 H rfl rfl (V2 (a:=[]) (b:=[]) rfl rfl (call (ZF u.tp s'.tab zk zg H) ?_)) (Vu H rfl ?_)
    ·clear H;rintro v w ⟨rfl,H⟩;rw[hL];refine R7 H ?_;clear H;intro b30 w H;refine R8 H ?_;clear H;intro w H;refine GX H ?_;replace H:=Js [1,0] 0 H;exact⟨rfl,rfl,b30,rfl,rfl,rfl,rfl,rfl,rfl,rfl,rfl,rfl,rfl,rfl,rfl,rfl,H⟩
    ·clear H;intro b30 w H;refine Jo 5 H ?_;refine Jk rfl rfl (ZF u.tp s'.tab zk zg H.swap) ?_;clear H;rintro v w ⟨rfl,H⟩;rw[hL];refine R9 H ?_;clear H;intro w H;refine GX H ?_;exact⟨rfl,rfl,b30,rfl,rfl,rfl,rfl,rfl,rfl,rfl,rfl,rfl,rfl,rfl,rfl,rfl,H⟩
   clear H;rintro ms σ w ⟨rfl,b30,g0,g1,g2,g10,g13,g14,g24,g26,g154,g155,g156,g29,g30,H⟩;rw[Q1 g0,Q1 g1,Q1 g2,Q1 g10,Q1 g13,Q1 g14,Q1 g24,Q1 g26,Q1 g154,Q1 g155,Q1 g156,Q1 g29,Q1 g30];refine J1 H ?_;clear H;intro w H;refine Ja 0 ?_;refine VM 1 [] H rfl (Q8.none rfl) rfl (by repeat first|exact .nil _|apply QY.cons rfl) (by kernel_rfl) ?_;refine XL 2 [] (key:=(((zk:Nat):Int),((zg:Nat):Int))) H rfl (Q8.none rfl) rfl rfl Ce (by kernel_rfl) ?_;rw[hatz];refine Jf 3 ?_;refine Jl 4 [] H ?_;refine Ja 5 ?_;refine Jx H ?_;have hSm1:((r:Int),b0',S1)∈s'.sps:=by rw[hsp];simp
   have hTm1:(((s.last+1:Nat):Int),bs,T1)∈s'.sps:=by rw[hsp];simp
   have hneI:((s.last+1:Nat):Int)≠(r:Int):=fun h=>hup (by rw[h];exact hrk);have hown63:s'.own.length≤63:=hw'.own.2;obtain⟨w1',w2',w3',w4',w5',w6'⟩:=Ag hw' hSm1;obtain⟨x1',_,_,_,_,_⟩:=Ag hw' hTm1;have w1':S1.parts.length≤63:=w1';have x1':T1.parts.length≤63:=x1';have w4':(QX S1.parts).Nodup:=w4'
   have hfitZ:ze.addr < 9223372036854775808:=by
    have h1:=(hw'.obj zk zg ze hk).2.1.1;have h2:=Nat.mul_le_mul hw'.own.2 hw'.size.2;unfold QM at h1;omega
   refine J8 H ?_;refine Qn (fun ms σ w=>ms=[]∧∃ (s2:CS) (mem2:List Nat) (S2 T2:QE),(WF s2∧VI s2 mem2∧UP s r (s.last+1) (Z.take i++[⟨zk,zg,ze,za⟩]) (Z.drop (i+1)) s2 S2 T2∧s2.sps=p1++((r:Int),b0',S2)::(p2++[(((s.last+1:Nat):Int),bs,T2)])∧s2.mns=m1++((r:Int),c0',M1.filter (·≠zk))::(m2++[(((s.last+1:Nat):Int),bm,YF N1 zk)])∧s2.tab=s'.tab.set zk ⟨zg,some { ze with region:=((s.last+1:Nat):Int),addr:=za }⟩)∧σ 0=pp p∧σ 1 = .int .i64 r∧σ 2 = .slice (some ⟨bT,0,none⟩) l.length c∧σ 10=pp b0'∧σ 13 = .int .i64 s.size∧σ 14 = .map (some bat)∧σ 24 = .int .i64 ((s.last+1:Nat):Int)∧σ 26=pp bs∧σ 29=pp b29∧σ 154 = .slice (some ⟨bT,0,none⟩) l.length c∧σ 155 = .int .i64 l.length∧σ 156 = .int .i64 i∧Q0 w (Qh u.tp s'.tab::pts b29 (row 69 [.int .i64 zk,.int .i64 zg])::VW (.slice (some ⟨bT,0,none⟩) l.length c) l::V7 p u::mp (ki .i64) Qr u.mm (s.mns.map Qz++[(((s.last+1:Nat):Int),bm)])::Qs c0' M1::Qs bm N1::Qi b0' u.sp r S2::Qi bs u.sp (s.last+1) T2::ST u.sp s.size mem2 s2.own::Qw u.ip u.sp u.bp::Ql u.bp s.lays::mp kp v1 bat at'::Qg u.trp (s.last+1) (s.par++[(((s.last+1:Nat):Int),(r:Int))])::RS u.rp s.rem::mp (ki .i64) Qr u.sm (s.sps.map VJ++[(((s.last+1:Nat):Int),bs)])::star ((p1++p2).map (VT u.sp))::star ((m1++m2).map VY)::fr)) ?_ ?_
   ·rcases hcase with ⟨hza,⟨cc,nn⟩,y1,y2,y3⟩|⟨hza,hsit,hbes⟩
    ·have hza:za=ze.addr:=hza;subst hza;have y2:2≤nn:=y2;obtain⟨A,B,hAB⟩:=List.append_of_mem y1;have hcap:=Ez (by rw[← hAB];exact w4':(QX (A++(cc,nn)::B)).Nodup)
     have hfst:∀ y∈A,y.1≠cc:=fun y hy h=>by
      have hy1:=(w2' y (by show y∈S1.parts;rw[hAB];exact List.mem_append.2 (.inl hy))).1;exact hcap.2 cc (Nat.le_refl _) (by show cc < cc+nn;omega) (Kd (List.mem_append.2 (.inl hy)) (by omega) (by omega))
     have haddr:ze.addr / s.size=cc:=by
      rcases y3 with ⟨h1,_⟩|⟨_,h1,_⟩
      ·have h1:nn=1:=h1;omega
      ·have h1:ze.addr=cc*s'.size:=h1;rw[hB.size] at h1;rw[h1];exact Nat.mul_div_cancel _ (by omega)
     have hcn:cc+nn≤s'.own.length:=(w2' (cc,nn) y1).2;rw[show (((ze.addr:Nat):Int) == ((ze.addr:Nat):Int))=true from beq_self_eq_true _];refine Vg rfl ?_;replace H:=Js [8,8,8,0,0,0,0,0,0,0,0,0,0] 0 H;refine J9 H ?_
     refine UQ (v := .int .i64 ((ze.addr / s.size:Nat):Int)) (by
      show (if IntKind.i64=IntKind.i64 then (if ((s.size:Nat):Int)=0 then none else some (Value.int IntKind.i64 (IntKind.i64.wrap (Int.tdiv ((ze.addr:Nat):Int) ((s.size:Nat):Int))))) else none)=_;rw[if_pos rfl,if_neg (by omega),WQ hfitZ]) rfl ?_
     rw[haddr];have hHand:=fu b0' bs u.sp r (s.last+1) S1 T1 s.size mem1 s'.own hAB hfst y2 (by omega) (by omega) (by omega) hown63 hcn (fun d h1 h2=>w5' d (Kd y1 h1 h2)) H;refine Jc rfl rfl (hHand) ?_;clear H hHand;rintro w0 w ⟨rfl,H⟩;refine Q6 ?_;replace H:=Js [3,4,4,4,4,4,4,0,0,0,1,1] 1 H;have hw2:=eE (id:=s.last+1) hw' hB.part hk hzr hneI hndp' hsp hmn hAB y2 y3;refine⟨rfl,rfl,{ s' with own:=V3 s'.own cc nn (s.last+1),tab:=s'.tab.set zk ⟨zg,some { ze with region:=((s.last+1:Nat):Int),addr:=ze.addr }⟩,sps:=p1++((r:Int),b0',{ S1 with parts:=A++B })::(p2++[(((s.last+1:Nat):Int),bs,{ T1 with parts:=T1.parts++[(cc,nn)] })]),mns:=m1++((r:Int),c0',M1.filter (·≠zk))::(m2++[(((s.last+1:Nat):Int),bm,YF N1 zk)]) },mem1,_,_,⟨hw2,?_,?_,rfl,rfl,rfl⟩,rfl,rfl,rfl,rfl,rfl,rfl,rfl,rfl,rfl,rfl,rfl,rfl,H⟩
     ·exact OZ (id:=((s.last+1:Nat):Int)) (a:=ze.addr) hw' hm' hk (fun j n f hj hjk=>by
       show QM f≤ze.addr∨ze.addr+(ze.ws.length+1)≤f.addr
       rcases hw'.apart j zk n zg f ze hj hjk hk with h1|h1
       ·exact .inl h1
       ·have h1:ze.addr+1+ze.ws.length≤f.addr:=h1;right;omega) rfl (fun _ _=>rfl) (fun _ _=>rfl) (Vq hcn) rfl rfl
     ·exact hB.hand hw' hndp' rfl hsp hAB y2 y3 rfl (Vq hcn) rfl rfl rfl rfl rfl rfl
    ·have hza:za≠ze.addr:=hza;rw[show (((za:Nat):Int) == ((ze.addr:Nat):Int))=false by rw[beq_eq_false_iff_ne];omega];refine VU rfl ?_;have hfree:∀ (j n:Nat) (f:Q9),j≠zk→s'.tab[j]? = some ⟨n,some f⟩→QM f≤za∨za+(ze.ws.length+1)≤f.addr:=fun j n f _ hj=>hbes j n f hj;have hw2:=eC hw' hk hzr hneI hndp' hsp hmn hsit hfree;have hkl:=(List.getElem?_eq_some_iff.1 hk).1;have hlies:Zk s'.size s'.own { ze with region:=((s.last+1:Nat):Int),addr:=za }:=(hw2.obj zk zg _ (List.getElem?_set_self hkl)).2.1;have hown:=N5 hlies;have hml1:=hm'.len
     have hto:za+(ze.ws.length+1)≤mem1.length:=by
      have h1:za+1+ze.ws.length≤s'.own.length*s'.size:=hlies.1;omega
     have hfr:ze.addr+(ze.ws.length+1)≤mem1.length:=by
      have h1:ze.addr+1+ze.ws.length≤s'.own.length*s'.size:=(hw'.obj zk zg ze hk).2.1.1;omega
     have hImg:=KL hw' hm' hk;rw[hB.lays,hB.size] at hImg;rw[hB.size] at hown;replace H:=Js [11,11,10,0,0,0,0,0,0,0,0,0,0] 0 H;refine J1 H ?_;clear H;intro w H;refine Dg H ?_;refine Ja 4 ?_;refine VM 5 [9] H rfl (Q8.none rfl) rfl (by repeat first|exact .nil _|apply QY.cons rfl) (by kernel_rfl) ?_;refine XL 6 [9] (key:=(((zk:Nat):Int),((zg:Nat):Int))) H rfl (Q8.none rfl) rfl rfl Ce (by kernel_rfl) ?_;rw[hatz];refine Jf 7 ?_;refine Jl 8 [9] H ?_;have hMove:=gG u.ip u.sp u.bp s.size s.lays mem1 s'.own za ze.addr ze.lay ze.count zk ze.ws.length (QN s' ze) hImg hto hown H;refine Jo 9 H ?_;refine Jk rfl rfl (hMove) ?_;clear H hMove;rintro w0 w ⟨rfl,H⟩;refine Jx H ?_;replace H:=Js [3,4,4,4,4,4,4,4,4,2,0,0] 1 H;refine⟨rfl,rfl,{ s' with tab:=s'.tab.set zk ⟨zg,some { ze with region:=((s.last+1:Nat):Int),addr:=za }⟩,mns:=m1++((r:Int),c0',M1.filter (·≠zk))::(m2++[(((s.last+1:Nat):Int),bm,YF N1 zk)]) },Uq mem1 za ze.addr (ze.ws.length+1),S1,T1,⟨hw2,?_,?_,hsp,rfl,rfl⟩,rfl,rfl,rfl,rfl,rfl,rfl,rfl,rfl,rfl,rfl,rfl,rfl,H⟩
     ·exact OZ (id:=((s.last+1:Nat):Int)) (a:=za) hw' hm' hk hfree (Ot hto hfr) (fun j hj=>gV hto hfr hj) (fun j hj=>gY hto hfr hj) rfl rfl rfl
     ·exact hB.shift hza hTm1 rfl rfl rfl rfl rfl rfl rfl rfl
   clear H;rintro ms σ w ⟨rfl,s2,mem2,S2,T2,⟨hw2,hm2,hB2,hsp2,hmn2,htab2⟩,g0,g1,g2,g10,g13,g14,g24,g26,g29,g154,g155,g156,H⟩;rw[Q1 g0,Q1 g1,Q1 g2,Q1 g10,Q1 g13,Q1 g14,Q1 g24,Q1 g26,Q1 g29,Q1 g154,Q1 g155,Q1 g156];have hMm':=hw'.mine ((r:Int),c0',M1) (by rw[hmn];simp);have hNm':=hw'.mine (((s.last+1:Nat):Int),bm,N1) (by rw[hmn];simp)
   have hbl:∀ L:List Nat,L.Pairwise (· < ·)→(∀ y∈L,y < s'.tab.length)→L.length≤64:=fun L h1 h2=>by
    have:=RK L 0 64 (fun y hy=>⟨Nat.zero_le _,by have:=h2 y hy;have:=hw'.slots.2;omega⟩) h1;omega
   have hM64:M1.length≤64:=hbl M1 hMm'.1 fun y hy=>by
    obtain⟨g,f,h3,_⟩:=(hMm'.2 y).1 hy;exact(List.getElem?_eq_some_iff.1 h3).1
   have hN64:N1.length≤64:=hbl N1 hNm'.1 fun y hy=>by
    obtain⟨g,f,h3,_⟩:=(hNm'.2 y).1 hy;exact(List.getElem?_eq_some_iff.1 h3).1
   have hkN:zk∉N1:=fun h=>by
    obtain⟨g,f,h3,h4⟩:=(hNm'.2 zk).1 h;rw[hk] at h3;injection h3 with h3
    injection h3 with _ h3
    injection h3 with h3
    subst h3;exact hneI (h4.symm.trans hzr)
   replace H:=Js [0,2,2,2,2,0,0] 0 H;refine J1 H ?_;clear H;intro w H;refine Ja 0 ?_;refine Jf 1 ?_;refine Jl 2 [7] H ?_;refine Ja 3 ?_;refine Ja 4 ?_;refine Fr H ?_;refine XL 6 [7] (key:=(((zk:Nat):Int),((zg:Nat):Int))) H rfl (Q8.none rfl) rfl rfl Ce (by kernel_rfl) ?_;rw[hatz];have hHome:=On p u s'.tab (s.mns.map Qz++[(((s.last+1:Nat):Int),bm)]) zk zg ze hk ((s.last+1:Nat):Int) za c0' bm M1 N1 (by rw[hzr];exact hkMr) hkMi hMm'.1 (by omega) hNm'.1 (by omega) hkN H;refine Jo 7 H ?_;refine Jk rfl rfl (hHome) ?_;clear H hHome;rintro w0 w ⟨rfl,H⟩;rw[← htab2] at H;refine D6 H ?_;replace H:=Js [6,0,0,0,0,0,1,1,1,1,1] 1 H;exact⟨_,⟨rfl,i+1,s2,mem2,S2,T2,M1.filter (·≠zk),YF N1 zk,hlt,rfl,⟨hw2,hm2,by rw[htz];exact hB2,hsp2,hmn2⟩,rfl,rfl,rfl,rfl,rfl,rfl,rfl,rfl,rfl,rfl,Qb (by omega),H⟩,by omega⟩
  ·obtain rfl:i=l.length:=by omega
   rw[← hZl,List.take_length,List.drop_length] at hB;exact⟨rfl,rfl,s',mem1,S1,T1,M1,N1,⟨hw',hm',hB,hsp,hmn⟩,rfl,rfl,rfl,rfl,rfl,rfl,rfl,rfl,H⟩
 clear H;rintro ms σ w ⟨rfl,s',mem1,S1,T1,M1,N1,⟨hw',hm',hB,hsp,hmn⟩,g0,g1,g2,g10,g13,g14,g24,g26,H⟩;rw[Q1 g0,Q1 g1,Q1 g2,Q1 g10,Q1 g13,Q1 g14,Q1 g24,Q1 g26];replace H:=Js [5,15,4,5,12,4,0,0,0,0,0,0,0,1,1,1] 1 H;replace H:=(Q0.pick (R:=VY) (x:=(((s.last+1:Nat):Int),bm,N1)) (gs:=m1++(m2++[(((s.last+1:Nat):Int),bm,N1)])) (g1:=m1++m2) (g2:=[]) (by simp)).2 (by rw[List.append_nil];exact H);replace H:=Js [1,0] 0 H;replace H:=(Q0.pick (R:=VY) (x:=((r:Int),c0',M1)) hmn).2 H;replace H:=Js [1,1,1,0] 0 H;replace H:=(Q0.pick (R:=VT u.sp) (x:=(((s.last+1:Nat):Int),bs,T1)) (gs:=p1++(p2++[(((s.last+1:Nat):Int),bs,T1)])) (g1:=p1++p2) (g2:=[]) (by simp)).2 (by rw[List.append_nil];exact H);replace H:=Js [1,0] 0 H;replace H:=(Q0.pick (R:=VT u.sp) (x:=((r:Int),b0',S1)) hsp).2 H;have hk1:s.mns.map Qz++[(((s.last+1:Nat):Int),bm)]=s'.mns.map Qz:=by rw[hmn,hmns];simp
 have hk2:s.sps.map VJ++[(((s.last+1:Nat):Int),bs)]=s'.sps.map VJ:=by rw[hsp,hsps];simp
 rw[hk1,hk2,← hB.par,← hB.last,← hB.rem,← hB.lays,← hB.size] at H;have hnd:=Aa (H.pull 10);replace H:=Js [4,6,6,5,3,4,4,4,0,2,0,0] 0 H;replace H:=VG hw' hm' H;refine Vh H ?_;refine GG H ?_;clear H;intro bS w H;replace H:Q0 w (pts bS (row 3 (Qc [(r:Int),((s.last+1:Nat):Int)]++[]))::QR p { s' with rem:=s'.rem }::VW (.slice a l.length c) l::fr):=H;replace H:=Z9 (E:=3) (k:=1) (len:=2) (cap:=2) (c:=Qc [(r:Int),((s.last+1:Nat):Int)]) (spare:=[]) rfl ⟨by decide,by decide⟩ (by decide) H
 have hrec:=Oo p s' s'.rem hnd _ [(r:Int),((s.last+1:Nat):Int)] (fun x hx=>by
  rw[hmn]
  rcases List.mem_cons.1 hx with rfl|hx
  ·simp
  ·rw[List.mem_singleton] at hx;subst hx;simp) (by simp) H
 refine Jc rfl rfl (hrec) ?_;clear H hrec;rintro w0 w ⟨rfl,D,R',hD,hN,H⟩;refine Ry H ?_;refine Q3 (Jy H rfl fun w' H' => .inr (.inr ⟨rfl,rfl,Z,{ s' with rem:=R' },hZ,⟨hB.size,hB.own,hB.lays,hB.last,hB.par,hB.tabl,hB.tab,hents,hkeys,⟨D,fun x=>?_,⟨hN.nd,hN.on,fun x hx=>by rw[hN.off x hx,hB.rem]⟩⟩,hB.part,fun hZ0=>hB.zero (by rw[hZ0];rfl)⟩,H'⟩));rw[hD x];constructor
 ·rintro⟨k,g,e,h1,h2,h3⟩;refine⟨k,g,e,⟨g,e,h1,?_⟩,h1,h3⟩
  rcases List.mem_cons.1 h2 with h2|h2
  ·exact .inl h2
  ·exact .inr (List.mem_singleton.1 h2)
 ·rintro⟨k,g,e,⟨g',e',h1,h2⟩,h3,h4⟩;refine⟨k,g,e,h3,?_,h4⟩;have h1:=h1.symm.trans h3;injection h1 with h1
  injection h1 with _ h1
  injection h1 with h1
  rw[← h1]
  rcases h2 with h2|h2
  ·rw[h2];exact List.mem_cons_self
  ·rw[h2];exact List.mem_cons_of_mem _ (List.mem_singleton.2 rfl)
end Go.Proofs.YtmjdnljneifpcaaGreatDoor
namespace Go.Proofs.YtmjdnljneifpcaaGreatDoor
open Go.SL
structure YI (s:CS) (m:MS) (told:List (Nat×Nat)) (n:Nat):Prop where
 R:Rel s m told
 I:Inv s
 T:Yd s.par
 P:Vt s
 G:∀ (k:Nat) (t:QH),s.tab[k]? = some t→t.gen≤told.length
 O:m.objs.length≤n
 Q:m.P.length≤n+1
theorem YI.start (n size slots:Nat):YI (XX n size slots) Zz [] 0:=by
 refine⟨Np n size slots,(dV n size slots).inv,⟨List.nodup_nil,fun r q h=>(by cases h)⟩,fun k g e h=>?_,fun k t h=>?_,Nat.le_refl _,Nat.le_refl _⟩
 ·have h:(List.replicate slots (⟨0,none⟩:QH))[k]? = some ⟨g,some e⟩:=h;rw[List.getElem?_replicate] at h;split at h <;> cases h
 ·have h:(List.replicate slots (⟨0,none⟩:QH))[k]? = some t:=h;rw[List.getElem?_replicate] at h;split at h
  ·injection h with h
   subst h;exact Nat.le_refl _
  ·cases h
theorem gK {ts us:List QH} (h:Ve us=Ve ts) {k:Nat} {u:QH} (hk:us[k]? = some u):∃ t,ts[k]? = some t∧t.gen=u.gen:=by
 have h1:(Ve us)[k]? = some (u.gen,u.ent.isSome):=by
  unfold Ve;rw[List.getElem?_map,hk];rfl
 rw[h] at h1;unfold Ve at h1;rw[List.getElem?_map] at h1;cases ht:ts[k]? with
 | none=>rw[ht] at h1;cases h1
 | some t=>
  rw[ht] at h1;injection h1 with h1
  injection h1 with h1 _
  exact⟨t,rfl,h1⟩
theorem YI.step {s s':CS} {m m':MS} {told told':List (Nat×Nat)} {n:Nat} (J:YI s m told n) (R':Rel s' m' told') (S:CE s m told s' m' told'):YI s' m' told' (n+1):=by
 have h1:=S.objs;have h2:=S.P;have h3:=J.O;have h4:=J.Q;refine⟨R',S.inv J.I,S.tree J.T,S.part J.P,fun k t hk=>?_,by omega,by omega⟩
 rcases S.tab with ⟨e1,e2⟩|⟨k0,g0,e1,e2,_,e4⟩
 ·obtain⟨t0,a,b⟩:=gK e2 hk;rw[e1,← b];exact J.G k t0 a
 ·have hlen:told'.length=told.length+1:=by rw[e1,List.length_append];rfl
  rw[hlen]
  have hs:(Ve s'.tab)[k]? = some (t.gen,t.ent.isSome):=by
   unfold Ve;rw[List.getElem?_map,hk];rfl
  rw[e4,List.getElem?_set] at hs;split at hs
  ·split at hs
   ·injection hs with hs
    injection hs with hs _
    have:=J.G k0 _ e2;dsimp only at this;omega
   ·cases hs
  ·unfold Ve at hs;rw[List.getElem?_map] at hs;cases ht:s.tab[k]? with
   | none=>rw[ht] at hs;cases hs
   | some t0=>
    rw[ht] at hs;injection hs with hs
    injection hs with hs _
    have:=J.G k t0 ht;have hs:t0.gen=t.gen:=hs;omega
theorem YI.free {s s':CS} {m:MS} {told:List (Nat×Nat)} {n:Nat} (J:YI s m told n) (hm:V4 m) {id:Int} (hid:(QZ s.par id).isSome=true) {L:List Int} (h1:L.Nodup) (h2:L.Pairwise (·≤·)) (h3:∀ c,c∈L↔ZX s.par id c) (hF:CO s L s'):L=(Zr m.P id).map (fun k:Nat=>(k:Int))∧YI s' (Xu m (Zr m.P id)) told (n+1):=by
 have hL:=fC J.R J.T hid h1 h2 h3;refine⟨hL,?_⟩;obtain⟨G,D,hT⟩:=hF.t;have hT':=hT;rw[hL] at hT';have h4:=J.O;have h5:=J.Q;refine⟨Oa J.R hm J.I hT',OS hT J.I,by rw[hT.par];exact OT J.T h3,hT.part J.P,fun k t hk=>?_,?_,?_⟩
 ·have hlt:k < s.tab.length:=by
   have:=(List.getElem?_eq_some_iff.1 hk).1;rw[hT.tabl] at this;exact this
  have ht:=List.getElem?_eq_getElem hlt;generalize s.tab[k]=t0 at ht;have:=hT.tab k t0 ht;rw[hk] at this;injection this with this
  have hg:=J.G k t0 ht;rw[this];split <;> exact hg
 ·show ((m.objs.map _).map _).length≤_;rw[List.length_map,List.length_map];omega
 ·show (Vn m.P _).length≤_;unfold Vn;rw[List.length_mapIdx];omega
theorem Ou {s s':CS} {mv:Nat→Q9→Q9} (h:UO s s' mv) {n:Nat} (hg:∀ (k:Nat) (t:QH),s.tab[k]? = some t→t.gen≤n):∀ (k:Nat) (t:QH),s'.tab[k]? = some t→t.gen≤n:=by
 intro k t hk
 have hlt:k < s.tab.length:=by
  have:=(List.getElem?_eq_some_iff.1 hk).1;rw[h.tabl] at this;exact this
 have ht:=List.getElem?_eq_getElem hlt;generalize s.tab[k]=t0 at ht;have:=h.tab k t0 ht;rw[hk] at this;injection this with this
 rw[this];exact hg k t0 ht
theorem YI.merge {s s':CS} {m:MS} {told:List (Nat×Nat)} {n:Nat} (J:YI s m told n) {id q:Nat} (hid:QZ s.par (id:Int)=some (q:Int)) (hq:q≠0) (hM:Ai s id q s'):YI s' (F0 m id q) told (n+1):=by
 have h4:=J.O;have h5:=J.Q;obtain⟨u1,u2,u3⟩:=J.T.up _ _ hid;have hne:id≠q:=by omega
 refine⟨fY J.R (by omega) hne hM,eB hM (by omega) J.I,eA J.T hid (by omega) hM.par,hM.part J.P,Ou hM.mv J.G,?_,?_⟩
 ·show (m.objs.map _).length≤_;rw[List.length_map];omega
 ·show (Z6 m.P id q).length≤_;unfold Z6;rw[List.length_mapIdx];omega
theorem YI.split {s s':CS} (hw:WF s) {m:MS} {told:List (Nat×Nat)} {n:Nat} (J:YI s m told n) {r:Nat} (hr:(QZ s.par (r:Int)).isSome=true) {Z:List Pl} {os:List Nat} (h:Aj s r Z s') (hos:∀ (o k g:Nat) (x:QI),told[o]? = some (k,g)→m.objs[o]? = some x→x.gone=false→(o∈os↔k∈Z.map Pl.k)):YI s' (WJ m r os) told (n+1):=by
 have h4:=J.O;have h5:=J.Q
 have hrl:((r:Nat):Int)≤s.last:=by
  cases hf:QZ s.par (r:Int) with
  | none=>rw[hf] at hr;cases hr
  | some q=>exact(hw.par.2.2 _ _ ((Yh J.T.nd).1 hf)).2
 refine⟨fG hw J.R h hos,eT hw hrl h J.I,?_,h.part,Ou h.mv J.G,?_,?_⟩
 ·rw[h.par];exact Na J.T (.inr hr) (by omega) (fun x q hx=>(hw.par.2.2 x q hx).2) hrl
 ·show (m.objs.mapIdx _).length≤_;rw[List.length_mapIdx];omega
 ·show (m.P++[_]).length≤_;rw[List.length_append];show _+1≤_;omega
theorem gR {s:CS} {m:MS} {told:List (Nat×Nat)} (R:Rel s m told) {r:Nat} {ys:List ((Nat×Nat)×Int)} (hy:∀ y∈ys,Rh told y) (h0:Z7 s.tab r [] (ys.map (·.1))=0) {Z:List Pl} (hZ:Z.map (fun z=>(z.k,z.g))=ys.map (·.1)) :
  (∀ o∈ys.map (fun y=>y.2.toNat),o < m.objs.length)∧ys.map (·.2)=(ys.map fun y=>y.2.toNat).map (fun o:Nat=>(o:Int))∧∀ (o k g:Nat) (x:QI),told[o]? = some (k,g)→m.objs[o]? = some x→x.gone=false→(o∈ys.map (fun y=>y.2.toNat)↔k∈Z.map Pl.k):=by
 obtain⟨c1,c2⟩:=F2 h0
 have hat:∀ y∈ys,∃ n:Nat,y.2=n∧told[n]? = some y.1:=by
  intro y hyy
  rcases hy y hyy with h|⟨h1,h2⟩
  ·exact h
  ·exfalso;obtain⟨⟨e,he,_⟩,_⟩:=c1 y.1 (List.mem_map.2 ⟨y,hyy,rfl⟩);obtain⟨o,ho⟩:=R.used _ _ _ he;rw[h2] at ho;cases ho
 refine⟨fun o ho=>?_,?_,fun o k g x ht hx hg=>⟨fun ho=>?_,fun hk=>?_⟩⟩
 ·obtain⟨y,hyy,rfl⟩:=List.mem_map.1 ho;obtain⟨n,h1,h2⟩:=hat y hyy;rw[h1,Int.toNat_natCast,← R.len];exact(List.getElem?_eq_some_iff.1 h2).1
 ·rw[List.map_map];refine List.map_congr_left fun y hyy=>?_;obtain⟨n,h1,_⟩:=hat y hyy;show y.2=((y.2.toNat:Nat):Int);rw[h1,Int.toNat_natCast]
 ·obtain⟨y,hyy,rfl⟩:=List.mem_map.1 ho;obtain⟨n,h1,h2⟩:=hat y hyy;rw[h1,Int.toNat_natCast,h2] at ht;injection ht with ht
  have:(k,g)∈Z.map (fun z=>(z.k,z.g)):=by rw[hZ];exact List.mem_map.2 ⟨y,hyy,ht⟩
  obtain⟨z,z1,z2⟩:=List.mem_map.1 this;injection z2 with z2 _
  exact List.mem_map.2 ⟨z,z1,z2⟩
 ·obtain⟨z,z1,z2⟩:=List.mem_map.1 hk;have:(z.k,z.g)∈ys.map (·.1):=by rw[← hZ];exact List.mem_map.2 ⟨z,z1,rfl⟩
  obtain⟨y,hyy,hy1⟩:=List.mem_map.1 this;obtain⟨⟨e,he,_⟩,_⟩:=c1 y.1 (List.mem_map.2 ⟨y,hyy,rfl⟩);obtain⟨n,h1,h2⟩:=hat y hyy;rw[hy1] at he h2;dsimp only at he;obtain⟨e',he',_⟩:=R.obj o x k g hx ht hg;rw[z2,he'] at he;injection he with he
  injection he with hgg _
  have hon:=CW R.nodup ht (by rw[h2,← z2,hgg]);refine List.mem_map.2 ⟨y,hyy,?_⟩;rw[h1,Int.toNat_natCast,hon]
end Go.Proofs.YtmjdnljneifpcaaGreatDoor
namespace Go.Proofs.YtmjdnljneifpcaaGreatDoor
open Go.SL
theorem Il [Q4] (p:Nat) (s:CS) (region:Int) {w:World} {fr:List Q2} (H:Q0 w (QR p s::fr)) :
  Calls Tryz.prog 54 #[pp p,.int .i64 region] w (ret fun v w'=>v = .int .i64 (if (QZ s.par region).isSome then 0 else 15)∧Q0 w' (QR p s::fr)):=by
 obtain⟨q,mem,hw,hm,H⟩:=Vs H;replace H:=Js [5,0,0,0,0,0] 0 H;refine call (F3 p q s.last s.par region H) ?_;clear H;rintro v w ⟨rfl,H⟩;replace H:=Js [1,1,1,1,1,0] 0 H;exact⟨rfl,VG hw hm H⟩
theorem gW [Q4] (p:Nat) (s:CS) (region:Int) (hf:QZ s.par region=none) {w:World} {fr:List Q2} (H:Q0 w (QR p s::fr)) :
  Calls Tryz.prog 14 #[pp p,.int .i64 region] w (ret fun v w'=>v = .tuple #[.slice none 0 0,.int .i64 15]∧Q0 w' (QR p s::fr)):=by
 refine QQ Tryz.func14 rfl (by kernel_rfl) ?_;refine ZW H ?_;clear H;intro b2 w H;refine J2 H ?_;replace H:=H.swap;refine Xe H ?_;refine Jc rfl rfl (Il p s region H) ?_;clear H;rintro v w ⟨rfl,H⟩;rw[hf];refine AX H ?_;exact Q3 (Jy H rfl fun w' H'=>⟨rfl,H'.swap.drop⟩)
theorem gA [Q4] (p:Nat) (s:CS) (region:Int) (hf:QZ s.par region=none) {w:World} {fr:List Q2} (H:Q0 w (QR p s::fr)) :
  Calls Tryz.prog 27 #[pp p,.int .i64 region] w (ret fun v w'=>v = .tuple #[.int .i64 0,.int .i64 15]∧Q0 w' (QR p s::fr)):=by
 refine QQ Tryz.func27 rfl (by kernel_rfl) ?_;refine ZW H ?_;clear H;intro b2 w H;refine J2 H ?_;replace H:=H.swap;refine Xe H ?_;refine Jc rfl rfl (Il p s region H) ?_;clear H;rintro v w ⟨rfl,H⟩;rw[hf];refine AX H ?_;exact Q3 (Jy H rfl fun w' H'=>⟨rfl,H'.swap.drop⟩)
theorem gB [Q4] (p:Nat) (s:CS) (region:Int) (l:Value) (hf:QZ s.par region=none) {w:World} {fr:List Q2} (H:Q0 w (QR p s::fr)) :
  Calls Tryz.prog 20 #[pp p,.int .i64 region,l] w (ret fun v w'=>v = .tuple #[.int .i64 0,.int .i64 15]∧Q0 w' (QR p s::fr)):=by
 refine QQ Tryz.func20 rfl (by kernel_rfl) ?_;refine X5 H ?_;refine Jc rfl rfl (Il p s region H) ?_;clear H;rintro v w ⟨rfl,H⟩;rw[hf];refine AX H ?_;exact Q3 (Jy H rfl fun w' H'=>⟨rfl,H'⟩)
end Go.Proofs.YtmjdnljneifpcaaGreatDoor
namespace Go.Proofs.YtmjdnljneifpcaaGreatDoor
open Go.SL
theorem gC [Q4] (p:Nat) (m:MS) (r:Int) (hl:Vr m.P r=false) {w:World} {fr:List Q2} (H:Q0 w (Qo p m::fr)) :
  Calls Tryz.prog 102 #[pp p,.int .i64 r] w (ret fun v w'=>v = .tuple #[.int .i64 0,.int .i64 15]∧Q0 w' (Qo p m::fr)):=by
 obtain⟨t,lc,oc,aL,cL,aO,cO,h1,h2,h3,h4,h5,H⟩:=Zb H;refine QQ Tryz.func102 rfl (by kernel_rfl) ?_;refine Bj H ?_;replace H:=H.swap;refine Jc rfl rfl (WK t m.P r H) ?_;clear H;rintro v w ⟨rfl,H⟩;rw[hl];refine Bk H ?_;exact Q3 (Jy (Ys h1 h2 h3 H.swap) rfl fun w' H'=>⟨rfl,H'⟩)
@[reducible] def Aq (K k A B C:Int) (X:Nat) (vW:Value) (raw:Bool) (i g rg:Int) (vL:Value):List Value:=[.int .i64 K,.int .i64 k,.int .i64 A,.int .i64 B,.int .i64 C,.int .u64 X,vW,.bool raw,.int .i64 i,.int .i64 g,.int .i64 rg,vL]
theorem gD [Q4] (p:Nat) (s:CS) (m:MS) (told:List (Nat×Nat)) (n:Nat) (J:YI s m told n) (hn:n≤60) (K k A B C i g:Int) (hK3:K≠3) (X:Nat) (hX:X < 18446744073709551616) (vW:Value) (ws:List Nat) (hws:∀ x∈ws,x < 18446744073709551616) (raw:Bool) (rg:Int) (vL:Value) (L:List Int) (hL:L.length≤80)
  {w:World} {fr:List Q2} [hT:YN 0 Lib.deBruijn64tab fr] (hrW:Vm fr vW ws.length 1 (QP ws)) (hrL:Vm fr vL L.length 1 (Qc L)) (H:Q0 w (UN p s m told::fr)) :
  Calls Tryz.prog 36 #[.agg (Aq K k A B C X vW raw i g rg vL).toArray,pp p] w (ret fun v w'=>v = .bool true∧∃ s' m' told',YI s' m' told' (n+1)∧Q0 w' (UN p s' m' told'::fr)):=by
 obtain⟨_,adW,capW,rfl,_⟩:=id hrW;obtain⟨_,adL,capL,rfl,_⟩:=id hrL;have hO:=J.O;have hQ:=J.Q;have hlen:=J.R.len;have hOl:=Ie J.R J.T;have Jn:YI s m told (n+1):=⟨J.R,J.I,J.T,J.P,J.G,by omega,by omega⟩
 have hgen:∀ (k g:Nat) (e:Q9),s.tab[k]? = some ⟨g,some e⟩→g < 255:=fun k g e hk=>by
  have:=J.G k _ hk;dsimp only at this;omega
 refine QQ Tryz.func36 rfl (by kernel_rfl) ?_;refine J6 H ?_;clear H;intro b2 w H;refine Ru H ?_;refine Q6 ?_;refine R4 H ?_;by_cases hK0:K=0
 ·subst hK0;refine VD H ?_;refine YZ H ?_;refine E8 H ?_;refine Jc rfl rfl (d7 p s m told J.R (by omega) (by omega) k A B C i g X hX _ ws hws raw hrW.there H.swap) ?_;clear H;rintro v w ⟨rfl,s',m',told',R',S',H⟩;refine J0 H ?_;exact Q3 (Jy H.swap.drop rfl fun w' H'=>⟨rfl,s',m',told',J.step R' S',H'⟩)
 rw[show (K == 0)=false by simpa using hK0];refine ZS H ?_;obtain⟨c,mo,a,cap,H⟩:=Er H.swap;obtain⟨_,_,hw,_,_⟩:=Vs H.swap;obtain⟨_,_,_,_,_,_,_,hmw,_⟩:=Zb (H.sel [2,0,0,0] 0);by_cases hK1:K=1
 ·subst hK1;refine VD H ?_;replace H:=Js [1,3,0,0,0] 0 H;refine J1 H ?_;clear H;intro w H;refine Ft H ?_;cases hf:QZ s.par rg with
  | none=>
   have hlv:Vr m.P rg=false:=by rw[← WC J.R,hf];rfl
   refine Jo 6 H ?_;refine Jk rfl rfl (gW c s rg hf H) ?_;clear H;rintro v w ⟨rfl,H⟩;refine UZ H ?_;replace H:=Js [3,0,0,0,0] 0 H;refine J1 H ?_;clear H;intro w H;refine Xf H ?_;refine Jk rfl rfl (Oj mo m rg hOl H) ?_;clear H;rintro v w (⟨_,rfl,H⟩|⟨hl,_⟩)
   case inr=>rw[hlv] at hl;cases hl
   refine E9 H ?_;refine Zg H ?_;replace H:=Yu (E:=3) (k:=1) (Yu (E:=3) (k:=1) H);refine Qe rfl rfl rfl (V2 (a:=[]) (b:=[]) rfl rfl (call (He (.slice none 0 0) (.slice none 0 0) [] [] (by simp) H) ?_));clear H;rintro v w ⟨rfl,H⟩;replace H:=H.drop.drop;refine J2 H ?_;replace H:=Js [2,2,1,0,0] 0 H;exact Q3 (Jy (YK H.drop) rfl fun w' H'=>⟨rfl,s,m,told,Jn,H'⟩)
  | some q=>
   have hid:(QZ s.par rg).isSome=true:=by rw[hf];rfl
   have hlv:Vr m.P rg=true:=by rw[← WC J.R,hid]
   have hpl:=hw.par.1;refine Jo 6 H ?_;refine Jk rfl rfl (IS c s rg J.T hid J.I hgen H) ?_;clear H;rintro v w ⟨u,L',s',rfl,hL1,hL2,hL3,hL4,hFS,H⟩;obtain⟨hLe,J'⟩:=J.free hmw hid hL1 hL2 hL3 hFS;obtain⟨au,mu,cu,rfl⟩:=Qq H;refine UZ H ?_;replace H:=Js [4,0,0,0,0] 0 H;refine J1 H ?_;clear H;intro w H;refine Xf H ?_;refine Jk rfl rfl (Oj mo m rg hOl H) ?_;clear H;rintro v w (⟨hl,_⟩|⟨_,vl,rfl,H⟩)
   ·rw[hlv] at hl;cases hl
   rw[Cb,← hLe] at H;obtain⟨av,mv,cv,rfl⟩:=Qq H;refine UZ H ?_;replace H:=Js [2,0,0] 0 H;refine XS H ?_;refine Zg H ?_;refine Qe rfl rfl rfl (V2 (a:=[]) (b:=[]) rfl rfl (call (He _ _ L' L' (by omega) H) ?_));clear H;rintro v w ⟨rfl,H⟩;rw[decide_eq_true rfl];replace H:=H.drop.drop;refine J2 H ?_;replace H:=Js [2,2,1,0,0] 0 H;exact Q3 (Jy (YK H.drop) rfl fun w' H'=>⟨rfl,s',_,told,J',H'⟩)
 rw[show (K == 1)=false by simpa using hK1];refine ZS H ?_;by_cases hK2:K=2
 ·subst hK2;refine VD H ?_;replace H:=Js [1,3,0,0,0] 0 H;refine J1 H ?_;clear H;intro w H;refine Ft H ?_;cases hf:QZ s.par rg with
  | none=>
   have hlv:Vr m.P rg=false:=by rw[← WC J.R,hf];rfl
   refine Jo 6 H ?_;refine Jk rfl rfl (gA c s rg hf H) ?_;clear H;rintro v w ⟨rfl,H⟩;refine UZ H ?_;replace H:=Js [3,0,0,0,0] 0 H;refine J1 H ?_;clear H;intro w H;refine Xf H ?_;refine Jk rfl rfl (gC mo m rg hlv H) ?_;clear H;rintro v w ⟨rfl,H⟩;refine E9 H ?_;refine UG H ?_;refine J2 H ?_;replace H:=Js [2,2,1,0,0] 0 H;exact Q3 (Jy (YK H.drop) rfl fun w' H'=>⟨rfl,s,m,told,Jn,H'⟩)
  | some q=>
   obtain⟨id,rfl,hid1,hPid,hq0⟩:=(J.R.tree _ _).1 ((Yh J.R.nd).1 hf);obtain⟨qn,rfl⟩:∃ qn:Nat,q=qn:=⟨q.toNat,by omega⟩;refine Jo 6 H ?_;refine Jk rfl rfl (ft c s (id:Int) (qn:Int) hf J.T H) ?_;clear H;rintro v w (⟨hz,rfl,H⟩|⟨hz,rfl,s',hM,H⟩)
   ·refine UZ H ?_;replace H:=Js [3,0,0,0,0] 0 H;refine J1 H ?_;clear H;intro w H;refine Xf H ?_;refine Jk rfl rfl (Od mo m id (qn:Int) hid1 hPid hq0 H) ?_;clear H;rintro v w (⟨_,rfl,H⟩|⟨hz',_⟩)
    case inr=>exact absurd hz hz'
    refine E9 H ?_;refine UG H ?_;refine J2 H ?_;replace H:=Js [2,2,1,0,0] 0 H;exact Q3 (Jy (YK H.drop) rfl fun w' H'=>⟨rfl,s,m,told,Jn,H'⟩)
   ·have J':=J.merge hf (by omega) hM;refine UZ H ?_;replace H:=Js [3,0,0,0,0] 0 H;refine J1 H ?_;clear H;intro w H;refine Xf H ?_;refine Jk rfl rfl (Od mo m id (qn:Int) hid1 hPid hq0 H) ?_;clear H;rintro v w (⟨hz',_⟩|⟨_,rfl,H⟩)
    ·exact absurd hz' hz
    rw[Int.toNat_natCast] at H;refine UZ H ?_;refine Vh H ?_;rw[GN ((qn:Nat):Int)];refine BN H ?_;refine J2 H ?_;replace H:=Js [2,2,1,0,0] 0 H;exact Q3 (Jy (YK H.drop) rfl fun w' H'=>⟨rfl,s',_,told,J',H'⟩)
 rw[show (K == 2)=false by simpa using hK2];refine ZS H ?_;rw[show (K == 3)=false by simpa using hK3];refine KK H ?_;replace H:=Js [4,0,0,0,0] 0 H;exact Q3 (Jy (YK H.drop) rfl fun w' H'=>⟨rfl,s,m,told,Jn,H'⟩)
end Go.Proofs.YtmjdnljneifpcaaGreatDoor
namespace Go.Proofs.YtmjdnljneifpcaaGreatDoor
open Go.SL
theorem gE {s:CS} {r:Int} {l:List (Nat×Nat)} (h:ZJ s r l=0):l.length≤64∧Z7 s.tab r [] l=0:=by
 unfold ZJ at h;split at h
 ·cases h
 ·rename_i h1;split at h
  ·rename_i h2;exact absurd h h2
  ·rename_i h2;exact⟨by omega,Classical.not_not.1 h2⟩
theorem gF {m:MS} {r:Int} {os:List Int} (h:GS m r os=0):Z1 m.P r=0:=by
 unfold GS at h;split at h
 ·cases h
 ·rename_i h1;split at h
  ·cases h
  ·split at h
   ·rename_i h2;exact absurd h h2
   ·split at h
    ·cases h
    ·rename_i h3;unfold Z1;rw[if_neg (fun h4=>h1 h4.2),if_neg h3]
theorem gH [Q4] (p:Nat) (m:MS) (r:Nat) (os:List Nat) (al:Option Addr) (cl:Nat) (hd:Z1 m.P (r:Int)=0) (hPl:m.P.length < 100000) (hos:∀ o∈os,o < m.objs.length) (hl:os.length≤64) (OL:List Int) (hOL:OL=os.map fun o:Nat=>(o:Int)) {w:World} {fr:List Q2} (H:Q0 w (Qo p m::IL (.slice al OL.length cl) OL::fr)) :
  Calls Tryz.prog 104 #[pp p,.int .i64 r,.slice al OL.length cl] w (ret fun v w'=>v = .int .i64 m.P.length∧Q0 w' (Qo p (WJ m r os)::IL (.slice al OL.length cl) OL::fr)):=by
 have e:OL.length=os.length:=by rw[hOL,List.length_map]
 have h:=fL p m r os al cl hd hPl hos hl (w:=w) (fr:=fr) (by rw[Cb,← hOL,← e];exact H);rw[Cb,← hOL,← e] at h;exact h
theorem gI [Q4] (p:Nat) (s:CS) (m:MS) (told:List (Nat×Nat)) (n:Nat) (J:YI s m told n) (hn:n≤60) (k A B C i g:Int) (X:Nat) (hX:X < 18446744073709551616) (vW:Value) (ws:List Nat) (hws:∀ x∈ws,x < 18446744073709551616) (raw:Bool) (rg:Int) (vL:Value) (L:List Int) (hL:L.length≤80)
  {w:World} {fr:List Q2} [hT:YN 0 Lib.deBruijn64tab fr] (hrW:Vm fr vW ws.length 1 (QP ws)) (hrL:Vm fr vL L.length 1 (Qc L)) (H:Q0 w (UN p s m told::fr)) :
  Calls Tryz.prog 36 #[.agg (Aq 3 k A B C X vW raw i g rg vL).toArray,pp p] w (ret fun v w'=>v = .bool true∧∃ s' m' told',YI s' m' told' (n+1)∧Q0 w' (UN p s' m' told'::fr)):=by
 obtain⟨_,adW,capW,rfl,_⟩:=id hrW;obtain⟨_,adL,capL,rfl,_⟩:=id hrL;have hO:=J.O;have hQ:=J.Q;have hlen:=J.R.len;have hOl:=Ie J.R J.T;have Jn:YI s m told (n+1):=⟨J.R,J.I,J.T,J.P,J.G,by omega,by omega⟩
 have hgen:∀ (k g:Nat) (e:Q9),s.tab[k]? = some ⟨g,some e⟩→g < 255:=fun k g e hk=>by
  have:=J.G k _ hk;dsimp only at this;omega
 refine QQ Tryz.func36 rfl (by kernel_rfl) ?_;refine J6 H ?_;clear H;intro b2 w H;refine Ru H ?_;refine Q6 ?_;refine R4 H ?_;refine ZS H ?_;obtain⟨c,mo,a,cap,H⟩:=Er H.swap;obtain⟨_,_,hw,_,_⟩:=Vs H.swap;obtain⟨_,_,_,_,_,_,_,hmw,_⟩:=Zb (H.sel [2,0,0,0] 0);refine ZS H ?_;refine ZS H ?_;refine VD H ?_;replace H:=Js [0,2,0,0,0] 0 H;refine W4 H ?_;refine Jc rfl rfl (ff p c mo a cap told (by omega) _ L (by omega) hrL.there.there.there H) ?_;clear H;rintro v w ⟨ys,vt,vo,rfl,hys,hch,H⟩;generalize hTL:ys.map (·.1)=TL at H;generalize hOL:ys.map (·.2)=OL at H;obtain⟨at',ct,rfl⟩:=QD (m:=TL.length) H (Ra _) (by decide);obtain⟨ao,co,rfl⟩:=QD (m:=OL.length) H.drop (Vc _) (by decide);have hl1:TL.length=ys.length:=by rw[← hTL,List.length_map]
 have hl2:OL.length=ys.length:=by rw[← hOL,List.length_map]
 refine Zh H ?_;replace H:=Js [4,0,0,0,0] 0 H;refine J1 H ?_;clear H;intro w H;refine Ja 0 ?_;refine Ja 1 ?_;refine Jf 2 ?_;refine Jl 3 [7] H ?_;refine Jf 4 ?_;refine Jl 5 [7] H ?_;refine Ja 6 ?_;cases hf:QZ s.par rg with
 | none=>
  have hlv:Vr m.P rg=false:=by rw[← WC J.R,hf];rfl
  have hW:GS m rg OL=15:=by unfold GS;rw[if_pos hlv]
  refine Jo 7 H ?_;refine Jk rfl rfl (gB c s rg (.slice at' TL.length ct) hf H) ?_;clear H;rintro v w ⟨rfl,H⟩;refine AK H ?_;replace H:=Js [5,2,0,0,0,0] 0 H;refine J1 H ?_;clear H;intro w H;refine EZ H ?_;refine Jk rfl rfl (F7 mo m rg OL ao co (by omega) H) ?_;clear H;rintro v w ⟨rfl,H⟩;rw[hW];refine X6 H ?_;refine K9 H ?_;refine X4 H ?_;refine XS H ?_;refine Zg H ?_;refine J2 H ?_;replace H:=Js [6,3,1,2,1,0,0] 0 H;exact Q3 (Jy (YK H.drop.drop.drop) rfl fun w' H'=>⟨rfl,s,m,told,Jn,H'⟩)
 | some q=>
  obtain⟨r,rfl,hr1,hPr,hq0⟩:=(J.R.tree _ _).1 ((Yh J.R.nd).1 hf);have hid:(QZ s.par (r:Int)).isSome=true:=by rw[hf];rfl
  have hlast:=J.R.last;have hck:=fX J.R hw hid hch;rw[hTL,hOL] at hck;refine Jo 7 H ?_;refine Jk rfl rfl (gX c s r hid J.T J.P (by omega) (.slice at' TL.length ct) TL (by omega) H) ?_;clear H;rintro v w (⟨hc,rfl,H⟩|⟨hc,rfl,hroom,H⟩|⟨hc,rfl,Z,s',hZ,hS,H⟩)
  ·refine AK H ?_;replace H:=Js [5,2,0,0,0,0] 0 H;refine J1 H ?_;clear H;intro w H;refine EZ H ?_;refine Jk rfl rfl (F7 mo m r OL ao co (by omega) H) ?_;clear H;rintro v w ⟨rfl,H⟩;rw[← hck];refine X6 H ?_;generalize ZJ s r TL=E at hc hck;refine GV H ?_;refine V8 H ?_;rw[show (((E:Nat):Int) != 0)=true by rw[bne_iff_ne];omega];refine E7 H ?_;rw[GN ((E:Nat):Int)];refine XP H ?_;refine J2 H ?_;replace H:=Js [6,3,1,2,1,0,0] 0 H;exact Q3 (Jy (YK H.drop.drop.drop) rfl fun w' H'=>⟨rfl,s,m,told,Jn,H'⟩)
  ·refine AK H ?_;replace H:=Js [5,2,0,0,0,0] 0 H;refine J1 H ?_;clear H;intro w H;refine EZ H ?_;refine Jk rfl rfl (F7 mo m r OL ao co (by omega) H) ?_;clear H;rintro v w ⟨rfl,H⟩;rw[← hck,hc];refine X6 H ?_;refine K9 H ?_;refine Bq H ?_;refine X4 H ?_;replace H:=Js [2,0,0] 0 H;obtain⟨u,mem,hw2,hm2,H⟩:=Vs H;refine W1 H ?_;refine Gw H ?_;refine Uf H ?_;replace H:=Js [3,0,0,0] 0 H;refine Qe rfl rfl rfl (V2 (a:=[]) (b:=[]) rfl rfl (call (M5 u.sp s.size mem s.own H) ?_));clear H;rintro v w ⟨rfl,H⟩;replace H:=Js [1,1,1,0] 0 H;replace H:=VG hw2 hm2 H;refine Yp H ?_;refine Qe rfl rfl rfl (ZO rfl rfl ?_);refine Yp H ?_;have hTO:TL.length=OL.length:=by omega
   rw[show decide (((s.own.length - (s.own.filter (· != 0)).length:Nat):Int) < ((OL.length:Nat):Int))=true from decide_eq_true (by omega)];refine J2 H ?_;replace H:=Js [6,3,2,2,0,0,0] 0 H;exact Q3 (Jy (YK H.drop.drop.drop) rfl fun w' H'=>⟨rfl,s,m,told,Jn,H'⟩)
  ·refine AK H ?_;replace H:=Js [5,2,0,0,0,0] 0 H;refine J1 H ?_;clear H;intro w H;refine EZ H ?_;refine Jk rfl rfl (F7 mo m r OL ao co (by omega) H) ?_;clear H;rintro v w ⟨rfl,H⟩;rw[← hck,hc];refine X6 H ?_;refine K9 H ?_;refine Bq H ?_;refine Y0 H ?_;refine J1 H ?_;clear H;intro w H;refine EQ H ?_;refine Dh H ?_;refine Jl 7 [11] H ?_;refine Jf 8 ?_;refine Jl 9 [11] H ?_;refine Ja 10 ?_;have hm0:GS m r OL=0:=by rw[← hck];exact hc
   obtain⟨hlT,hc0⟩:=gE hc;rw[← hTL] at hc0 hZ;obtain⟨ho1,ho2,ho3⟩:=gR J.R hch hc0 hZ;have J':=J.split hw hid hS ho3;have hol:(ys.map fun y=>y.2.toNat).length=ys.length:=List.length_map _;have hOLe:OL=(ys.map fun y=>y.2.toNat).map fun o:Nat=>(o:Int):=by rw[← hOL];exact ho2
   generalize (ys.map fun y=>y.2.toNat)=os at ho1 hOLe J' hol;refine Jo 11 H ?_;refine Jk rfl rfl (gH mo m r os ao co (gF hm0) (by omega) ho1 (by omega) OL hOLe H) ?_;clear H;rintro v w ⟨rfl,H⟩;refine Ja 12 ?_;rw[hlast,GN ((m.P.length:Nat):Int)];refine AG H ?_;replace H:=Js [6,3,1,2,1,0,0] 0 H;exact Q3 (Jy (YK H.drop.drop.drop) rfl fun w' H'=>⟨rfl,s',_,told,J',H'⟩)
end Go.Proofs.YtmjdnljneifpcaaGreatDoor
namespace Go.Proofs.YtmjdnljneifpcaaGreatDoor
open Go.SL
structure YA where
 K:Int
 a:Ac
 rg:Int
 vL:Value
 L:List Int
def Ze (x:YA):List Value:=Aq x.K x.a.k x.a.A x.a.B x.a.C x.a.X x.a.vW x.a.raw x.a.i x.a.g x.rg x.vL
def Xv (l:List YA):List Value:=l.flatMap Ze
def WP (fr:List Q2) (x:YA):Prop:=Eu fr x.a∧Vm fr x.vL x.L.length 1 (Qc x.L)
theorem WP.there {A:Q2} {fr:List Q2} {x:YA} (h:WP fr x):WP (A::fr) x:=⟨⟨h.1.1,h.1.2.1,h.1.2.2.there⟩,h.2.there⟩
theorem gJ (l:List YA):(Xv l).length=l.length*12:=by
 induction l with
 | nil=>rfl
 | cons p L ih=>simp only[Xv,Ze,List.flatMap_cons,List.length_append,List.length_cons,List.length_nil] at ih ⊢;omega
theorem gL {L:List YA} {i:Nat} {x:YA} (h:L[i]? = some x):∀ j v,(Ze x)[j]? = some v→(Xv L)[i*12+j]? = some v:=by
 induction L generalizing i with
 | nil=>simp at h
 | cons y L ih=>
  intro j v hj;have hj9:j < 12:=(List.getElem?_eq_some_iff.1 hj).1;cases i with
  | zero=>
   simp at h;subst h;show (Ze y++L.flatMap Ze)[0*12+j]? = _;rw[Nat.zero_mul,Nat.zero_add,List.getElem?_append_left hj9];exact hj
  | succ i=>
   have:=ih (i:=i) (by simpa using h) j v hj;show (Ze y++L.flatMap Ze)[(i+1)*12+j]? = _;rw[List.getElem?_append_right (by show 12≤_;omega)];show (L.flatMap Ze)[(i+1)*12+j - 12]? = _;rw[show (i+1)*12+j - 12=i*12+j by omega];exact this
theorem Ov {c:List Value} {o n:Nat} {L:List YA} (h:QY c o n (Xv L)) {i:Nat} {x:YA} (hp:L[i]? = some x):QY c (o+i*12) 12 (Ze x):=
 h.part (es:=Ze x) fun j v hj=>gL hp j v hj
theorem gM {i:Nat} (h:i < 9223372036854775807):Value.int .i64 (IntKind.i64.wrap ((i:Int)+1)) = .int .i64 ((i+1:Nat):Int):=by
 rw[QT (by omega) (by omega)];rfl
theorem sls_rd [Q4] {w:World} {l:List Q2} {E k m cap:Nat} {a:Option Addr} {c:List Value} (hc:c.length=m*k) (H:Q0 w (QC E k (.slice a m cap) c::l)):∃ A:Q2,Q0 w (A::l)∧Vm (A::l) (.slice a m cap) m k c:=by
 by_cases hm:m=0
 ·exact⟨prop True,Q0.prop.2 ⟨trivial,H.drop⟩,hc,a,cap,rfl,.inl hm⟩
 ·obtain⟨b,s,rfl,H,_⟩:=Qx H (by omega);refine⟨_,H,hc,_,cap,rfl,.inr ⟨b,0,E,(0,0),c++s,rfl,inferInstance,?_⟩⟩;rw[← hc];refine QY.of_get fun j v hj=>?_;rw[Nat.zero_add,List.getElem?_append_left (List.getElem?_eq_some_iff.1 hj).1];exact hj
theorem gN [Q4] (v:Value) (l:List Ac) (hl:l.length≤9223372036854775807) {w:World} {fr:List Q2} (hr:Vm fr v l.length 9 (Xr l)) (hok:∀ x∈l,Eu fr x) (H:Q0 w fr) :
  Calls Tryz.prog 34 #[v] w (ret fun r w'=>∃ b:Bool,r = .int .i64 (if b then 1 else 0)∧(b=false→l.length≤60)∧Q0 w' fr):=by
 refine QQ Tryz.func34 rfl (by kernel_rfl) ?_;refine VC H ?_;obtain⟨_,ad,cap,rfl,_⟩:=id hr;refine YZ H ?_;refine Jc rfl rfl (dQ _ l hl hr hok H) ?_;clear H;rintro r w ⟨b,rfl,hb,H⟩;refine Q6 ?_;cases b with
 | true=>
  refine YG H ?_;exact Q3 (Jy H rfl fun w' H'=>⟨true,rfl,fun h=>(by cases h),H'⟩)
 | false=>
  refine KK H ?_;exact Q3 (Jy H rfl fun w' H'=>⟨false,rfl,hb,H'⟩)
theorem gO [Q4] (v:Value) (l:List YA) (hl:l.length*128≤140737488351232) {w:World} {fr:List Q2} (hr:Vm fr v l.length 12 (Xv l)) (hok:∀ x∈l,WP fr x) (H:Q0 w fr) :
  Calls Tryz.prog 9 #[v] w (ret fun r w'=>∃ b,r = .bool b∧(b=false→l.length≤60∧∀ x∈l,x.L.length≤80)∧Q0 w' fr):=by
 obtain⟨h0,ad,cap,rfl,hrd⟩:=hr;refine QQ Tryz.func9 rfl (by kernel_rfl) ?_;refine VC H ?_;refine Wn H ?_;refine Qj (fun ms σ w n=>ms=[]∧∃ (i:Nat) (vi:Value),i≤l.length∧n=l.length - i∧(∀ x∈l.take i,x.L.length≤80)∧σ 3=vi∧σ 6 = .slice ad l.length cap∧σ 7 = .int .i64 l.length∧σ 8 = .int .i64 i∧Q0 w (QC 93 9 vi (Xr ((l.take i).map YA.a))::fr)) (m:=l.length) ⟨rfl,0,_,by omega,rfl,fun x hx=>(by simp at hx),rfl,rfl,rfl,rfl,Yu H⟩ ?_;clear H;rintro ms σ w n ⟨rfl,i,vi,hi,rfl,hsm,g3,g6,g7,g8,H⟩;obtain⟨ai,mi,ci,rfl⟩:=Qq H;rw[Q1 g3,Q1 g6,Q1 g7,Q1 g8];refine J7 H ?_;refine Qf rfl (fun h=>QW ?_) (fun h=>Qp ?_)
 ·have hlt:i < l.length:=by omega
  have hy:=List.getElem?_eq_getElem hlt;have htk:l.take (i+1)=l.take i++[l[i]]:=by rw[List.take_add_one,hy];rfl
  generalize l[i]=y at hy htk;have hym:=hok y (List.mem_of_getElem? hy)
  rcases hrd with hz|⟨b,o,E,fz,c,rfl,hA,hrd⟩
  ·omega
  haveI:=hA;obtain⟨K,⟨k,A,B,C,X,vW,ws,raw,i1,gg1⟩,rg,vL,L⟩:=y;obtain⟨⟨_,_,_,adW,capW,hvW,_⟩,_,adL,capL,hvL,_⟩:=hym;replace hvW:vW = .slice adW ws.length capW:=hvW;replace hvL:vL = .slice adL L.length capL:=hvL;subst hvW hvL;refine YY H ?_;refine Jd ?_;refine Q5 rfl (VH H rfl (Ov hrd hy) rfl ?_);refine VZ H ?_;clear H;intro b5 w H;refine J3 H ?_;clear H;intro w H;refine Q6 ?_;replace H:Q0 w (pts b5 (row 95 (Aq K k A B C X (.slice adW ws.length capW) raw i1 gg1 rg (.slice adL L.length capL)))::_):=H;refine K6 H ?_;refine UK H ?_;by_cases h80:(L.length:Int) > 80
  ·rw[show decide ((L.length:Int) > 80)=true from decide_eq_true (by omega)];refine YG H ?_;exact Q3 (Jy H.drop.drop rfl fun w' H'=>⟨true,rfl,fun h=>(by cases h),H'⟩)
  ·rw[show decide ((L.length:Int) > 80)=false from decide_eq_false (by omega)];refine Wv H ?_;refine E8 H ?_;refine GG H ?_;clear H;intro b19 w H;replace H:=Js [2,0,0] 0 H
   refine Q5 rfl (SE H rfl rfl (by repeat first|exact .nil _|apply QY.cons rfl) rfl (by decide) (fun n hn=>by
    rw[I9,List.length_map,List.length_take] at hn;omega) rfl rfl ?_);clear H;intro v20 w H
   obtain⟨a20,m20,c20,rfl⟩:=Qq H;refine J0 H ?_;replace H:=Js [1,1,0] 0 H;replace H:=H.drop.drop
   have e1:Xr ((l.take i).map YA.a)++[.int .i64 k,.int .i64 A,.int .i64 B,.int .i64 C,.int .u64 X,.slice adW ws.length capW,.bool raw,.int .i64 i1,.int .i64 gg1]=Xr ((l.take (i+1)).map YA.a):=by
    rw[htk,List.map_append];unfold Xr;rw[List.flatMap_append];rfl
   rw[e1] at H;refine J4 H ?_;refine⟨_,⟨rfl,i+1,_,hlt,rfl,fun x hx=>?_,rfl,rfl,rfl,gM (by omega),H⟩,by omega⟩;rw[htk] at hx
   rcases List.mem_append.1 hx with hx|hx
   ·exact hsm x hx
   ·rw[List.mem_singleton] at hx;subst hx;show L.length≤80;omega
 ·obtain rfl:i=l.length:=by omega
  rw[List.take_length] at H hsm;have hla:(l.map YA.a).length=l.length:=List.length_map _;obtain⟨ai,ci,hv⟩:=QD (m:=(l.map YA.a).length) H (I9 _) (by decide);injection hv with hv1 hv2 hv3
  subst hv1 hv2 hv3;refine YZ H ?_;obtain⟨A,H,hR⟩:=sls_rd (I9 _) H
  refine Q5 rfl (V2 (a:=[]) (b:=[]) rfl rfl (call (gN _ (l.map YA.a) (by omega) hR (fun x hx=>by
     obtain⟨y,hy,rfl⟩:=List.mem_map.1 hx;have:=(hok y hy).1;exact⟨this.1,this.2.1,this.2.2.there⟩) H) ?_))
  clear H;rintro r w ⟨b,rfl,hb,H⟩;cases b with
  | true=>
   refine J2 H ?_;exact Q3 (Jy H.drop rfl fun w' H'=>⟨true,rfl,fun h=>(by cases h),H'⟩)
  | false=>
   refine J2 H ?_;have:=hb rfl;exact Q3 (Jy H.drop rfl fun w' H'=>⟨false,rfl,fun _=>⟨by omega,hsm⟩,H'⟩)
end Go.Proofs.YtmjdnljneifpcaaGreatDoor
namespace Go.Proofs.YtmjdnljneifpcaaGreatDoor
open Go.SL
def jB:MS:=⟨[-1,0,1],[L0],[]⟩
def jC:MS:=KJ jB 1 1 0
def jD:MS:=KJ jC 2 1 0
def jE:MS:=(Yb jD 0 1 1).1
def jF:MS:=Xu jE [2]
theorem Ow:V4 jB:=⟨⟨by simp[jB],by simp[jB]⟩,⟨by simp[jB],fun l h=>by simp[jB] at h;subst h;exact dG⟩,(fun x h=>by simp[jB] at h),by simp[jB]⟩
theorem Ox:Vj jB 1 1 0=(2,0):=by decide
theorem Oy:Vj jC 2 1 0=(2,0):=by decide
theorem Oz:V4 jC:=Hh (by rw[Ox]) Ow (by simp[jB])
theorem Im:V4 jD:=Hh (by rw[Oy]) Oz (by show (jB.objs++[_]).length < _;simp[jB])
theorem gP:V4 jE:=by
 show V4 (Yl jD 0 { G0 1 1 0 2 with kind:=(G0 1 1 0 2).kind.set 1 2,to:=(G0 1 1 0 2).to.set 1 1 });exact WR Im (Hg (Im.objs _ (show G0 1 1 0 2∈[G0 1 1 0 2,G0 2 1 0 2] from List.mem_cons_self)) 1 2 1 (fun _=>by decide))
theorem gS {s:CS} {m:MS} {told:List (Nat×Nat)} (R:Rel s m told) (h:m.P=[-1,0,1]) (r q:Int):QZ s.par r=some q↔(r=1∧q=0)∨(r=2∧q=1):=by
 rw[Yh R.nd,R.tree,h];constructor
 ·rintro⟨k,rfl,h1,h2,h3⟩
  match k,h1,h2 with
  | 1,_,h2=>injection h2 with h2;exact .inl ⟨rfl,h2.symm⟩
  | 2,_,h2=>injection h2 with h2;exact .inr ⟨rfl,h2.symm⟩
  | k+3,_,h2=>cases h2
 ·rintro(⟨rfl,rfl⟩|⟨rfl,rfl⟩)
  ·exact⟨1,rfl,by omega,rfl,by omega⟩
  ·exact⟨2,rfl,by omega,rfl,by omega⟩
theorem gT {L:List Int} {x:Int} (hnd:L.Nodup) (h:∀ c,c∈L↔c=x):L=[x]:=by
 cases L with
 | nil=>have:=(h x).2 rfl;cases this
 | cons a L=>
  obtain rfl:=(h a).1 List.mem_cons_self;cases L with
  | nil=>rfl
  | cons b L=>
   obtain rfl:=(h b).1 (by simp);simp at hnd
theorem P2 [Q4] {w:World} {fr:List Q2} [hT:YN 0 Lib.deBruijn64tab fr] (H:Q0 w fr) :
  Calls Tryz.prog 8 #[] w (ret fun v w'=>v = .bool true∧Q0 w' fr):=by
 have Rs0:=Np 6 8 6;have hdS:UJ (XX 6 8 6) [2,2,0]=({ XX 6 8 6 with lays:=[L0] },1,0):=by rw[Ab dZ];rfl
 refine QQ Tryz.func8 rfl (by kernel_rfl) ?_;refine BS H ?_;refine Jc rfl rfl (N2 6 8 6 (by omega) (by omega) (by omega) (by omega) (by omega) (by omega) H) ?_;clear H;rintro v w ⟨c,rfl,H⟩;replace H:Q0 w (QR c (XX 6 8 6)::fr):=H;refine Zh H ?_;refine Vh H ?_;refine Yp H ?_;refine Dm H ?_;refine YZ H ?_;refine GG H ?_;clear H;intro b22 w H;replace H:=H.swap;have hrd:Vm (pts b22 (row 83 [.int .u64 2,.int .u64 2,.int .u64 0])::fr) (.slice (some ⟨b22,0,none⟩) 3 3) 3 1 (QP [2,2,0]):=⟨rfl,_,_,rfl,.inr ⟨b22,0,_,_,_,rfl,inferInstance,.cons rfl (.cons rfl (.cons rfl (.nil _)))⟩⟩;refine Jc rfl rfl (N0 c (XX 6 8 6) _ [2,2,0] (by decide) hrd H) ?_;clear H;rintro v w ⟨rfl,H⟩;rw[hdS] at H ⊢
 have RA:Rel { XX 6 8 6 with lays:=[L0] } ⟨[-1],[L0],[]⟩ []:=by
  have h:=(NZ Rs0 dU [2,2,0]).2;rw[hdS] at h;exact h
 refine Bf H ?_;refine Jc rfl rfl (Hu c _ 0 (by decide) H) ?_;clear H;rintro v w (⟨h1,rfl,H⟩|⟨_,ob,ob2,rfl,H⟩)
 ·exact absurd rfl h1
 have RO:=Hy RA (parent:=0) rfl ob ob2;generalize hsA:WB { XX 6 8 6 with lays:=[L0] } 0 ob ob2=sA at H RO;have hA1:sA.par=[(1,0)]∧sA.last=1:=by rw[← hsA];exact⟨rfl,rfl⟩
 refine Bf H ?_;have hadd:Yz sA.par 1=0:=by rw[hA1.1];decide
 refine Jc rfl rfl (Hu c _ 1 (by rw[hA1.2];decide) H) ?_;clear H;rintro v w (⟨h1,rfl,H⟩|⟨_,oc,oc2,rfl,H⟩)
 ·exact absurd hadd h1
 have RB:=Hy RO (parent:=1) (by decide) oc oc2;generalize hsB:WB sA 1 oc oc2=sB at H RB;have hB1:sB.size=8:=by rw[← hsB,← hsA];rfl
 have hB2:sB.own=List.replicate 6 0:=by rw[← hsB,← hsA];rfl
 have hB3:sB.tab=List.replicate 6 ⟨0,none⟩:=by rw[← hsB,← hsA];rfl
 have FB:Rb sB []:=⟨⟨6,by rw[hB3];rfl⟩,rfl,NS (by rw[← hsB,← hsA];rfl) (by rw[hB3];exact NT)⟩;replace RB:Rel sB jB []:=RB;refine Bf H ?_;refine Jc rfl rfl (Et c sB 1 1 0 H) ?_;clear H;rintro v w ⟨i1,g1,e1,sC,rfl,hM1,H⟩;obtain⟨rfl,rfl,rfl,RC,FC,hC1,hC2,hC3⟩:=Nq RB Ow FB hM1 Ox hB1 (by rw[hB3];decide) ⟨0,by rw[hB2];decide,by rw[hB2];rfl⟩;rw[hB3] at hC3;rw[hB2] at hC2;replace RC:Rel sC jC [(0,1)]:=RC;replace FC:Rb sC [(0,1)]:=FC
 have hfree:∃ a,a < sC.own.length∧sC.own.getD a 0=0:=by
  obtain⟨hl,a0,k0,hk0,hg⟩:=hC2
  have hz:∀ a,a≠a0→sC.own.getD a 0=0:=by
   intro a ha;refine Classical.byContradiction fun h=>?_
   rcases hg a h with h1|h1
   ·exact h1 (I1 6 a)
   ·omega
  have hl4:sC.own.length=6:=hl;by_cases h0:a0=0
  ·exact⟨1,by omega,hz 1 (by omega)⟩
  ·exact⟨0,by omega,hz 0 (by omega)⟩
 refine Vi H ?_;clear H;intro b3 w H;refine J3 H ?_;clear H;intro w H;refine J0 H ?_;replace H:=H.swap;refine YZ H ?_;refine Jc rfl rfl (Et c sC 2 1 0 H) ?_;clear H;rintro v w ⟨i2,g2,e2,sD,rfl,hM2,H⟩;obtain⟨rfl,rfl,rfl,RD,FD,hD1,hD2,hD3⟩:=Nq RC Oz FC hM2 Oy hC1 (by rw[hC3];decide) hfree;replace RD:Rel sD jD [(0,1),(1,1)]:=RD;refine Vi H ?_;clear H;intro b5 w H;refine J3 H ?_;clear H;intro w H;refine J0 H ?_;replace H:=Js [1,0,0] 0 H;refine W1 H ?_;refine BQ H ?_;refine Rs H ?_;refine Rs H ?_;obtain⟨_,_,hwD,_,_⟩:=Vs H;have P0:Gm [(0,1),(1,1)] 0 1 0 := .inl ⟨0,1,0,rfl,rfl,rfl,rfl⟩;have P1:Gm [(0,1),(1,1)] 1 1 1 := .inl ⟨1,1,1,rfl,rfl,rfl,rfl⟩;obtain⟨t1,RE⟩:=NQ RD hwD Im P0 P1 1;rw[show (Yb jD 0 1 1).2=0 by decide] at t1;replace RE:Rel (Ym sD 0 1 1 1 1).1 jE [(0,1),(1,1)]:=RE;have IE:=NO hwD FD.inv 0 1 1 1 1;have shE:=Nd sD 0 1 1 1 1;refine Qe rfl rfl rfl (V2 (a:=[]) (b:=[]) rfl rfl (call (Mz c sD 0 1 1 1 1 H) ?_));clear H;rintro v w ⟨rfl,H⟩;rw[t1];generalize (Ym sD 0 1 1 1 1).1=sE at H RE IE shE
 have hgE:∀ (k g:Nat) (e:Q9),sE.tab[k]? = some ⟨g,some e⟩→g < 255:=by
  intro k g e hk;obtain⟨⟨r,hs⟩,_,_⟩:=id FD;rw[← shE] at hs
  rcases Af hs hk with ⟨_,h1,_⟩|⟨_,_,h1,_⟩
  ·have h1:g=1:=h1;omega
  ·have h1:g=0:=h1;omega
 have hparE:=gS RE rfl
 have hTE:Yd sE.par:=by
  refine⟨RE.nd,fun r q hr=>?_⟩
  rcases (hparE r q).1 hr with ⟨rfl,rfl⟩|⟨rfl,rfl⟩
  ·exact⟨by omega,by omega,.inl rfl⟩
  ·exact⟨by omega,by omega,.inr (by rw[(hparE 1 0).2 (.inl ⟨rfl,rfl⟩)];rfl)⟩
 refine Wo H ?_;refine YZ H ?_;refine Jc rfl rfl (IS c sE 2 hTE (by rw[(hparE 2 1).2 (.inr ⟨rfl,rfl⟩)];rfl) IE hgE H) ?_;clear H;rintro v w ⟨u,L,sF,rfl,hL1,hL2,hL3,hL4,hF,H⟩
 have hLd:L=[2]:=gT hL1 fun c=>by
  rw[hL3];constructor
  ·intro d;cases d with
   | self=>rfl
   | kid hd hf=>
    rcases (hparE _ _).1 hf with ⟨rfl,rfl⟩|⟨rfl,rfl⟩
    ·have:=hd.ge hTE;omega
    ·have:=hd.ge hTE;omega
  ·rintro rfl;exact .self
 subst hLd;obtain⟨aL,cL,rfl⟩:=QD H (Vc [2]) (by decide);obtain⟨G,D,hT⟩:=hF.t;have RF:Rel sF jF [(0,1),(1,1)]:=Oa (L:=[2]) RE gP IE hT;refine Zh H ?_
 have t4:Vz sF 0 1 1=(.grave,0):=by
  rcases Hx RF P0 1 with ⟨h1,h2⟩|⟨h1,n,j,x,h2,h3,h4,_,_,_,_,h5⟩
  ·exact absurd (by decide) h1
  ·obtain rfl:n=0:=by omega
   obtain rfl:j=1:=by omega
   rw[h5];have h6:jF.objs[0]? = some ⟨1,1,0,[0,0],[0,1],[0,0],true,false,false⟩:=by rfl
   rw[h6] at h4;injection h4 with h4
   rw[← h4];rfl
 replace H:=Js [1,0,0,0] 0 H;refine Ge H ?_;refine Jc rfl rfl (El c sF 0 1 1 H) ?_;clear H;rintro v w ⟨rfl,H⟩;rw[t4];refine Vi H ?_;clear H;intro b9 w H;refine J3 H ?_;clear H;intro w H;refine Dj H ?_;refine Yp H ?_;refine Qe rfl rfl rfl (Km H rfl rfl rfl ?_);clear H;intro b66 w H;replace H:Q0 w (IL (.slice (some ⟨b66,0,none⟩) 1 1) [2]::_):=Ue rfl H;replace H:=Js [3,0,0,0,0,0] 0 H;have hSame:=He (.slice aL 1 cL) (.slice (some ⟨b66,0,none⟩) 1 1) [2] [2] (by decide) H;refine Qe rfl rfl rfl (V2 (a:=[]) (b:=[]) rfl rfl (call (hSame) ?_));clear hSame;clear H;rintro v w ⟨rfl,H⟩;rw[show decide ([2]=([2]:List Int))=true from rfl];refine Jv ?_;refine Jv ?_;refine VB rfl rfl rfl rfl ?_;refine VB rfl rfl rfl rfl ?_;refine YS H ?_;refine Bn H ?_;refine Qe rfl rfl rfl (B6 rfl rfl rfl rfl (.inl rfl) rfl ?_);refine J2 H ?_;replace H:Q0 w fr:=H.drop.drop.drop.drop.drop.drop.drop;exact Q3 (Jy H rfl fun w' H'=>⟨rfl,H'⟩)
end Go.Proofs.YtmjdnljneifpcaaGreatDoor
namespace Go.Proofs.YtmjdnljneifpcaaGreatDoor
open Go.SL
theorem ga [Q4] (p:Nat) (s:CS) (m:MS) (told:List (Nat×Nat)) (n:Nat) (J:YI s m told n) (hn:n≤60) (K k A B C i g:Int) (X:Nat) (hX:X < 18446744073709551616) (vW:Value) (ws:List Nat) (hws:∀ x∈ws,x < 18446744073709551616) (raw:Bool) (rg:Int) (vL:Value) (L:List Int) (hL:L.length≤80)
  {w:World} {fr:List Q2} [hT:YN 0 Lib.deBruijn64tab fr] (hrW:Vm fr vW ws.length 1 (QP ws)) (hrL:Vm fr vL L.length 1 (Qc L)) (H:Q0 w (UN p s m told::fr)) :
  Calls Tryz.prog 36 #[.agg (Aq K k A B C X vW raw i g rg vL).toArray,pp p] w (ret fun v w'=>v = .bool true∧∃ s' m' told',YI s' m' told' (n+1)∧Q0 w' (UN p s' m' told'::fr)):=by
 by_cases hK:K=3
 ·subst hK;exact gI p s m told n J hn k A B C i g X hX vW ws hws raw rg vL L hL hrW hrL H
 ·exact gD p s m told n J hn K k A B C i g hK X hX vW ws hws raw rg vL L hL hrW hrL H
theorem gb [Q4] (z1 z2 z3:Int) (v:Value) (l:List YA) (hl:l.length≤60) (h80:∀ x∈l,x.L.length≤80) {w:World} {fr:List Q2} [hT:YN 0 Lib.deBruijn64tab fr] (hr:Vm fr v l.length 12 (Xv l)) (hok:∀ x∈l,WP fr x) (H:Q0 w fr) :
  Calls Tryz.prog 10 #[.agg #[.int .i64 z1,.int .i64 z2,.int .i64 z3],v] w (ret fun r w'=>∃ p s m told,r = .tuple #[pp p,.bool true]∧YI s m told 60∧Q0 w' (UN p s m told::fr)):=by
 obtain⟨_,ad,cap,rfl,hrd⟩:=id hr;refine QQ Tryz.func10 rfl (by kernel_rfl) ?_;refine J6 H ?_;clear H;intro b2 w H;refine J2 H ?_;refine GQ H ?_;refine Jc rfl rfl (dY z1 z2 z3 H) ?_;clear H;rintro r w ⟨p,n,size,slots,rfl,hn1,hn2,hs1,hs2,ht1,ht2,H⟩;refine A6 H ?_;replace H:=H.swap.drop;refine YZ H ?_;refine KX H ?_;refine Qj (fun ms σ w n=>ms=[]∧∃ (i:Nat) (s:CS) (m:MS) (told:List (Nat×Nat)),i≤l.length∧n=l.length - i∧YI s m told i∧σ 6=pp p∧σ 13 = .slice ad l.length cap∧σ 14 = .int .i64 l.length∧σ 15 = .int .i64 i∧Q0 w (UN p s m told::fr)) (m:=l.length) ⟨rfl,0,_,_,_,by omega,rfl,YI.start n size slots,rfl,rfl,rfl,rfl,H⟩ ?_;clear H;rintro ms σ w n' ⟨rfl,i,s,m,told,hi,rfl,J,g6,g13,g14,g15,H⟩;rw[Q1 g6,Q1 g13,Q1 g14,Q1 g15];refine J7 H ?_;refine Qf rfl (fun h=>QW ?_) (fun h=>Qp ?_)
 ·have hlt:i < l.length:=by omega
  have hy:=List.getElem?_eq_getElem hlt;generalize l[i]=y at hy;have hm:=List.mem_of_getElem? hy;obtain⟨⟨hX,hws,hrW⟩,hrL⟩:=hok y hm;have hL:=h80 y hm
  rcases hrd with hz|⟨b,o,E,fz,c,rfl,hA,hrd⟩
  ·omega
  haveI:=hA;obtain⟨K,⟨k,A,B,C,X,vW,ws,raw,i1,gg1⟩,rg,vL,L⟩:=y;obtain⟨_,adW,capW,hvW,_⟩:=id hrW;obtain⟨_,adL,capL,hvL,_⟩:=id hrL;replace hvW:vW = .slice adW ws.length capW:=hvW;replace hvL:vL = .slice adL L.length capL:=hvL;subst hvW hvL;refine YY H ?_;refine Jd ?_;refine Q5 rfl (VH H rfl (Ov hrd hy) rfl ?_);refine VZ H ?_;clear H;intro b8 w H;refine J3 H ?_;clear H;intro w H;refine Q6 ?_;replace H:Q0 w (pts b8 (row 95 (Aq K k A B C X (.slice adW ws.length capW) raw i1 gg1 rg (.slice adL L.length capL)))::_):=H;refine A2 H ?_;refine Jc rfl rfl (ga p s m told i J (by omega) K k A B C i1 gg1 X hX _ ws hws raw rg _ L hL hrW.there hrL.there H.swap) ?_;clear H;rintro r w ⟨rfl,s',m',told',J',H⟩;refine KV H ?_;exact⟨_,⟨rfl,i+1,s',m',told',hlt,rfl,J',rfl,rfl,rfl,Qb (by omega),H.swap.drop⟩,by omega⟩
 ·refine V8 H ?_;have UK:YI s m told 60:=⟨J.R,J.I,J.T,J.P,J.G,by have:=J.O;omega,by have:=J.Q;omega⟩;exact Q3 (Jy H rfl fun w' H'=>⟨p,s,m,told,rfl,UK,H'⟩)
end Go.Proofs.YtmjdnljneifpcaaGreatDoor
namespace Go.Proofs.YtmjdnljneifpcaaGreatDoor
open Go.SL
structure XB (K:List Int) (i:Nat) (s:CS):Prop where
 T:Yd s.par
 I:Inv s
 G:∀ (k g:Nat) (e:Q9),s.tab[k]? = some ⟨g,some e⟩→g < 255
 tops:∀ c,QZ s.par c=some 0→∃ j,i≤j∧K[j]? = some c
 yet:∀ j x,i≤j→K[j]? = some x→QZ s.par x=some 0
theorem XB.step {K:List Int} {i:Nat} {s s':CS} (h:XB K i s) (hn:K.Nodup) {x:Int} (hx:K[i]? = some x) {L:List Int} (h3:∀ c,c∈L↔ZX s.par x c) (hF:CO s L s'):XB K (i+1) s':=by
 obtain⟨G,D,hT⟩:=hF.t;refine⟨by rw[hT.par];exact OT h.T h3,OS hT h.I,fun k g e hk=>?_,fun c hc=>?_,fun j y hj hy=>?_⟩
 ·obtain⟨_,e0,hk0,_⟩:=hT.from hk;exact h.G k g e0 hk0
 ·rw[hT.par,Al L h.T.nd] at hc;split at hc
  ·cases hc
  ·rename_i hcL;obtain⟨j,h1,h2⟩:=h.tops c hc;refine⟨j,?_,h2⟩
   rcases Nat.lt_or_ge i j with h4|h4
   ·exact h4
   ·obtain rfl:i=j:=by omega
    rw[hx] at h2;injection h2 with h2
    exact absurd ((h3 c).2 (h2 ▸ .self)) hcL
 ·have h0:=h.yet j y (by omega) hy;rw[hT.par,Al L h.T.nd,if_neg]
  ·exact h0
  ·intro hL;have hlive:=h.yet i x (Nat.le_refl _) hx;have hup:=h.T.up _ _ hlive
   rcases ((h3 y).1 hL).inv with h4|⟨k,h4,h5⟩
   ·subst h4;have:=CW hn hx hy;omega
   ·rw[h0] at h4;injection h4 with h4
    subst h4;have:=h5.ge h.T;omega
theorem P3 {par:List (Int×Int)} (h:Yd par):∀ (n:Nat) (c q:Int),c.toNat≤n→QZ par c=some q→∃ t,QZ par t=some 0
 | 0,c,q,hn,hc=>by
  obtain⟨h1,h2,_⟩:=h.up c q hc;omega
 | n+1,c,q,hn,hc=>by
  obtain⟨h1,h2,h3⟩:=h.up c q hc
  rcases h3 with h3|h3
  ·subst h3;exact⟨c,hc⟩
  ·cases hq:QZ par q with
   | none=>rw[hq] at h3;cases h3
   | some r=>exact P3 h n q r (by omega) hq
theorem XB.nil {K:List Int} {s:CS} (h:XB K K.length s):s.par=[]:=by
 cases hp:s.par with
 | nil=>rfl
 | cons x l=>
  exfalso;obtain⟨c,q⟩:=x;have hc:QZ s.par c=some q:=(Yh h.T.nd).2 (by rw[hp];exact List.mem_cons_self);obtain⟨t,ht⟩:=P3 h.T c.toNat c q (Nat.le_refl _) hc;obtain⟨j,h1,h2⟩:=h.tops t ht;have:=(List.getElem?_eq_some_iff.1 h2).1;omega
theorem gc {s:CS} (hw:WF s) (hI:Inv s) (hp:s.par=[]):Gk s.tab - Zc s.tab=0∧s.own.filter (· != 0)=[]∧s.rem=[]∧s.sps.map VJ=[]∧s.mns.map Qz=[]:=by
 have hno:∀ (k g:Nat) (e:Q9),s.tab[k]? ≠ some ⟨g,some e⟩:=fun k g e hk=>by
  obtain⟨_,_,q,hq⟩:=hw.obj k g e hk;rw[hp] at hq;cases hq
 refine⟨?_,?_,?_,?_,?_⟩
 ·have:s.tab.filter busy=s.tab.filter fun t=>t.ent.isNone && t.gen == 255:=by
   refine List.filter_congr fun t ht=>?_;obtain⟨k,hk⟩:=List.getElem?_of_mem ht;obtain⟨g,e⟩:=t;cases e with
   | none=>rfl
   | some e=>exact absurd hk (hno k g e)
  unfold Gk Zc;rw[this,Nat.sub_self]
 ·refine List.filter_eq_nil_iff.2 fun r hr h1=>?_;obtain⟨c,hc⟩:=List.getElem?_of_mem hr;obtain⟨q,hq⟩:=hw.live c r hc (by simpa using h1);rw[hp] at hq;cases hq
 ·cases hr:s.rem with
  | nil=>rfl
  | cons x l=>
   exfalso;obtain⟨r,t⟩:=x
   have h1:QZ s.rem r=some t:=by
    rw[hr];exact if_pos rfl
   obtain⟨k,p,g,e,a,b,f,_,hk,_⟩:=(hI.rem r t).1 h1;exact hno k g e hk
 ·have:=congrArg List.length hw.skeys;rw[hp,List.length_map] at this;rw[List.eq_nil_of_length_eq_zero this];rfl
 ·have:=congrArg List.length hw.mkeys;rw[hp,List.length_map] at this;rw[List.eq_nil_of_length_eq_zero this];rfl
theorem XB.start {s:CS} {m:MS} {told:List (Nat×Nat)} {n:Nat} (J:YI s m told n) (hg:told.length < 255) {K:List Int} (hK:K.Perm ((s.par.map (·.1)).filter (Zm s.par 0))):XB K 0 s:=by
 refine⟨J.T,J.I,fun k g e hk=>?_,fun c hc=>?_,fun j x _ hx=>?_⟩
 ·have:=J.G k _ hk;dsimp only at this;omega
 ·have:c∈K:=hK.mem_iff.2 (List.mem_filter.2 ⟨List.mem_map.2 ⟨(c,0),(Yh J.T.nd).1 hc,rfl⟩,by unfold Zm;exact decide_eq_true hc⟩);obtain⟨j,hj⟩:=List.getElem?_of_mem this;exact⟨j,Nat.zero_le _,hj⟩
 ·have h1:=hK.mem_iff.1 (List.mem_of_getElem? hx);exact of_decide_eq_true (List.mem_filter.1 h1).2
theorem XB.nd {s:CS} (hn:(s.par.map (·.1)).Nodup) {K:List Int} (hK:K.Perm ((s.par.map (·.1)).filter (Zm s.par 0))):K.Nodup:=hK.nodup_iff.2 (hn.filter _)
end Go.Proofs.YtmjdnljneifpcaaGreatDoor
