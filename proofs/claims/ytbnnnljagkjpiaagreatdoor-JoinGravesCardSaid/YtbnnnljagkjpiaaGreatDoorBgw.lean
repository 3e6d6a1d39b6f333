/- Cells: what is proved on the way: every input of the statement; no condition. Texts joined: SplR LawB LawC LawD LawE. -/
import Derived.Test.YtbnnnljagkjpiaaGreatDoorBgf
import Derived.Test.YtbnnnljagkjpiaaGreatDoorBgu
import Derived.Test.YtbnnnljagkjpiaaGreatDoorBgv
import Derived.Test.YtbnnnljagkjpiaaGreatDoorBge
import Derived.Test.YtbnnnljagkjpiaaGreatDoorBgt
import Derived.Test.YtbnnnljagkjpiaaGreatDoorBgd
import Derived.Test.YtbnnnljagkjpiaaGreatDoorBgn
import Derived.Test.YtbnnnljagkjpiaaGreatDoorBgq
set_option linter.unusedVariables false
set_option linter.unusedSimpArgs false
set_option linter.unusedSectionVars false
namespace Go.Proofs.YtbnnnljagkjpiaaGreatDoor
open List
open Go.SL
theorem gD {T:QF} (h:T.at'≤T.fin):ZQ ⟨[],0,0⟩ T=T:=by
 obtain⟨ps,x,y⟩:=T;have h:x≤y:=h;unfold ZQ;by_cases h0:y=0
 ·subst h0;obtain rfl:x=0:=by omega
  rfl
 ·show QF.mk _ (if y=0 then 0 else x) (if y=0 then 0 else y)=_;rw[if_neg h0,if_neg h0];rfl
theorem Cw:GB Tryz.prog 62 kp:=Lh inferInstance
set_option maxRecDepth 10000 in
theorem gE [Q4] (p:Nat) (s:CS) (r:Nat) (hid:(QY s.par (r:Int)).isSome=true) (hT:Yo s.par) (hP:Y0 s) (hlast:s.last+1 < 1000000) (v:Value) (l:List (Nat×Nat)) (hl:l.length≤1000) {w:World} {fr:List Q2} [hTab:YW 0 Lib.deBruijn64tab fr] (H:Q0 w (QW p s::VE v l::fr)) :
  Calls Tryz.prog 15 #[pp p,.int .i64 r,v] w (ret fun x w'=>
   (Zb s r l≠0∧x = .tuple #[.int .i64 0,.int .i64 (Zb s r l:Nat)]∧Q0 w' (QW p s::VE v l::fr)) ∨
   (Zb s r l=0∧x = .tuple #[.int .i64 0,.int .i64 11]∧s.own.length - (s.own.filter (· != 0)).length < l.length∧Q0 w' (QW p s::VE v l::fr)) ∨
   (Zb s r l=0∧x = .tuple #[.int .i64 ((s.last+1:Nat):Int),.int .i64 0]∧∃ (Z:List Pl) (s':CS),Z.map (fun z=>(z.k,z.g))=l∧Az s r Z s'∧Q0 w' (QW p s'::VE v l::fr))):=by
 obtain⟨a,c,rfl⟩:=QE H.drop (W0 l) (by decide);obtain⟨u,mem,hw,hm,H⟩:=Vz H;have hr1:=Ct hT hid;refine QQ Tryz.func15 rfl (by kernel_rfl) ?_;refine J4 H ?_;replace H:=Js [5,0,0,0,0,0,0,0,0,0,0,0] 0 H;refine J9 H ?_;refine Jc rfl rfl (FJ p u s.last s.par r H) ?_;clear H;rintro v w ⟨rfl,H⟩;rw[if_pos hid];refine Yl H ?_;replace H:=Js [5,1,0,8,0,0,0,0,0,0,0,0] 0 H;refine Vc H ?_;refine Jc rfl rfl (ft p u s r (.slice a l.length c) l hl H) ?_;clear H;rintro v w ⟨rfl,H⟩;refine YY H ?_;by_cases hc:Zb s r l=0
 case neg=>
  rw[show (((Zb s r l:Nat):Int) != 0)=true by rw[bne_iff_ne];omega];refine E7 H ?_;replace H:=Js [1,3,3,3,0,0,1,1,1,1,1,0] 0 H;exact Q3 (Jy H rfl fun w' H' => .inl ⟨hc,rfl,VY hw hm H'⟩)
 rw[hc];refine V4 H ?_;have hrk:(r:Int)∈s.par.map (·.1):=Wc hid;obtain⟨b0,hkS⟩:=Kj (l:=s.sps) (f:=fun x=>x.1) (g:=fun x=>x.2.1) (k:=(r:Int)) (by rw[hw.skeys];exact hrk);obtain⟨⟨r1,b0',S⟩,p1,p2,hsps,hs1,hs2⟩:=Ki hkS;have hs1:r1=(r:Int):=hs1;have hs2:b0'=b0:=hs2;subst hs1 hs2;obtain⟨c0,hkM⟩:=Kj (l:=s.mns) (f:=fun x=>x.1) (g:=fun x=>x.2.1) (k:=(r:Int)) (by rw[hw.mkeys];exact hrk);obtain⟨⟨r2,c0',M⟩,m1,m2,hmns,hs3,hs4⟩:=Ki hkM;have hs3:r2=(r:Int):=hs3;have hs4:c0'=c0:=hs4;subst hs3 hs4;have hkS':QY (s.sps.map VJ) (r:Int)=some b0':=hkS;have hkM':QY (s.mns.map V0) (r:Int)=some c0':=hkM;have hSm:((r:Int),b0',S)∈s.sps:=by rw[hsps];simp
 obtain⟨t1,t2,t3,t4,t5,t6⟩:=Aw hw hSm;have t1:S.parts.length≤63:=t1;have t2:∀ x∈S.parts,1≤x.2∧x.1+x.2≤s.own.length:=t2;have ho:=hw.own.2;have hsz:=hw.size;refine V2 H ?_;refine Q5 rfl (G0 (key:=(r:Int)) H rfl rfl Vf rfl ?_);rw[hkS'];refine J0 H ?_;refine V2 H ?_;refine Jc rfl rfl (Hz u.sp r (by omega) H) ?_;clear H;rintro w0 w ⟨bt,rfl,H⟩;refine G3 H ?_;replace H:=Js [7,0,0,0,0,0,0,0,0,0,0,0,0] 0 H;refine Yk H ?_;refine Jc rfl rfl (Eo u.sp s.size mem s.own H) ?_;clear H;rintro v w ⟨rfl,H⟩;refine J0 H ?_;refine Zn H ?_;refine Q5 rfl (R3 v1 kp H rfl ?_);clear H;intro bat w H;refine Dt H ?_;replace H:=Js [11,0,0,0,0,0,0,0,0,0,0,0,0,0] 0 H;replace H:Q0 w (Qm b0' u.sp r S::star ((p1++p2).map (VL u.sp))::_):=(Q0.pick (R:=VL u.sp) (x:=((r:Int),b0',S)) hsps).1 H;replace H:=Js [8,5,5,0,3,2,3,3,1,1,1,1,0,0,0] 0 H
 have hchk:ZU s.tab r [] l=0:=by
  unfold Zb at hc;split at hc
  ·cases hc
  ·split at hc
   ·rename_i h1 h2;exact absurd hc h2
   ·rename_i h1 h2;exact Classical.not_not.1 h2
 obtain⟨hall,hnodl⟩:=FS hchk;have hmml:=hm.len;refine J6 H ?_
 refine Y4 (fun ms σ w=>ms=[]∧∃ (Z:List Pl) (own' mem':List Nat) (T:QF) (at':List ((Int×Int)×Int)),Z.map (fun z=>(z.k,z.g))=l∧(∀ z∈Z,s.tab[z.k]? = some ⟨z.g,some z.e⟩∧z.e.region=(r:Int))∧YP s r S Z mem own' mem' T∧(∀ z∈Z,QY at' ((z.k:Int),(z.g:Int))=some (z.a:Int)) ∧
  σ 0=pp p∧σ 1 = .int .i64 r∧σ 2 = .slice a l.length c∧σ 10=pp b0'∧σ 11=pp bt∧σ 13 = .int .i64 s.size∧σ 14 = .map (some bat)∧Q0 w (VE (.slice a l.length c) l::Qg u.tp s.tab::Qt p u::Qm b0' u.sp r S::Qm bt u.sp r T::ST u.sp s.size mem' own'::Qr u.ip u.sp u.bp::Qi u.bp s.lays::mp kp v1 bat at'::Qf u.trp s.last s.par::RS u.rp s.rem::mp (ki .i64) Qo u.sm (s.sps.map VJ)::star ((p1++p2).map (VL u.sp))::mp (ki .i64) Qo u.mm (s.mns.map V0)::star (s.mns.map V8)::fr)) ?_ ?_
 ·refine QP ?_
  refine Ql (fun ms σ w z=>ms=[]∧∃ (i:Nat) (Z:List Pl) (own' mem':List Nat) (T:QF) (at':List ((Int×Int)×Int)),i≤l.length∧z=l.length - i∧Z.map (fun z=>(z.k,z.g))=l.take i∧(∀ z∈Z,s.tab[z.k]? = some ⟨z.g,some z.e⟩∧z.e.region=(r:Int))∧YP s r S Z mem own' mem' T∧(∀ z∈Z,QY at' ((z.k:Int),(z.g:Int))=some (z.a:Int)) ∧
   σ 0=pp p∧σ 1 = .int .i64 r∧σ 2 = .slice a l.length c∧σ 10=pp b0'∧σ 11=pp bt∧σ 13 = .int .i64 s.size∧σ 14 = .map (some bat)∧σ 66 = .slice a l.length c∧σ 67 = .int .i64 l.length∧σ 68 = .int .i64 i∧Q0 w (VE (.slice a l.length c) l::Qg u.tp s.tab::Qt p u::Qm b0' u.sp r S::Qm bt u.sp r T::ST u.sp s.size mem' own'::Qr u.ip u.sp u.bp::Qi u.bp s.lays::mp kp v1 bat at'::Qf u.trp s.last s.par::RS u.rp s.rem::mp (ki .i64) Qo u.sm (s.sps.map VJ)::star ((p1++p2).map (VL u.sp))::mp (ki .i64) Qo u.mm (s.mns.map V0)::star (s.mns.map V8)::fr)) (m:=l.length) ⟨rfl,0,[],s.own,mem,⟨[],0,0⟩,[],by omega,by omega,rfl,(fun z hz=>(by cases hz)),YP.start s r S mem,(fun z hz=>(by cases hz)),rfl,rfl,rfl,rfl,rfl,rfl,rfl,rfl,rfl,rfl,H⟩ ?_
  clear H;rintro ms σ w z ⟨rfl,i,Z,own',mem',T,at',hi,rfl,hZ,hents,hA,hat,g0,g1,g2,g10,g11,g13,g14,g66,g67,g68,H⟩;rw[Q1 g0,Q1 g1,Q1 g2,Q1 g10,Q1 g11,Q1 g13,Q1 g14,Q1 g66,Q1 g67,Q1 g68];refine J8 H ?_;refine Qj rfl (fun h=>QD ?_) (fun h=>Qp ?_)
  ·have hlt:i < l.length:=by omega
   have hx:=getElem?_eq_getElem hlt;have htk:l.take (i+1)=l.take i++[l[i]]:=by rw[take_add_one,hx];rfl
   have hmem:=getElem_mem hlt
   have hnt:l[i]∉l.take i:=fun hh=>by
    obtain⟨j,hj⟩:=getElem?_of_mem hh;rw[getElem?_take] at hj;split at hj
    ·rename_i hji;obtain⟨hj1,hj2⟩:=List.getElem?_eq_some_iff.1 hj;exact(pairwise_iff_getElem.1 hnodl) j i hj1 hlt hji hj2
    ·cases hj
   generalize l[i]=tt at hx htk hmem hnt;obtain⟨k,n⟩:=tt;obtain⟨⟨e,hk,hheld,hreg,hpin⟩,_⟩:=hall _ hmem;have hk:s.tab[k]? = some ⟨n,some e⟩:=hk;have hL:QS s.tab k n=some (k,e):=Ku hk;obtain⟨bT,sT,rfl,H,hcl⟩:=V3 H (by omega);refine YB H ?_;refine Jd ?_;refine Q5 rfl (VA H rfl (Kv hx) rfl ?_);refine VZ H ?_;clear H;intro b16 w H;refine J5 H ?_;clear H;intro w H;refine J2 H ?_;replace H:=Js [1,0] 0 H;replace H:=hcl _ _ H;replace H:Q0 w (VE (.slice (some ⟨bT,0,none⟩) l.length c) l::pts b16 (row 62 [.int .i64 k,.int .i64 n])::_):=H;replace H:=Js [2,1,0,0,0,0,0,0,0,0] 0 H;refine J6 H ?_;refine Qk (fun ms σ w=>ms=[]∧∃ b17,σ 0=pp p∧σ 1 = .int .i64 r∧σ 2 = .slice (some ⟨bT,0,none⟩) l.length c∧σ 10=pp b0'∧σ 11=pp bt∧σ 13 = .int .i64 s.size∧σ 14 = .map (some bat)∧σ 16=pp b16∧σ 17=pp b17∧σ 66 = .slice (some ⟨bT,0,none⟩) l.length c∧σ 67 = .int .i64 l.length∧σ 68 = .int .i64 i∧Q0 w (Qg u.tp s.tab::pts b17 (row 78 (Vl e))::pts b16 (row 62 [.int .i64 k,.int .i64 n])::VE (.slice (some ⟨bT,0,none⟩) l.length c) l::Qt p u::Qm b0' u.sp r S::Qm bt u.sp r T::ST u.sp s.size mem' own'::Qr u.ip u.sp u.bp::Qi u.bp s.lays::mp kp v1 bat at'::Qf u.trp s.last s.par::RS u.rp s.rem::mp (ki .i64) Qo u.sm (s.sps.map VJ)::star ((p1++p2).map (VL u.sp))::mp (ki .i64) Qo u.mm (s.mns.map V0)::star (s.mns.map V8)::fr)) ?_ ?_
   ·refine J1 H ?_;clear H;intro w H;refine RJ H ?_;refine Jw 5 9 H rfl rfl (Qy (a:=[]) (b:=[]) rfl rfl (call (Ya u.tp s.tab k n H) ?_)) (VN H rfl ?_)
    ·clear H;rintro v w ⟨rfl,H⟩;rw[hL];refine RL H ?_;clear H;intro b17 w H;refine RM H ?_;clear H;intro w H;refine GM H ?_;replace H:=Js [1,0] 0 H;exact⟨rfl,rfl,b17,rfl,rfl,rfl,rfl,rfl,rfl,rfl,rfl,rfl,rfl,rfl,rfl,H⟩
    ·clear H;intro b17 w H;refine Jo 5 H ?_;refine Jk rfl rfl (Ya u.tp s.tab k n H.swap) ?_;clear H;rintro v w ⟨rfl,H⟩;rw[hL];refine RN H ?_;clear H;intro w H;refine GM H ?_;exact⟨rfl,rfl,b17,rfl,rfl,rfl,rfl,rfl,rfl,rfl,rfl,rfl,rfl,rfl,rfl,H⟩
   clear H;rintro ms σ w ⟨rfl,b17,g0,g1,g2,g10,g11,g13,g14,g16,g17,g66,g67,g68,H⟩;rw[Q1 g0,Q1 g1,Q1 g2,Q1 g10,Q1 g11,Q1 g13,Q1 g14,Q1 g16,Q1 g17,Q1 g66,Q1 g67,Q1 g68];refine Gv H ?_;refine ZW H ?_;refine Q5 rfl (Xj (ek:=kp) (vv:=v1) (v:=((e.addr:Nat):Int)) (key:=(((k:Nat):Int),((n:Nat):Int))) H rfl rfl rfl Cw rfl ?_);clear H;intro w H;refine J2 H ?_;replace H:=Js [5,0,0,0,0,0] 0 H
   have hfit:e.addr < 9223372036854775808:=by
    have h1:=(hw.obj k n e hk).2.1.1;have h2:=Nat.mul_le_mul ho hsz.2;unfold QN at h1;omega
   refine YZ H ?_;refine AF H ?_
   refine UD (v := .int .i64 ((e.addr / s.size:Nat):Int)) (by
    show (if IntKind.i64=IntKind.i64 then (if ((s.size:Nat):Int)=0 then none else some (Value.int IntKind.i64 (IntKind.i64.wrap (Int.tdiv ((e.addr:Nat):Int) ((s.size:Nat):Int))))) else none)=_;rw[if_pos rfl,if_neg (by omega),Wa hfit]) rfl ?_
   refine Jc rfl rfl (gK b0' u.sp r S (e.addr / s.size) (by omega) (fun x hx=>by have:=(t2 x hx).2;omega) H) ?_;clear H;rintro v w ⟨rfl,H⟩;refine J2 H ?_
   have hins:∀ (v:Int) (z:Pl),z∈Z→QY (Vw at' (((k:Nat):Int),((n:Nat):Int)) v) ((z.k:Int),(z.g:Int))=QY at' ((z.k:Int),(z.g:Int)):=fun v z hz=>by
    rw[UC,if_neg];intro h1;injection h1 with h1 h2
    have h3:(z.k,z.g)∈l.take i:=by rw[← hZ];exact mem_map.2 ⟨z,hz,rfl⟩
    have h4:k=z.k:=by omega
    have h5:n=z.g:=by omega
    subst h4 h5;exact hnt h3
   cases hb:Zv S s.size e with
   | true=>
    have hb':Cv S (e.addr / s.size)=true:=hb;rw[hb'];refine VH H ?_;refine Qp ?_;replace H:=Js [4,1,3,0,2,2,2,2,2] 2 H;show C _ _ _ _ _ _ _ _;refine J4 H ?_;refine⟨_,⟨rfl,i+1,Z++[⟨k,n,e,e.addr⟩],own',mem',T,_,hlt,rfl,by rw[map_append,hZ,htk];rfl,(fun z hz=>?_),hA.big hb rfl,(fun z hz=>?_),rfl,rfl,rfl,rfl,rfl,rfl,rfl,rfl,rfl,Qc (by omega),H⟩,by omega⟩
    ·rcases mem_append.1 hz with hz|hz
     ·exact hents z hz
     ·rw[mem_singleton] at hz;subst hz;exact⟨hk,hreg⟩
    ·rcases mem_append.1 hz with hz|hz
     ·rw[hins _ z hz];exact hat z hz
     ·rw[mem_singleton] at hz;subst hz;rw[UC,if_pos rfl]
   | false=>
    have hb':Cv S (e.addr / s.size)=false:=hb;rw[hb'];refine V4 H ?_;have hImg:=hA.img hw (by omega) hm hk;have hlen1:e.ws.length+1≤s.size:=eV hw hT.nd hP hk (by rw[hreg];exact hSm) hb;replace H:=Js [8,8,7,0,0,0,0,0,0,0,0] 0 H;refine J6 H ?_;refine Qk (fun ms σ w=>ms=[]∧σ 0=pp p∧σ 1 = .int .i64 r∧σ 2 = .slice (some ⟨bT,0,none⟩) l.length c∧σ 10=pp b0'∧σ 11=pp bt∧σ 13 = .int .i64 s.size∧σ 14 = .map (some bat)∧σ 16=pp b16∧σ 17=pp b17∧σ 20 = .int .i64 ((e.ws.length+1:Nat):Int)∧σ 66 = .slice (some ⟨bT,0,none⟩) l.length c∧σ 67 = .int .i64 l.length∧σ 68 = .int .i64 i∧Q0 w (Qr u.ip u.sp u.bp::Qi u.bp s.lays::ST u.sp s.size mem' own'::Qm b0' u.sp r S::Qg u.tp s.tab::pts b17 (row 78 (Vl e))::pts b16 (row 62 [.int .i64 k,.int .i64 n])::VE (.slice (some ⟨bT,0,none⟩) l.length c) l::Qt p u::Qm bt u.sp r T::mp kp v1 bat (Vw at' (((k:Nat):Int),((n:Nat):Int)) ((e.addr:Nat):Int))::Qf u.trp s.last s.par::RS u.rp s.rem::mp (ki .i64) Qo u.sm (s.sps.map VJ)::star ((p1++p2).map (VL u.sp))::mp (ki .i64) Qo u.mm (s.mns.map V0)::star (s.mns.map V8)::fr)) ?_ ?_
    ·refine J1 H ?_;clear H;intro w H;refine Yu H ?_;refine Jl 3 [6,12] H ?_;refine Jf 4 ?_;refine Jl 5 [6,12] H ?_;refine Jw 6 11 H rfl rfl (Qy (a:=[]) (b:=[]) rfl rfl (call (CE u.ip u.sp u.bp s.size s.lays mem' own' e.addr e.lay e.count k e.ws.length (QJ s e) hImg H) ?_)) (VN H rfl ?_)
     ·clear H;rintro v w ⟨rfl,H⟩;refine EE H ?_;refine C2 H ?_;clear H;intro b19 w H;refine Xw H ?_;clear H;intro w H;refine WM H ?_;replace H:=Js [1,1,1] 1 H;exact⟨rfl,rfl,rfl,rfl,rfl,rfl,rfl,rfl,rfl,rfl,rfl,rfl,rfl,rfl,rfl,H⟩
     ·clear H;intro b19 w H;replace H:=Js [1,1,1,0] 0 H;refine Jo 6 H ?_;refine Jk rfl rfl (CE u.ip u.sp u.bp s.size s.lays mem' own' e.addr e.lay e.count k e.ws.length (QJ s e) hImg H) ?_;clear H;rintro v w ⟨rfl,H⟩;refine EE H ?_;refine Xw H ?_;clear H;intro w H;refine WM H ?_;replace H:=Js [0,0,0] 1 H;exact⟨rfl,rfl,rfl,rfl,rfl,rfl,rfl,rfl,rfl,rfl,rfl,rfl,rfl,rfl,rfl,H⟩
    clear H;rintro ms σ w ⟨rfl,g0,g1,g2,g10,g11,g13,g14,g16,g17,g20,g66,g67,g68,H⟩;rw[Q1 g0,Q1 g1,Q1 g2,Q1 g10,Q1 g11,Q1 g13,Q1 g14,Q1 g16,Q1 g17,Q1 g20,Q1 g66,Q1 g67,Q1 g68];obtain⟨v1',v2',v3',v4'⟩:=hA.bnd hw;replace H:=Js [9,2,0,0,0,0,0,0,0,0,0] 0 H;refine J9 H ?_;refine Jc rfl rfl (Mx bt u.sp r s.size (e.ws.length+1) T mem' own' (by omega) (by omega) (by omega) hA.at1 (by omega) (by rw[hA.ol];exact ho) hsz.1 hsz.2 (by omega) H) ?_;clear H;rintro v w (⟨a2,own2,mem2,T2,rfl,al,H⟩|⟨rfl,hfull,H⟩)
    ·refine HB H ?_;refine Gw H ?_;refine Gv H ?_;refine Jv ?_;refine Q5 rfl (Xj (ek:=kp) (vv:=v1) (v:=((a2:Nat):Int)) (key:=(((k:Nat):Int),((n:Nat):Int))) H rfl rfl rfl Cw rfl ?_);clear H;intro w H;refine J2 H ?_;replace H:=Js [8,5,7,4,0,0,0,0,2] 2 H;refine J4 H ?_;refine⟨_,⟨rfl,i+1,Z++[⟨k,n,e,a2⟩],own2,mem2,T2,_,hlt,rfl,by rw[map_append,hZ,htk];rfl,(fun z hz=>?_),hA.small hw (by omega) hmml (z:=⟨k,n,e,a2⟩) hb hlen1 al,(fun z hz=>?_),rfl,rfl,rfl,rfl,rfl,rfl,rfl,rfl,rfl,Qc (by omega),H⟩,by omega⟩
     ·rcases mem_append.1 hz with hz|hz
      ·exact hents z hz
      ·rw[mem_singleton] at hz;subst hz;exact⟨hk,hreg⟩
     ·rcases mem_append.1 hz with hz|hz
      ·rw[UC,if_neg,hins _ z hz]
       ·exact hat z hz
       ·intro h1;injection h1 with h1 h2
        have h3:(z.k,z.g)∈l.take i:=by rw[← hZ];exact mem_map.2 ⟨z,hz,rfl⟩
        have h4:k=z.k:=by omega
        have h5:n=z.g:=by omega
        subst h4 h5;exact hnt h3
      ·rw[mem_singleton] at hz;subst hz;rw[UC,if_pos rfl]
    ·refine Bl H ?_;refine VH H ?_;refine YZ H ?_;refine Jc rfl rfl (Nx bt u.sp r T s.size mem' own' (fun x hx=>by obtain⟨y1,y2⟩:=hA.parts x hx;have:=(List.getElem?_eq_some_iff.1 y2).1;rw[hA.ol];omega) hA.nd (fun d hd=>by rw[hA.og,if_pos hd];omega) v1' (by omega) (by rw[hA.ol];exact ho) hsz.2 v3' H) ?_;clear H;rintro v w ⟨rfl,own3,ho3,hg3,H⟩;have hown3:=hA.undo hw ho3 hg3;subst hown3;refine WA H ?_;replace H:=Js [3,12,7,1,1,0,0,4,4,4,4,4,2] 3 H;replace H:=(Q0.pick (R:=VL u.sp) (x:=((r:Int),b0',S)) hsps).2 H;replace H:=Js [1,1,1,1,1,1,1,1,0,0,0,0] 0 H;replace H:=VY hw (OZ hw hA hm rfl rfl rfl) H
     have hZl:Z.length=i:=by
      have:=congrArg List.length hZ;rw[length_map,length_take] at this;omega
     have hfree:s.own.length - (s.own.filter (· != 0)).length≤Z.length:=hA.full hw fun a ha=>by
      have hz:(e.ws.length+1 - 1) / s.size=0:=Nat.div_eq_of_lt (by omega);rw[hz] at hfull;obtain⟨j,j1,j2,j3⟩:=hfull a (by omega);have:j=a:=by omega
      rw[← this];exact j3
     exact Q3 (.inr ⟨by simp,Jy H rfl fun w' H' => .inr (.inl ⟨rfl,rfl,by omega,H'⟩)⟩)
  ·obtain rfl:i=l.length:=by omega
   rw[take_length] at hZ;exact .inl ⟨rfl,rfl,Z,own',mem',T,at',hZ,hents,hA,hat,rfl,rfl,rfl,rfl,rfl,rfl,rfl,H⟩
 clear H;rintro ms σ w ⟨rfl,Z,own',mem',T,at',hZ,hents,hA,hat,g0,g1,g2,g10,g11,g13,g14,H⟩;rw[Q1 g0,Q1 g1,Q1 g2,Q1 g10,Q1 g11,Q1 g13,Q1 g14]
 have hl64:s.par.length≠64:=by
  unfold Zb at hc;intro h;rw[if_neg (fun h1=>by rw[if_pos h1] at hc;cases hc),if_neg (fun h1=>h1 hchk),if_pos h] at hc;cases hc
 have hae:Z7 s.par r=0:=by
  unfold Z7;rw[if_neg (fun h=>by rw[hid] at h;cases h.2),if_neg hl64]
 obtain⟨v1',v2',v3',v4'⟩:=hA.bnd hw;replace H:=Js [9,0,0,0,0,0,0,0,0,0] 0 H;refine V2 H ?_;refine Jc rfl rfl (Mr u.trp s.last s.par r (by omega) (fun x q hx=>(hw.par.2.2 x q hx).2) H) ?_;clear H;rintro w0 w (⟨h1,_,_⟩|⟨_,rfl,H⟩)
 ·exact absurd hae h1
 refine G3 H ?_;refine V2 H ?_;refine Jc rfl rfl (Hz u.sp (s.last+1) (by omega) H) ?_;clear H;rintro w0 w ⟨bs,rfl,H⟩;refine G3 H ?_
 have hup:((s.last+1:Nat):Int)∉s.par.map (·.1):=fun h=>by
  obtain⟨⟨x,q⟩,h1,h2⟩:=mem_map.1 h;have h2:x=((s.last+1:Nat):Int):=h2;have:=(hw.par.2.2 x q h1).2;omega
 have hkn1:((s.last+1:Nat):Int)∉(s.sps.map VJ).map (·.1):=by rw[map_map];show _∉s.sps.map fun z=>z.1;rw[hw.skeys];exact hup
 have hkn2:((s.last+1:Nat):Int)∉(s.mns.map V0).map (·.1):=by rw[map_map];show _∉s.mns.map fun z=>z.1;rw[hw.mkeys];exact hup
 replace H:=Js [12,0,0,0,0,0,0,0,0,0,0,0,0,0,0] 0 H;obtain⟨es1,ct1,hmo1,H⟩:=MX H;replace H:=Js [14,0,0,0,0,0,0,0,0,0,0,0,0,0,0] 0 H;obtain⟨es2,ct2,hmo2,H⟩:=MX H;refine J1 H ?_;clear H;intro w H;refine Yu H ?_;refine Jl 3 [12,14,15,17] H ?_;refine Dj H ?_;refine Jl 8 [12,14,15,17] H ?_;refine Ja 9 ?_;refine Ja 10 ?_;refine Jo 11 H ?_;refine Jk rfl rfl (I2 H) ?_;clear H;rintro w0 w ⟨bm,rfl,H⟩;replace H:=Js [2,0,0] 0 H;refine Jo 12 H ?_;refine MR (ek:=ki .i64) (vv:=Qo) (key:=((s.last+1:Nat):Int)) H hmo1 hkn1 rfl rfl Vf rfl ?_;clear H;intro w H;refine Ja 13 ?_;refine Jo 14 H ?_;refine MW H hmo1.born rfl rfl rfl rfl ?_;clear H;intro w H;replace H:=MK (hmo1.push hkn1 bs) H;replace H:=Js [2,0,0] 0 H;refine Jo 15 H ?_;refine MR (ek:=ki .i64) (vv:=Qo) (key:=((s.last+1:Nat):Int)) H hmo2 hkn2 rfl rfl Vf rfl ?_;clear H;intro w H;refine Ja 16 ?_;refine Jo 17 H ?_;refine MW H hmo2.born rfl rfl rfl rfl ?_;clear H;intro w H;replace H:=MK (hmo2.push hkn2 bm) H;refine Jx H ?_;replace H:=Js [3,8,8,0,0,0,0,0,0,0,0] 0 H;refine J9 H ?_
 have hTn:∀ x∈T.parts,1≤x.2∧x.1+x.2≤own'.length:=fun x hx=>by
  obtain⟨y1,y2⟩:=hA.parts x hx;have:=(List.getElem?_eq_some_iff.1 y2).1;rw[hA.ol];omega
 have hJ:=O1 bs bt u.sp (s.last+1) r ⟨[],0,0⟩ T s.size mem' own' (by omega) (by simp) (by omega) (by rw[hA.ol];exact ho) hTn (fun d hd=>by rw[hA.og,if_pos hd];omega) H;refine Jc rfl rfl (hJ) ?_;clear H hJ;rintro w0 w ⟨rfl,own2,hol2,hog2,H⟩;rw[gD hA.at1] at H;refine J2 H ?_;refine Xu H ?_;obtain⟨s1,hs1e⟩:∃ x:CS,x={ s with own:=own2,last:=s.last+1,par:=s.par++[(((s.last+1:Nat):Int),(r:Int))],sps:=s.sps++[(((s.last+1:Nat):Int),bs,T)],mns:=s.mns++[(((s.last+1:Nat):Int),bm,[])] }:=⟨_,rfl⟩;have hol3:own2.length=s.own.length:=hol2.trans hA.ol;have hw1:WF s1:=by rw[hs1e];exact eZ hw hA (by have:=hw.par.1;omega) hlast hol2 hog2 bs bm
 have hm1:VT s1 mem':=by rw[hs1e];exact OZ hw hA hm hol3 rfl rfl
 have hkeys:(Z.map Pl.k).Nodup:=by
  have h1:=fl hchk;rw[← hZ,map_map] at h1;exact h1
 have hB1:Ug s r (s.last+1) [] Z s1 S T:=by rw[hs1e];exact eW hw hT.nd hP hSm hA hents hkeys hol3 (eR hA hol2 hog2) bs bm
 have hsp1:s1.sps=p1++((r:Int),b0',S)::(p2++[(((s.last+1:Nat):Int),bs,T)]):=by rw[hs1e];show s.sps++_=_;rw[hsps];simp
 have hmn1:s1.mns=m1++((r:Int),c0',M)::(m2++[(((s.last+1:Nat):Int),bm,[])]):=by rw[hs1e];show s.mns++_=_;rw[hmns];simp
 have hZl:Z.length=l.length:=by rw[← hZ,length_map]
 have hkMr:QY (s.mns.map V0++[(((s.last+1:Nat):Int),bm)]) (r:Int)=some c0':=by
  rw[← Xg hkn2,UC,if_neg (fun h=>hup (by rw[h];exact hrk))];exact hkM'
 have hkMi:QY (s.mns.map V0++[(((s.last+1:Nat):Int),bm)]) ((s.last+1:Nat):Int)=some bm:=by rw[← Xg hkn2,UC,if_pos rfl]
 have hown1:s1.own=own2:=by rw[hs1e]
 have htab1:s1.tab=s.tab:=by rw[hs1e]
 replace H:=Js [16,0,0,0,0,0,0,0,0,0,0,0,0,0,0,0,0] 0 H;replace H:Q0 w (Qu c0' M::star ((m1++m2).map V8)::_):=(Q0.pick (R:=V8) (x:=((r:Int),c0',M)) hmns).1 H;replace H:=Js [9,9,9,5,0,5,6,1,2,4,4,4,3,3,2,2,0,0] 0 H;replace H:=Js [0,0,0,0,0,0,0,0,0,0,0,0,0,0,0,0,0] 1 H;refine J6 H ?_;refine Qk (fun ms σ w=>ms=[]∧∃ (s':CS) (mem1:List Nat) (S1 T1:QF) (M1 N1:List Nat),(WF s'∧VT s' mem1∧Ug s r (s.last+1) (Z) ([]) s' S1 T1∧s'.sps=p1++((r:Int),b0',S1)::(p2++[(((s.last+1:Nat):Int),bs,T1)])∧s'.mns=m1++((r:Int),c0',M1)::(m2++[(((s.last+1:Nat):Int),bm,N1)]))∧σ 0=pp p∧σ 1 = .int .i64 r∧σ 2 = .slice a l.length c∧σ 10=pp b0'∧σ 13 = .int .i64 s.size∧σ 14 = .map (some bat)∧σ 24 = .int .i64 ((s.last+1:Nat):Int)∧σ 26=pp bs∧Q0 w (VE (.slice a l.length c) l::Qg u.tp s'.tab::Qt p u::mp (ki .i64) Qo u.mm (s.mns.map V0++[(((s.last+1:Nat):Int),bm)])::Qu c0' M1::Qu bm N1::Qm b0' u.sp r S1::Qm bs u.sp (s.last+1) T1::ST u.sp s.size mem1 s'.own::Qr u.ip u.sp u.bp::Qi u.bp s.lays::mp kp v1 bat at'::Qf u.trp (s.last+1) (s.par++[(((s.last+1:Nat):Int),(r:Int))])::RS u.rp s.rem::mp (ki .i64) Qo u.sm (s.sps.map VJ++[(((s.last+1:Nat):Int),bs)])::star ((p1++p2).map (VL u.sp))::star ((m1++m2).map V8)::fr)) ?_ ?_
 ·refine QP ?_;refine Ql (fun ms σ w q=>ms=[]∧∃ (i:Nat) (s':CS) (mem1:List Nat) (S1 T1:QF) (M1 N1:List Nat),i≤l.length∧q=l.length - i∧(WF s'∧VT s' mem1∧Ug s r (s.last+1) (Z.take i) (Z.drop i) s' S1 T1∧s'.sps=p1++((r:Int),b0',S1)::(p2++[(((s.last+1:Nat):Int),bs,T1)])∧s'.mns=m1++((r:Int),c0',M1)::(m2++[(((s.last+1:Nat):Int),bm,N1)]))∧σ 0=pp p∧σ 1 = .int .i64 r∧σ 2 = .slice a l.length c∧σ 10=pp b0'∧σ 13 = .int .i64 s.size∧σ 14 = .map (some bat)∧σ 24 = .int .i64 ((s.last+1:Nat):Int)∧σ 26=pp bs∧σ 154 = .slice a l.length c∧σ 155 = .int .i64 l.length∧σ 156 = .int .i64 i∧Q0 w (VE (.slice a l.length c) l::Qg u.tp s'.tab::Qt p u::mp (ki .i64) Qo u.mm (s.mns.map V0++[(((s.last+1:Nat):Int),bm)])::Qu c0' M1::Qu bm N1::Qm b0' u.sp r S1::Qm bs u.sp (s.last+1) T1::ST u.sp s.size mem1 s'.own::Qr u.ip u.sp u.bp::Qi u.bp s.lays::mp kp v1 bat at'::Qf u.trp (s.last+1) (s.par++[(((s.last+1:Nat):Int),(r:Int))])::RS u.rp s.rem::mp (ki .i64) Qo u.sm (s.sps.map VJ++[(((s.last+1:Nat):Int),bs)])::star ((p1++p2).map (VL u.sp))::star ((m1++m2).map V8)::fr)) (m:=l.length) ⟨rfl,0,s1,mem',S,T,M,[],by omega,by omega,⟨hw1,hm1,hB1,hsp1,hmn1⟩,rfl,rfl,rfl,rfl,rfl,rfl,rfl,rfl,rfl,rfl,rfl,by rw[hown1,htab1];exact H⟩ ?_;clear H;rintro ms σ w q ⟨rfl,i,s',mem1,S1,T1,M1,N1,hi,rfl,⟨hw',hm',hB,hsp,hmn⟩,g0,g1,g2,g10,g13,g14,g24,g26,g154,g155,g156,H⟩;rw[Q1 g0,Q1 g1,Q1 g2,Q1 g10,Q1 g13,Q1 g14,Q1 g24,Q1 g26,Q1 g154,Q1 g155,Q1 g156];refine J8 H ?_;refine Qj rfl (fun h=>QD ?_) (fun h=>Qp ?_)
  ·have hlt:i < l.length:=by omega
   have hiZ:i < Z.length:=by omega
   have hzi:=getElem?_eq_getElem hiZ;have htz:Z.take (i+1)=Z.take i++[Z[i]]:=by rw[take_add_one,hzi];rfl
   have hdz:=drop_eq_getElem_cons hiZ;have hzm:=getElem_mem hiZ;have hx:l[i]? = some (Z[i].k,Z[i].g):=by rw[← hZ,getElem?_map,hzi];rfl
   rw[hdz] at hB;generalize Z[i]=z at hzi htz hdz hzm hx hB;have hpend:=hB.pend z mem_cons_self;have hatz:=hat z hzm;obtain⟨zk,zg,ze,za⟩:=z;obtain⟨hk,hzr,hcase⟩:=hpend;have hk:s'.tab[zk]? = some ⟨zg,some ze⟩:=hk;have hzr:ze.region=(r:Int):=hzr;have hatz:QY at' ((zk:Int),(zg:Int))=some (za:Int):=hatz;have hx:l[i]? = some (zk,zg):=hx;have hL:QS s'.tab zk zg=some (zk,ze):=Ku hk
   have hndp':(s'.par.map (·.1)).Nodup:=by
    rw[hB.par,map_append,nodup_append];refine⟨hT.nd,by simp,fun x hx y hy hxy=>?_⟩;subst hxy;simp at hy;exact hup (by rw[← show x=((s.last+1:Nat):Int) by omega];exact hx)
   obtain⟨bT,sT,rfl,H,hcl⟩:=V3 H (by omega);refine YB H ?_;refine Jd ?_;refine Q5 rfl (VA H rfl (Kv hx) rfl ?_);refine VZ H ?_;clear H;intro b29 w H;refine J5 H ?_;clear H;intro w H;refine J2 H ?_;replace H:=Js [1,0] 0 H;replace H:=hcl _ _ H;replace H:Q0 w (VE (.slice (some ⟨bT,0,none⟩) l.length c) l::pts b29 (row 62 [.int .i64 zk,.int .i64 zg])::_):=H;replace H:=Js [2,1,0] 0 H;refine J6 H ?_;refine Qk (fun ms σ w=>ms=[]∧∃ b30,σ 0=pp p∧σ 1 = .int .i64 r∧σ 2 = .slice (some ⟨bT,0,none⟩) l.length c∧σ 10=pp b0'∧σ 13 = .int .i64 s.size∧σ 14 = .map (some bat)∧σ 24 = .int .i64 ((s.last+1:Nat):Int)∧σ 26=pp bs∧σ 154 = .slice (some ⟨bT,0,none⟩) l.length c∧σ 155 = .int .i64 l.length∧σ 156 = .int .i64 i∧σ 29=pp b29∧σ 30=pp b30∧Q0 w (Qg u.tp s'.tab::pts b30 (row 78 (Vl ze))::pts b29 (row 62 [.int .i64 zk,.int .i64 zg])::VE (.slice (some ⟨bT,0,none⟩) l.length c) l::Qt p u::mp (ki .i64) Qo u.mm (s.mns.map V0++[(((s.last+1:Nat):Int),bm)])::Qu c0' M1::Qu bm N1::Qm b0' u.sp r S1::Qm bs u.sp (s.last+1) T1::ST u.sp s.size mem1 s'.own::Qr u.ip u.sp u.bp::Qi u.bp s.lays::mp kp v1 bat at'::Qf u.trp (s.last+1) (s.par++[(((s.last+1:Nat):Int),(r:Int))])::RS u.rp s.rem::mp (ki .i64) Qo u.sm (s.sps.map VJ++[(((s.last+1:Nat):Int),bs)])::star ((p1++p2).map (VL u.sp))::star ((m1++m2).map V8)::fr)) ?_ ?_
   ·refine J1 H ?_;clear H;intro w H;refine RJ H ?_;refine Jw 5 9 H rfl rfl (Qy (a:=[]) (b:=[]) rfl rfl (call (Ya u.tp s'.tab zk zg H) ?_)) (VN H rfl ?_)
    ·clear H;rintro v w ⟨rfl,H⟩;rw[hL];refine RL H ?_;clear H;intro b30 w H;refine RM H ?_;clear H;intro w H;refine GM H ?_;replace H:=Js [1,0] 0 H;exact⟨rfl,rfl,b30,rfl,rfl,rfl,rfl,rfl,rfl,rfl,rfl,rfl,rfl,rfl,rfl,rfl,H⟩
    ·clear H;intro b30 w H;refine Jo 5 H ?_;refine Jk rfl rfl (Ya u.tp s'.tab zk zg H.swap) ?_;clear H;rintro v w ⟨rfl,H⟩;rw[hL];refine RN H ?_;clear H;intro w H;refine GM H ?_;exact⟨rfl,rfl,b30,rfl,rfl,rfl,rfl,rfl,rfl,rfl,rfl,rfl,rfl,rfl,rfl,rfl,H⟩
   clear H;rintro ms σ w ⟨rfl,b30,g0,g1,g2,g10,g13,g14,g24,g26,g154,g155,g156,g29,g30,H⟩;rw[Q1 g0,Q1 g1,Q1 g2,Q1 g10,Q1 g13,Q1 g14,Q1 g24,Q1 g26,Q1 g154,Q1 g155,Q1 g156,Q1 g29,Q1 g30];refine J1 H ?_;clear H;intro w H;refine Ja 0 ?_;refine VB 1 [] H rfl (Q7.none rfl) rfl (by repeat first|exact .nil _|apply Q9.cons rfl) (by kernel_rfl) ?_;refine Xl 2 [] (key:=(((zk:Nat):Int),((zg:Nat):Int))) H rfl (Q7.none rfl) rfl rfl Cw (by kernel_rfl) ?_;rw[hatz];refine Jf 3 ?_;refine Jl 4 [] H ?_;refine Ja 5 ?_;refine Jx H ?_;have hSm1:((r:Int),b0',S1)∈s'.sps:=by rw[hsp];simp
   have hTm1:(((s.last+1:Nat):Int),bs,T1)∈s'.sps:=by rw[hsp];simp
   have hneI:((s.last+1:Nat):Int)≠(r:Int):=fun h=>hup (by rw[h];exact hrk);have hown63:s'.own.length≤63:=hw'.own.2;obtain⟨w1',w2',w3',w4',w5',w6'⟩:=Aw hw' hSm1;obtain⟨x1',_,_,_,_,_⟩:=Aw hw' hTm1;have w1':S1.parts.length≤63:=w1';have x1':T1.parts.length≤63:=x1';have w4':(QR S1.parts).Nodup:=w4'
   have hfitZ:ze.addr < 9223372036854775808:=by
    have h1:=(hw'.obj zk zg ze hk).2.1.1;have h2:=Nat.mul_le_mul hw'.own.2 hw'.size.2;unfold QN at h1;omega
   refine J6 H ?_;refine Qk (fun ms σ w=>ms=[]∧∃ (s2:CS) (mem2:List Nat) (S2 T2:QF),(WF s2∧VT s2 mem2∧Ug s r (s.last+1) (Z.take i++[⟨zk,zg,ze,za⟩]) (Z.drop (i+1)) s2 S2 T2∧s2.sps=p1++((r:Int),b0',S2)::(p2++[(((s.last+1:Nat):Int),bs,T2)])∧s2.mns=m1++((r:Int),c0',M1.filter (·≠zk))::(m2++[(((s.last+1:Nat):Int),bm,YO N1 zk)])∧s2.tab=s'.tab.set zk ⟨zg,some { ze with region:=((s.last+1:Nat):Int),addr:=za }⟩)∧σ 0=pp p∧σ 1 = .int .i64 r∧σ 2 = .slice (some ⟨bT,0,none⟩) l.length c∧σ 10=pp b0'∧σ 13 = .int .i64 s.size∧σ 14 = .map (some bat)∧σ 24 = .int .i64 ((s.last+1:Nat):Int)∧σ 26=pp bs∧σ 29=pp b29∧σ 154 = .slice (some ⟨bT,0,none⟩) l.length c∧σ 155 = .int .i64 l.length∧σ 156 = .int .i64 i∧Q0 w (Qg u.tp s'.tab::pts b29 (row 62 [.int .i64 zk,.int .i64 zg])::VE (.slice (some ⟨bT,0,none⟩) l.length c) l::Qt p u::mp (ki .i64) Qo u.mm (s.mns.map V0++[(((s.last+1:Nat):Int),bm)])::Qu c0' M1::Qu bm N1::Qm b0' u.sp r S2::Qm bs u.sp (s.last+1) T2::ST u.sp s.size mem2 s2.own::Qr u.ip u.sp u.bp::Qi u.bp s.lays::mp kp v1 bat at'::Qf u.trp (s.last+1) (s.par++[(((s.last+1:Nat):Int),(r:Int))])::RS u.rp s.rem::mp (ki .i64) Qo u.sm (s.sps.map VJ++[(((s.last+1:Nat):Int),bs)])::star ((p1++p2).map (VL u.sp))::star ((m1++m2).map V8)::fr)) ?_ ?_
   ·rcases hcase with ⟨hza,⟨cc,nn⟩,y1,y2,y3⟩|⟨hza,hsit,hbes⟩
    ·have hza:za=ze.addr:=hza;subst hza;have y2:2≤nn:=y2;obtain⟨A,B,hAB⟩:=append_of_mem y1;have hcap:=FA (by rw[← hAB];exact w4':(QR (A++(cc,nn)::B)).Nodup)
     have hfst:∀ y∈A,y.1≠cc:=fun y hy h=>by
      have hy1:=(w2' y (by show y∈S1.parts;rw[hAB];exact mem_append.2 (.inl hy))).1;exact hcap.2 cc (Nat.le_refl _) (by show cc < cc+nn;omega) (Kn (mem_append.2 (.inl hy)) (by omega) (by omega))
     have haddr:ze.addr / s.size=cc:=by
      rcases y3 with ⟨h1,_⟩|⟨_,h1,_⟩
      ·have h1:nn=1:=h1;omega
      ·have h1:ze.addr=cc*s'.size:=h1;rw[hB.size] at h1;rw[h1];exact Nat.mul_div_cancel _ (by omega)
     have hcn:cc+nn≤s'.own.length:=(w2' (cc,nn) y1).2;rw[show (((ze.addr:Nat):Int) == ((ze.addr:Nat):Int))=true from beq_self_eq_true _];refine Vp rfl ?_;replace H:=Js [8,8,8,0,0,0,0,0,0,0,0,0,0] 0 H;refine V2 H ?_
     refine UD (v := .int .i64 ((ze.addr / s.size:Nat):Int)) (by
      show (if IntKind.i64=IntKind.i64 then (if ((s.size:Nat):Int)=0 then none else some (Value.int IntKind.i64 (IntKind.i64.wrap (Int.tdiv ((ze.addr:Nat):Int) ((s.size:Nat):Int))))) else none)=_;rw[if_pos rfl,if_neg (by omega),Wa hfitZ]) rfl ?_
     rw[haddr];have hHand:=gX b0' bs u.sp r (s.last+1) S1 T1 s.size mem1 s'.own hAB hfst y2 (by omega) (by omega) (by omega) hown63 hcn (fun d h1 h2=>w5' d (Kn y1 h1 h2)) H;refine Jc rfl rfl (hHand) ?_;clear H hHand;rintro w0 w ⟨rfl,H⟩;refine J2 H ?_;replace H:=Js [3,4,4,4,4,4,4,0,0,0,1,1] 1 H;have hw2:=dz (id:=s.last+1) hw' hB.part hk hzr hneI hndp' hsp hmn hAB y2 y3;refine⟨rfl,rfl,{ s' with own:=V7 s'.own cc nn (s.last+1),tab:=s'.tab.set zk ⟨zg,some { ze with region:=((s.last+1:Nat):Int),addr:=ze.addr }⟩,sps:=p1++((r:Int),b0',{ S1 with parts:=A++B })::(p2++[(((s.last+1:Nat):Int),bs,{ T1 with parts:=T1.parts++[(cc,nn)] })]),mns:=m1++((r:Int),c0',M1.filter (·≠zk))::(m2++[(((s.last+1:Nat):Int),bm,YO N1 zk)]) },mem1,_,_,⟨hw2,?_,?_,rfl,rfl,rfl⟩,rfl,rfl,rfl,rfl,rfl,rfl,rfl,rfl,rfl,rfl,rfl,rfl,H⟩
     ·exact OQ (id:=((s.last+1:Nat):Int)) (a:=ze.addr) hw' hm' hk (fun j n f hj hjk=>by
       show QN f≤ze.addr∨ze.addr+(ze.ws.length+1)≤f.addr
       rcases hw'.apart j zk n zg f ze hj hjk hk with h1|h1
       ·exact .inl h1
       ·have h1:ze.addr+1+ze.ws.length≤f.addr:=h1;right;omega) rfl (fun _ _=>rfl) (fun _ _=>rfl) (Vy hcn) rfl rfl
     ·exact hB.hand hw' hndp' rfl hsp hAB y2 y3 rfl (Vy hcn) rfl rfl rfl rfl rfl rfl
    ·have hza:za≠ze.addr:=hza;rw[show (((za:Nat):Int) == ((ze.addr:Nat):Int))=false by rw[beq_eq_false_iff_ne];omega];refine VM rfl ?_;have hfree:∀ (j n:Nat) (f:Q8),j≠zk→s'.tab[j]? = some ⟨n,some f⟩→QN f≤za∨za+(ze.ws.length+1)≤f.addr:=fun j n f _ hj=>hbes j n f hj;have hw2:=dx hw' hk hzr hneI hndp' hsp hmn hsit hfree;have hkl:=(List.getElem?_eq_some_iff.1 hk).1;have hlies:Zr s'.size s'.own { ze with region:=((s.last+1:Nat):Int),addr:=za }:=(hw2.obj zk zg _ (getElem?_set_self hkl)).2.1;have hown:=NN hlies;have hml1:=hm'.len
     have hto:za+(ze.ws.length+1)≤mem1.length:=by
      have h1:za+1+ze.ws.length≤s'.own.length*s'.size:=hlies.1;omega
     have hfr:ze.addr+(ze.ws.length+1)≤mem1.length:=by
      have h1:ze.addr+1+ze.ws.length≤s'.own.length*s'.size:=(hw'.obj zk zg ze hk).2.1.1;omega
     have hImg:=XN hw' hm' hk;rw[hB.lays,hB.size] at hImg;rw[hB.size] at hown;replace H:=Js [11,11,10,0,0,0,0,0,0,0,0,0,0] 0 H;refine J1 H ?_;clear H;intro w H;refine E3 H ?_;refine Ja 4 ?_;refine VB 5 [9] H rfl (Q7.none rfl) rfl (by repeat first|exact .nil _|apply Q9.cons rfl) (by kernel_rfl) ?_;refine Xl 6 [9] (key:=(((zk:Nat):Int),((zg:Nat):Int))) H rfl (Q7.none rfl) rfl rfl Cw (by kernel_rfl) ?_;rw[hatz];refine Jf 7 ?_;refine Jl 8 [9] H ?_;have hMove:=gC u.ip u.sp u.bp s.size s.lays mem1 s'.own za ze.addr ze.lay ze.count zk ze.ws.length (QJ s' ze) hImg hto hown H;refine Jo 9 H ?_;refine Jk rfl rfl (hMove) ?_;clear H hMove;rintro w0 w ⟨rfl,H⟩;refine Jx H ?_;replace H:=Js [3,4,4,4,4,4,4,4,4,2,0,0] 1 H;refine⟨rfl,rfl,{ s' with tab:=s'.tab.set zk ⟨zg,some { ze with region:=((s.last+1:Nat):Int),addr:=za }⟩,mns:=m1++((r:Int),c0',M1.filter (·≠zk))::(m2++[(((s.last+1:Nat):Int),bm,YO N1 zk)]) },XV mem1 za ze.addr (ze.ws.length+1),S1,T1,⟨hw2,?_,?_,hsp,rfl,rfl⟩,rfl,rfl,rfl,rfl,rfl,rfl,rfl,rfl,rfl,rfl,rfl,rfl,H⟩
     ·exact OQ (id:=((s.last+1:Nat):Int)) (a:=za) hw' hm' hk hfree (P2 hto hfr) (fun j hj=>gW hto hfr hj) (fun j hj=>gA hto hfr hj) rfl rfl rfl
     ·exact hB.shift hza hTm1 rfl rfl rfl rfl rfl rfl rfl rfl
   clear H;rintro ms σ w ⟨rfl,s2,mem2,S2,T2,⟨hw2,hm2,hB2,hsp2,hmn2,htab2⟩,g0,g1,g2,g10,g13,g14,g24,g26,g29,g154,g155,g156,H⟩;rw[Q1 g0,Q1 g1,Q1 g2,Q1 g10,Q1 g13,Q1 g14,Q1 g24,Q1 g26,Q1 g29,Q1 g154,Q1 g155,Q1 g156];have hMm':=hw'.mine ((r:Int),c0',M1) (by rw[hmn];simp);have hNm':=hw'.mine (((s.last+1:Nat):Int),bm,N1) (by rw[hmn];simp)
   have hbl:∀ L:List Nat,L.Pairwise (· < ·)→(∀ y∈L,y < s'.tab.length)→L.length≤64:=fun L h1 h2=>by
    have:=Rm L 0 64 (fun y hy=>⟨Nat.zero_le _,by have:=h2 y hy;have:=hw'.slots.2;omega⟩) h1;omega
   have hM64:M1.length≤64:=hbl M1 hMm'.1 fun y hy=>by
    obtain⟨g,f,h3,_⟩:=(hMm'.2 y).1 hy;exact(List.getElem?_eq_some_iff.1 h3).1
   have hN64:N1.length≤64:=hbl N1 hNm'.1 fun y hy=>by
    obtain⟨g,f,h3,_⟩:=(hNm'.2 y).1 hy;exact(List.getElem?_eq_some_iff.1 h3).1
   have hkN:zk∉N1:=fun h=>by
    obtain⟨g,f,h3,h4⟩:=(hNm'.2 zk).1 h;rw[hk] at h3;injection h3 with h3
    injection h3 with _ h3
    injection h3 with h3
    subst h3;exact hneI (h4.symm.trans hzr)
   replace H:=Js [0,2,2,2,2,0,0] 0 H;refine J1 H ?_;clear H;intro w H;refine Ja 0 ?_;refine Jf 1 ?_;refine Jl 2 [7] H ?_;refine Ja 3 ?_;refine Ja 4 ?_;refine HE H ?_;refine Xl 6 [7] (key:=(((zk:Nat):Int),((zg:Nat):Int))) H rfl (Q7.none rfl) rfl rfl Cw (by kernel_rfl) ?_;rw[hatz];have hHome:=Ox p u s'.tab (s.mns.map V0++[(((s.last+1:Nat):Int),bm)]) zk zg ze hk ((s.last+1:Nat):Int) za c0' bm M1 N1 (by rw[hzr];exact hkMr) hkMi hMm'.1 (by omega) hNm'.1 (by omega) hkN H;refine Jo 7 H ?_;refine Jk rfl rfl (hHome) ?_;clear H hHome;rintro w0 w ⟨rfl,H⟩;rw[← htab2] at H;refine Jx H ?_;refine J4 H ?_;replace H:=Js [6,0,0,0,0,0,1,1,1,1,1] 1 H;exact⟨_,⟨rfl,i+1,s2,mem2,S2,T2,M1.filter (·≠zk),YO N1 zk,hlt,rfl,⟨hw2,hm2,by rw[htz];exact hB2,hsp2,hmn2⟩,rfl,rfl,rfl,rfl,rfl,rfl,rfl,rfl,rfl,rfl,Qc (by omega),H⟩,by omega⟩
  ·obtain rfl:i=l.length:=by omega
   rw[← hZl,take_length,drop_length] at hB;exact⟨rfl,rfl,s',mem1,S1,T1,M1,N1,⟨hw',hm',hB,hsp,hmn⟩,rfl,rfl,rfl,rfl,rfl,rfl,rfl,rfl,H⟩
 clear H;rintro ms σ w ⟨rfl,s',mem1,S1,T1,M1,N1,⟨hw',hm',hB,hsp,hmn⟩,g0,g1,g2,g10,g13,g14,g24,g26,H⟩;rw[Q1 g0,Q1 g1,Q1 g2,Q1 g10,Q1 g13,Q1 g14,Q1 g24,Q1 g26];replace H:=Js [5,15,4,5,12,4,0,0,0,0,0,0,0,1,1,1] 1 H;replace H:=(Q0.pick (R:=V8) (x:=(((s.last+1:Nat):Int),bm,N1)) (gs:=m1++(m2++[(((s.last+1:Nat):Int),bm,N1)])) (g1:=m1++m2) (g2:=[]) (by simp)).2 (by rw[append_nil];exact H);replace H:=Js [1,0] 0 H;replace H:=(Q0.pick (R:=V8) (x:=((r:Int),c0',M1)) hmn).2 H;replace H:=Js [1,1,1,0] 0 H;replace H:=(Q0.pick (R:=VL u.sp) (x:=(((s.last+1:Nat):Int),bs,T1)) (gs:=p1++(p2++[(((s.last+1:Nat):Int),bs,T1)])) (g1:=p1++p2) (g2:=[]) (by simp)).2 (by rw[append_nil];exact H);replace H:=Js [1,0] 0 H;replace H:=(Q0.pick (R:=VL u.sp) (x:=((r:Int),b0',S1)) hsp).2 H;have hk1:s.mns.map V0++[(((s.last+1:Nat):Int),bm)]=s'.mns.map V0:=by rw[hmn,hmns];simp
 have hk2:s.sps.map VJ++[(((s.last+1:Nat):Int),bs)]=s'.sps.map VJ:=by rw[hsp,hsps];simp
 rw[hk1,hk2,← hB.par,← hB.last,← hB.rem,← hB.lays,← hB.size] at H;have hnd:=Au (H.pull 10);replace H:=Js [4,6,6,5,3,4,4,4,0,2,0,0] 0 H;replace H:=VY hw' hm' H;refine Vc H ?_;refine GJ H ?_;clear H;intro bS w H;replace H:Q0 w (pts bS (row 3 (Qe [(r:Int),((s.last+1:Nat):Int)]++[]))::QW p { s' with rem:=s'.rem }::VE (.slice a l.length c) l::fr):=H;replace H:=ZK (E:=3) (k:=1) (len:=2) (cap:=2) (c:=Qe [(r:Int),((s.last+1:Nat):Int)]) (spare:=[]) rfl ⟨by decide,by decide⟩ (by decide) H
 have hrec:=Oy p s' s'.rem hnd _ [(r:Int),((s.last+1:Nat):Int)] (fun x hx=>by
  rw[hmn]
  rcases mem_cons.1 hx with rfl|hx
  ·simp
  ·rw[mem_singleton] at hx;subst hx;simp) (by simp) H
 refine Jc rfl rfl (hrec) ?_;clear H hrec;rintro w0 w ⟨rfl,D,R',hD,hN,H⟩;refine WA H ?_;refine Q3 (Jy H rfl fun w' H' => .inr (.inr ⟨rfl,rfl,Z,{ s' with rem:=R' },hZ,⟨hB.size,hB.own,hB.lays,hB.last,hB.par,hB.tabl,hB.tab,hents,hkeys,⟨D,fun x=>?_,⟨hN.nd,hN.on,fun x hx=>by rw[hN.off x hx,hB.rem]⟩⟩,hB.part,fun hZ0=>hB.zero (by rw[hZ0];rfl)⟩,H'⟩));rw[hD x];constructor
 ·rintro⟨k,g,e,h1,h2,h3⟩;refine⟨k,g,e,⟨g,e,h1,?_⟩,h1,h3⟩
  rcases mem_cons.1 h2 with h2|h2
  ·exact .inl h2
  ·exact .inr (mem_singleton.1 h2)
 ·rintro⟨k,g,e,⟨g',e',h1,h2⟩,h3,h4⟩;refine⟨k,g,e,h3,?_,h4⟩;have h1:=h1.symm.trans h3;injection h1 with h1
  injection h1 with _ h1
  injection h1 with h1
  rw[← h1]
  rcases h2 with h2|h2
  ·rw[h2];exact mem_cons_self
  ·rw[h2];exact mem_cons_of_mem _ (mem_singleton.2 rfl)
theorem JG (a b c:Int):veq [.int .i64 a,.int .i64 b,.int .i64 c] [.int .i64 a,.int .i64 b,.int .i64 c]=true:=by
 simp[veq]
theorem Cx (xs ys:List Value):(if YK BinOp.eql=true then veq xs ys else !veq xs ys)=veq xs ys:=if_pos rfl
theorem P3 [Q4] (p c mo:Nat) (a:Option Addr) (cap:Nat) (told:List (Nat×Nat)) (kd t:Nat) (hkd:kd≤2) (ht:kd=2→t < told.length) {w:World} {fr:List Q2} (H:Q0 w (Va p c mo (.slice a told.length cap)::VE (.slice a told.length cap) told::fr)) :
  Calls Tryz.prog 156 #[pp p,ZA (ZZ told kd t),.int .i64 kd,.int .i64 t] w (ret fun v w'=>v = .bool true∧Q0 w' (Va p c mo (.slice a told.length cap)::VE (.slice a told.length cap) told::fr)):=by
 by_cases h2:kd=2
 ·subst h2;have hlt:=ht rfl;have hn:=getElem?_eq_getElem hlt;generalize told[t]=xy at hn;obtain⟨x,y⟩:=xy;have hln:ZZ told 2 t = .obj x y:=by unfold ZZ;rw[if_pos rfl,hn];rfl
  rw[hln];refine QQ Tryz.func156 rfl (by kernel_rfl) ?_;refine J7 H ?_;clear H;intro b5 w H;refine YY H ?_;refine VH H ?_;replace H:=Js [2,0,0] 0 H;obtain⟨bT,sT,rfl,H,hcl⟩:=V3 H (by omega);refine J1 H ?_;clear H;intro w H;refine WH H ?_;refine Jl 4 [] H ?_;refine R5 5 rfl (Q7.none rfl) rfl (by kernel_rfl) ?_;refine Ja 6 ?_;rw[show decide ((t:Int) < (told.length:Int))=true from decide_eq_true (by omega)];refine Ja 7 ?_;refine VB 8 [] H rfl (Q7.of rfl rfl rfl) rfl (by repeat first|exact .nil _|apply Q9.cons rfl) (by kernel_rfl) ?_;refine Bi H ?_;refine Jl 12 [] H ?_;refine Ja 13 ?_;refine Ji 14 ?_;refine VB 15 [] H rfl (Q7.of rfl rfl rfl) rfl (Kv hn) (by kernel_rfl) ?_;refine GF 16 rfl (Q7.of rfl rfl rfl) rfl (by kernel_rfl) ?_;refine M9 17 rfl (Q7.of rfl rfl rfl) rfl rfl rfl rfl (.inl rfl) (by kernel_rfl) ?_;rw[Cx,JG];refine Ja 18 ?_;refine Ja 19 ?_;refine Jx H ?_;replace H:=hcl _ _ H;replace H:=Js [2,0] 1 H;exact Q3 (Jy H rfl fun w' H'=>⟨rfl,H'⟩)
 ·have hln:ZA (ZZ told kd t) = .agg #[.int .i64 kd,.int .i64 0,.int .i64 0]:=by
   unfold ZZ;rw[if_neg h2];by_cases h1:kd=1
   ·subst h1;rfl
   ·obtain rfl:kd=0:=by omega
    rfl
  rw[hln];refine QQ Tryz.func156 rfl (by kernel_rfl) ?_;refine J7 H ?_;clear H;intro b5 w H;refine YY H ?_;rw[show ((kd:Int) == 2)=false by simp;omega];refine V4 H ?_;refine AA H ?_;refine XK H ?_;refine Q5 rfl (R9 rfl rfl rfl rfl (.inl rfl) rfl ?_);refine J0 H ?_;have hv:=JG kd 0 0;exact Q3 (Jy H.drop rfl fun w' H'=>⟨congrArg Value.bool ((Cx _ _).trans hv),H'⟩)
def gF (own:List Nat) (n:Nat):Prop:=∃ a,a+n≤own.length∧∀ i,a≤i→i < a+n→own.getD i 0=0
theorem P4 [Q4] (p c mo:Nat) (v:Value) (s:CS) {w:World} {fr:List Q2} (H:Q0 w (Va p c mo v::QW c s::fr)) :
  Calls Tryz.prog 214 #[pp p] w (ret fun x w'=>∃ b:Nat,x = .int .i64 b∧gF s.own b∧Q0 w' (Va p c mo v::QW c s::fr)):=by
 obtain⟨q,mem,hw,hm,H⟩:=Vz H.swap;have hol:=hw.own.2;refine QQ Tryz.func214 rfl (by kernel_rfl) ?_;refine VF H ?_;refine J4 H ?_;replace H:=Js [3,0,0,0,0,0,0,0,0,0,0,0] 0 H;refine V2 H ?_;refine ZW H ?_;refine Jc rfl rfl (Mh q.sp s.size mem s.own H) ?_;clear H;rintro v w ⟨rfl,H⟩;refine Y8 H ?_;refine QP ?_
 refine Ql (fun ms σ w n=>ms=[]∧∃ j row best:Nat,j≤s.own.length∧n=s.own.length - j∧row≤j∧best≤j∧(∀ i,j - row≤i→i < j→s.own.getD i 0=0)∧(∃ a,a+best≤j∧∀ i,a≤i→i < a+best→s.own.getD i 0=0)∧σ 0=pp p∧σ 3 = .int .i64 best∧σ 4 = .int .i64 row∧σ 13 = .int .i64 s.own.length∧σ 14 = .int .i64 j ∧
  Q0 w (ST q.sp s.size mem s.own::Qt c q::Qr q.ip q.sp q.bp::Qi q.bp s.lays::Qg q.tp s.tab::Qf q.trp s.last s.par::RS q.rp s.rem::mp (ki .i64) Qo q.sm (s.sps.map VJ)::star (s.sps.map (VL q.sp))::mp (ki .i64) Qo q.mm (s.mns.map V0)::star (s.mns.map V8)::Va p c mo v::fr)) (m:=s.own.length) ⟨rfl,0,0,0,by omega,rfl,by omega,by omega,by omega,⟨0,by omega,by omega⟩,rfl,rfl,rfl,rfl,rfl,H⟩ ?_
 clear H;rintro ms σ w n ⟨rfl,j,row,best,hj,rfl,hrj,hbj,hrow,hbest,g0,g3,g4,g13,g14,H⟩;rw[Q1 g0,Q1 g3,Q1 g4,Q1 g13,Q1 g14];refine J8 H ?_;refine Qj rfl (fun h=>QD ?_) (fun h=>Qp ?_)
 ·have hlt:j < s.own.length:=by omega
  refine RH H ?_;refine VX H ?_;rw[Qc (by omega)];refine V2 H ?_;refine AF H ?_;refine Jc rfl rfl (Tb q.sp s.size mem s.own j H hlt) ?_;clear H;rintro v w ⟨rfl,H⟩;refine J0 H ?_;by_cases h0:s.own.getD j 0=0
  ·rw[show (((s.own.getD j 0:Nat):Int) != 0)=false by rw[h0];rfl];refine AC H ?_;refine AZ H ?_;rw[show (if ((row+1:Nat):Int) > ((best:Nat):Int) then ((row+1:Nat):Int) else ((best:Nat):Int))=((max best (row+1):Nat):Int) by split <;> omega];refine YY H ?_;rw[Qc (by omega)];refine⟨_,⟨rfl,j+1,row+1,max best (row+1),hlt,rfl,by omega,by omega,?_,?_,rfl,rfl,rfl,rfl,rfl,H⟩,by omega⟩
   ·intro i h1 h2;by_cases hij:i=j
    ·rw[hij];exact h0
    ·exact hrow i (by omega) (by omega)
   ·by_cases hb:row+1≤best
    ·obtain⟨a,h1,h2⟩:=hbest;rw[Nat.max_eq_left hb];exact⟨a,by omega,h2⟩
    ·rw[Nat.max_eq_right (by omega)];refine⟨j - row,by omega,fun i h1 h2=>?_⟩;by_cases hij:i=j
     ·rw[hij];exact h0
     ·exact hrow i (by omega) (by omega)
  ·rw[show (((s.own.getD j 0:Nat):Int) != 0)=true by rw[bne_iff_ne];omega];refine YC H ?_;refine J9 H ?_;refine AZ H ?_;rw[show (if (0:Int) > ((best:Nat):Int) then (0:Int) else ((best:Nat):Int))=((best:Nat):Int) by split <;> omega];refine YY H ?_;rw[Qc (by omega)];obtain⟨a,h1,h2⟩:=hbest;exact⟨_,⟨rfl,j+1,0,best,hlt,rfl,by omega,by omega,by omega,⟨a,by omega,h2⟩,rfl,rfl,rfl,rfl,rfl,H⟩,by omega⟩
 ·obtain⟨a,h1,h2⟩:=hbest;refine J4 H ?_;replace H:=Js [1,1,1,0,0,0,0,0,0,0,0,0] 0 H;exact Q3 (Jy ((VY hw hm H).swap) rfl fun w' H'=>⟨best,rfl,⟨a,by omega,h2⟩,H'⟩)
theorem P5 (a b c d:Int) (e:Bool):veq [.int .i64 a,.int .i64 b,.int .i64 c,.int .i64 d,.bool e] [.int .i64 a,.int .i64 b,.int .i64 c,.int .i64 d,.bool e]=true:=by
 simp[veq]
theorem gH [Q4] (p c mo:Nat) (v:Value) (s:CS) (m:MS) (told:List (Nat×Nat)) (R:Rv s m told) (i g o:Int) (P:Vd s m told i g o) {w:World} {fr:List Q2} (H:Q0 w (Va p c mo v::QW c s::Qq mo m::fr)) :
  Calls Tryz.prog 164 #[pp p,Yy i g,.int .i64 o] w (ret fun x w'=>x = .bool true∧Q0 w' (Va p c mo v::QW c s::Qq mo m::fr)):=by
 have hT:=fun (w:World) (fr:List Q2) (H:Q0 w (QW c s::fr))=>bN c s i g H;rw[fK R P] at hT
 obtain⟨a1,a2,a3,a4,a5,a6,hsh⟩:∃ a1 a2 a3 a4 a5 a6,OP (V5 m o) = .tuple #[.agg #[.int .i64 a1,.int .i64 a2,.int .i64 a3,.int .i64 a4,.bool a5],.int .i64 a6]:=by
  cases V5 m o <;> exact⟨_,_,_,_,_,_,rfl⟩
 refine QQ Tryz.func164 rfl (by kernel_rfl) ?_;refine J7 H ?_;clear H;intro b4 w H;refine J0 H ?_;replace H:=Js [2,0,0,0] 0 H;refine J6 H ?_;refine Qk (fun ms σ w=>ms=[]∧∃ b7,σ 0=pp p∧σ 2 = .int .i64 o∧σ 7=pp b7∧σ 8 = .int .i64 a6∧Q0 w (pts b7 (row 64 [.int .i64 a1,.int .i64 a2,.int .i64 a3,.int .i64 a4,.bool a5])::Va p c mo v::QW c s::Qq mo m::fr)) ?_ ?_
 ·refine J1 H ?_;clear H;intro w H;refine RJ H ?_;refine Jw 5 9 H rfl rfl (Qy (a:=[]) (b:=[]) rfl rfl (call (hT _ _ H) ?_)) (VN H rfl ?_)
  ·clear H;rintro v w ⟨rfl,H⟩;rw[hsh];refine RL H ?_;clear H;intro b7 w H;refine RM H ?_;clear H;intro w H;refine GM H ?_;replace H:=Js [0,2,0,1] 1 H;exact⟨rfl,rfl,b7,rfl,rfl,rfl,rfl,H⟩
  ·clear H;intro b7 w H;refine Jo 5 H ?_;refine Jk rfl rfl (hT _ _ H.swap) ?_;clear H;rintro v w ⟨rfl,H⟩;rw[hsh];refine RN H ?_;clear H;intro w H;refine GM H ?_;replace H:=Js [1,2,0,1] 1 H;exact⟨rfl,rfl,b7,rfl,rfl,rfl,rfl,H⟩
 clear H;rintro ms σ w ⟨rfl,b7,g0,g2,g7,g8,H⟩;rw[Q1 g0,Q1 g2,Q1 g7,Q1 g8];replace H:=Js [3,0,0,0] 0 H;refine V2 H ?_;refine Jc rfl rfl (B1 mo m o H) ?_;clear H;rintro v w ⟨rfl,H⟩
 cases hv:V5 m o with
 | none=>
  rw[hv] at hsh;cases hsh;refine XE H ?_;refine Vc H ?_;refine CV H ?_;refine QT rfl rfl rfl (R9 rfl rfl rfl rfl (.inl rfl) rfl ?_);refine J3 H ?_;replace H:=Js [2,2,0] 1 H;exact Q3 (Jy H rfl fun w' H'=>⟨congrArg Value.bool ((Cx _ _).trans (P5 0 0 0 0 false)),H'⟩)
 | some nx=>
  obtain⟨n,x⟩:=nx;rw[hv] at hsh;cases hsh;obtain⟨rfl,hx,hh,hg⟩:=K7 hv;have hol:=(List.getElem?_eq_some_iff.1 hx).1;obtain⟨t,lc,aL,cL,bO,cO,sO,ptrs,q,vw,vk,vt,rest,hm,h2,hp,H,hclose⟩:=Gi H hx;have hm':=Rs hx hm;obtain⟨aw,cw,rfl⟩:=QE H.drop (Z3 _) (by decide);refine Vx H ?_;refine V2 H ?_;refine AF H ?_;refine Jd ?_;refine Q5 rfl (QB H rfl hp rfl ?_);refine Y8 H ?_;refine W9 H mixed ?_;clear H;intro w H;refine Ja 0 ?_;refine Ja 1 ?_;refine Ja 2 ?_;refine VB 3 [] H rfl (Q7.of rfl rfl rfl) rfl (by repeat first|exact .nil _|apply Q9.cons rfl) (by kernel_rfl) ?_;refine E5 H ?_;refine EH H ?_;refine Jl 11 [] H ?_;refine Ja 12 ?_;refine Ja 13 ?_;refine Jf 14 ?_;refine Jl 15 [] H ?_;refine Ja 16 ?_;refine Ja 17 ?_;refine Jf 18 ?_;refine Jl 19 [] H ?_;refine R5 20 rfl (Q7.of rfl rfl rfl) rfl (by kernel_rfl) ?_;refine Ja 21 ?_;refine Ja 22 ?_;refine Jf 23 ?_;refine Jl 24 [] H ?_;refine GF 25 rfl (Q7.of rfl rfl rfl) rfl (by kernel_rfl) ?_;refine M9 26 rfl (Q7.of rfl rfl rfl) rfl rfl rfl rfl (.inl rfl) (by kernel_rfl) ?_;rw[Cx,P5];refine Ja 27 ?_;refine Ja 28 ?_;refine Jx H ?_;replace H:=UW hx (hclose _ _ _ hm' H);replace H:=Js [2,2,0] 1 H;exact Q3 (Jy H rfl fun w' H'=>⟨rfl,H'⟩)
end Go.Proofs.YtbnnnljagkjpiaaGreatDoor
namespace Go.SL
open List
section
variable {P:Program} {n:Nat} {r:Option Nat} {ops:Array Oper} {σ:QU} {w:World}
variable {ivs:List (List Nat×(World→Prop))} {T:QU→World→Prop} {f:Nat} {L:Array Bool}
variable {u:TypeId} {p:String} {af:Array Edge} {g:Option (Nat×Bool)} {d:Option Tmp} {x y:Operand}
end
end Go.SL
namespace Go.Proofs.YtbnnnljagkjpiaaGreatDoor
open List
open Go.SL
def Vm (ts:List QK):List (Nat×Bool):=ts.map fun t=>(t.gen,t.ent.isSome)
theorem Cy {ts:List QK} {k g:Nat} {e e':Q8} (h:ts[k]? = some ⟨g,some e⟩):Vm (ts.set k ⟨g,some e'⟩)=Vm ts:=by
 unfold Vm;rw[map_set];apply ext_getElem?;intro i;rw[getElem?_set];split
 ·rename_i hi;subst hi;have:=(List.getElem?_eq_some_iff.1 h).1;rw[getElem?_map,h];simp[this]
 ·rfl
structure Cz (s:CS) (m:MS) (told:List (Nat×Nat)) (s':CS) (m':MS) (told':List (Nat×Nat)):Prop where
 P:m'.P.length≤m.P.length+1
 objs:m'.objs.length≤m.objs.length+1
 tab:(told'=told∧Vm s'.tab=Vm s.tab)∨∃ k g0:Nat,told'=told++[(k,g0+1)]∧s.tab[k]? = some ⟨g0,none⟩∧(∀ (j:Nat) (t:QK),j < k→s.tab[j]? = some t→busy t=true)∧Vm s'.tab=(Vm s.tab).set k (g0+1,true)
 inv:Inv s→Inv s'
 tree:Yo s.par→Yo s'.par:=by exact id
 part:Y0 s→Y0 s':=by exact id
def JU (s:CS) (region id count:Int) (i g e:Nat) (s':CS):Prop:=
 (ZN s region id count≠0∧i=0∧g=0∧e=ZN s region id count∧s'=s) ∨
 (ZN s region id count=0∧(∀ t∈s.tab,busy t=true)∧i=0∧g=0∧e=12∧s'=s) ∨
 (ZN s region id count=0∧(∀ a,a+(YE s id count / s.size+1)≤s.own.length→∃ i,a≤i∧i < a+(YE s id count / s.size+1)∧s.own.getD i 0≠0)∧i=0∧g=0∧e=11∧s'=s) ∨
 (ZN s region id count = 0 ∧ e = 0 ∧ ∃ g0 addr, s.tab[i]? = some ⟨g0, none⟩ ∧ g0 ≤ 254 ∧ (∀ (j : Nat) (t : QK), j < i → s.tab[j]? = some t → busy t = true) ∧ g = g0 + 1 ∧
  s'.size=s.size∧s'.lays=s.lays∧s'.last=s.last∧s'.par=s.par∧s'.rem=s.rem∧s'.tab=s.tab.set i ⟨g0+1,some ⟨addr,region,true,false,id.toNat,count.toNat,List.replicate (YE s id count) 0⟩⟩∧FZ s.own s'.own (YE s id count / s.size+1)∧(Y0 s→Y0 s'))
theorem gI (x y:Int×Int):(if YK BinOp.eql=true then decide (x=y) else !decide (x=y))=decide (x=y):=if_pos rfl
theorem Fa [Q4] (p:Nat) (s:CS) (region id count:Int) {w:World} {fr:List Q2} [hT:YW 0 Lib.deBruijn64tab fr] (H:Q0 w (QW p s::fr)) :
  Calls Tryz.prog 23 #[pp p,.int .i64 region,.int .i64 id,.int .i64 count] w (ret fun v w'=>∃ i g e s',v = .tuple #[UY i g,.int .i64 (e:Nat)]∧JU s region id count i g e s'∧Q0 w' (QW p s'::fr)):=by
 refine call (cX p s region id count H) ?_;rintro v w (⟨h1,rfl,H⟩|⟨h1,h2,rfl,H⟩|⟨h1,h2,rfl,H⟩|⟨h1,k,g0,addr,s',h2,h3,h4,rfl,h5,h6,h7,h8,h9,h10,h11,h12,H⟩)
 ·exact⟨0,0,ZN s region id count,s,rfl,.inl ⟨h1,rfl,rfl,rfl,rfl⟩,H⟩
 ·exact⟨0,0,12,s,rfl,.inr (.inl ⟨h1,h2,rfl,rfl,rfl,rfl⟩),H⟩
 ·exact⟨0,0,11,s,rfl,.inr (.inr (.inl ⟨h1,h2,rfl,rfl,rfl,rfl⟩)),H⟩
 ·exact⟨k,g0+1,0,s',rfl,.inr (.inr (.inr ⟨h1,rfl,g0,addr,h2,h3,h4,rfl,h5,h6,h7,h8,h9,h10,h11,h12⟩)),H⟩
theorem gJ [Q4] (p c mo:Nat) (a:Option Addr) (cap:Nat) (s:CS) (m:MS) (told:List (Nat×Nat)) (R:Rel s m told) (hfew:m.objs.length < 100000) (k A B C X i g:Int) (kX:IntKind) (vW:Value) (raw:Bool) (hvW:vW.oneCell'=true) {w:World} {fr:List Q2} [hT:YW 0 Lib.deBruijn64tab fr]
  (H:Q0 w (Va p c mo (.slice a told.length cap)::QW c s::Qq mo m::VE (.slice a told.length cap) told::fr)) :
  Calls Tryz.prog 150 #[pp p,.agg #[.int .i64 k,.int .i64 A,.int .i64 B,.int .i64 C,.int .u64 X,vW,.bool raw,.int .i64 i,.int .i64 g]] w (ret fun v w'=>v = .bool true∧∃ s' m' told' a' cap',Rel s' m' told'∧Cz s m told s' m' told'∧Q0 w' (Va p c mo (.slice a' told'.length cap')::QW c s'::Qq mo m'::VE (.slice a' told'.length cap') told'::fr)):=by
 refine QQ Tryz.func150 rfl (by kernel_rfl) ?_;refine J7 H ?_;clear H;intro b3 w H;refine Y8 H ?_;refine Qk (fun ms σ w=>ms=[]∧∃ (b5 i' g' e:Nat) (s':CS),JU s A B C i' g' e s'∧σ 0=pp p∧σ 3=pp b3∧σ 5=pp b5∧σ 6 = .int .i64 e∧Q0 w (pts b5 (row 62 [.int .i64 i',.int .i64 g'])::pts b3 (row 103 [.int .i64 k,.int .i64 A,.int .i64 B,.int .i64 C,.int .u64 X,vW,.bool raw,.int .i64 i,.int .i64 g])::Va p c mo (.slice a told.length cap)::QW c s'::Qq mo m::VE (.slice a told.length cap) told::fr)) ?_ ?_
 ·replace H:=Js [2,0,0,0,0] 0 H;refine J1 H ?_;clear H;intro w H;refine Yu H ?_;refine Jl 3 [10,15] H ?_;refine Jf 4 ?_;refine Jl 5 [10,15] H ?_;refine Jf 6 ?_;refine Jl 7 [10,15] H ?_;refine Jf 8 ?_;refine Jl 9 [10,15] H ?_;refine Jw 10 14 H rfl rfl (Qy (a:=[]) (b:=[]) rfl rfl (call (Fa c s A B C H) ?_)) (VN H rfl ?_)
  ·clear H;rintro v w ⟨i',g',e,s',rfl,hM,H⟩;refine C5 H ?_;refine Jo 14 H ?_;refine VN H rfl ?_;clear H;intro b5 w H;refine EP H ?_;clear H;intro w H;refine Ja 16 ?_;refine Jx H ?_;replace H:=Js [0,1,1,0,0,0] 0 H;exact⟨rfl,rfl,b5,i',g',e,s',hM,rfl,rfl,rfl,rfl,H⟩
  ·clear H;intro b5 w H;refine Jo 10 H ?_;refine Jk rfl rfl (Fa c s A B C H.swap) ?_;clear H;rintro v w ⟨i',g',e,s',rfl,hM,H⟩;refine C5 H ?_;refine EP H ?_;clear H;intro w H;refine Ja 16 ?_;refine Jx H ?_;replace H:=Js [1,1,1,0,0,0] 0 H;exact⟨rfl,rfl,b5,i',g',e,s',hM,rfl,rfl,rfl,rfl,H⟩
 clear H;rintro ms σ w ⟨rfl,b5,i',g',e,s',hM,g0,g3,g5,g6,H⟩;rw[Q1 g0,Q1 g3,Q1 g5,Q1 g6];obtain⟨hm1,hm2⟩:=Io R A B C;replace H:=Js [4,0,0,0,0,0] 0 H;refine J1 H ?_;clear H;intro w H;refine Yu H ?_;refine Jl 3 [10] H ?_;refine Jf 4 ?_;refine Jl 5 [10] H ?_;refine Jf 6 ?_;refine Jl 7 [10] H ?_;refine Jf 8 ?_;refine Jl 9 [10] H ?_;refine Jo 10 H ?_;refine Jk rfl rfl (OI mo m A B C H) ?_;clear H;rintro v w ⟨rfl,H⟩;refine Ja 11 ?_;refine BP H ?_;refine G1 H ?_
 rcases hM with ⟨h1,rfl,rfl,rfl,rfl⟩|⟨h1,h2,rfl,rfl,rfl,rfl⟩|⟨h1,h2,rfl,rfl,rfl,rfl⟩|⟨h1,rfl,g0',addr,h2,h3,h4,rfl,h5,h6,h7,h8,h9,h10,h11,h12⟩
 ·have hw':(Vq m A B C).2≠0:=by rw[← hm1];exact h1
  refine VX H ?_;rw[show ((((Vq m A B C).2:Nat):Int) != 0)=true by rw[bne_iff_ne];omega];refine EJ H ?_;rw[show ((((ZN s' A B C:Nat):Int)) == (((Vq m A B C).2:Nat):Int))=true by rw[hm1];exact beq_self_eq_true _];refine Jv ?_;refine CV H ?_;refine QT rfl rfl rfl (Fv rfl rfl (.inl rfl) rfl ?_);refine J3 H ?_;replace H:=Js [3,3,0,2] 2 H;exact Q3 (Jy H rfl fun w' H'=>⟨rfl,s',m,told,a,cap,R,⟨by omega,by omega,.inl ⟨rfl,rfl⟩,id,id,id⟩,H'⟩)
 ·have hw':(Vq m A B C).2=0:=by rw[← hm1];exact h1
  rw[hw'];refine AB H ?_;refine XE H ?_;replace H:=Js [4,0,0,0,0,0] 0 H;obtain⟨q,mem,hw,hm,H⟩:=Vz H;replace H:=Js [4,0,0,0,0,0,0,0,0,0,0,0,0,0,0,0] 0 H;refine V2 H ?_;refine ZW H ?_;refine Jc rfl rfl (NY q.tp s'.tab H) ?_;clear H;rintro v w ⟨rfl,H⟩
  have hbt:s'.tab.length - K4 s'.tab=0:=by
   unfold K4;rw[filter_eq_self.2 h2,Nat.sub_self]
  rw[hbt];refine YA H ?_;refine CV H ?_;refine QT rfl rfl rfl (Fv rfl rfl (.inl rfl) rfl ?_);refine J3 H ?_;replace H:=Js [1,1,1,1,0,0,0,0,0,0,0,0,0,0,0,0] 0 H;replace H:=VY hw hm H;replace H:=Js [4,0,0,2] 2 H;exact Q3 (Jy H rfl fun w' H'=>⟨rfl,s',m,told,a,cap,R,⟨by omega,by omega,.inl ⟨rfl,rfl⟩,id,id,id⟩,H'⟩)
 ·have hw':(Vq m A B C).2=0:=by rw[← hm1];exact h1
  have hn:=hm2 hw';rw[hw',← hn];refine AB H ?_;refine CY H ?_;refine XE H ?_;replace H:=Js [4,0,0,0,0,0] 0 H;obtain⟨q,mem,hw,hm,H⟩:=Vz H;replace H:=Js [3,0,0,0,0,0,0,0,0,0,0,0,0,0,0,0] 0 H;refine V2 H ?_;refine ZW H ?_;refine Jc rfl rfl (Eo q.sp s'.size mem s'.own H) ?_;clear H;rintro v w ⟨rfl,H⟩;replace H:=Js [1,1,1,0,0,0,0,0,0,0,0,0,0,0,0,0] 0 H;replace H:=VY hw hm H;refine J0 H ?_;replace H:=Js [4,0,0,0,0,0] 0 H;have hsz:=hw.size;have hpos:s'.size > 0:=by omega
  have hmx:(if (1:Int) > ((s'.size:Nat):Int) then (1:Int) else ((s'.size:Nat):Int))=((s'.size:Nat):Int):=by split <;> omega
  have hnlt:YE s' B C < 100000:=by
   obtain⟨r,la,c',l,_,_,_,_,_,e1,e2,e3⟩:=FE hw';rw[hn,e1,e2];show l.fixed+c'*l.record < _;omega
  refine J1 H ?_;clear H;intro w H;refine VB 0 [9,12] H rfl (Q7.none rfl) rfl (by repeat first|exact .nil _|apply Q9.cons rfl) (by kernel_rfl) ?_;refine GF 1 rfl (Q7.none rfl) rfl (by kernel_rfl) ?_;refine SB 2 rfl (Q7.none rfl) rfl rfl (.inl rfl) (by kernel_rfl) ?_;rw[gI,decide_eq_true (show (((0:Nat):Int),((0:Nat):Int))=((0:Int),(0:Int)) from rfl)];refine Ja 3 ?_;refine Us H ?_;rw[show decide ((s'.size:Int) > 0)=true from decide_eq_true (by omega)];refine Ja 6 ?_;refine Ja 7 ?_;refine Ja 8 ?_;refine Ja 10 ?_;refine Ja 11 ?_;refine Jw 9 12 H rfl rfl (Qy (a:=[]) (b:=[]) rfl rfl (call (P4 p c mo _ s' H) ?_)) (HR rfl rfl rfl ?_)
  ·clear H;rintro v w ⟨bb,rfl,hfr,H⟩
   have hlt:bb < YE s' B C / s'.size+1:=by
    refine Nat.lt_of_not_le fun hle=>?_;obtain⟨a0,ha,hz⟩:=hfr;obtain⟨i0,hi1,hi2,hi3⟩:=h2 a0 (by omega);exact hi3 (hz i0 hi1 (by omega))
   have hdl:YE s' B C / s'.size≤YE s' B C:=Nat.div_le_self _ _;refine Jo 12 H ?_;refine HR rfl rfl rfl ?_;rw[hmx]
   refine Gs (v := .int .i64 ((YE s' B C / s'.size:Nat):Int)) 13 rfl (Q7.of rfl rfl rfl) (by
    show (if IntKind.i64=IntKind.i64 then (if ((s'.size:Nat):Int)=0 then none else some (Value.int IntKind.i64 (IntKind.i64.wrap (Int.tdiv ((YE s' B C:Nat):Int) ((s'.size:Nat):Int))))) else none)=_;rw[if_pos rfl,if_neg (by omega),Wa (by omega)]) (by kernel_rfl) ?_
   refine Ja 14 ?_;rw[Qc (by omega)];refine Ja 15 ?_;rw[show decide ((bb:Int) < ((YE s' B C / s'.size+1:Nat):Int))=true from decide_eq_true (by omega)];refine Ja 16 ?_;refine Ra H ?_;replace H:=Js [0,0,0,2] 2 H;exact Q3 (Jy H rfl fun w' H'=>⟨rfl,s',m,told,a,cap,R,⟨by omega,by omega,.inl ⟨rfl,rfl⟩,id,id,id⟩,H'⟩)
  ·rw[hmx];have hdl:YE s' B C / s'.size≤YE s' B C:=Nat.div_le_self _ _
   refine Gs (v := .int .i64 ((YE s' B C / s'.size:Nat):Int)) 13 rfl (Q7.of rfl rfl rfl) (by
    show (if IntKind.i64=IntKind.i64 then (if ((s'.size:Nat):Int)=0 then none else some (Value.int IntKind.i64 (IntKind.i64.wrap (Int.tdiv ((YE s' B C:Nat):Int) ((s'.size:Nat):Int))))) else none)=_;rw[if_pos rfl,if_neg (by omega),Wa (by omega)]) (by kernel_rfl) ?_
   refine Ja 14 ?_;rw[Qc (by omega)];refine Jo 9 H ?_;refine Jk rfl rfl (P4 p c mo _ s' H) ?_;clear H;rintro v w ⟨bb,rfl,hfr,H⟩
   have hlt:bb < YE s' B C / s'.size+1:=by
    refine Nat.lt_of_not_le fun hle=>?_;obtain⟨a0,ha,hz⟩:=hfr;obtain⟨i0,hi1,hi2,hi3⟩:=h2 a0 (by omega);exact hi3 (hz i0 hi1 (by omega))
   refine Ja 15 ?_;rw[show decide ((bb:Int) < ((YE s' B C / s'.size+1:Nat):Int))=true from decide_eq_true (by omega)];refine Ja 16 ?_;refine Ra H ?_;replace H:=Js [0,0,0,2] 2 H;exact Q3 (Jy H rfl fun w' H'=>⟨rfl,s',m,told,a,cap,R,⟨by omega,by omega,.inl ⟨rfl,rfl⟩,id,id,id⟩,H'⟩)
 ·have hw':(Vq m A B C).2=0:=by rw[← hm1];exact h1
  rw[hw'];obtain⟨_,_,_,_,_,_,_,hmw,_⟩:=id (Zj H);obtain⟨hnew,R'⟩:=Oa R hmw hw' h2 h6 h7 h8 h10;have htl:told.length < 100000:=by rw[R.len];exact hfew
  refine AB H ?_;refine CY H ?_;refine CY H ?_;refine Vx H ?_;replace H:=Js [3,0,0,0,0,0] 0 H;refine Yk H ?_;refine Gx H ?_;replace H:=Js [5,2,2,0,1,0] 0 H;refine G1 H ?_;refine Ql (fun ms σ w q=>ms=[]∧∃ j:Nat,j≤told.length∧q=told.length - j∧σ 0=pp p∧σ 3=pp b3∧σ 5=pp b5∧σ 102 = .slice a told.length cap∧σ 103 = .int .i64 told.length∧σ 104 = .int .i64 j∧Q0 w (VE (.slice a told.length cap) told::pts b5 (row 62 [.int .i64 (i':Nat),.int .i64 ((g0'+1:Nat):Int)])::pts b3 (row 103 [.int .i64 k,.int .i64 A,.int .i64 B,.int .i64 C,.int .u64 X,vW,.bool raw,.int .i64 i,.int .i64 g])::Va p c mo (.slice a told.length cap)::QW c s'::Qq mo m::fr)) (m:=told.length) ⟨rfl,0,by omega,rfl,rfl,rfl,rfl,rfl,rfl,rfl,H⟩ ?_;clear H;rintro ms σ w q ⟨rfl,j,hj,rfl,g0,g3,g5,g102,g103,g104,H⟩;rw[Q1 g0,Q1 g3,Q1 g5,Q1 g102,Q1 g103,Q1 g104];refine J8 H ?_;refine Qj rfl (fun h=>QD ?_) (fun h=>Qp ?_)
  ·have hlt:j < told.length:=by omega
   have hn:=getElem?_eq_getElem hlt;generalize told[j]=xy at hn;obtain⟨x,y⟩:=xy;obtain⟨bT,sT,rfl,H,hcl⟩:=V3 H (by omega);refine YB H ?_;refine Jd ?_;refine Q5 rfl (VA H rfl (Kv hn) rfl ?_);refine VZ H ?_;clear H;intro b11 w H;refine J5 H ?_;clear H;intro w H;refine EF H ?_;refine J2 H ?_;replace H:=hcl _ _ H.drop;refine Qj (p:=((x:Int),(y:Int))=(((i':Nat):Int),((g0'+1:Nat):Int))) rfl (fun he=>?_) (fun he=>QD ?_)
   ·exfalso;injection he with e1 e2
    obtain rfl:x=i':=by omega
    obtain rfl:y=g0'+1:=by omega
    exact hnew j hn
   ·refine J4 H ?_;exact⟨_,⟨rfl,j+1,hlt,rfl,rfl,rfl,rfl,rfl,rfl,Qc (by omega),H⟩,by omega⟩
  ·replace H:=Js [5,0,0,0,0,0] 0 H;refine J1 H ?_;clear H;intro w H;refine Yu H ?_;refine Jl 3 [10] H ?_;refine Jf 4 ?_;refine Jl 5 [10] H ?_;refine Jf 6 ?_;refine Jl 7 [10] H ?_;refine Jf 8 ?_;refine Jl 9 [10] H ?_;refine Jo 10 H ?_;refine Jk rfl rfl (eu mo m A B C hw' hfew H) ?_;clear H;rintro v w ⟨rfl,H⟩;refine Jx H ?_;replace H:=Js [1,1,2,0,0,0] 0 H;refine J1 H ?_;clear H;intro w H;refine WH H ?_;refine Jl 4 [7,10] H ?_;refine HI H ?_;refine Jo 6 H ?_;refine WU H ?_;clear H;intro bS w H;replace H:=H.swap;refine Jo 7 H ?_;refine YR H rfl rfl (by repeat first|exact .nil _|apply Q9.cons rfl) rfl (by decide) (by rw[W0];simp only[length_cons,length_nil];omega) rfl rfl ?_;clear H;intro vS w H
   have e1:ZI told++[.int .i64 ((i':Nat):Int),.int .i64 ((g0'+1:Nat):Int)]=ZI (told++[(i',g0'+1)]):=by
    rw[JY];rfl
   rw[e1] at H;obtain⟨aS,cS,rfl⟩:=QE H (m:=(told++[(i',g0'+1)]).length) (W0 _) (by decide);refine Ja 8 ?_;refine Jf 9 ?_;refine Jo 10 H ?_;refine Ut H ?_;clear H;intro w H;refine Bj H ?_;replace H:=Js [3,5,3,0] 3 H;refine Q3 (Jy H rfl fun w' H'=>⟨rfl,s',_,_,aS,cS,R',⟨?_,?_,.inr ⟨i',g0',rfl,h2,h4,?_⟩,fun hI=>Ng hI h2 h6 h9 h10 rfl,fun hT=>by rw[h8];exact hT,h12⟩,H'⟩)
   ·show m.P.length≤_;omega
   ·show (m.objs++[_]).length≤_;simp
   ·rw[h10];unfold Vm;rw[map_set];rfl
end Go.Proofs.YtbnnnljagkjpiaaGreatDoor
