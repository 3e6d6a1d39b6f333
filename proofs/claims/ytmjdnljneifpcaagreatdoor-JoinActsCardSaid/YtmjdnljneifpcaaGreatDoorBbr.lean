/- Cells: what is proved on the way: every input of the statement; no condition. Texts joined: SplR ActB JnA ActC ActD ActE JnB ActF. -/
import Derived.Test.YtmjdnljneifpcaaGreatDoorBbe
import Derived.Test.YtmjdnljneifpcaaGreatDoorBbq
import Derived.Test.YtmjdnljneifpcaaGreatDoorBbd
import Derived.Test.YtmjdnljneifpcaaGreatDoorBbp
import Derived.Test.YtmjdnljneifpcaaGreatDoorBbm
set_option linter.unusedVariables false
set_option linter.unusedSimpArgs false
set_option linter.unusedSectionVars false
namespace Go.Proofs.YtmjdnljneifpcaaGreatDoor
open Go.SL
theorem Z9h {T:Spc} (h:T.at'≤T.fin):Q5o ⟨[],0,0⟩ T=T:=by
 obtain⟨ps,x,y⟩:=T;have h:x≤y:=h;unfold Q5o;by_cases h0:y=0
 ·subst h0;obtain rfl:x=0:=by omega
  rfl
 ·show Spc.mk _ (if y=0 then 0 else x) (if y=0 then 0 else y)=_;rw[if_neg h0,if_neg h0];rfl
theorem tkT:Z0m Tryz.prog 69 kp:=Y6p inferInstance
set_option maxRecDepth 10000 in
theorem Z3i [Q0i] (p:Nat) (s:CS) (r:Nat) (hid:(fnd s.par (r:Int)).isSome=true) (hT:Q5d s.par) (hP:Q3n s) (hlast:s.last+1 < 1000000) (v:Value) (l:List (Nat×Nat)) (hl:l.length≤1000) {w:World} {fr:List Q0e} [hTab:Q4t 0 Lib.deBruijn64tab fr] (H:Q0a w (Q2z p s::TKL v l::fr)) :
  Calls Tryz.prog 20 #[pp p,.int .i64 r,v] w (ret fun x w'=>
   (Q6l s r l≠0∧x = .tuple #[.int .i64 0,.int .i64 (Q6l s r l:Nat)]∧Q0a w' (Q2z p s::TKL v l::fr)) ∨
   (Q6l s r l=0∧x = .tuple #[.int .i64 0,.int .i64 11]∧s.own.length - (s.own.filter (· != 0)).length < l.length∧Q0a w' (Q2z p s::TKL v l::fr)) ∨
   (Q6l s r l=0∧x = .tuple #[.int .i64 ((s.last+1:Nat):Int),.int .i64 0]∧∃ (Z:List Pl) (s':CS),Z.map (fun z=>(z.k,z.g))=l∧Y3t s r Z s'∧Q0a w' (Q2z p s'::TKL v l::fr))):=by
 obtain⟨a,c,rfl⟩:=Q0j H.drop (Q6k l) (by decide);obtain⟨u,mem,hw,hm,H⟩:=Q1u H;have hr1:=Y0w hT hid;refine Q0c Tryz.func20 rfl (by kernel_rfl) ?_;refine J3 H ?_;replace H:=Js [5,0,0,0,0,0,0,0,0,0,0,0] 0 H;refine J6 H ?_;refine Jc rfl rfl (V1w p u s.last s.par r H) ?_;clear H;rintro v w ⟨rfl,H⟩;rw[if_pos hid];refine J23 H ?_;replace H:=Js [5,1,0,8,0,0,0,0,0,0,0,0] 0 H;refine J15 H ?_;refine Jc rfl rfl (G7f p u s r (.slice a l.length c) l hl H) ?_;clear H;rintro v w ⟨rfl,H⟩;refine J22 H ?_;by_cases hc:Q6l s r l=0
 case neg=>
  rw[show (((Q6l s r l:Nat):Int) != 0)=true by rw[bne_iff_ne];omega];refine U7q H ?_;replace H:=Js [1,3,3,3,0,0,1,1,1,1,1,0] 0 H;exact Q0g (Jy H rfl fun w' H' => .inl ⟨hc,rfl,Q1s hw hm H'⟩)
 rw[hc];refine J9 H ?_;have hrk:(r:Int)∈s.par.map (·.1):=Q4l hid;obtain⟨b0,hkS⟩:=Q8c (l:=s.sps) (f:=fun x=>x.1) (g:=fun x=>x.2.1) (k:=(r:Int)) (by rw[hw.skeys];exact hrk);obtain⟨⟨r1,b0',S⟩,p1,p2,hsps,hs1,hs2⟩:=Q6r hkS;have hs1:r1=(r:Int):=hs1;have hs2:b0'=b0:=hs2;subst hs1 hs2;obtain⟨c0,hkM⟩:=Q8c (l:=s.mns) (f:=fun x=>x.1) (g:=fun x=>x.2.1) (k:=(r:Int)) (by rw[hw.mkeys];exact hrk);obtain⟨⟨r2,c0',M⟩,m1,m2,hmns,hs3,hs4⟩:=Q6r hkM;have hs3:r2=(r:Int):=hs3;have hs4:c0'=c0:=hs4;subst hs3 hs4;have hkS':fnd (s.sps.map Q4q) (r:Int)=some b0':=hkS;have hkM':fnd (s.mns.map Q3p) (r:Int)=some c0':=hkM;have hSm:((r:Int),b0',S)∈s.sps:=by rw[hsps];simp
 obtain⟨t1,t2,t3,t4,t5,t6⟩:=V6h hw hSm;have t1:S.parts.length≤63:=t1;have t2:∀ x∈S.parts,1≤x.2∧x.1+x.2≤s.own.length:=t2;have ho:=hw.own.2;have hsz:=hw.size;refine J10 H ?_;refine Q0s rfl (Q3m (key:=(r:Int)) H rfl rfl tkI rfl ?_);rw[hkS'];refine J0 H ?_;refine J10 H ?_;refine Jc rfl rfl (V9h u.sp r (by omega) H) ?_;clear H;rintro w0 w ⟨bt,rfl,H⟩;refine J32 H ?_;replace H:=Js [7,0,0,0,0,0,0,0,0,0,0,0,0] 0 H;refine J29 H ?_;refine Jc rfl rfl (V1q u.sp s.size mem s.own H) ?_;clear H;rintro v w ⟨rfl,H⟩;refine J0 H ?_;refine J39 H ?_;refine Q0s rfl (Q6h v1 kp H rfl ?_);clear H;intro bat w H;refine U7c H ?_;replace H:=Js [11,0,0,0,0,0,0,0,0,0,0,0,0,0] 0 H;replace H:Q0a w (SPC b0' u.sp r S::star ((p1++p2).map (Q4r u.sp))::_):=(Q0a.pick (R:=Q4r u.sp) (x:=((r:Int),b0',S)) hsps).1 H;replace H:=Js [8,5,5,0,3,2,3,3,1,1,1,1,0,0,0] 0 H
 have hchk:Y1f s.tab r [] l=0:=by
  unfold Q6l at hc;split at hc
  ·cases hc
  ·split at hc
   ·rename_i h1 h2;exact absurd hc h2
   ·rename_i h1 h2;exact Classical.not_not.1 h2
 obtain⟨hall,hnodl⟩:=Y5z hchk;have hmml:=hm.len;refine J7 H ?_
 refine Q2s (fun ms σ w=>ms=[]∧∃ (Z:List Pl) (own' mem':List Nat) (T:Spc) (at':List ((Int×Int)×Int)),Z.map (fun z=>(z.k,z.g))=l∧(∀ z∈Z,s.tab[z.k]? = some ⟨z.g,some z.e⟩∧z.e.region=(r:Int))∧V6j s r S Z mem own' mem' T∧(∀ z∈Z,fnd at' ((z.k:Int),(z.g:Int))=some (z.a:Int)) ∧
  σ 0=pp p∧σ 1 = .int .i64 r∧σ 2 = .slice a l.length c∧σ 10=pp b0'∧σ 11=pp bt∧σ 13 = .int .i64 s.size∧σ 14 = .map (some bat)∧Q0a w (TKL (.slice a l.length c) l::TAB u.tp s.tab::Q7x p u::SPC b0' u.sp r S::SPC bt u.sp r T::ST u.sp s.size mem' own'::IMG u.ip u.sp u.bp::Q5v u.bp s.lays::mp kp v1 bat at'::TRE u.trp s.last s.par::RS u.rp s.rem::mp (ki .i64) Q6v u.sm (s.sps.map Q4q)::star ((p1++p2).map (Q4r u.sp))::mp (ki .i64) Q6v u.mm (s.mns.map Q3p)::star (s.mns.map Q4a)::fr)) ?_ ?_
 ·refine Q0t ?_
  refine Q1l (fun ms σ w z=>ms=[]∧∃ (i:Nat) (Z:List Pl) (own' mem':List Nat) (T:Spc) (at':List ((Int×Int)×Int)),i≤l.length∧z=l.length - i∧Z.map (fun z=>(z.k,z.g))=l.take i∧(∀ z∈Z,s.tab[z.k]? = some ⟨z.g,some z.e⟩∧z.e.region=(r:Int))∧V6j s r S Z mem own' mem' T∧(∀ z∈Z,fnd at' ((z.k:Int),(z.g:Int))=some (z.a:Int)) ∧
   σ 0=pp p∧σ 1 = .int .i64 r∧σ 2 = .slice a l.length c∧σ 10=pp b0'∧σ 11=pp bt∧σ 13 = .int .i64 s.size∧σ 14 = .map (some bat)∧σ 66 = .slice a l.length c∧σ 67 = .int .i64 l.length∧σ 68 = .int .i64 i∧Q0a w (TKL (.slice a l.length c) l::TAB u.tp s.tab::Q7x p u::SPC b0' u.sp r S::SPC bt u.sp r T::ST u.sp s.size mem' own'::IMG u.ip u.sp u.bp::Q5v u.bp s.lays::mp kp v1 bat at'::TRE u.trp s.last s.par::RS u.rp s.rem::mp (ki .i64) Q6v u.sm (s.sps.map Q4q)::star ((p1++p2).map (Q4r u.sp))::mp (ki .i64) Q6v u.mm (s.mns.map Q3p)::star (s.mns.map Q4a)::fr)) (m:=l.length) ⟨rfl,0,[],s.own,mem,⟨[],0,0⟩,[],by omega,by omega,rfl,(fun z hz=>(by cases hz)),V6j.start s r S mem,(fun z hz=>(by cases hz)),rfl,rfl,rfl,rfl,rfl,rfl,rfl,rfl,rfl,rfl,H⟩ ?_
  clear H;rintro ms σ w z ⟨rfl,i,Z,own',mem',T,at',hi,rfl,hZ,hents,hA,hat,g0,g1,g2,g10,g11,g13,g14,g66,g67,g68,H⟩;rw[Q0b g0,Q0b g1,Q0b g2,Q0b g10,Q0b g11,Q0b g13,Q0b g14,Q0b g66,Q0b g67,Q0b g68];refine J5 H ?_;refine Q2d rfl (fun h=>Q0w ?_) (fun h=>Q1n ?_)
  ·have hlt:i < l.length:=by omega
   have hx:=List.getElem?_eq_getElem hlt;have htk:l.take (i+1)=l.take i++[l[i]]:=by rw[List.take_add_one,hx];rfl
   have hmem:=List.getElem_mem hlt
   have hnt:l[i]∉l.take i:=fun hh=>by
    obtain⟨j,hj⟩:=List.getElem?_of_mem hh;rw[List.getElem?_take] at hj;split at hj
    ·rename_i hji;obtain⟨hj1,hj2⟩:=List.getElem?_eq_some_iff.1 hj;exact(List.pairwise_iff_getElem.1 hnodl) j i hj1 hlt hji hj2
    ·cases hj
   generalize l[i]=tt at hx htk hmem hnt;obtain⟨k,n⟩:=tt;obtain⟨⟨e,hk,hheld,hreg,hpin⟩,_⟩:=hall _ hmem;have hk:s.tab[k]? = some ⟨n,some e⟩:=hk;have hL:Q2o s.tab k n=some (k,e):=Z8u hk;obtain⟨bT,sT,rfl,H,hcl⟩:=Q0y H (by omega);refine J19 H ?_;refine Jd ?_;refine Q0s rfl (Q1j H rfl (Q6c hx) rfl ?_);refine J12 H ?_;clear H;intro b16 w H;refine J4 H ?_;clear H;intro w H;refine Q0h ?_;replace H:=Js [1,0] 0 H;replace H:=hcl _ _ H;replace H:Q0a w (TKL (.slice (some ⟨bT,0,none⟩) l.length c) l::pts b16 (row 69 [.int .i64 k,.int .i64 n])::_):=H;replace H:=Js [2,1,0,0,0,0,0,0,0,0] 0 H;refine J7 H ?_;refine Q1m (fun ms σ w=>ms=[]∧∃ b17,σ 0=pp p∧σ 1 = .int .i64 r∧σ 2 = .slice (some ⟨bT,0,none⟩) l.length c∧σ 10=pp b0'∧σ 11=pp bt∧σ 13 = .int .i64 s.size∧σ 14 = .map (some bat)∧σ 16=pp b16∧σ 17=pp b17∧σ 66 = .slice (some ⟨bT,0,none⟩) l.length c∧σ 67 = .int .i64 l.length∧σ 68 = .int .i64 i∧Q0a w (TAB u.tp s.tab::pts b17 (row 113 (evl e))::pts b16 (row 69 [.int .i64 k,.int .i64 n])::TKL (.slice (some ⟨bT,0,none⟩) l.length c) l::Q7x p u::SPC b0' u.sp r S::SPC bt u.sp r T::ST u.sp s.size mem' own'::IMG u.ip u.sp u.bp::Q5v u.bp s.lays::mp kp v1 bat at'::TRE u.trp s.last s.par::RS u.rp s.rem::mp (ki .i64) Q6v u.sm (s.sps.map Q4q)::star ((p1++p2).map (Q4r u.sp))::mp (ki .i64) Q6v u.mm (s.mns.map Q3p)::star (s.mns.map Q4a)::fr)) ?_ ?_
   ·refine J1 H ?_;clear H;intro w H;refine G8n H ?_;refine Jw 5 9 H rfl rfl (Q1h (a:=[]) (b:=[]) rfl rfl (call (Q2i u.tp s.tab k n H) ?_)) (Q1x H rfl ?_)
    ·clear H;rintro v w ⟨rfl,H⟩;rw[hL];refine G8o H ?_;clear H;intro b17 w H;refine G8p H ?_;clear H;intro w H;refine J41 H ?_;replace H:=Js [1,0] 0 H;exact⟨rfl,rfl,b17,rfl,rfl,rfl,rfl,rfl,rfl,rfl,rfl,rfl,rfl,rfl,rfl,H⟩
    ·clear H;intro b17 w H;refine Jo 5 H ?_;refine Jk rfl rfl (Q2i u.tp s.tab k n H.swap) ?_;clear H;rintro v w ⟨rfl,H⟩;rw[hL];refine G8q H ?_;clear H;intro w H;refine J41 H ?_;exact⟨rfl,rfl,b17,rfl,rfl,rfl,rfl,rfl,rfl,rfl,rfl,rfl,rfl,rfl,rfl,H⟩
   clear H;rintro ms σ w ⟨rfl,b17,g0,g1,g2,g10,g11,g13,g14,g16,g17,g66,g67,g68,H⟩;rw[Q0b g0,Q0b g1,Q0b g2,Q0b g10,Q0b g11,Q0b g13,Q0b g14,Q0b g16,Q0b g17,Q0b g66,Q0b g67,Q0b g68];refine J42 H ?_;refine J45 H ?_;refine Q0s rfl (Q3t (ek:=kp) (vv:=v1) (v:=((e.addr:Nat):Int)) (key:=(((k:Nat):Int),((n:Nat):Int))) H rfl rfl rfl tkT rfl ?_);clear H;intro w H;refine Q0h ?_;replace H:=Js [5,0,0,0,0,0] 0 H
   have hfit:e.addr < 9223372036854775808:=by
    have h1:=(hw.obj k n e hk).2.1.1;have h2:=Nat.mul_le_mul ho hsz.2;unfold Q1q at h1;omega
   refine J20 H ?_;refine U8z H ?_
   refine V5d (v := .int .i64 ((e.addr / s.size:Nat):Int)) (by
    show (if IntKind.i64=IntKind.i64 then (if ((s.size:Nat):Int)=0 then none else some (Value.int IntKind.i64 (IntKind.i64.wrap (Int.tdiv ((e.addr:Nat):Int) ((s.size:Nat):Int))))) else none)=_;rw[if_pos rfl,if_neg (by omega),U0i hfit]) rfl ?_
   refine Jc rfl rfl (G4a b0' u.sp r S (e.addr / s.size) (by omega) (fun x hx=>by have:=(t2 x hx).2;omega) H) ?_;clear H;rintro v w ⟨rfl,H⟩;refine Q0h ?_
   have hins:∀ (v:Int) (z:Pl),z∈Z→fnd (ins at' (((k:Nat):Int),((n:Nat):Int)) v) ((z.k:Int),(z.g:Int))=fnd at' ((z.k:Int),(z.g:Int)):=fun v z hz=>by
    rw[Q7c,if_neg];intro h1;injection h1 with h1 h2
    have h3:(z.k,z.g)∈l.take i:=by rw[← hZ];exact List.mem_map.2 ⟨z,hz,rfl⟩
    have h4:k=z.k:=by omega
    have h5:n=z.g:=by omega
    subst h4 h5;exact hnt h3
   cases hb:Y6j S s.size e with
   | true=>
    have hb':U5y S (e.addr / s.size)=true:=hb;rw[hb'];refine J13 H ?_;refine Q1n ?_;replace H:=Js [4,1,3,0,2,2,2,2,2] 2 H;show C _ _ _ _ _ _ _ _;refine J3 H ?_;refine⟨_,⟨rfl,i+1,Z++[⟨k,n,e,e.addr⟩],own',mem',T,_,hlt,rfl,by rw[List.map_append,hZ,htk];rfl,(fun z hz=>?_),hA.big hb rfl,(fun z hz=>?_),rfl,rfl,rfl,rfl,rfl,rfl,rfl,rfl,rfl,Q2a (by omega),H⟩,by omega⟩
    ·rcases List.mem_append.1 hz with hz|hz
     ·exact hents z hz
     ·rw[List.mem_singleton] at hz;subst hz;exact⟨hk,hreg⟩
    ·rcases List.mem_append.1 hz with hz|hz
     ·rw[hins _ z hz];exact hat z hz
     ·rw[List.mem_singleton] at hz;subst hz;rw[Q7c,if_pos rfl]
   | false=>
    have hb':U5y S (e.addr / s.size)=false:=hb;rw[hb'];refine J9 H ?_;have hImg:=hA.img hw (by omega) hm hk;have hlen1:e.ws.length+1≤s.size:=G3e hw hT.nd hP hk (by rw[hreg];exact hSm) hb;replace H:=Js [8,8,7,0,0,0,0,0,0,0,0] 0 H;refine J7 H ?_;refine Q1m (fun ms σ w=>ms=[]∧σ 0=pp p∧σ 1 = .int .i64 r∧σ 2 = .slice (some ⟨bT,0,none⟩) l.length c∧σ 10=pp b0'∧σ 11=pp bt∧σ 13 = .int .i64 s.size∧σ 14 = .map (some bat)∧σ 16=pp b16∧σ 17=pp b17∧σ 20 = .int .i64 ((e.ws.length+1:Nat):Int)∧σ 66 = .slice (some ⟨bT,0,none⟩) l.length c∧σ 67 = .int .i64 l.length∧σ 68 = .int .i64 i∧Q0a w (IMG u.ip u.sp u.bp::Q5v u.bp s.lays::ST u.sp s.size mem' own'::SPC b0' u.sp r S::TAB u.tp s.tab::pts b17 (row 113 (evl e))::pts b16 (row 69 [.int .i64 k,.int .i64 n])::TKL (.slice (some ⟨bT,0,none⟩) l.length c) l::Q7x p u::SPC bt u.sp r T::mp kp v1 bat (ins at' (((k:Nat):Int),((n:Nat):Int)) ((e.addr:Nat):Int))::TRE u.trp s.last s.par::RS u.rp s.rem::mp (ki .i64) Q6v u.sm (s.sps.map Q4q)::star ((p1++p2).map (Q4r u.sp))::mp (ki .i64) Q6v u.mm (s.mns.map Q3p)::star (s.mns.map Q4a)::fr)) ?_ ?_
    ·refine J1 H ?_;clear H;intro w H;refine J27 H ?_;refine Jl 3 [6,12] H ?_;refine Jf 4 ?_;refine Jl 5 [6,12] H ?_;refine Jw 6 11 H rfl rfl (Q1h (a:=[]) (b:=[]) rfl rfl (call (V4h u.ip u.sp u.bp s.size s.lays mem' own' e.addr e.lay e.count k e.ws.length (Q4d s e) hImg H) ?_)) (Q1x H rfl ?_)
     ·clear H;rintro v w ⟨rfl,H⟩;refine U8f H ?_;refine U4z H ?_;clear H;intro b19 w H;refine J80 H ?_;clear H;intro w H;refine U2u H ?_;replace H:=Js [1,1,1] 1 H;exact⟨rfl,rfl,rfl,rfl,rfl,rfl,rfl,rfl,rfl,rfl,rfl,rfl,rfl,rfl,rfl,H⟩
     ·clear H;intro b19 w H;replace H:=Js [1,1,1,0] 0 H;refine Jo 6 H ?_;refine Jk rfl rfl (V4h u.ip u.sp u.bp s.size s.lays mem' own' e.addr e.lay e.count k e.ws.length (Q4d s e) hImg H) ?_;clear H;rintro v w ⟨rfl,H⟩;refine U8f H ?_;refine J80 H ?_;clear H;intro w H;refine U2u H ?_;replace H:=Js [0,0,0] 1 H;exact⟨rfl,rfl,rfl,rfl,rfl,rfl,rfl,rfl,rfl,rfl,rfl,rfl,rfl,rfl,rfl,H⟩
    clear H;rintro ms σ w ⟨rfl,g0,g1,g2,g10,g11,g13,g14,g16,g17,g20,g66,g67,g68,H⟩;rw[Q0b g0,Q0b g1,Q0b g2,Q0b g10,Q0b g11,Q0b g13,Q0b g14,Q0b g16,Q0b g17,Q0b g20,Q0b g66,Q0b g67,Q0b g68];obtain⟨v1',v2',v3',v4'⟩:=hA.bnd hw;replace H:=Js [9,2,0,0,0,0,0,0,0,0,0] 0 H;refine J6 H ?_;refine Jc rfl rfl (Y2t bt u.sp r s.size (e.ws.length+1) T mem' own' (by omega) (by omega) (by omega) hA.at1 (by omega) (by rw[hA.ol];exact ho) hsz.1 hsz.2 (by omega) H) ?_;clear H;rintro v w (⟨a2,own2,mem2,T2,rfl,al,H⟩|⟨rfl,hfull,H⟩)
    ·refine U8w H ?_;refine J47 H ?_;refine U4y H ?_;refine Q0s rfl (Q3t (ek:=kp) (vv:=v1) (v:=((a2:Nat):Int)) (key:=(((k:Nat):Int),((n:Nat):Int))) H rfl rfl rfl tkT rfl ?_);clear H;intro w H;refine Q0h ?_;replace H:=Js [8,5,7,4,0,0,0,0,2] 2 H;refine J3 H ?_;refine⟨_,⟨rfl,i+1,Z++[⟨k,n,e,a2⟩],own2,mem2,T2,_,hlt,rfl,by rw[List.map_append,hZ,htk];rfl,(fun z hz=>?_),hA.small hw (by omega) hmml (z:=⟨k,n,e,a2⟩) hb hlen1 al,(fun z hz=>?_),rfl,rfl,rfl,rfl,rfl,rfl,rfl,rfl,rfl,Q2a (by omega),H⟩,by omega⟩
     ·rcases List.mem_append.1 hz with hz|hz
      ·exact hents z hz
      ·rw[List.mem_singleton] at hz;subst hz;exact⟨hk,hreg⟩
     ·rcases List.mem_append.1 hz with hz|hz
      ·rw[Q7c,if_neg,hins _ z hz]
       ·exact hat z hz
       ·intro h1;injection h1 with h1 h2
        have h3:(z.k,z.g)∈l.take i:=by rw[← hZ];exact List.mem_map.2 ⟨z,hz,rfl⟩
        have h4:k=z.k:=by omega
        have h5:n=z.g:=by omega
        subst h4 h5;exact hnt h3
      ·rw[List.mem_singleton] at hz;subst hz;rw[Q7c,if_pos rfl]
    ·refine U4d H ?_;refine J13 H ?_;refine J20 H ?_;refine Jc rfl rfl (Y0h bt u.sp r T s.size mem' own' (fun x hx=>by obtain⟨y1,y2⟩:=hA.parts x hx;have:=(List.getElem?_eq_some_iff.1 y2).1;rw[hA.ol];omega) hA.nd (fun d hd=>by rw[hA.og,if_pos hd];omega) v1' (by omega) (by rw[hA.ol];exact ho) hsz.2 v3' H) ?_;clear H;rintro v w ⟨rfl,own3,ho3,hg3,H⟩;have hown3:=hA.undo hw ho3 hg3;subst hown3;refine G9x H ?_;replace H:=Js [3,12,7,1,1,0,0,4,4,4,4,4,2] 3 H;replace H:=(Q0a.pick (R:=Q4r u.sp) (x:=((r:Int),b0',S)) hsps).2 H;replace H:=Js [1,1,1,1,1,1,1,1,0,0,0,0] 0 H;replace H:=Q1s hw (V7c hw hA hm rfl rfl rfl) H
     have hZl:Z.length=i:=by
      have:=congrArg List.length hZ;rw[List.length_map,List.length_take] at this;omega
     have hfree:s.own.length - (s.own.filter (· != 0)).length≤Z.length:=hA.full hw fun a ha=>by
      have hz:(e.ws.length+1 - 1) / s.size=0:=Nat.div_eq_of_lt (by omega);rw[hz] at hfull;obtain⟨j,j1,j2,j3⟩:=hfull a (by omega);have:j=a:=by omega
      rw[← this];exact j3
     exact Q0g (.inr ⟨by simp,Jy H rfl fun w' H' => .inr (.inl ⟨rfl,rfl,by omega,H'⟩)⟩)
  ·obtain rfl:i=l.length:=by omega
   rw[List.take_length] at hZ;exact .inl ⟨rfl,rfl,Z,own',mem',T,at',hZ,hents,hA,hat,rfl,rfl,rfl,rfl,rfl,rfl,rfl,H⟩
 clear H;rintro ms σ w ⟨rfl,Z,own',mem',T,at',hZ,hents,hA,hat,g0,g1,g2,g10,g11,g13,g14,H⟩;rw[Q0b g0,Q0b g1,Q0b g2,Q0b g10,Q0b g11,Q0b g13,Q0b g14]
 have hl64:s.par.length≠64:=by
  unfold Q6l at hc;intro h;rw[if_neg (fun h1=>by rw[if_pos h1] at hc;cases hc),if_neg (fun h1=>h1 hchk),if_pos h] at hc;cases hc
 have hae:Q5l s.par r=0:=by
  unfold Q5l;rw[if_neg (fun h=>by rw[hid] at h;cases h.2),if_neg hl64]
 obtain⟨v1',v2',v3',v4'⟩:=hA.bnd hw;replace H:=Js [9,0,0,0,0,0,0,0,0,0] 0 H;refine J10 H ?_;refine Jc rfl rfl (Y2q u.trp s.last s.par r (by omega) (fun x q hx=>(hw.par.2.2 x q hx).2) H) ?_;clear H;rintro w0 w (⟨h1,_,_⟩|⟨_,rfl,H⟩)
 ·exact absurd hae h1
 refine J32 H ?_;refine J10 H ?_;refine Jc rfl rfl (V9h u.sp (s.last+1) (by omega) H) ?_;clear H;rintro w0 w ⟨bs,rfl,H⟩;refine J32 H ?_
 have hup:((s.last+1:Nat):Int)∉s.par.map (·.1):=fun h=>by
  obtain⟨⟨x,q⟩,h1,h2⟩:=List.mem_map.1 h;have h2:x=((s.last+1:Nat):Int):=h2;have:=(hw.par.2.2 x q h1).2;omega
 have hkn1:((s.last+1:Nat):Int)∉(s.sps.map Q4q).map (·.1):=by rw[List.map_map];show _∉s.sps.map fun z=>z.1;rw[hw.skeys];exact hup
 have hkn2:((s.last+1:Nat):Int)∉(s.mns.map Q3p).map (·.1):=by rw[List.map_map];show _∉s.mns.map fun z=>z.1;rw[hw.mkeys];exact hup
 replace H:=Js [12,0,0,0,0,0,0,0,0,0,0,0,0,0,0] 0 H;obtain⟨es1,ct1,hmo1,H⟩:=G0h H;replace H:=Js [14,0,0,0,0,0,0,0,0,0,0,0,0,0,0] 0 H;obtain⟨es2,ct2,hmo2,H⟩:=G0h H;refine J1 H ?_;clear H;intro w H;refine J27 H ?_;refine Jl 3 [12,14,15,17] H ?_;refine U6u H ?_;refine Jl 8 [12,14,15,17] H ?_;refine Ja 9 ?_;refine Ja 10 ?_;refine Jo 11 H ?_;refine Jk rfl rfl (V9k H) ?_;clear H;rintro w0 w ⟨bm,rfl,H⟩;replace H:=Js [2,0,0] 0 H;refine Jo 12 H ?_;refine V2e (ek:=ki .i64) (vv:=Q6v) (key:=((s.last+1:Nat):Int)) H hmo1 hkn1 rfl rfl tkI rfl ?_;clear H;intro w H;refine Ja 13 ?_;refine Jo 14 H ?_;refine V3v H hmo1.born rfl rfl rfl rfl ?_;clear H;intro w H;replace H:=Z4j (hmo1.push hkn1 bs) H;replace H:=Js [2,0,0] 0 H;refine Jo 15 H ?_;refine V2e (ek:=ki .i64) (vv:=Q6v) (key:=((s.last+1:Nat):Int)) H hmo2 hkn2 rfl rfl tkI rfl ?_;clear H;intro w H;refine Ja 16 ?_;refine Jo 17 H ?_;refine V3v H hmo2.born rfl rfl rfl rfl ?_;clear H;intro w H;replace H:=Z4j (hmo2.push hkn2 bm) H;refine Jx H ?_;replace H:=Js [3,8,8,0,0,0,0,0,0,0,0] 0 H;refine J6 H ?_
 have hTn:∀ x∈T.parts,1≤x.2∧x.1+x.2≤own'.length:=fun x hx=>by
  obtain⟨y1,y2⟩:=hA.parts x hx;have:=(List.getElem?_eq_some_iff.1 y2).1;rw[hA.ol];omega
 have hJ:=Y3q bs bt u.sp (s.last+1) r ⟨[],0,0⟩ T s.size mem' own' (by omega) (by simp) (by omega) (by rw[hA.ol];exact ho) hTn (fun d hd=>by rw[hA.og,if_pos hd];omega) H;refine Jc rfl rfl (hJ) ?_;clear H hJ;rintro w0 w ⟨rfl,own2,hol2,hog2,H⟩;rw[Z9h hA.at1] at H;refine Q0h ?_;refine J77 H ?_;obtain⟨s1,hs1e⟩:∃ x:CS,x={ s with own:=own2,last:=s.last+1,par:=s.par++[(((s.last+1:Nat):Int),(r:Int))],sps:=s.sps++[(((s.last+1:Nat):Int),bs,T)],mns:=s.mns++[(((s.last+1:Nat):Int),bm,[])] }:=⟨_,rfl⟩;have hol3:own2.length=s.own.length:=hol2.trans hA.ol;have hw1:WF s1:=by rw[hs1e];exact G3f hw hA (by have:=hw.par.1;omega) hlast hol2 hog2 bs bm
 have hm1:Q4p s1 mem':=by rw[hs1e];exact V7c hw hA hm hol3 rfl rfl
 have hkeys:(Z.map Pl.k).Nodup:=by
  have h1:=G6y hchk;rw[← hZ,List.map_map] at h1;exact h1
 have hB1:Z8m s r (s.last+1) [] Z s1 S T:=by rw[hs1e];exact Z8n hw hT.nd hP hSm hA hents hkeys hol3 (G6x hA hol2 hog2) bs bm
 have hsp1:s1.sps=p1++((r:Int),b0',S)::(p2++[(((s.last+1:Nat):Int),bs,T)]):=by rw[hs1e];show s.sps++_=_;rw[hsps];simp
 have hmn1:s1.mns=m1++((r:Int),c0',M)::(m2++[(((s.last+1:Nat):Int),bm,[])]):=by rw[hs1e];show s.mns++_=_;rw[hmns];simp
 have hZl:Z.length=l.length:=by rw[← hZ,List.length_map]
 have hkMr:fnd (s.mns.map Q3p++[(((s.last+1:Nat):Int),bm)]) (r:Int)=some c0':=by
  rw[← Q7j hkn2,Q7c,if_neg (fun h=>hup (by rw[h];exact hrk))];exact hkM'
 have hkMi:fnd (s.mns.map Q3p++[(((s.last+1:Nat):Int),bm)]) ((s.last+1:Nat):Int)=some bm:=by rw[← Q7j hkn2,Q7c,if_pos rfl]
 have hown1:s1.own=own2:=by rw[hs1e]
 have htab1:s1.tab=s.tab:=by rw[hs1e]
 replace H:=Js [16,0,0,0,0,0,0,0,0,0,0,0,0,0,0,0,0] 0 H;replace H:Q0a w (BAG c0' M::star ((m1++m2).map Q4a)::_):=(Q0a.pick (R:=Q4a) (x:=((r:Int),c0',M)) hmns).1 H;replace H:=Js [9,9,9,5,0,5,6,1,2,4,4,4,3,3,2,2,0,0] 0 H;replace H:=Js [0,0,0,0,0,0,0,0,0,0,0,0,0,0,0,0,0] 1 H;refine J7 H ?_;refine Q1m (fun ms σ w=>ms=[]∧∃ (s':CS) (mem1:List Nat) (S1 T1:Spc) (M1 N1:List Nat),(WF s'∧Q4p s' mem1∧Z8m s r (s.last+1) (Z) ([]) s' S1 T1∧s'.sps=p1++((r:Int),b0',S1)::(p2++[(((s.last+1:Nat):Int),bs,T1)])∧s'.mns=m1++((r:Int),c0',M1)::(m2++[(((s.last+1:Nat):Int),bm,N1)]))∧σ 0=pp p∧σ 1 = .int .i64 r∧σ 2 = .slice a l.length c∧σ 10=pp b0'∧σ 13 = .int .i64 s.size∧σ 14 = .map (some bat)∧σ 24 = .int .i64 ((s.last+1:Nat):Int)∧σ 26=pp bs∧Q0a w (TKL (.slice a l.length c) l::TAB u.tp s'.tab::Q7x p u::mp (ki .i64) Q6v u.mm (s.mns.map Q3p++[(((s.last+1:Nat):Int),bm)])::BAG c0' M1::BAG bm N1::SPC b0' u.sp r S1::SPC bs u.sp (s.last+1) T1::ST u.sp s.size mem1 s'.own::IMG u.ip u.sp u.bp::Q5v u.bp s.lays::mp kp v1 bat at'::TRE u.trp (s.last+1) (s.par++[(((s.last+1:Nat):Int),(r:Int))])::RS u.rp s.rem::mp (ki .i64) Q6v u.sm (s.sps.map Q4q++[(((s.last+1:Nat):Int),bs)])::star ((p1++p2).map (Q4r u.sp))::star ((m1++m2).map Q4a)::fr)) ?_ ?_
 ·refine Q0t ?_;refine Q1l (fun ms σ w q=>ms=[]∧∃ (i:Nat) (s':CS) (mem1:List Nat) (S1 T1:Spc) (M1 N1:List Nat),i≤l.length∧q=l.length - i∧(WF s'∧Q4p s' mem1∧Z8m s r (s.last+1) (Z.take i) (Z.drop i) s' S1 T1∧s'.sps=p1++((r:Int),b0',S1)::(p2++[(((s.last+1:Nat):Int),bs,T1)])∧s'.mns=m1++((r:Int),c0',M1)::(m2++[(((s.last+1:Nat):Int),bm,N1)]))∧σ 0=pp p∧σ 1 = .int .i64 r∧σ 2 = .slice a l.length c∧σ 10=pp b0'∧σ 13 = .int .i64 s.size∧σ 14 = .map (some bat)∧σ 24 = .int .i64 ((s.last+1:Nat):Int)∧σ 26=pp bs∧σ 154 = .slice a l.length c∧σ 155 = .int .i64 l.length∧σ 156 = .int .i64 i∧Q0a w (TKL (.slice a l.length c) l::TAB u.tp s'.tab::Q7x p u::mp (ki .i64) Q6v u.mm (s.mns.map Q3p++[(((s.last+1:Nat):Int),bm)])::BAG c0' M1::BAG bm N1::SPC b0' u.sp r S1::SPC bs u.sp (s.last+1) T1::ST u.sp s.size mem1 s'.own::IMG u.ip u.sp u.bp::Q5v u.bp s.lays::mp kp v1 bat at'::TRE u.trp (s.last+1) (s.par++[(((s.last+1:Nat):Int),(r:Int))])::RS u.rp s.rem::mp (ki .i64) Q6v u.sm (s.sps.map Q4q++[(((s.last+1:Nat):Int),bs)])::star ((p1++p2).map (Q4r u.sp))::star ((m1++m2).map Q4a)::fr)) (m:=l.length) ⟨rfl,0,s1,mem',S,T,M,[],by omega,by omega,⟨hw1,hm1,hB1,hsp1,hmn1⟩,rfl,rfl,rfl,rfl,rfl,rfl,rfl,rfl,rfl,rfl,rfl,by rw[hown1,htab1];exact H⟩ ?_;clear H;rintro ms σ w q ⟨rfl,i,s',mem1,S1,T1,M1,N1,hi,rfl,⟨hw',hm',hB,hsp,hmn⟩,g0,g1,g2,g10,g13,g14,g24,g26,g154,g155,g156,H⟩;rw[Q0b g0,Q0b g1,Q0b g2,Q0b g10,Q0b g13,Q0b g14,Q0b g24,Q0b g26,Q0b g154,Q0b g155,Q0b g156];refine J5 H ?_;refine Q2d rfl (fun h=>Q0w ?_) (fun h=>Q1n ?_)
  ·have hlt:i < l.length:=by omega
   have hiZ:i < Z.length:=by omega
   have hzi:=List.getElem?_eq_getElem hiZ;have htz:Z.take (i+1)=Z.take i++[Z[i]]:=by rw[List.take_add_one,hzi];rfl
   have hdz:=List.drop_eq_getElem_cons hiZ;have hzm:=List.getElem_mem hiZ;have hx:l[i]? = some (Z[i].k,Z[i].g):=by rw[← hZ,List.getElem?_map,hzi];rfl
   rw[hdz] at hB;generalize Z[i]=z at hzi htz hdz hzm hx hB;have hpend:=hB.pend z List.mem_cons_self;have hatz:=hat z hzm;obtain⟨zk,zg,ze,za⟩:=z;obtain⟨hk,hzr,hcase⟩:=hpend;have hk:s'.tab[zk]? = some ⟨zg,some ze⟩:=hk;have hzr:ze.region=(r:Int):=hzr;have hatz:fnd at' ((zk:Int),(zg:Int))=some (za:Int):=hatz;have hx:l[i]? = some (zk,zg):=hx;have hL:Q2o s'.tab zk zg=some (zk,ze):=Z8u hk
   have hndp':(s'.par.map (·.1)).Nodup:=by
    rw[hB.par,List.map_append,List.nodup_append];refine⟨hT.nd,by simp,fun x hx y hy hxy=>?_⟩;subst hxy;simp at hy;exact hup (by rw[← show x=((s.last+1:Nat):Int) by omega];exact hx)
   obtain⟨bT,sT,rfl,H,hcl⟩:=Q0y H (by omega);refine J19 H ?_;refine Jd ?_;refine Q0s rfl (Q1j H rfl (Q6c hx) rfl ?_);refine J12 H ?_;clear H;intro b29 w H;refine J4 H ?_;clear H;intro w H;refine Q0h ?_;replace H:=Js [1,0] 0 H;replace H:=hcl _ _ H;replace H:Q0a w (TKL (.slice (some ⟨bT,0,none⟩) l.length c) l::pts b29 (row 69 [.int .i64 zk,.int .i64 zg])::_):=H;replace H:=Js [2,1,0] 0 H;refine J7 H ?_;refine Q1m (fun ms σ w=>ms=[]∧∃ b30,σ 0=pp p∧σ 1 = .int .i64 r∧σ 2 = .slice (some ⟨bT,0,none⟩) l.length c∧σ 10=pp b0'∧σ 13 = .int .i64 s.size∧σ 14 = .map (some bat)∧σ 24 = .int .i64 ((s.last+1:Nat):Int)∧σ 26=pp bs∧σ 154 = .slice (some ⟨bT,0,none⟩) l.length c∧σ 155 = .int .i64 l.length∧σ 156 = .int .i64 i∧σ 29=pp b29∧σ 30=pp b30∧Q0a w (TAB u.tp s'.tab::pts b30 (row 113 (evl ze))::pts b29 (row 69 [.int .i64 zk,.int .i64 zg])::TKL (.slice (some ⟨bT,0,none⟩) l.length c) l::Q7x p u::mp (ki .i64) Q6v u.mm (s.mns.map Q3p++[(((s.last+1:Nat):Int),bm)])::BAG c0' M1::BAG bm N1::SPC b0' u.sp r S1::SPC bs u.sp (s.last+1) T1::ST u.sp s.size mem1 s'.own::IMG u.ip u.sp u.bp::Q5v u.bp s.lays::mp kp v1 bat at'::TRE u.trp (s.last+1) (s.par++[(((s.last+1:Nat):Int),(r:Int))])::RS u.rp s.rem::mp (ki .i64) Q6v u.sm (s.sps.map Q4q++[(((s.last+1:Nat):Int),bs)])::star ((p1++p2).map (Q4r u.sp))::star ((m1++m2).map Q4a)::fr)) ?_ ?_
   ·refine J1 H ?_;clear H;intro w H;refine G8n H ?_;refine Jw 5 9 H rfl rfl (Q1h (a:=[]) (b:=[]) rfl rfl (call (Q2i u.tp s'.tab zk zg H) ?_)) (Q1x H rfl ?_)
    ·clear H;rintro v w ⟨rfl,H⟩;rw[hL];refine G8o H ?_;clear H;intro b30 w H;refine G8p H ?_;clear H;intro w H;refine J41 H ?_;replace H:=Js [1,0] 0 H;exact⟨rfl,rfl,b30,rfl,rfl,rfl,rfl,rfl,rfl,rfl,rfl,rfl,rfl,rfl,rfl,rfl,H⟩
    ·clear H;intro b30 w H;refine Jo 5 H ?_;refine Jk rfl rfl (Q2i u.tp s'.tab zk zg H.swap) ?_;clear H;rintro v w ⟨rfl,H⟩;rw[hL];refine G8q H ?_;clear H;intro w H;refine J41 H ?_;exact⟨rfl,rfl,b30,rfl,rfl,rfl,rfl,rfl,rfl,rfl,rfl,rfl,rfl,rfl,rfl,rfl,H⟩
   clear H;rintro ms σ w ⟨rfl,b30,g0,g1,g2,g10,g13,g14,g24,g26,g154,g155,g156,g29,g30,H⟩;rw[Q0b g0,Q0b g1,Q0b g2,Q0b g10,Q0b g13,Q0b g14,Q0b g24,Q0b g26,Q0b g154,Q0b g155,Q0b g156,Q0b g29,Q0b g30];refine J1 H ?_;clear H;intro w H;refine Ja 0 ?_;refine Q1w 1 [] H rfl (Q0n.none rfl) rfl (by repeat first|exact .nil _|apply Q0o.cons rfl) (by kernel_rfl) ?_;refine Q7k 2 [] (key:=(((zk:Nat):Int),((zg:Nat):Int))) H rfl (Q0n.none rfl) rfl rfl tkT (by kernel_rfl) ?_;rw[hatz];refine Jf 3 ?_;refine Jl 4 [] H ?_;refine Ja 5 ?_;refine Jx H ?_;have hSm1:((r:Int),b0',S1)∈s'.sps:=by rw[hsp];simp
   have hTm1:(((s.last+1:Nat):Int),bs,T1)∈s'.sps:=by rw[hsp];simp
   have hneI:((s.last+1:Nat):Int)≠(r:Int):=fun h=>hup (by rw[h];exact hrk);have hown63:s'.own.length≤63:=hw'.own.2;obtain⟨w1',w2',w3',w4',w5',w6'⟩:=V6h hw' hSm1;obtain⟨x1',_,_,_,_,_⟩:=V6h hw' hTm1;have w1':S1.parts.length≤63:=w1';have x1':T1.parts.length≤63:=x1';have w4':(Q0k S1.parts).Nodup:=w4'
   have hfitZ:ze.addr < 9223372036854775808:=by
    have h1:=(hw'.obj zk zg ze hk).2.1.1;have h2:=Nat.mul_le_mul hw'.own.2 hw'.size.2;unfold Q1q at h1;omega
   refine J7 H ?_;refine Q1m (fun ms σ w=>ms=[]∧∃ (s2:CS) (mem2:List Nat) (S2 T2:Spc),(WF s2∧Q4p s2 mem2∧Z8m s r (s.last+1) (Z.take i++[⟨zk,zg,ze,za⟩]) (Z.drop (i+1)) s2 S2 T2∧s2.sps=p1++((r:Int),b0',S2)::(p2++[(((s.last+1:Nat):Int),bs,T2)])∧s2.mns=m1++((r:Int),c0',M1.filter (·≠zk))::(m2++[(((s.last+1:Nat):Int),bm,V6c N1 zk)])∧s2.tab=s'.tab.set zk ⟨zg,some { ze with region:=((s.last+1:Nat):Int),addr:=za }⟩)∧σ 0=pp p∧σ 1 = .int .i64 r∧σ 2 = .slice (some ⟨bT,0,none⟩) l.length c∧σ 10=pp b0'∧σ 13 = .int .i64 s.size∧σ 14 = .map (some bat)∧σ 24 = .int .i64 ((s.last+1:Nat):Int)∧σ 26=pp bs∧σ 29=pp b29∧σ 154 = .slice (some ⟨bT,0,none⟩) l.length c∧σ 155 = .int .i64 l.length∧σ 156 = .int .i64 i∧Q0a w (TAB u.tp s'.tab::pts b29 (row 69 [.int .i64 zk,.int .i64 zg])::TKL (.slice (some ⟨bT,0,none⟩) l.length c) l::Q7x p u::mp (ki .i64) Q6v u.mm (s.mns.map Q3p++[(((s.last+1:Nat):Int),bm)])::BAG c0' M1::BAG bm N1::SPC b0' u.sp r S2::SPC bs u.sp (s.last+1) T2::ST u.sp s.size mem2 s2.own::IMG u.ip u.sp u.bp::Q5v u.bp s.lays::mp kp v1 bat at'::TRE u.trp (s.last+1) (s.par++[(((s.last+1:Nat):Int),(r:Int))])::RS u.rp s.rem::mp (ki .i64) Q6v u.sm (s.sps.map Q4q++[(((s.last+1:Nat):Int),bs)])::star ((p1++p2).map (Q4r u.sp))::star ((m1++m2).map Q4a)::fr)) ?_ ?_
   ·rcases hcase with ⟨hza,⟨cc,nn⟩,y1,y2,y3⟩|⟨hza,hsit,hbes⟩
    ·have hza:za=ze.addr:=hza;subst hza;have y2:2≤nn:=y2;obtain⟨A,B,hAB⟩:=List.append_of_mem y1;have hcap:=Q8y (by rw[← hAB];exact w4':(Q0k (A++(cc,nn)::B)).Nodup)
     have hfst:∀ y∈A,y.1≠cc:=fun y hy h=>by
      have hy1:=(w2' y (by show y∈S1.parts;rw[hAB];exact List.mem_append.2 (.inl hy))).1;exact hcap.2 cc (Nat.le_refl _) (by show cc < cc+nn;omega) (Q8e (List.mem_append.2 (.inl hy)) (by omega) (by omega))
     have haddr:ze.addr / s.size=cc:=by
      rcases y3 with ⟨h1,_⟩|⟨_,h1,_⟩
      ·have h1:nn=1:=h1;omega
      ·have h1:ze.addr=cc*s'.size:=h1;rw[hB.size] at h1;rw[h1];exact Nat.mul_div_cancel _ (by omega)
     have hcn:cc+nn≤s'.own.length:=(w2' (cc,nn) y1).2;rw[show (((ze.addr:Nat):Int) == ((ze.addr:Nat):Int))=true from beq_self_eq_true _];refine Q3g rfl ?_;replace H:=Js [8,8,8,0,0,0,0,0,0,0,0,0,0] 0 H;refine J10 H ?_
     refine V5d (v := .int .i64 ((ze.addr / s.size:Nat):Int)) (by
      show (if IntKind.i64=IntKind.i64 then (if ((s.size:Nat):Int)=0 then none else some (Value.int IntKind.i64 (IntKind.i64.wrap (Int.tdiv ((ze.addr:Nat):Int) ((s.size:Nat):Int))))) else none)=_;rw[if_pos rfl,if_neg (by omega),U0i hfitZ]) rfl ?_
     rw[haddr];have hHand:=Z9f b0' bs u.sp r (s.last+1) S1 T1 s.size mem1 s'.own hAB hfst y2 (by omega) (by omega) (by omega) hown63 hcn (fun d h1 h2=>w5' d (Q8e y1 h1 h2)) H;refine Jc rfl rfl (hHand) ?_;clear H hHand;rintro w0 w ⟨rfl,H⟩;refine Q0h ?_;replace H:=Js [3,4,4,4,4,4,4,0,0,0,1,1] 1 H;have hw2:=U1g (id:=s.last+1) hw' hB.part hk hzr hneI hndp' hsp hmn hAB y2 y3;refine⟨rfl,rfl,{ s' with own:=Q7v s'.own cc nn (s.last+1),tab:=s'.tab.set zk ⟨zg,some { ze with region:=((s.last+1:Nat):Int),addr:=ze.addr }⟩,sps:=p1++((r:Int),b0',{ S1 with parts:=A++B })::(p2++[(((s.last+1:Nat):Int),bs,{ T1 with parts:=T1.parts++[(cc,nn)] })]),mns:=m1++((r:Int),c0',M1.filter (·≠zk))::(m2++[(((s.last+1:Nat):Int),bm,V6c N1 zk)]) },mem1,_,_,⟨hw2,?_,?_,rfl,rfl,rfl⟩,rfl,rfl,rfl,rfl,rfl,rfl,rfl,rfl,rfl,rfl,rfl,rfl,H⟩
     ·exact Y0l (id:=((s.last+1:Nat):Int)) (a:=ze.addr) hw' hm' hk (fun j n f hj hjk=>by
       show Q1q f≤ze.addr∨ze.addr+(ze.ws.length+1)≤f.addr
       rcases hw'.apart j zk n zg f ze hj hjk hk with h1|h1
       ·exact .inl h1
       ·have h1:ze.addr+1+ze.ws.length≤f.addr:=h1;right;omega) rfl (fun _ _=>rfl) (fun _ _=>rfl) (Q0z hcn) rfl rfl
     ·exact hB.hand hw' hndp' rfl hsp hAB y2 y3 rfl (Q0z hcn) rfl rfl rfl rfl rfl rfl
    ·have hza:za≠ze.addr:=hza;rw[show (((za:Nat):Int) == ((ze.addr:Nat):Int))=false by rw[beq_eq_false_iff_ne];omega];refine Q1y rfl ?_;have hfree:∀ (j n:Nat) (f:Ent),j≠zk→s'.tab[j]? = some ⟨n,some f⟩→Q1q f≤za∨za+(ze.ws.length+1)≤f.addr:=fun j n f _ hj=>hbes j n f hj;have hw2:=G6w hw' hk hzr hneI hndp' hsp hmn hsit hfree;have hkl:=(List.getElem?_eq_some_iff.1 hk).1;have hlies:Y6h s'.size s'.own { ze with region:=((s.last+1:Nat):Int),addr:=za }:=(hw2.obj zk zg _ (List.getElem?_set_self hkl)).2.1;have hown:=Y3d hlies;have hml1:=hm'.len
     have hto:za+(ze.ws.length+1)≤mem1.length:=by
      have h1:za+1+ze.ws.length≤s'.own.length*s'.size:=hlies.1;omega
     have hfr:ze.addr+(ze.ws.length+1)≤mem1.length:=by
      have h1:ze.addr+1+ze.ws.length≤s'.own.length*s'.size:=(hw'.obj zk zg ze hk).2.1.1;omega
     have hImg:=V4q hw' hm' hk;rw[hB.lays,hB.size] at hImg;rw[hB.size] at hown;replace H:=Js [11,11,10,0,0,0,0,0,0,0,0,0,0] 0 H;refine J1 H ?_;clear H;intro w H;refine U7m H ?_;refine Ja 4 ?_;refine Q1w 5 [9] H rfl (Q0n.none rfl) rfl (by repeat first|exact .nil _|apply Q0o.cons rfl) (by kernel_rfl) ?_;refine Q7k 6 [9] (key:=(((zk:Nat):Int),((zg:Nat):Int))) H rfl (Q0n.none rfl) rfl rfl tkT (by kernel_rfl) ?_;rw[hatz];refine Jf 7 ?_;refine Jl 8 [9] H ?_;have hMove:=Z9g u.ip u.sp u.bp s.size s.lays mem1 s'.own za ze.addr ze.lay ze.count zk ze.ws.length (Q4d s' ze) hImg hto hown H;refine Jo 9 H ?_;refine Jk rfl rfl (hMove) ?_;clear H hMove;rintro w0 w ⟨rfl,H⟩;refine Jx H ?_;replace H:=Js [3,4,4,4,4,4,4,4,4,2,0,0] 1 H;refine⟨rfl,rfl,{ s' with tab:=s'.tab.set zk ⟨zg,some { ze with region:=((s.last+1:Nat):Int),addr:=za }⟩,mns:=m1++((r:Int),c0',M1.filter (·≠zk))::(m2++[(((s.last+1:Nat):Int),bm,V6c N1 zk)]) },V7n mem1 za ze.addr (ze.ws.length+1),S1,T1,⟨hw2,?_,?_,hsp,rfl,rfl⟩,rfl,rfl,rfl,rfl,rfl,rfl,rfl,rfl,rfl,rfl,rfl,rfl,H⟩
     ·exact Y0l (id:=((s.last+1:Nat):Int)) (a:=za) hw' hm' hk hfree (V7g hto hfr) (fun j hj=>G7i hto hfr hj) (fun j hj=>G4c hto hfr hj) rfl rfl rfl
     ·exact hB.shift hza hTm1 rfl rfl rfl rfl rfl rfl rfl rfl
   clear H;rintro ms σ w ⟨rfl,s2,mem2,S2,T2,⟨hw2,hm2,hB2,hsp2,hmn2,htab2⟩,g0,g1,g2,g10,g13,g14,g24,g26,g29,g154,g155,g156,H⟩;rw[Q0b g0,Q0b g1,Q0b g2,Q0b g10,Q0b g13,Q0b g14,Q0b g24,Q0b g26,Q0b g29,Q0b g154,Q0b g155,Q0b g156];have hMm':=hw'.mine ((r:Int),c0',M1) (by rw[hmn];simp);have hNm':=hw'.mine (((s.last+1:Nat):Int),bm,N1) (by rw[hmn];simp)
   have hbl:∀ L:List Nat,L.Pairwise (· < ·)→(∀ y∈L,y < s'.tab.length)→L.length≤64:=fun L h1 h2=>by
    have:=V0z L 0 64 (fun y hy=>⟨Nat.zero_le _,by have:=h2 y hy;have:=hw'.slots.2;omega⟩) h1;omega
   have hM64:M1.length≤64:=hbl M1 hMm'.1 fun y hy=>by
    obtain⟨g,f,h3,_⟩:=(hMm'.2 y).1 hy;exact(List.getElem?_eq_some_iff.1 h3).1
   have hN64:N1.length≤64:=hbl N1 hNm'.1 fun y hy=>by
    obtain⟨g,f,h3,_⟩:=(hNm'.2 y).1 hy;exact(List.getElem?_eq_some_iff.1 h3).1
   have hkN:zk∉N1:=fun h=>by
    obtain⟨g,f,h3,h4⟩:=(hNm'.2 zk).1 h;rw[hk] at h3;injection h3 with h3
    injection h3 with _ h3
    injection h3 with h3
    subst h3;exact hneI (h4.symm.trans hzr)
   replace H:=Js [0,2,2,2,2,0,0] 0 H;refine J1 H ?_;clear H;intro w H;refine Ja 0 ?_;refine Jf 1 ?_;refine Jl 2 [7] H ?_;refine Ja 3 ?_;refine Ja 4 ?_;refine U9d H ?_;refine Q7k 6 [7] (key:=(((zk:Nat):Int),((zg:Nat):Int))) H rfl (Q0n.none rfl) rfl rfl tkT (by kernel_rfl) ?_;rw[hatz];have hHome:=Z0h p u s'.tab (s.mns.map Q3p++[(((s.last+1:Nat):Int),bm)]) zk zg ze hk ((s.last+1:Nat):Int) za c0' bm M1 N1 (by rw[hzr];exact hkMr) hkMi hMm'.1 (by omega) hNm'.1 (by omega) hkN H;refine Jo 7 H ?_;refine Jk rfl rfl (hHome) ?_;clear H hHome;rintro w0 w ⟨rfl,H⟩;rw[← htab2] at H;refine U6i H ?_;replace H:=Js [6,0,0,0,0,0,1,1,1,1,1] 1 H;exact⟨_,⟨rfl,i+1,s2,mem2,S2,T2,M1.filter (·≠zk),V6c N1 zk,hlt,rfl,⟨hw2,hm2,by rw[htz];exact hB2,hsp2,hmn2⟩,rfl,rfl,rfl,rfl,rfl,rfl,rfl,rfl,rfl,rfl,Q2a (by omega),H⟩,by omega⟩
  ·obtain rfl:i=l.length:=by omega
   rw[← hZl,List.take_length,List.drop_length] at hB;exact⟨rfl,rfl,s',mem1,S1,T1,M1,N1,⟨hw',hm',hB,hsp,hmn⟩,rfl,rfl,rfl,rfl,rfl,rfl,rfl,rfl,H⟩
 clear H;rintro ms σ w ⟨rfl,s',mem1,S1,T1,M1,N1,⟨hw',hm',hB,hsp,hmn⟩,g0,g1,g2,g10,g13,g14,g24,g26,H⟩;rw[Q0b g0,Q0b g1,Q0b g2,Q0b g10,Q0b g13,Q0b g14,Q0b g24,Q0b g26];replace H:=Js [5,15,4,5,12,4,0,0,0,0,0,0,0,1,1,1] 1 H;replace H:=(Q0a.pick (R:=Q4a) (x:=(((s.last+1:Nat):Int),bm,N1)) (gs:=m1++(m2++[(((s.last+1:Nat):Int),bm,N1)])) (g1:=m1++m2) (g2:=[]) (by simp)).2 (by rw[List.append_nil];exact H);replace H:=Js [1,0] 0 H;replace H:=(Q0a.pick (R:=Q4a) (x:=((r:Int),c0',M1)) hmn).2 H;replace H:=Js [1,1,1,0] 0 H;replace H:=(Q0a.pick (R:=Q4r u.sp) (x:=(((s.last+1:Nat):Int),bs,T1)) (gs:=p1++(p2++[(((s.last+1:Nat):Int),bs,T1)])) (g1:=p1++p2) (g2:=[]) (by simp)).2 (by rw[List.append_nil];exact H);replace H:=Js [1,0] 0 H;replace H:=(Q0a.pick (R:=Q4r u.sp) (x:=((r:Int),b0',S1)) hsp).2 H;have hk1:s.mns.map Q3p++[(((s.last+1:Nat):Int),bm)]=s'.mns.map Q3p:=by rw[hmn,hmns];simp
 have hk2:s.sps.map Q4q++[(((s.last+1:Nat):Int),bs)]=s'.sps.map Q4q:=by rw[hsp,hsps];simp
 rw[hk1,hk2,← hB.par,← hB.last,← hB.rem,← hB.lays,← hB.size] at H;have hnd:=V6b (H.pull 10);replace H:=Js [4,6,6,5,3,4,4,4,0,2,0,0] 0 H;replace H:=Q1s hw' hm' H;refine J15 H ?_;refine J35 H ?_;clear H;intro bS w H;replace H:Q0a w (pts bS (row 3 (Q1g [(r:Int),((s.last+1:Nat):Int)]++[]))::Q2z p { s' with rem:=s'.rem }::TKL (.slice a l.length c) l::fr):=H;replace H:=Q5x (E:=3) (k:=1) (len:=2) (cap:=2) (c:=Q1g [(r:Int),((s.last+1:Nat):Int)]) (spare:=[]) rfl ⟨by decide,by decide⟩ (by decide) H
 have hrec:=Y1b p s' s'.rem hnd _ [(r:Int),((s.last+1:Nat):Int)] (fun x hx=>by
  rw[hmn]
  rcases List.mem_cons.1 hx with rfl|hx
  ·simp
  ·rw[List.mem_singleton] at hx;subst hx;simp) (by simp) H
 refine Jc rfl rfl (hrec) ?_;clear H hrec;rintro w0 w ⟨rfl,D,R',hD,hN,H⟩;refine G9x H ?_;refine Q0g (Jy H rfl fun w' H' => .inr (.inr ⟨rfl,rfl,Z,{ s' with rem:=R' },hZ,⟨hB.size,hB.own,hB.lays,hB.last,hB.par,hB.tabl,hB.tab,hents,hkeys,⟨D,fun x=>?_,⟨hN.nd,hN.on,fun x hx=>by rw[hN.off x hx,hB.rem]⟩⟩,hB.part,fun hZ0=>hB.zero (by rw[hZ0];rfl)⟩,H'⟩));rw[hD x];constructor
 ·rintro⟨k,g,e,h1,h2,h3⟩;refine⟨k,g,e,⟨g,e,h1,?_⟩,h1,h3⟩
  rcases List.mem_cons.1 h2 with h2|h2
  ·exact .inl h2
  ·exact .inr (List.mem_singleton.1 h2)
 ·rintro⟨k,g,e,⟨g',e',h1,h2⟩,h3,h4⟩;refine⟨k,g,e,h3,?_,h4⟩;have h1:=h1.symm.trans h3;injection h1 with h1
  injection h1 with _ h1
  injection h1 with h1
  rw[← h1]
  rcases h2 with h2|h2
  ·rw[h2];exact List.mem_cons_self
  ·rw[h2];exact List.mem_cons_of_mem _ (List.mem_singleton.2 rfl)
end Go.Proofs.YtmjdnljneifpcaaGreatDoor
namespace Go.Proofs.YtmjdnljneifpcaaGreatDoor
open Go.SL
structure V7h (s:CS) (m:MS) (told:List (Nat×Nat)) (n:Nat):Prop where
 R:Rel s m told
 I:Inv s
 T:Q5d s.par
 P:Q3n s
 G:∀ (k:Nat) (t:Slt),s.tab[k]? = some t→t.gen≤told.length
 O:m.objs.length≤n
 Q:m.P.length≤n+1
theorem V7h.start (n size slots:Nat):V7h (cs0 n size slots) ms0 [] 0:=by
 refine⟨U9t n size slots,(U5n n size slots).inv,⟨List.nodup_nil,fun r q h=>(by cases h)⟩,fun k g e h=>?_,fun k t h=>?_,Nat.le_refl _,Nat.le_refl _⟩
 ·have h:(List.replicate slots (⟨0,none⟩:Slt))[k]? = some ⟨g,some e⟩:=h;rw[List.getElem?_replicate] at h;split at h <;> cases h
 ·have h:(List.replicate slots (⟨0,none⟩:Slt))[k]? = some t:=h;rw[List.getElem?_replicate] at h;split at h
  ·injection h with h
   subst h;exact Nat.le_refl _
  ·cases h
theorem G4e {ts us:List Slt} (h:Q3d us=Q3d ts) {k:Nat} {u:Slt} (hk:us[k]? = some u):∃ t,ts[k]? = some t∧t.gen=u.gen:=by
 have h1:(Q3d us)[k]? = some (u.gen,u.ent.isSome):=by
  unfold Q3d;rw[List.getElem?_map,hk];rfl
 rw[h] at h1;unfold Q3d at h1;rw[List.getElem?_map] at h1;cases ht:ts[k]? with
 | none=>rw[ht] at h1;cases h1
 | some t=>
  rw[ht] at h1;injection h1 with h1
  injection h1 with h1 _
  exact⟨t,rfl,h1⟩
theorem V7h.step {s s':CS} {m m':MS} {told told':List (Nat×Nat)} {n:Nat} (J:V7h s m told n) (R':Rel s' m' told') (S:U5m s m told s' m' told'):V7h s' m' told' (n+1):=by
 have h1:=S.objs;have h2:=S.P;have h3:=J.O;have h4:=J.Q;refine⟨R',S.inv J.I,S.tree J.T,S.part J.P,fun k t hk=>?_,by omega,by omega⟩
 rcases S.tab with ⟨e1,e2⟩|⟨k0,g0,e1,e2,_,e4⟩
 ·obtain⟨t0,a,b⟩:=G4e e2 hk;rw[e1,← b];exact J.G k t0 a
 ·have hlen:told'.length=told.length+1:=by rw[e1,List.length_append];rfl
  rw[hlen]
  have hs:(Q3d s'.tab)[k]? = some (t.gen,t.ent.isSome):=by
   unfold Q3d;rw[List.getElem?_map,hk];rfl
  rw[e4,List.getElem?_set] at hs;split at hs
  ·split at hs
   ·injection hs with hs
    injection hs with hs _
    have:=J.G k0 _ e2;dsimp only at this;omega
   ·cases hs
  ·unfold Q3d at hs;rw[List.getElem?_map] at hs;cases ht:s.tab[k]? with
   | none=>rw[ht] at hs;cases hs
   | some t0=>
    rw[ht] at hs;injection hs with hs
    injection hs with hs _
    have:=J.G k t0 ht;have hs:t0.gen=t.gen:=hs;omega
theorem V7h.free {s s':CS} {m:MS} {told:List (Nat×Nat)} {n:Nat} (J:V7h s m told n) (hm:MWF m) {id:Int} (hid:(fnd s.par id).isSome=true) {L:List Int} (h1:L.Nodup) (h2:L.Pairwise (·≤·)) (h3:∀ c,c∈L↔Y3k s.par id c) (hF:G7b s L s'):L=(Q7a m.P id).map (fun k:Nat=>(k:Int))∧V7h s' (Y1u m (Q7a m.P id)) told (n+1):=by
 have hL:=G3s J.R J.T hid h1 h2 h3;refine⟨hL,?_⟩;obtain⟨G,D,hT⟩:=hF.t;have hT':=hT;rw[hL] at hT';have h4:=J.O;have h5:=J.Q;refine⟨Z5r J.R hm J.I hT',G7d hT J.I,by rw[hT.par];exact Z3b J.T h3,hT.part J.P,fun k t hk=>?_,?_,?_⟩
 ·have hlt:k < s.tab.length:=by
   have:=(List.getElem?_eq_some_iff.1 hk).1;rw[hT.tabl] at this;exact this
  have ht:=List.getElem?_eq_getElem hlt;generalize s.tab[k]=t0 at ht;have:=hT.tab k t0 ht;rw[hk] at this;injection this with this
  have hg:=J.G k t0 ht;rw[this];split <;> exact hg
 ·show ((m.objs.map _).map _).length≤_;rw[List.length_map,List.length_map];omega
 ·show (Q5f m.P _).length≤_;unfold Q5f;rw[List.length_mapIdx];omega
theorem Z0j {s s':CS} {mv:Nat→Ent→Ent} (h:V6i s s' mv) {n:Nat} (hg:∀ (k:Nat) (t:Slt),s.tab[k]? = some t→t.gen≤n):∀ (k:Nat) (t:Slt),s'.tab[k]? = some t→t.gen≤n:=by
 intro k t hk
 have hlt:k < s.tab.length:=by
  have:=(List.getElem?_eq_some_iff.1 hk).1;rw[h.tabl] at this;exact this
 have ht:=List.getElem?_eq_getElem hlt;generalize s.tab[k]=t0 at ht;have:=h.tab k t0 ht;rw[hk] at this;injection this with this
 rw[this];exact hg k t0 ht
theorem V7h.merge {s s':CS} {m:MS} {told:List (Nat×Nat)} {n:Nat} (J:V7h s m told n) {id q:Nat} (hid:fnd s.par (id:Int)=some (q:Int)) (hq:q≠0) (hM:Y3s s id q s'):V7h s' (Z5q m id q) told (n+1):=by
 have h4:=J.O;have h5:=J.Q;obtain⟨u1,u2,u3⟩:=J.T.up _ _ hid;have hne:id≠q:=by omega
 refine⟨G3k J.R (by omega) hne hM,G3c hM (by omega) J.I,Y9s J.T hid (by omega) hM.par,hM.part J.P,Z0j hM.mv J.G,?_,?_⟩
 ·show (m.objs.map _).length≤_;rw[List.length_map];omega
 ·show (Q5p m.P id q).length≤_;unfold Q5p;rw[List.length_mapIdx];omega
theorem V7h.split {s s':CS} (hw:WF s) {m:MS} {told:List (Nat×Nat)} {n:Nat} (J:V7h s m told n) {r:Nat} (hr:(fnd s.par (r:Int)).isSome=true) {Z:List Pl} {os:List Nat} (h:Y3t s r Z s') (hos:∀ (o k g:Nat) (x:Mob),told[o]? = some (k,g)→m.objs[o]? = some x→x.gone=false→(o∈os↔k∈Z.map Pl.k)):V7h s' (Y0s m r os) told (n+1):=by
 have h4:=J.O;have h5:=J.Q
 have hrl:((r:Nat):Int)≤s.last:=by
  cases hf:fnd s.par (r:Int) with
  | none=>rw[hf] at hr;cases hr
  | some q=>exact(hw.par.2.2 _ _ ((Q3r J.T.nd).1 hf)).2
 refine⟨G3m hw J.R h hos,G3h hw hrl h J.I,?_,h.part,Z0j h.mv J.G,?_,?_⟩
 ·rw[h.par];exact V7a J.T (.inr hr) (by omega) (fun x q hx=>(hw.par.2.2 x q hx).2) hrl
 ·show (m.objs.mapIdx _).length≤_;rw[List.length_mapIdx];omega
 ·show (m.P++[_]).length≤_;rw[List.length_append];show _+1≤_;omega
theorem Z3j {s:CS} {m:MS} {told:List (Nat×Nat)} (R:Rel s m told) {r:Nat} {ys:List ((Nat×Nat)×Int)} (hy:∀ y∈ys,Y9z told y) (h0:Y1f s.tab r [] (ys.map (·.1))=0) {Z:List Pl} (hZ:Z.map (fun z=>(z.k,z.g))=ys.map (·.1)) :
  (∀ o∈ys.map (fun y=>y.2.toNat),o < m.objs.length)∧ys.map (·.2)=(ys.map fun y=>y.2.toNat).map (fun o:Nat=>(o:Int))∧∀ (o k g:Nat) (x:Mob),told[o]? = some (k,g)→m.objs[o]? = some x→x.gone=false→(o∈ys.map (fun y=>y.2.toNat)↔k∈Z.map Pl.k):=by
 obtain⟨c1,c2⟩:=Y5z h0
 have hat:∀ y∈ys,∃ n:Nat,y.2=n∧told[n]? = some y.1:=by
  intro y hyy
  rcases hy y hyy with h|⟨h1,h2⟩
  ·exact h
  ·exfalso;obtain⟨⟨e,he,_⟩,_⟩:=c1 y.1 (List.mem_map.2 ⟨y,hyy,rfl⟩);obtain⟨o,ho⟩:=R.used _ _ _ he;rw[h2] at ho;cases ho
 refine⟨fun o ho=>?_,?_,fun o k g x ht hx hg=>⟨fun ho=>?_,fun hk=>?_⟩⟩
 ·obtain⟨y,hyy,rfl⟩:=List.mem_map.1 ho;obtain⟨n,h1,h2⟩:=hat y hyy;rw[h1,Int.toNat_natCast,← R.len];exact(List.getElem?_eq_some_iff.1 h2).1
 ·rw[List.map_map];refine List.map_congr_left fun y hyy=>?_;obtain⟨n,h1,_⟩:=hat y hyy;show y.2=((y.2.toNat:Nat):Int);rw[h1,Int.toNat_natCast]
 ·obtain⟨y,hyy,rfl⟩:=List.mem_map.1 ho;obtain⟨n,h1,h2⟩:=hat y hyy;rw[h1,Int.toNat_natCast,h2] at ht;injection ht with ht
  have:(k,g)∈Z.map (fun z=>(z.k,z.g)):=by rw[hZ];exact List.mem_map.2 ⟨y,hyy,ht⟩
  obtain⟨z,z1,z2⟩:=List.mem_map.1 this;injection z2 with z2 _
  exact List.mem_map.2 ⟨z,z1,z2⟩
 ·obtain⟨z,z1,z2⟩:=List.mem_map.1 hk;have:(z.k,z.g)∈ys.map (·.1):=by rw[← hZ];exact List.mem_map.2 ⟨z,z1,rfl⟩
  obtain⟨y,hyy,hy1⟩:=List.mem_map.1 this;obtain⟨⟨e,he,_⟩,_⟩:=c1 y.1 (List.mem_map.2 ⟨y,hyy,rfl⟩);obtain⟨n,h1,h2⟩:=hat y hyy;rw[hy1] at he h2;dsimp only at he;obtain⟨e',he',_⟩:=R.obj o x k g hx ht hg;rw[z2,he'] at he;injection he with he
  injection he with hgg _
  have hon:=G6d R.nodup ht (by rw[h2,← z2,hgg]);refine List.mem_map.2 ⟨y,hyy,?_⟩;rw[h1,Int.toNat_natCast,hon]
end Go.Proofs.YtmjdnljneifpcaaGreatDoor
namespace Go.Proofs.YtmjdnljneifpcaaGreatDoor
open Go.SL
theorem V3e [Q0i] (p:Nat) (s:CS) (region:Int) {w:World} {fr:List Q0e} (H:Q0a w (Q2z p s::fr)) :
  Calls Tryz.prog 54 #[pp p,.int .i64 region] w (ret fun v w'=>v = .int .i64 (if (fnd s.par region).isSome then 0 else 15)∧Q0a w' (Q2z p s::fr)):=by
 obtain⟨q,mem,hw,hm,H⟩:=Q1u H;replace H:=Js [5,0,0,0,0,0] 0 H;refine call (V1w p q s.last s.par region H) ?_;clear H;rintro v w ⟨rfl,H⟩;replace H:=Js [1,1,1,1,1,0] 0 H;exact⟨rfl,Q1s hw hm H⟩
theorem G7j [Q0i] (p:Nat) (s:CS) (region:Int) (hf:fnd s.par region=none) {w:World} {fr:List Q0e} (H:Q0a w (Q2z p s::fr)) :
  Calls Tryz.prog 14 #[pp p,.int .i64 region] w (ret fun v w'=>v = .tuple #[.slice none 0 0,.int .i64 15]∧Q0a w' (Q2z p s::fr)):=by
 refine Q0c Tryz.func14 rfl (by kernel_rfl) ?_;refine J30 H ?_;clear H;intro b2 w H;refine J2 H ?_;replace H:=H.swap;refine J81 H ?_;refine Jc rfl rfl (V3e p s region H) ?_;clear H;rintro v w ⟨rfl,H⟩;rw[hf];refine U2w H ?_;exact Q0g (Jy H rfl fun w' H'=>⟨rfl,H'.swap.drop⟩)
theorem G4f [Q0i] (p:Nat) (s:CS) (region:Int) (hf:fnd s.par region=none) {w:World} {fr:List Q0e} (H:Q0a w (Q2z p s::fr)) :
  Calls Tryz.prog 27 #[pp p,.int .i64 region] w (ret fun v w'=>v = .tuple #[.int .i64 0,.int .i64 15]∧Q0a w' (Q2z p s::fr)):=by
 refine Q0c Tryz.func27 rfl (by kernel_rfl) ?_;refine J30 H ?_;clear H;intro b2 w H;refine J2 H ?_;replace H:=H.swap;refine J81 H ?_;refine Jc rfl rfl (V3e p s region H) ?_;clear H;rintro v w ⟨rfl,H⟩;rw[hf];refine U2w H ?_;exact Q0g (Jy H rfl fun w' H'=>⟨rfl,H'.swap.drop⟩)
theorem G4g [Q0i] (p:Nat) (s:CS) (region:Int) (l:Value) (hf:fnd s.par region=none) {w:World} {fr:List Q0e} (H:Q0a w (Q2z p s::fr)) :
  Calls Tryz.prog 20 #[pp p,.int .i64 region,l] w (ret fun v w'=>v = .tuple #[.int .i64 0,.int .i64 15]∧Q0a w' (Q2z p s::fr)):=by
 refine Q0c Tryz.func20 rfl (by kernel_rfl) ?_;refine J68 H ?_;refine Jc rfl rfl (V3e p s region H) ?_;clear H;rintro v w ⟨rfl,H⟩;rw[hf];refine U2w H ?_;exact Q0g (Jy H rfl fun w' H'=>⟨rfl,H'⟩)
end Go.Proofs.YtmjdnljneifpcaaGreatDoor
namespace Go.Proofs.YtmjdnljneifpcaaGreatDoor
open Go.SL
theorem Z9i [Q0i] (p:Nat) (m:MS) (r:Int) (hl:Q5k m.P r=false) {w:World} {fr:List Q0e} (H:Q0a w (Q2p p m::fr)) :
  Calls Tryz.prog 102 #[pp p,.int .i64 r] w (ret fun v w'=>v = .tuple #[.int .i64 0,.int .i64 15]∧Q0a w' (Q2p p m::fr)):=by
 obtain⟨t,lc,oc,aL,cL,aO,cO,h1,h2,h3,h4,h5,H⟩:=Q2t H;refine Q0c Tryz.func102 rfl (by kernel_rfl) ?_;refine U4w H ?_;replace H:=H.swap;refine Jc rfl rfl (Q7f t m.P r H) ?_;clear H;rintro v w ⟨rfl,H⟩;rw[hl];refine U4x H ?_;exact Q0g (Jy (Q2v h1 h2 h3 H.swap) rfl fun w' H'=>⟨rfl,H'⟩)
@[reducible] def U3a (K k A B C:Int) (X:Nat) (vW:Value) (raw:Bool) (i g rg:Int) (vL:Value):List Value:=[.int .i64 K,.int .i64 k,.int .i64 A,.int .i64 B,.int .i64 C,.int .u64 X,vW,.bool raw,.int .i64 i,.int .i64 g,.int .i64 rg,vL]
theorem G4h [Q0i] (p:Nat) (s:CS) (m:MS) (told:List (Nat×Nat)) (n:Nat) (J:V7h s m told n) (hn:n≤60) (K k A B C i g:Int) (hK3:K≠3) (X:Nat) (hX:X < 18446744073709551616) (vW:Value) (ws:List Nat) (hws:∀ x∈ws,x < 18446744073709551616) (raw:Bool) (rg:Int) (vL:Value) (L:List Int) (hL:L.length≤80)
  {w:World} {fr:List Q0e} [hT:Q4t 0 Lib.deBruijn64tab fr] (hrW:RdS fr vW ws.length 1 (Q1b ws)) (hrL:RdS fr vL L.length 1 (Q1g L)) (H:Q0a w (RUN p s m told::fr)) :
  Calls Tryz.prog 36 #[.agg (U3a K k A B C X vW raw i g rg vL).toArray,pp p] w (ret fun v w'=>v = .bool true∧∃ s' m' told',V7h s' m' told' (n+1)∧Q0a w' (RUN p s' m' told'::fr)):=by
 obtain⟨_,adW,capW,rfl,_⟩:=id hrW;obtain⟨_,adL,capL,rfl,_⟩:=id hrL;have hO:=J.O;have hQ:=J.Q;have hlen:=J.R.len;have hOl:=Y6d J.R J.T;have Jn:V7h s m told (n+1):=⟨J.R,J.I,J.T,J.P,J.G,by omega,by omega⟩
 have hgen:∀ (k g:Nat) (e:Ent),s.tab[k]? = some ⟨g,some e⟩→g < 255:=fun k g e hk=>by
  have:=J.G k _ hk;dsimp only at this;omega
 refine Q0c Tryz.func36 rfl (by kernel_rfl) ?_;refine J8 H ?_;clear H;intro b2 w H;refine G9s H ?_;refine Q0h ?_;refine J96 H ?_;by_cases hK0:K=0
 ·subst hK0;refine J13 H ?_;refine J20 H ?_;refine U8k H ?_;refine Jc rfl rfl (U1b p s m told J.R (by omega) (by omega) k A B C i g X hX _ ws hws raw hrW.there H.swap) ?_;clear H;rintro v w ⟨rfl,s',m',told',R',S',H⟩;refine J0 H ?_;exact Q0g (Jy H.swap.drop rfl fun w' H'=>⟨rfl,s',m',told',J.step R' S',H'⟩)
 rw[show (K == 0)=false by simpa using hK0];refine J31 H ?_;obtain⟨c,mo,a,cap,H⟩:=Y5s H.swap;obtain⟨_,_,hw,_,_⟩:=Q1u H.swap;obtain⟨_,_,_,_,_,_,_,hmw,_⟩:=Q2t (H.sel [2,0,0,0] 0);by_cases hK1:K=1
 ·subst hK1;refine J13 H ?_;replace H:=Js [1,3,0,0,0] 0 H;refine J1 H ?_;clear H;intro w H;refine U9f H ?_;cases hf:fnd s.par rg with
  | none=>
   have hlv:Q5k m.P rg=false:=by rw[← V0i J.R,hf];rfl
   refine Jo 6 H ?_;refine Jk rfl rfl (G7j c s rg hf H) ?_;clear H;rintro v w ⟨rfl,H⟩;refine J46 H ?_;replace H:=Js [3,0,0,0,0] 0 H;refine J1 H ?_;clear H;intro w H;refine J82 H ?_;refine Jk rfl rfl (Y0z mo m rg hOl H) ?_;clear H;rintro v w (⟨_,rfl,H⟩|⟨hl,_⟩)
   case inr=>rw[hlv] at hl;cases hl
   refine U8l H ?_;refine J33 H ?_;replace H:=Q3x (E:=3) (k:=1) (Q3x (E:=3) (k:=1) H);refine Q4u rfl rfl rfl (Q1h (a:=[]) (b:=[]) rfl rfl (call (V4m (.slice none 0 0) (.slice none 0 0) [] [] (by simp) H) ?_));clear H;rintro v w ⟨rfl,H⟩;replace H:=H.drop.drop;refine J2 H ?_;replace H:=Js [2,2,1,0,0] 0 H;exact Q0g (Jy (Q4j H.drop) rfl fun w' H'=>⟨rfl,s,m,told,Jn,H'⟩)
  | some q=>
   have hid:(fnd s.par rg).isSome=true:=by rw[hf];rfl
   have hlv:Q5k m.P rg=true:=by rw[← V0i J.R,hid]
   have hpl:=hw.par.1;refine Jo 6 H ?_;refine Jk rfl rfl (Y3x c s rg J.T hid J.I hgen H) ?_;clear H;rintro v w ⟨u,L',s',rfl,hL1,hL2,hL3,hL4,hFS,H⟩;obtain⟨hLe,J'⟩:=J.free hmw hid hL1 hL2 hL3 hFS;obtain⟨au,mu,cu,rfl⟩:=Q1d H;refine J46 H ?_;replace H:=Js [4,0,0,0,0] 0 H;refine J1 H ?_;clear H;intro w H;refine J82 H ?_;refine Jk rfl rfl (Y0z mo m rg hOl H) ?_;clear H;rintro v w (⟨hl,_⟩|⟨_,vl,rfl,H⟩)
   ·rw[hlv] at hl;cases hl
   rw[Z0f,← hLe] at H;obtain⟨av,mv,cv,rfl⟩:=Q1d H;refine J46 H ?_;replace H:=Js [2,0,0] 0 H;refine J73 H ?_;refine J33 H ?_;refine Q4u rfl rfl rfl (Q1h (a:=[]) (b:=[]) rfl rfl (call (V4m _ _ L' L' (by omega) H) ?_));clear H;rintro v w ⟨rfl,H⟩;rw[decide_eq_true rfl];replace H:=H.drop.drop;refine J2 H ?_;replace H:=Js [2,2,1,0,0] 0 H;exact Q0g (Jy (Q4j H.drop) rfl fun w' H'=>⟨rfl,s',_,told,J',H'⟩)
 rw[show (K == 1)=false by simpa using hK1];refine J31 H ?_;by_cases hK2:K=2
 ·subst hK2;refine J13 H ?_;replace H:=Js [1,3,0,0,0] 0 H;refine J1 H ?_;clear H;intro w H;refine U9f H ?_;cases hf:fnd s.par rg with
  | none=>
   have hlv:Q5k m.P rg=false:=by rw[← V0i J.R,hf];rfl
   refine Jo 6 H ?_;refine Jk rfl rfl (G4f c s rg hf H) ?_;clear H;rintro v w ⟨rfl,H⟩;refine J46 H ?_;replace H:=Js [3,0,0,0,0] 0 H;refine J1 H ?_;clear H;intro w H;refine J82 H ?_;refine Jk rfl rfl (Z9i mo m rg hlv H) ?_;clear H;rintro v w ⟨rfl,H⟩;refine U8l H ?_;refine J44 H ?_;refine J2 H ?_;replace H:=Js [2,2,1,0,0] 0 H;exact Q0g (Jy (Q4j H.drop) rfl fun w' H'=>⟨rfl,s,m,told,Jn,H'⟩)
  | some q=>
   obtain⟨id,rfl,hid1,hPid,hq0⟩:=(J.R.tree _ _).1 ((Q3r J.R.nd).1 hf);obtain⟨qn,rfl⟩:∃ qn:Nat,q=qn:=⟨q.toNat,by omega⟩;refine Jo 6 H ?_;refine Jk rfl rfl (Z3h c s (id:Int) (qn:Int) hf J.T H) ?_;clear H;rintro v w (⟨hz,rfl,H⟩|⟨hz,rfl,s',hM,H⟩)
   ·refine J46 H ?_;replace H:=Js [3,0,0,0,0] 0 H;refine J1 H ?_;clear H;intro w H;refine J82 H ?_;refine Jk rfl rfl (V7f mo m id (qn:Int) hid1 hPid hq0 H) ?_;clear H;rintro v w (⟨_,rfl,H⟩|⟨hz',_⟩)
    case inr=>exact absurd hz hz'
    refine U8l H ?_;refine J44 H ?_;refine J2 H ?_;replace H:=Js [2,2,1,0,0] 0 H;exact Q0g (Jy (Q4j H.drop) rfl fun w' H'=>⟨rfl,s,m,told,Jn,H'⟩)
   ·have J':=J.merge hf (by omega) hM;refine J46 H ?_;replace H:=Js [3,0,0,0,0] 0 H;refine J1 H ?_;clear H;intro w H;refine J82 H ?_;refine Jk rfl rfl (V7f mo m id (qn:Int) hid1 hPid hq0 H) ?_;clear H;rintro v w (⟨hz',_⟩|⟨_,rfl,H⟩)
    ·exact absurd hz' hz
    rw[Int.toNat_natCast] at H;refine J46 H ?_;refine J15 H ?_;rw[Q5e ((qn:Nat):Int)];refine U4i H ?_;refine J2 H ?_;replace H:=Js [2,2,1,0,0] 0 H;exact Q0g (Jy (Q4j H.drop) rfl fun w' H'=>⟨rfl,s',_,told,J',H'⟩)
 rw[show (K == 2)=false by simpa using hK2];refine J31 H ?_;rw[show (K == 3)=false by simpa using hK3];refine J98 H ?_;replace H:=Js [4,0,0,0,0] 0 H;exact Q0g (Jy (Q4j H.drop) rfl fun w' H'=>⟨rfl,s,m,told,Jn,H'⟩)
end Go.Proofs.YtmjdnljneifpcaaGreatDoor
namespace Go.Proofs.YtmjdnljneifpcaaGreatDoor
open Go.SL
theorem Z9j {s:CS} {r:Int} {l:List (Nat×Nat)} (h:Q6l s r l=0):l.length≤64∧Y1f s.tab r [] l=0:=by
 unfold Q6l at h;split at h
 ·cases h
 ·rename_i h1;split at h
  ·rename_i h2;exact absurd h h2
  ·rename_i h2;exact⟨by omega,Classical.not_not.1 h2⟩
theorem G7k {m:MS} {r:Int} {os:List Int} (h:Z0r m r os=0):Y1e m.P r=0:=by
 unfold Z0r at h;split at h
 ·cases h
 ·rename_i h1;split at h
  ·cases h
  ·split at h
   ·rename_i h2;exact absurd h h2
   ·split at h
    ·cases h
    ·rename_i h3;unfold Y1e;rw[if_neg (fun h4=>h1 h4.2),if_neg h3]
theorem Z3k [Q0i] (p:Nat) (m:MS) (r:Nat) (os:List Nat) (al:Option Addr) (cl:Nat) (hd:Y1e m.P (r:Int)=0) (hPl:m.P.length < 100000) (hos:∀ o∈os,o < m.objs.length) (hl:os.length≤64) (OL:List Int) (hOL:OL=os.map fun o:Nat=>(o:Int)) {w:World} {fr:List Q0e} (H:Q0a w (Q2p p m::IL (.slice al OL.length cl) OL::fr)) :
  Calls Tryz.prog 104 #[pp p,.int .i64 r,.slice al OL.length cl] w (ret fun v w'=>v = .int .i64 m.P.length∧Q0a w' (Q2p p (Y0s m r os)::IL (.slice al OL.length cl) OL::fr)):=by
 have e:OL.length=os.length:=by rw[hOL,List.length_map]
 have h:=Z0b p m r os al cl hd hPl hos hl (w:=w) (fr:=fr) (by rw[Z0f,← hOL,← e];exact H);rw[Z0f,← hOL,← e] at h;exact h
theorem Z9k [Q0i] (p:Nat) (s:CS) (m:MS) (told:List (Nat×Nat)) (n:Nat) (J:V7h s m told n) (hn:n≤60) (k A B C i g:Int) (X:Nat) (hX:X < 18446744073709551616) (vW:Value) (ws:List Nat) (hws:∀ x∈ws,x < 18446744073709551616) (raw:Bool) (rg:Int) (vL:Value) (L:List Int) (hL:L.length≤80)
  {w:World} {fr:List Q0e} [hT:Q4t 0 Lib.deBruijn64tab fr] (hrW:RdS fr vW ws.length 1 (Q1b ws)) (hrL:RdS fr vL L.length 1 (Q1g L)) (H:Q0a w (RUN p s m told::fr)) :
  Calls Tryz.prog 36 #[.agg (U3a 3 k A B C X vW raw i g rg vL).toArray,pp p] w (ret fun v w'=>v = .bool true∧∃ s' m' told',V7h s' m' told' (n+1)∧Q0a w' (RUN p s' m' told'::fr)):=by
 obtain⟨_,adW,capW,rfl,_⟩:=id hrW;obtain⟨_,adL,capL,rfl,_⟩:=id hrL;have hO:=J.O;have hQ:=J.Q;have hlen:=J.R.len;have hOl:=Y6d J.R J.T;have Jn:V7h s m told (n+1):=⟨J.R,J.I,J.T,J.P,J.G,by omega,by omega⟩
 have hgen:∀ (k g:Nat) (e:Ent),s.tab[k]? = some ⟨g,some e⟩→g < 255:=fun k g e hk=>by
  have:=J.G k _ hk;dsimp only at this;omega
 refine Q0c Tryz.func36 rfl (by kernel_rfl) ?_;refine J8 H ?_;clear H;intro b2 w H;refine G9s H ?_;refine Q0h ?_;refine J96 H ?_;refine J31 H ?_;obtain⟨c,mo,a,cap,H⟩:=Y5s H.swap;obtain⟨_,_,hw,_,_⟩:=Q1u H.swap;obtain⟨_,_,_,_,_,_,_,hmw,_⟩:=Q2t (H.sel [2,0,0,0] 0);refine J31 H ?_;refine J31 H ?_;refine J13 H ?_;replace H:=Js [0,2,0,0,0] 0 H;refine U0d H ?_;refine Jc rfl rfl (Z3g p c mo a cap told (by omega) _ L (by omega) hrL.there.there.there H) ?_;clear H;rintro v w ⟨ys,vt,vo,rfl,hys,hch,H⟩;generalize hTL:ys.map (·.1)=TL at H;generalize hOL:ys.map (·.2)=OL at H;obtain⟨at',ct,rfl⟩:=Q0j (m:=TL.length) H (Q6k _) (by decide);obtain⟨ao,co,rfl⟩:=Q0j (m:=OL.length) H.drop (Q0r _) (by decide);have hl1:TL.length=ys.length:=by rw[← hTL,List.length_map]
 have hl2:OL.length=ys.length:=by rw[← hOL,List.length_map]
 refine J32 H ?_;replace H:=Js [4,0,0,0,0] 0 H;refine J1 H ?_;clear H;intro w H;refine Ja 0 ?_;refine Ja 1 ?_;refine Jf 2 ?_;refine Jl 3 [7] H ?_;refine Jf 4 ?_;refine Jl 5 [7] H ?_;refine Ja 6 ?_;cases hf:fnd s.par rg with
 | none=>
  have hlv:Q5k m.P rg=false:=by rw[← V0i J.R,hf];rfl
  have hW:Z0r m rg OL=15:=by unfold Z0r;rw[if_pos hlv]
  refine Jo 7 H ?_;refine Jk rfl rfl (G4g c s rg (.slice at' TL.length ct) hf H) ?_;clear H;rintro v w ⟨rfl,H⟩;refine U2y H ?_;replace H:=Js [5,2,0,0,0,0] 0 H;refine J1 H ?_;clear H;intro w H;refine U8o H ?_;refine Jk rfl rfl (V1x mo m rg OL ao co (by omega) H) ?_;clear H;rintro v w ⟨rfl,H⟩;rw[hW];refine J69 H ?_;refine J90 H ?_;refine J67 H ?_;refine J73 H ?_;refine J33 H ?_;refine J2 H ?_;replace H:=Js [6,3,1,2,1,0,0] 0 H;exact Q0g (Jy (Q4j H.drop.drop.drop) rfl fun w' H'=>⟨rfl,s,m,told,Jn,H'⟩)
 | some q=>
  obtain⟨r,rfl,hr1,hPr,hq0⟩:=(J.R.tree _ _).1 ((Q3r J.R.nd).1 hf);have hid:(fnd s.par (r:Int)).isSome=true:=by rw[hf];rfl
  have hlast:=J.R.last;have hck:=G3o J.R hw hid hch;rw[hTL,hOL] at hck;refine Jo 7 H ?_;refine Jk rfl rfl (Z3i c s r hid J.T J.P (by omega) (.slice at' TL.length ct) TL (by omega) H) ?_;clear H;rintro v w (⟨hc,rfl,H⟩|⟨hc,rfl,hroom,H⟩|⟨hc,rfl,Z,s',hZ,hS,H⟩)
  ·refine U2y H ?_;replace H:=Js [5,2,0,0,0,0] 0 H;refine J1 H ?_;clear H;intro w H;refine U8o H ?_;refine Jk rfl rfl (V1x mo m r OL ao co (by omega) H) ?_;clear H;rintro v w ⟨rfl,H⟩;rw[← hck];refine J69 H ?_;generalize Q6l s r TL=E at hc hck;refine J43 H ?_;refine J11 H ?_;rw[show (((E:Nat):Int) != 0)=true by rw[bne_iff_ne];omega];refine U8j H ?_;rw[Q5e ((E:Nat):Int)];refine J72 H ?_;refine J2 H ?_;replace H:=Js [6,3,1,2,1,0,0] 0 H;exact Q0g (Jy (Q4j H.drop.drop.drop) rfl fun w' H'=>⟨rfl,s,m,told,Jn,H'⟩)
  ·refine U2y H ?_;replace H:=Js [5,2,0,0,0,0] 0 H;refine J1 H ?_;clear H;intro w H;refine U8o H ?_;refine Jk rfl rfl (V1x mo m r OL ao co (by omega) H) ?_;clear H;rintro v w ⟨rfl,H⟩;rw[← hck,hc];refine J69 H ?_;refine J90 H ?_;refine U5d H ?_;refine J67 H ?_;replace H:=Js [2,0,0] 0 H;obtain⟨u,mem,hw2,hm2,H⟩:=Q1u H;refine U0a H ?_;refine J34 H ?_;refine J53 H ?_;replace H:=Js [3,0,0,0] 0 H;refine Q4u rfl rfl rfl (Q1h (a:=[]) (b:=[]) rfl rfl (call (G0u u.sp s.size mem s.own H) ?_));clear H;rintro v w ⟨rfl,H⟩;replace H:=Js [1,1,1,0] 0 H;replace H:=Q1s hw2 hm2 H;refine J25 H ?_;refine Q4u rfl rfl rfl (Q1z rfl rfl ?_);refine J25 H ?_;have hTO:TL.length=OL.length:=by omega
   rw[show decide (((s.own.length - (s.own.filter (· != 0)).length:Nat):Int) < ((OL.length:Nat):Int))=true from decide_eq_true (by omega)];refine J2 H ?_;replace H:=Js [6,3,2,2,0,0,0] 0 H;exact Q0g (Jy (Q4j H.drop.drop.drop) rfl fun w' H'=>⟨rfl,s,m,told,Jn,H'⟩)
  ·refine U2y H ?_;replace H:=Js [5,2,0,0,0,0] 0 H;refine J1 H ?_;clear H;intro w H;refine U8o H ?_;refine Jk rfl rfl (V1x mo m r OL ao co (by omega) H) ?_;clear H;rintro v w ⟨rfl,H⟩;rw[← hck,hc];refine J69 H ?_;refine J90 H ?_;refine U5d H ?_;refine J17 H ?_;refine J1 H ?_;clear H;intro w H;refine U5f H ?_;refine U7n H ?_;refine Jl 7 [11] H ?_;refine Jf 8 ?_;refine Jl 9 [11] H ?_;refine Ja 10 ?_;have hm0:Z0r m r OL=0:=by rw[← hck];exact hc
   obtain⟨hlT,hc0⟩:=Z9j hc;rw[← hTL] at hc0 hZ;obtain⟨ho1,ho2,ho3⟩:=Z3j J.R hch hc0 hZ;have J':=J.split hw hid hS ho3;have hol:(ys.map fun y=>y.2.toNat).length=ys.length:=List.length_map _;have hOLe:OL=(ys.map fun y=>y.2.toNat).map fun o:Nat=>(o:Int):=by rw[← hOL];exact ho2
   generalize (ys.map fun y=>y.2.toNat)=os at ho1 hOLe J' hol;refine Jo 11 H ?_;refine Jk rfl rfl (Z3k mo m r os ao co (G7k hm0) (by omega) ho1 (by omega) OL hOLe H) ?_;clear H;rintro v w ⟨rfl,H⟩;refine Ja 12 ?_;rw[hlast,Q5e ((m.P.length:Nat):Int)];refine U2u H ?_;replace H:=Js [6,3,1,2,1,0,0] 0 H;exact Q0g (Jy (Q4j H.drop.drop.drop) rfl fun w' H'=>⟨rfl,s',_,told,J',H'⟩)
end Go.Proofs.YtmjdnljneifpcaaGreatDoor
namespace Go.Proofs.YtmjdnljneifpcaaGreatDoor
open Go.SL
structure Ac2 where
 K:Int
 a:Ac
 rg:Int
 vL:Value
 L:List Int
def Q6u (x:Ac2):List Value:=U3a x.K x.a.k x.a.A x.a.B x.a.C x.a.X x.a.vW x.a.raw x.a.i x.a.g x.rg x.vL
def Q9f (l:List Ac2):List Value:=l.flatMap Q6u
def U1n (fr:List Q0e) (x:Ac2):Prop:=U8r fr x.a∧RdS fr x.vL x.L.length 1 (Q1g x.L)
theorem U1n.there {A:Q0e} {fr:List Q0e} {x:Ac2} (h:U1n fr x):U1n (A::fr) x:=⟨⟨h.1.1,h.1.2.1,h.1.2.2.there⟩,h.2.there⟩
theorem Y1v (l:List Ac2):(Q9f l).length=l.length*12:=by
 induction l with
 | nil=>rfl
 | cons p L ih=>simp only[Q9f,Q6u,List.flatMap_cons,List.length_append,List.length_cons,List.length_nil] at ih ⊢;omega
theorem Z3l {L:List Ac2} {i:Nat} {x:Ac2} (h:L[i]? = some x):∀ j v,(Q6u x)[j]? = some v→(Q9f L)[i*12+j]? = some v:=by
 induction L generalizing i with
 | nil=>simp at h
 | cons y L ih=>
  intro j v hj;have hj9:j < 12:=(List.getElem?_eq_some_iff.1 hj).1;cases i with
  | zero=>
   simp at h;subst h;show (Q6u y++L.flatMap Q6u)[0*12+j]? = _;rw[Nat.zero_mul,Nat.zero_add,List.getElem?_append_left hj9];exact hj
  | succ i=>
   have:=ih (i:=i) (by simpa using h) j v hj;show (Q6u y++L.flatMap Q6u)[(i+1)*12+j]? = _;rw[List.getElem?_append_right (by show 12≤_;omega)];show (L.flatMap Q6u)[(i+1)*12+j - 12]? = _;rw[show (i+1)*12+j - 12=i*12+j by omega];exact this
theorem Y4a {c:List Value} {o n:Nat} {L:List Ac2} (h:Q0o c o n (Q9f L)) {i:Nat} {x:Ac2} (hp:L[i]? = some x):Q0o c (o+i*12) 12 (Q6u x):=
 h.part (es:=Q6u x) fun j v hj=>Z3l hp j v hj
theorem U5z {i:Nat} (h:i < 9223372036854775807):Value.int .i64 (IntKind.i64.wrap ((i:Int)+1)) = .int .i64 ((i+1:Nat):Int):=by
 rw[Q1e (by omega) (by omega)];rfl
theorem sls_rd [Q0i] {w:World} {l:List Q0e} {E k m cap:Nat} {a:Option Addr} {c:List Value} (hc:c.length=m*k) (H:Q0a w (sls E k (.slice a m cap) c::l)):∃ A:Q0e,Q0a w (A::l)∧RdS (A::l) (.slice a m cap) m k c:=by
 by_cases hm:m=0
 ·exact⟨prop True,Q0a.prop.2 ⟨trivial,H.drop⟩,hc,a,cap,rfl,.inl hm⟩
 ·obtain⟨b,s,rfl,H,_⟩:=Q0y H (by omega);refine⟨_,H,hc,_,cap,rfl,.inr ⟨b,0,E,(0,0),c++s,rfl,inferInstance,?_⟩⟩;rw[← hc];refine Q0o.of_get fun j v hj=>?_;rw[Nat.zero_add,List.getElem?_append_left (List.getElem?_eq_some_iff.1 hj).1];exact hj
theorem Z3m [Q0i] (v:Value) (l:List Ac) (hl:l.length≤9223372036854775807) {w:World} {fr:List Q0e} (hr:RdS fr v l.length 9 (V2h l)) (hok:∀ x∈l,U8r fr x) (H:Q0a w fr) :
  Calls Tryz.prog 34 #[v] w (ret fun r w'=>∃ b:Bool,r = .int .i64 (if b then 1 else 0)∧(b=false→l.length≤60)∧Q0a w' fr):=by
 refine Q0c Tryz.func34 rfl (by kernel_rfl) ?_;refine J14 H ?_;obtain⟨_,ad,cap,rfl,_⟩:=id hr;refine J20 H ?_;refine Jc rfl rfl (G2p _ l hl hr hok H) ?_;clear H;rintro r w ⟨b,rfl,hb,H⟩;refine Q0h ?_;cases b with
 | true=>
  refine J21 H ?_;exact Q0g (Jy H rfl fun w' H'=>⟨true,rfl,fun h=>(by cases h),H'⟩)
 | false=>
  refine J98 H ?_;exact Q0g (Jy H rfl fun w' H'=>⟨false,rfl,hb,H'⟩)
theorem Z3n [Q0i] (v:Value) (l:List Ac2) (hl:l.length*128≤140737488351232) {w:World} {fr:List Q0e} (hr:RdS fr v l.length 12 (Q9f l)) (hok:∀ x∈l,U1n fr x) (H:Q0a w fr) :
  Calls Tryz.prog 9 #[v] w (ret fun r w'=>∃ b,r = .bool b∧(b=false→l.length≤60∧∀ x∈l,x.L.length≤80)∧Q0a w' fr):=by
 obtain⟨h0,ad,cap,rfl,hrd⟩:=hr;refine Q0c Tryz.func9 rfl (by kernel_rfl) ?_;refine J14 H ?_;refine U1q H ?_;refine Q1l (fun ms σ w n=>ms=[]∧∃ (i:Nat) (vi:Value),i≤l.length∧n=l.length - i∧(∀ x∈l.take i,x.L.length≤80)∧σ 3=vi∧σ 6 = .slice ad l.length cap∧σ 7 = .int .i64 l.length∧σ 8 = .int .i64 i∧Q0a w (sls 93 9 vi (V2h ((l.take i).map Ac2.a))::fr)) (m:=l.length) ⟨rfl,0,_,by omega,rfl,fun x hx=>(by simp at hx),rfl,rfl,rfl,rfl,Q3x H⟩ ?_;clear H;rintro ms σ w n ⟨rfl,i,vi,hi,rfl,hsm,g3,g6,g7,g8,H⟩;obtain⟨ai,mi,ci,rfl⟩:=Q1d H;rw[Q0b g3,Q0b g6,Q0b g7,Q0b g8];refine J5 H ?_;refine Q2d rfl (fun h=>Q0w ?_) (fun h=>Q1n ?_)
 ·have hlt:i < l.length:=by omega
  have hy:=List.getElem?_eq_getElem hlt;have htk:l.take (i+1)=l.take i++[l[i]]:=by rw[List.take_add_one,hy];rfl
  generalize l[i]=y at hy htk;have hym:=hok y (List.mem_of_getElem? hy)
  rcases hrd with hz|⟨b,o,E,fz,c,rfl,hA,hrd⟩
  ·omega
  haveI:=hA;obtain⟨K,⟨k,A,B,C,X,vW,ws,raw,i1,gg1⟩,rg,vL,L⟩:=y;obtain⟨⟨_,_,_,adW,capW,hvW,_⟩,_,adL,capL,hvL,_⟩:=hym;replace hvW:vW = .slice adW ws.length capW:=hvW;replace hvL:vL = .slice adL L.length capL:=hvL;subst hvW hvL;refine J19 H ?_;refine Jd ?_;refine Q0s rfl (Q1j H rfl (Y4a hrd hy) rfl ?_);refine J12 H ?_;clear H;intro b5 w H;refine J4 H ?_;clear H;intro w H;refine Q0h ?_;replace H:Q0a w (pts b5 (row 95 (U3a K k A B C X (.slice adW ws.length capW) raw i1 gg1 rg (.slice adL L.length capL)))::_):=H;refine J88 H ?_;refine J57 H ?_;by_cases h80:(L.length:Int) > 80
  ·rw[show decide ((L.length:Int) > 80)=true from decide_eq_true (by omega)];refine J21 H ?_;exact Q0g (Jy H.drop.drop rfl fun w' H'=>⟨true,rfl,fun h=>(by cases h),H'⟩)
  ·rw[show decide ((L.length:Int) > 80)=false from decide_eq_false (by omega)];refine U1y H ?_;refine U8k H ?_;refine J35 H ?_;clear H;intro b19 w H;replace H:=Js [2,0,0] 0 H
   refine Q0s rfl (Z6i H rfl rfl (by repeat first|exact .nil _|apply Q0o.cons rfl) rfl (by decide) (fun n hn=>by
    rw[V0j,List.length_map,List.length_take] at hn;omega) rfl rfl ?_);clear H;intro v20 w H
   obtain⟨a20,m20,c20,rfl⟩:=Q1d H;refine J0 H ?_;replace H:=Js [1,1,0] 0 H;replace H:=H.drop.drop
   have e1:V2h ((l.take i).map Ac2.a)++[.int .i64 k,.int .i64 A,.int .i64 B,.int .i64 C,.int .u64 X,.slice adW ws.length capW,.bool raw,.int .i64 i1,.int .i64 gg1]=V2h ((l.take (i+1)).map Ac2.a):=by
    rw[htk,List.map_append];unfold V2h;rw[List.flatMap_append];rfl
   rw[e1] at H;refine J3 H ?_;refine⟨_,⟨rfl,i+1,_,hlt,rfl,fun x hx=>?_,rfl,rfl,rfl,U5z (by omega),H⟩,by omega⟩;rw[htk] at hx
   rcases List.mem_append.1 hx with hx|hx
   ·exact hsm x hx
   ·rw[List.mem_singleton] at hx;subst hx;show L.length≤80;omega
 ·obtain rfl:i=l.length:=by omega
  rw[List.take_length] at H hsm;have hla:(l.map Ac2.a).length=l.length:=List.length_map _;obtain⟨ai,ci,hv⟩:=Q0j (m:=(l.map Ac2.a).length) H (V0j _) (by decide);injection hv with hv1 hv2 hv3
  subst hv1 hv2 hv3;refine J20 H ?_;obtain⟨A,H,hR⟩:=sls_rd (V0j _) H
  refine Q0s rfl (Q1h (a:=[]) (b:=[]) rfl rfl (call (Z3m _ (l.map Ac2.a) (by omega) hR (fun x hx=>by
     obtain⟨y,hy,rfl⟩:=List.mem_map.1 hx;have:=(hok y hy).1;exact⟨this.1,this.2.1,this.2.2.there⟩) H) ?_))
  clear H;rintro r w ⟨b,rfl,hb,H⟩;cases b with
  | true=>
   refine J2 H ?_;exact Q0g (Jy H.drop rfl fun w' H'=>⟨true,rfl,fun h=>(by cases h),H'⟩)
  | false=>
   refine J2 H ?_;have:=hb rfl;exact Q0g (Jy H.drop rfl fun w' H'=>⟨false,rfl,fun _=>⟨by omega,hsm⟩,H'⟩)
end Go.Proofs.YtmjdnljneifpcaaGreatDoor
namespace Go.Proofs.YtmjdnljneifpcaaGreatDoor
open Go.SL
def jB:MS:=⟨[-1,0,1],[L0],[]⟩
def jC:MS:=Y5k jB 1 1 0
def jD:MS:=Y5k jC 2 1 0
def jE:MS:=(V7m jD 0 1 1).1
def jF:MS:=Y1u jE [2]
theorem U6a:MWF jB:=⟨⟨by simp[jB],by simp[jB]⟩,⟨by simp[jB],fun l h=>by simp[jB] at h;subst h;exact U5o⟩,(fun x h=>by simp[jB] at h),by simp[jB]⟩
theorem U6b:V0p jB 1 1 0=(2,0):=by decide
theorem U6c:V0p jC 2 1 0=(2,0):=by decide
theorem U6d:MWF jC:=Y5m (by rw[U6b]) U6a (by simp[jB])
theorem U1o:MWF jD:=Y5m (by rw[U6c]) U6d (by show (jB.objs++[_]).length < _;simp[jB])
theorem U9o:MWF jE:=by
 show MWF (V7z jD 0 { Y8b 1 1 0 2 with kind:=(Y8b 1 1 0 2).kind.set 1 2,to:=(Y8b 1 1 0 2).to.set 1 1 });exact V2w U1o (V9o (U1o.objs _ (show Y8b 1 1 0 2∈[Y8b 1 1 0 2,Y8b 2 1 0 2] from List.mem_cons_self)) 1 2 1 (fun _=>by decide))
theorem X0j {s:CS} {m:MS} {told:List (Nat×Nat)} (R:Rel s m told) (h:m.P=[-1,0,1]) (r q:Int):fnd s.par r=some q↔(r=1∧q=0)∨(r=2∧q=1):=by
 rw[Q3r R.nd,R.tree,h];constructor
 ·rintro⟨k,rfl,h1,h2,h3⟩
  match k,h1,h2 with
  | 1,_,h2=>injection h2 with h2;exact .inl ⟨rfl,h2.symm⟩
  | 2,_,h2=>injection h2 with h2;exact .inr ⟨rfl,h2.symm⟩
  | k+3,_,h2=>cases h2
 ·rintro(⟨rfl,rfl⟩|⟨rfl,rfl⟩)
  ·exact⟨1,rfl,by omega,rfl,by omega⟩
  ·exact⟨2,rfl,by omega,rfl,by omega⟩
theorem Z9l {L:List Int} {x:Int} (hnd:L.Nodup) (h:∀ c,c∈L↔c=x):L=[x]:=by
 cases L with
 | nil=>have:=(h x).2 rfl;cases this
 | cons a L=>
  obtain rfl:=(h a).1 List.mem_cons_self;cases L with
  | nil=>rfl
  | cons b L=>
   obtain rfl:=(h b).1 (by simp);simp at hnd
theorem V7i [Q0i] {w:World} {fr:List Q0e} [hT:Q4t 0 Lib.deBruijn64tab fr] (H:Q0a w fr) :
  Calls Tryz.prog 8 #[] w (ret fun v w'=>v = .bool true∧Q0a w' fr):=by
 have Rs0:=U9t 6 8 6;have hdS:Z7n (cs0 6 8 6) [2,2,0]=({ cs0 6 8 6 with lays:=[L0] },1,0):=by rw[Q9p X0f];rfl
 refine Q0c Tryz.func8 rfl (by kernel_rfl) ?_;refine U4m H ?_;refine Jc rfl rfl (Y8h 6 8 6 (by omega) (by omega) (by omega) (by omega) (by omega) (by omega) H) ?_;clear H;rintro v w ⟨c,rfl,H⟩;replace H:Q0a w (Q2z c (cs0 6 8 6)::fr):=H;refine J32 H ?_;refine J15 H ?_;refine J25 H ?_;refine U7r H ?_;refine J20 H ?_;refine J35 H ?_;clear H;intro b22 w H;replace H:=H.swap;have hrd:RdS (pts b22 (row 83 [.int .u64 2,.int .u64 2,.int .u64 0])::fr) (.slice (some ⟨b22,0,none⟩) 3 3) 3 1 (Q1b [2,2,0]):=⟨rfl,_,_,rfl,.inr ⟨b22,0,_,_,_,rfl,inferInstance,.cons rfl (.cons rfl (.cons rfl (.nil _)))⟩⟩;refine Jc rfl rfl (V9u c (cs0 6 8 6) _ [2,2,0] (by decide) hrd H) ?_;clear H;rintro v w ⟨rfl,H⟩;rw[hdS] at H ⊢
 have RA:Rel { cs0 6 8 6 with lays:=[L0] } ⟨[-1],[L0],[]⟩ []:=by
  have h:=(G2c Rs0 X0g [2,2,0]).2;rw[hdS] at h;exact h
 refine U4t H ?_;refine Jc rfl rfl (V9v c _ 0 (by decide) H) ?_;clear H;rintro v w (⟨h1,rfl,H⟩|⟨_,ob,ob2,rfl,H⟩)
 ·exact absurd rfl h1
 have RO:=Y5q RA (parent:=0) rfl ob ob2;generalize hsA:Z1x { cs0 6 8 6 with lays:=[L0] } 0 ob ob2=sA at H RO;have hA1:sA.par=[(1,0)]∧sA.last=1:=by rw[← hsA];exact⟨rfl,rfl⟩
 refine U4t H ?_;have hadd:Q5l sA.par 1=0:=by rw[hA1.1];decide
 refine Jc rfl rfl (V9v c _ 1 (by rw[hA1.2];decide) H) ?_;clear H;rintro v w (⟨h1,rfl,H⟩|⟨_,oc,oc2,rfl,H⟩)
 ·exact absurd hadd h1
 have RB:=Y5q RO (parent:=1) (by decide) oc oc2;generalize hsB:Z1x sA 1 oc oc2=sB at H RB;have hB1:sB.size=8:=by rw[← hsB,← hsA];rfl
 have hB2:sB.own=List.replicate 6 0:=by rw[← hsB,← hsA];rfl
 have hB3:sB.tab=List.replicate 6 ⟨0,none⟩:=by rw[← hsB,← hsA];rfl
 have FB:Y9d sB []:=⟨⟨6,by rw[hB3];rfl⟩,rfl,Y8v (by rw[← hsB,← hsA];rfl) (by rw[hB3];exact G2j)⟩;replace RB:Rel sB jB []:=RB;refine U4t H ?_;refine Jc rfl rfl (V8f c sB 1 1 0 H) ?_;clear H;rintro v w ⟨i1,g1,e1,sC,rfl,hM1,H⟩;obtain⟨rfl,rfl,rfl,RC,FC,hC1,hC2,hC3⟩:=Y0f RB U6a FB hM1 U6b hB1 (by rw[hB3];decide) ⟨0,by rw[hB2];decide,by rw[hB2];rfl⟩;rw[hB3] at hC3;rw[hB2] at hC2;replace RC:Rel sC jC [(0,1)]:=RC;replace FC:Y9d sC [(0,1)]:=FC
 have hfree:∃ a,a < sC.own.length∧sC.own.getD a 0=0:=by
  obtain⟨hl,a0,k0,hk0,hg⟩:=hC2
  have hz:∀ a,a≠a0→sC.own.getD a 0=0:=by
   intro a ha;refine Classical.byContradiction fun h=>?_
   rcases hg a h with h1|h1
   ·exact h1 (Z2f 6 a)
   ·omega
  have hl4:sC.own.length=6:=hl;by_cases h0:a0=0
  ·exact⟨1,by omega,hz 1 (by omega)⟩
  ·exact⟨0,by omega,hz 0 (by omega)⟩
 refine J16 H ?_;clear H;intro b3 w H;refine J4 H ?_;clear H;intro w H;refine J0 H ?_;replace H:=H.swap;refine J20 H ?_;refine Jc rfl rfl (V8f c sC 2 1 0 H) ?_;clear H;rintro v w ⟨i2,g2,e2,sD,rfl,hM2,H⟩;obtain⟨rfl,rfl,rfl,RD,FD,hD1,hD2,hD3⟩:=Y0f RC U6d FC hM2 U6c hC1 (by rw[hC3];decide) hfree;replace RD:Rel sD jD [(0,1),(1,1)]:=RD;refine J16 H ?_;clear H;intro b5 w H;refine J4 H ?_;clear H;intro w H;refine J0 H ?_;replace H:=Js [1,0,0] 0 H;refine U0a H ?_;refine U3m H ?_;refine G9q H ?_;refine G9q H ?_;obtain⟨_,_,hwD,_,_⟩:=Q1u H;have P0:Z2b [(0,1),(1,1)] 0 1 0 := .inl ⟨0,1,0,rfl,rfl,rfl,rfl⟩;have P1:Z2b [(0,1),(1,1)] 1 1 1 := .inl ⟨1,1,1,rfl,rfl,rfl,rfl⟩;obtain⟨t1,RE⟩:=G1y RD hwD U1o P0 P1 1;rw[show (V7m jD 0 1 1).2=0 by decide] at t1;replace RE:Rel (V8b sD 0 1 1 1 1).1 jE [(0,1),(1,1)]:=RE;have IE:=Z5g hwD FD.inv 0 1 1 1 1;have shE:=Y3m sD 0 1 1 1 1;refine Q4u rfl rfl rfl (Q1h (a:=[]) (b:=[]) rfl rfl (call (Y8g c sD 0 1 1 1 1 H) ?_));clear H;rintro v w ⟨rfl,H⟩;rw[t1];generalize (V8b sD 0 1 1 1 1).1=sE at H RE IE shE
 have hgE:∀ (k g:Nat) (e:Ent),sE.tab[k]? = some ⟨g,some e⟩→g < 255:=by
  intro k g e hk;obtain⟨⟨r,hs⟩,_,_⟩:=id FD;rw[← shE] at hs
  rcases V1u hs hk with ⟨_,h1,_⟩|⟨_,_,h1,_⟩
  ·have h1:g=1:=h1;omega
  ·have h1:g=0:=h1;omega
 have hparE:=X0j RE rfl
 have hTE:Q5d sE.par:=by
  refine⟨RE.nd,fun r q hr=>?_⟩
  rcases (hparE r q).1 hr with ⟨rfl,rfl⟩|⟨rfl,rfl⟩
  ·exact⟨by omega,by omega,.inl rfl⟩
  ·exact⟨by omega,by omega,.inr (by rw[(hparE 1 0).2 (.inl ⟨rfl,rfl⟩)];rfl)⟩
 refine U1r H ?_;refine J20 H ?_;refine Jc rfl rfl (Y3x c sE 2 hTE (by rw[(hparE 2 1).2 (.inr ⟨rfl,rfl⟩)];rfl) IE hgE H) ?_;clear H;rintro v w ⟨u,L,sF,rfl,hL1,hL2,hL3,hL4,hF,H⟩
 have hLd:L=[2]:=Z9l hL1 fun c=>by
  rw[hL3];constructor
  ·intro d;cases d with
   | self=>rfl
   | kid hd hf=>
    rcases (hparE _ _).1 hf with ⟨rfl,rfl⟩|⟨rfl,rfl⟩
    ·have:=hd.ge hTE;omega
    ·have:=hd.ge hTE;omega
  ·rintro rfl;exact .self
 subst hLd;obtain⟨aL,cL,rfl⟩:=Q0j H (Q0r [2]) (by decide);obtain⟨G,D,hT⟩:=hF.t;have RF:Rel sF jF [(0,1),(1,1)]:=Z5r (L:=[2]) RE U9o IE hT;refine J32 H ?_
 have t4:Q5u sF 0 1 1=(.grave,0):=by
  rcases Y5p RF P0 1 with ⟨h1,h2⟩|⟨h1,n,j,x,h2,h3,h4,_,_,_,_,h5⟩
  ·exact absurd (by decide) h1
  ·obtain rfl:n=0:=by omega
   obtain rfl:j=1:=by omega
   rw[h5];have h6:jF.objs[0]? = some ⟨1,1,0,[0,0],[0,1],[0,0],true,false,false⟩:=by rfl
   rw[h6] at h4;injection h4 with h4
   rw[← h4];rfl
 replace H:=Js [1,0,0,0] 0 H;refine J42 H ?_;refine Jc rfl rfl (V1g c sF 0 1 1 H) ?_;clear H;rintro v w ⟨rfl,H⟩;rw[t4];refine J16 H ?_;clear H;intro b9 w H;refine J4 H ?_;clear H;intro w H;refine U7p H ?_;refine J25 H ?_;refine Q4u rfl rfl rfl (Q4g H rfl rfl rfl ?_);clear H;intro b66 w H;replace H:Q0a w (IL (.slice (some ⟨b66,0,none⟩) 1 1) [2]::_):=Q7u rfl H;replace H:=Js [3,0,0,0,0,0] 0 H;have hSame:=V4m (.slice aL 1 cL) (.slice (some ⟨b66,0,none⟩) 1 1) [2] [2] (by decide) H;refine Q4u rfl rfl rfl (Q1h (a:=[]) (b:=[]) rfl rfl (call (hSame) ?_));clear hSame;clear H;rintro v w ⟨rfl,H⟩;rw[show decide ([2]=([2]:List Int))=true from rfl];refine Jv ?_;refine Jv ?_;refine Q2q rfl rfl rfl rfl ?_;refine Q2q rfl rfl rfl rfl ?_;refine J26 H ?_;refine U5b H ?_;refine Q4u rfl rfl rfl (V3u rfl rfl rfl rfl (.inl rfl) rfl ?_);refine J2 H ?_;replace H:Q0a w fr:=H.drop.drop.drop.drop.drop.drop.drop;exact Q0g (Jy H rfl fun w' H'=>⟨rfl,H'⟩)
end Go.Proofs.YtmjdnljneifpcaaGreatDoor
namespace Go.Proofs.YtmjdnljneifpcaaGreatDoor
open Go.SL
theorem G4i [Q0i] (p:Nat) (s:CS) (m:MS) (told:List (Nat×Nat)) (n:Nat) (J:V7h s m told n) (hn:n≤60) (K k A B C i g:Int) (X:Nat) (hX:X < 18446744073709551616) (vW:Value) (ws:List Nat) (hws:∀ x∈ws,x < 18446744073709551616) (raw:Bool) (rg:Int) (vL:Value) (L:List Int) (hL:L.length≤80)
  {w:World} {fr:List Q0e} [hT:Q4t 0 Lib.deBruijn64tab fr] (hrW:RdS fr vW ws.length 1 (Q1b ws)) (hrL:RdS fr vL L.length 1 (Q1g L)) (H:Q0a w (RUN p s m told::fr)) :
  Calls Tryz.prog 36 #[.agg (U3a K k A B C X vW raw i g rg vL).toArray,pp p] w (ret fun v w'=>v = .bool true∧∃ s' m' told',V7h s' m' told' (n+1)∧Q0a w' (RUN p s' m' told'::fr)):=by
 by_cases hK:K=3
 ·subst hK;exact Z9k p s m told n J hn k A B C i g X hX vW ws hws raw rg vL L hL hrW hrL H
 ·exact G4h p s m told n J hn K k A B C i g hK X hX vW ws hws raw rg vL L hL hrW hrL H
theorem Z9m [Q0i] (z1 z2 z3:Int) (v:Value) (l:List Ac2) (hl:l.length≤60) (h80:∀ x∈l,x.L.length≤80) {w:World} {fr:List Q0e} [hT:Q4t 0 Lib.deBruijn64tab fr] (hr:RdS fr v l.length 12 (Q9f l)) (hok:∀ x∈l,U1n fr x) (H:Q0a w fr) :
  Calls Tryz.prog 10 #[.agg #[.int .i64 z1,.int .i64 z2,.int .i64 z3],v] w (ret fun r w'=>∃ p s m told,r = .tuple #[pp p,.bool true]∧V7h s m told 60∧Q0a w' (RUN p s m told::fr)):=by
 obtain⟨_,ad,cap,rfl,hrd⟩:=id hr;refine Q0c Tryz.func10 rfl (by kernel_rfl) ?_;refine J8 H ?_;clear H;intro b2 w H;refine J2 H ?_;refine J36 H ?_;refine Jc rfl rfl (U1c z1 z2 z3 H) ?_;clear H;rintro r w ⟨p,n,size,slots,rfl,hn1,hn2,hs1,hs2,ht1,ht2,H⟩;refine U2k H ?_;replace H:=H.swap.drop;refine J20 H ?_;refine J97 H ?_;refine Q1l (fun ms σ w n=>ms=[]∧∃ (i:Nat) (s:CS) (m:MS) (told:List (Nat×Nat)),i≤l.length∧n=l.length - i∧V7h s m told i∧σ 6=pp p∧σ 13 = .slice ad l.length cap∧σ 14 = .int .i64 l.length∧σ 15 = .int .i64 i∧Q0a w (RUN p s m told::fr)) (m:=l.length) ⟨rfl,0,_,_,_,by omega,rfl,V7h.start n size slots,rfl,rfl,rfl,rfl,H⟩ ?_;clear H;rintro ms σ w n' ⟨rfl,i,s,m,told,hi,rfl,J,g6,g13,g14,g15,H⟩;rw[Q0b g6,Q0b g13,Q0b g14,Q0b g15];refine J5 H ?_;refine Q2d rfl (fun h=>Q0w ?_) (fun h=>Q1n ?_)
 ·have hlt:i < l.length:=by omega
  have hy:=List.getElem?_eq_getElem hlt;generalize l[i]=y at hy;have hm:=List.mem_of_getElem? hy;obtain⟨⟨hX,hws,hrW⟩,hrL⟩:=hok y hm;have hL:=h80 y hm
  rcases hrd with hz|⟨b,o,E,fz,c,rfl,hA,hrd⟩
  ·omega
  haveI:=hA;obtain⟨K,⟨k,A,B,C,X,vW,ws,raw,i1,gg1⟩,rg,vL,L⟩:=y;obtain⟨_,adW,capW,hvW,_⟩:=id hrW;obtain⟨_,adL,capL,hvL,_⟩:=id hrL;replace hvW:vW = .slice adW ws.length capW:=hvW;replace hvL:vL = .slice adL L.length capL:=hvL;subst hvW hvL;refine J19 H ?_;refine Jd ?_;refine Q0s rfl (Q1j H rfl (Y4a hrd hy) rfl ?_);refine J12 H ?_;clear H;intro b8 w H;refine J4 H ?_;clear H;intro w H;refine Q0h ?_;replace H:Q0a w (pts b8 (row 95 (U3a K k A B C X (.slice adW ws.length capW) raw i1 gg1 rg (.slice adL L.length capL)))::_):=H;refine U2e H ?_;refine Jc rfl rfl (G4i p s m told i J (by omega) K k A B C i1 gg1 X hX _ ws hws raw rg _ L hL hrW.there hrL.there H.swap) ?_;clear H;rintro r w ⟨rfl,s',m',told',J',H⟩;refine J76 H ?_;exact⟨_,⟨rfl,i+1,s',m',told',hlt,rfl,J',rfl,rfl,rfl,Q2a (by omega),H.swap.drop⟩,by omega⟩
 ·refine J11 H ?_;have J60:V7h s m told 60:=⟨J.R,J.I,J.T,J.P,J.G,by have:=J.O;omega,by have:=J.Q;omega⟩;exact Q0g (Jy H rfl fun w' H'=>⟨p,s,m,told,rfl,J60,H'⟩)
theorem Y6f [Q0i] (z1 z2 z3:Int) (v:Value) (l:List Ac2) (hl:l.length*128≤140737488351232) {w:World} {fr:List Q0e} [hT:Q4t 0 Lib.deBruijn64tab fr] (hr:RdS fr v l.length 12 (Q9f l)) (hok:∀ x∈l,U1n fr x) (H:Q0a w fr) :
  Calls Tryz.prog 3 #[.agg #[.int .i64 z1,.int .i64 z2,.int .i64 z3],v] w (ret fun r w'=>r = .bool true∧Q0a w' fr):=by
 obtain⟨_,ad,cap,rfl,_⟩:=id hr;refine Q0c Tryz.func3 rfl (by kernel_rfl) ?_;refine J8 H ?_;clear H;intro b2 w H;refine J0 H ?_;refine J39 H ?_;refine Jc rfl rfl (V7i H) ?_;clear H;rintro v w ⟨rfl,H⟩;refine U3m H ?_;refine Q4u rfl rfl rfl (Q1h (a:=[]) (b:=[]) rfl rfl (call (Z3n _ l hl hr.there (fun x hx=>(hok x hx).there) H) ?_));clear H;rintro r w ⟨b,rfl,hb,H⟩;cases b with
 | true=>
  refine J67 H ?_;refine J39 H ?_;refine Jc rfl rfl (V7i H) ?_;clear H;rintro v w ⟨rfl,H⟩;refine J0 H ?_;exact Q0g (Jy H.drop rfl fun w' H'=>⟨rfl,H'⟩)
 | false=>
  obtain⟨h60,h80⟩:=hb rfl;refine J17 H ?_;refine U2e H ?_;refine Jc rfl rfl (Z9m z1 z2 z3 _ l h60 h80 hr.there (fun x hx=>(hok x hx).there) H) ?_;clear H;rintro r w ⟨p,s,m,told,rfl,J,H⟩;refine J32 H ?_;refine J6 H ?_;refine J25 H ?_;refine Q4u rfl rfl rfl (Q1h (a:=[]) (b:=[]) rfl rfl (call (Z2k p s m told J.R.w H) ?_));clear H;rintro v w ⟨rfl,H⟩;refine J2 H ?_;exact Q0g (Jy H.drop.drop rfl fun w' H'=>⟨rfl,H'⟩)
end Go.Proofs.YtmjdnljneifpcaaGreatDoor
