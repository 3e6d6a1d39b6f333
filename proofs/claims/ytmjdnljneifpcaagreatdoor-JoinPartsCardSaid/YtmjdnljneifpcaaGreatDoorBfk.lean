/- Cells: what is proved on the way: every input of the statement; no condition. Texts joined: CelI LawP LawQ LawR LawA LawB LawC LawD LnkA LnkB LnkC. -/
import Derived.Test.YtmjdnljneifpcaaGreatDoorBfe
import Derived.Test.YtmjdnljneifpcaaGreatDoorBfj
import Derived.Test.YtmjdnljneifpcaaGreatDoorBfi
import Derived.Test.YtmjdnljneifpcaaGreatDoorBfc
import Derived.Test.YtmjdnljneifpcaaGreatDoorBfh
set_option linter.unusedVariables false
set_option linter.unusedSimpArgs false
set_option linter.unusedSectionVars false
namespace Go.Proofs.YtmjdnljneifpcaaGreatDoor
open List
open Go.SL
def Ba (s:CS) (id:Int):Qa:=(s.lays[id.toNat - 1]?).getD ⟨0,[],0,[]⟩
def UX (s:CS) (region id count:Int):Nat:=if (QV s.par region).isSome=false then 15 else if id < 1∨(s.lays.length:Int) < id then 6 else (Vh (Ba s id) count).2
def ZJ (s:CS) (id count:Int):Nat:=(Vh (Ba s id) count).1
theorem RX {α:Type} {V:Type} {l:List α} {f:α→Int} {g:α→V} {k:Int} {b:V} (h:QV (l.map fun a=>(f a,g a)) k=some b):∃ x g1 g2,l=g1++x::g2∧f x=k∧g x=b:=by
 obtain⟨x,hx,h1⟩:=mem_map.1 (KE h);injection h1 with h1 h2
 obtain⟨g1,g2,h3⟩:=append_of_mem hx;exact⟨x,g1,g2,h3,h1,h2⟩
theorem RK {α:Type} {V:Type} {l:List α} {f:α→Int} {g:α→V} {k:Int} (h:k∈l.map f):∃ b,QV (l.map fun a=>(f a,g a)) k=some b:=by
 cases hf:QV (l.map fun a=>(f a,g a)) k with
 | some b=>exact⟨b,rfl⟩
 | none=>
  refine absurd ?_ (D9.1 hf);rw[map_map];exact h
theorem Tb {size:Nat} {own:List Nat} {r:Int} {S:QP} (h:Xb size own r S):S.parts.length≤own.length:=by
 have h1:∀ l:List (Nat×Nat),(∀ p∈l,1≤p.2)→l.length≤(QR l).length:=by
  intro l
  induction l with
  | nil=>intro _;exact Nat.zero_le _
  | cons a l ih=>
   intro ha;have h1:=ih (fun p hp=>ha p (mem_cons_of_mem _ hp));have h2:=ha a (mem_cons_self ..);simp only[QR,flatMap_cons,length_append,length_map,length_range,length_cons] at h1 ⊢;omega
 have h2:=h1 S.parts (fun p hp=>(h.parts p hp).1)
 have h3:=UQ h.nodup (l₂:=List.range own.length) (fun c hc=>by
  obtain⟨q,hq,_,_⟩:=(h.owned c).1 hc;exact mem_range.2 (List.getElem?_eq_some_iff.1 hq).1)
 rw[length_range] at h3;omega
theorem sV {size:Nat} {own:List Nat} {r:Int} {S:QP} (h:Xb size own r S) (h1:own.length≤63) (h2:size≤1024):S.fin≤1048576:=by
 by_cases h0:S.fin=0
 ·omega
 ·obtain⟨c,e,_,hc⟩:=h.fin h0;have:=(h.parts _ hc).2;rw[e];exact Nat.le_trans (Nat.mul_le_mul (show c+1≤64 by omega) h2) (by omega)
theorem iE {size:Nat} {own:List Nat} {e:Q9} (h:Un size own e):K1 size own e.addr (e.ws.length+1):=by
 intro c c1 c2;obtain⟨r,hr,_,ZG⟩:=h.2 c c1 (by rw[show e.addr+(e.ws.length+1) - 1=e.addr+e.ws.length by omega] at c2;exact c2);rw[getD_eq_getElem?_getD,hr];show r≠0;omega
theorem iF {size:Nat} {own mem own' mem':List Nat} {r n a:Nat} {S S':QP} (h:KT size own mem r S n own' mem' S' a):own'.length=own.length:=by
 cases h with
 | room _=>rfl
 | one ha _ _=>exact Yi ha
 | run _ ha _ _ _=>exact Yi ha
def OI (own own':List Nat) (k:Nat):Prop:=own'.length=own.length∧∃ a0 k0,k0≤k∧∀ i,own'.getD i 0≠0→own.getD i 0≠0∨(a0≤i∧i < a0+k0)
theorem sY {size:Nat} (hs:1≤size) {own mem own' mem':List Nat} {r n a:Nat} {S S':QP} (h:KT size own mem r S (n+1) own' mem' S' a):OI own own' (n / size+1):=by
 refine⟨iF h,?_⟩;cases h with
 | room _=>exact⟨0,0,Nat.zero_le _,fun i hi => .inl hi⟩
 | @one b ha _ _=>
  refine⟨b,1,Nat.le_add_left 1 _,fun i hi=>?_⟩;rw[CO ha] at hi;split at hi
  ·right;assumption
  ·exact .inl hi
 | @run b k hk ha _ _ Gv=>
  refine⟨b,k,?_,fun i hi=>?_⟩
  ·have h2:k - 1≤n / size:=by
    rw[Nat.le_div_iff_mul_le (by omega)];omega
   omega
  ·rw[CO ha] at hi;split at hi
   ·right;assumption
   ·exact .inl hi
theorem sZ [Q4] (p:Nat) (s:CS) (region id count:Int) {w:World} {fr:List Q2} [hT:Z5 0 Lib.deBruijn64tab fr] (H:Q0 w (QD p s::fr)) :
  Calls Tryz.prog 31 #[pp p,.int .i64 region,.int .i64 id,.int .i64 count] w (ret fun v w'=>
   (UX s region id count≠0∧v = .tuple #[Xz 0 0,.int .i64 (UX s region id count)]∧Q0 w' (QD p s::fr)) ∨
   (UX s region id count=0∧(∀ t∈s.tab,busy t=true)∧v = .tuple #[Xz 0 0,.int .i64 12]∧Q0 w' (QD p s::fr)) ∨
   (UX s region id count=0∧(∀ a,a+(ZJ s id count / s.size+1)≤s.own.length→∃ i,a≤i∧i < a+(ZJ s id count / s.size+1)∧s.own.getD i 0≠0)∧v = .tuple #[Xz 0 0,.int .i64 11]∧Q0 w' (QD p s::fr)) ∨
   (UX s region id count = 0 ∧ ∃ k g0 addr s', s.tab[k]? = some ⟨g0, none⟩ ∧ g0 ≤ 254 ∧ (∀ j t, j < k → s.tab[j]? = some t → busy t = true) ∧ v = .tuple #[Xz k (g0 + 1), .int .i64 0] ∧
    s'.size=s.size∧s'.lays=s.lays∧s'.last=s.last∧s'.par=s.par∧s'.rem=s.rem∧s'.tab=s.tab.set k ⟨g0+1,some ⟨addr,region,true,false,id.toNat,count.toNat,List.replicate (ZJ s id count) 0⟩⟩∧OI s.own s'.own (ZJ s id count / s.size+1)∧(Yc s→Yc s')∧Q0 w' (QD p s'::fr))):=by
 obtain⟨q,mem,hw,hm,H⟩:=YQ H;have Tc:=Sr (H.pull 5);refine QQ Tryz.func31 rfl (by kernel_rfl) ?_;refine YN H ?_;intro b8 w H;refine J0 H ?_;replace H:=Js [6,0,0,0,0,0,0,0,0,0,0,0] 0 H;refine J6 H ?_
 refine Z0 (fun ms σ w=>ms=[]∧(QV s.par region).isSome=true∧σ 0=pp p∧σ 1 = .int .i64 region∧σ 2 = .int .i64 id∧σ 3 = .int .i64 count∧σ 8=pp b8 ∧
  Q0 w (Qq q.bp s.lays::pts b8 (row 69 [.int .i64 0,.int .i64 0])::VU p q::V6 q.ip q.sp q.bp::ST q.sp s.size mem s.own::Qr q.tp s.tab::Qo q.trp s.last s.par::RS q.rp s.rem::mp (ki .i64) V2 q.sm (s.sps.map Vv)::star (s.sps.map (Y0 q.sp))::mp (ki .i64) V2 q.mm (s.mns.map VX)::star (s.mns.map VG)::fr)) ?_ ?_
 ·refine CZ H ?_;refine Vb H ?_;refine Jc rfl rfl (JC q.trp s.last s.par region H) ?_;rintro v w ⟨rfl,H⟩;cases hf:(QV s.par region).isSome with
  | false=>
   have he:UX s region id count=15:=by unfold UX;rw[if_pos hf]
   refine My H ?_;intro w H;refine J0 H ?_;replace H:=Js [1,1,1,1,1,1,0,0,0,0,0,0] 0 H;refine Q3 (.inr ⟨by simp,Jz H (fun w' H' => .cellN H' rfl (by repeat first|exact .nil _|apply QY.cons rfl) (.tmp .nil)) fun w' H' => .inl ⟨by omega,by rw[he];rfl,VM hw hm H'.drop⟩⟩)
  | true=>
   refine DN H ?_;replace H:=Js [4,1,1,1,1,1,0,0,0,0,0,0] 0 H;exact .inl ⟨rfl,rfl,rfl,rfl,rfl,rfl,rfl,rfl,H⟩
 rintro ms σ w ⟨rfl,XV,g0,g1,g2,g3,g8,H⟩;rw[Q1 g0,Q1 g1,Q1 g2,Q1 g3,Q1 g8];clear g0 g1 g2 g3 g8;refine Vb H ?_;by_cases Qx:id < 1∨(s.lays.length:Int) < id
 ·have he:UX s region id count=6:=by unfold UX;rw[XV,if_neg (by simp),if_pos Qx]
  refine Jc rfl rfl (pu q.bp s.lays id Qx H) ?_;rintro v w ⟨rfl,H⟩;refine YC H ?_;intro b10 w H;refine J5 H ?_;intro w H;refine ZZ H ?_;refine Is H ?_;intro w H;refine J0 H ?_;replace H:=Js [2,2,2,1,1,1,1,1,1,1,1,1] 1 H;exact Q3 (Jz H (fun w' H' => .cellN H' rfl (by repeat first|exact .nil _|apply QY.cons rfl) (.tmp .nil)) fun w' H' => .inl ⟨by omega,by rw[he];rfl,VM hw hm H'.drop⟩)
 obtain⟨i,rfl⟩:∃ i:Nat,id=i:=⟨id.toNat,by omega⟩;have UN:=getElem?_eq_getElem (l:=s.lays) (i:=i - 1) (by omega)
 have Bb:Ba s (i:Int)=s.lays[i - 1]'(by omega):=by
  unfold Ba;rw[Int.toNat_natCast,UN];rfl
 have hR:YK (Ba s (i:Int)):=by rw[Bb];exact hw.lays.2 _ (getElem_mem _)
 rw[← Bb] at UN;have hE:UX s region i count=(Vh (Ba s i) count).2:=by unfold UX;rw[XV,if_neg (by simp),if_neg Qx]
 have hN:ZJ s i count=(Vh (Ba s i) count).1:=rfl;generalize Ba s (i:Int)=l at UN hR hE hN;refine Jc rfl rfl (T3 q.bp s.lays i (by omega) l UN H) ?_;rintro v w ⟨vr,vq,rfl,H⟩;obtain⟨ar,cr,rfl⟩:=QI H (QM _) (by decide);obtain⟨aq,cq,rfl⟩:=QI H.drop (QM _) (by decide);refine YC H ?_;intro b10 w H;refine J5 H ?_;intro w H;refine Za H ?_;refine FU H ?_;replace H:=Js [1,1,0,0,0,0,0,0,0,0,0,0,0,0,0] 0 H;obtain⟨D1,H,Y5,Vo⟩:=sls_rd H (QM _) (by decide);obtain⟨D2,H,Zl,ZU⟩:=sls_rd H.swap (QM _) (by decide);refine Jc rfl rfl (JX _ _ l hR count ⟨(Y5 _).there,Zl _⟩ H) ?_;rintro v w ⟨rfl,H⟩;replace H:=Vo _ _ (ZU _ _ H).swap;replace H:=Js [8,3,3,3,3,3,3,3,3,3,3,3] 3 H;generalize Va:Vh l count=z at hE hN H ⊢;obtain⟨n,er⟩:=z;refine DL H ?_
 refine Z0 (fun ms σ w=>ms=[]∧er=0∧¬ (∀ t∈s.tab,busy t=true)∧σ 0=pp p∧σ 1 = .int .i64 region∧σ 2 = .int .i64 i∧σ 3 = .int .i64 count∧σ 8=pp b8∧σ 12 = .int .i64 n ∧
  Q0 w (Qr q.tp s.tab::Qq q.bp s.lays::pts b8 (row 69 [.int .i64 0,.int .i64 0])::VU p q::V6 q.ip q.sp q.bp::ST q.sp s.size mem s.own::Qo q.trp s.last s.par::RS q.rp s.rem::mp (ki .i64) V2 q.sm (s.sps.map Vv)::star (s.sps.map (Y0 q.sp))::mp (ki .i64) V2 q.mm (s.mns.map VX)::star (s.mns.map VG)::fr)) ?_ ?_
 ·refine Qd ?_;refine Vj H ?_;by_cases h0:er=0
  ·subst h0;refine FF H ?_;refine G6 H ?_;refine Jc rfl rfl (gz q.tp s.tab H) ?_;rintro v w ⟨rfl,H⟩;have iH:Ur s.tab≤s.tab.length:=length_filter_le _ _;by_cases hb:∀ t∈s.tab,busy t=true
   ·have sG:Ur s.tab=s.tab.length:=by unfold Ur;rw[filter_eq_self.2 hb]
    rw[show s.tab.length - Ur s.tab=0 by omega];refine My H ?_;intro w H;refine J0 H ?_;replace H:=Js [2,2,2,1,1,0,0,0,0,0,0,0] 0 H;refine Q3 (.inr ⟨by simp,Jz H (fun w' H' => .cellN H' rfl (by repeat first|exact .nil _|apply QY.cons rfl) (.tmp .nil)) fun w' H' => .inr (.inl ⟨hE,hb,rfl,VM hw hm H'.drop⟩)⟩)
   ·have sG:Ur s.tab≠s.tab.length:=by
     intro h;refine hb fun t ht=>?_;exact length_filter_eq_length_iff.1 h t ht
    refine J4 H ?_;rw[show (((s.tab.length - Ur s.tab:Nat):Int) == 0)=false by simp;omega];refine Vk H ?_;exact .inl ⟨rfl,rfl,rfl,hb,rfl,rfl,rfl,rfl,rfl,rfl,H⟩
  ·rw[show (((er:Nat):Int) != 0)=true by simpa using h0];refine Is H ?_;intro w H;refine J0 H ?_;replace H:=Js [2,2,2,1,1,0,0,0,0,0,0,0] 0 H;refine Q3 (.inr ⟨by simp,Jz H (fun w' H' => .cellN H' rfl (by repeat first|exact .nil _|apply QY.cons rfl) (.tmp .nil)) fun w' H' => .inl ⟨by rw[hE];exact h0,by rw[hE];rfl,VM hw hm H'.drop⟩⟩)
 rintro ms σ w ⟨rfl,rfl,G2,g0,g1,g2,g3,g8,g12,H⟩;rw[Q1 g0,Q1 g1,Q1 g2,Q1 g3,Q1 g8,Q1 g12];clear g0 g1 g2 g3 g8 g12;obtain⟨z1,z2,z3,z4,z5⟩:=Sj Va;obtain⟨c,rfl⟩:∃ c:Nat,count=c:=⟨count.toNat,by omega⟩;have KY:region∈s.par.map (·.1):=Du XV;obtain⟨b,WT⟩:=RK (l:=s.sps) (f:=fun x=>x.1) (g:=fun x=>x.2.1) (k:=region) (by rw[hw.skeys];exact KY);obtain⟨⟨r0,b0,S⟩,p1,p2,VN,iI,iJ⟩:=RX WT;obtain rfl:r0=region:=iI;obtain rfl:b0=b:=iJ;obtain⟨b2,ZX⟩:=RK (l:=s.mns) (f:=fun x=>x.1) (g:=fun x=>x.2.1) (k:=r0) (by rw[hw.mkeys];exact KY);obtain⟨⟨r1,b1,L⟩,m1,m2,Vl,VD,YE⟩:=RX ZX;obtain rfl:r1=r0:=VD;obtain rfl:b1=b2:=YE
 have ZG:1≤r1:=by
  obtain⟨⟨ra,rx⟩,hx,rfl⟩:=mem_map.1 KY;exact(hw.par.2.2 _ _ hx).1
 obtain⟨r,rfl⟩:∃ r:Nat,r1=r:=⟨r1.toNat,by omega⟩;have hS:Xb s.size s.own r S:=hw.spc ((r:Int),b0,S) (by rw[VN];simp);have AR:=sV hS hw.own.2 hw.size.2;have Us:=Tb hS;have ZC:=hw.own.2;refine Vb H ?_;refine Q5 rfl (GO (ek:=ki .i64) (vv:=V2) (key:=(r:Int)) H rfl rfl Vp rfl ?_);have Ci:QV (s.sps.map Vv) (r:Int)=some b0:=WT;have Xm:QV (s.mns.map VX) (r:Int)=some b1:=ZX;rw[Ci];refine ZT H ?_;rw[Qh (x:=((n:Nat):Int)+1) (by omega) (by omega),show ((n:Nat):Int)+1=((n+1:Nat):Int) by omega];replace H:=Js [9,5,0,0,0,0,0,0,0,0,0,0] 0 H;replace H:Q0 w (V1 b0 q.sp r S::star ((p1++p2).map (Y0 q.sp))::_):=(Q0.pick (R:=Y0 q.sp) (x:=((r:Int),b0,S)) VN).1 H;replace H:=Js [0,1,0,0,0,0,0,0,0,0,0,0,0] 0 H;refine Jc rfl rfl (gH b0 q.sp r s.size (n+1) S mem s.own (by omega) (by omega) (by omega) hS.at1 AR ZC hw.size.1 hw.size.2 (by omega) H) ?_;rintro v w (⟨a,own',mem',S',rfl,al,H⟩|⟨rfl,VK,H⟩)
 case inr=>
  refine Rk H ?_;refine Is H ?_;intro w H;refine J0 H ?_;replace H:=Js [0,1,0,0,0,0,0,0,0,0,0,0,0] 0 H;have H:=(Q0.pick (R:=Y0 q.sp) (x:=((r:Int),b0,S)) VN).2 H;replace H:=Js [5,5,3,1,1,2,2,2,0,1,1,0] 0 H;have H:=(VM hw hm H).swap;refine Q3 (Jz H (fun w' H' => .cellN H' rfl (by repeat first|exact .nil _|apply QY.cons rfl) (.tmp .nil)) fun w' H' => .inr (.inr (.inl ⟨hE,?_,rfl,H'.drop⟩)));rw[hN];intro a ha;rw[Nat.add_sub_cancel] at VK;exact VK a ha
 have VH:=iF al;obtain⟨Zb,HU⟩:=gF hw hm.len al;refine UI H ?_;refine X6 H ?_;refine WV H ?_;replace H:=Js [3,0,0,0,0,0,0,0,0,0,0,0,0] 0 H;refine Jc rfl rfl (rF q.tp s.tab ⟨a,r,true,false,i,c,List.replicate n 0⟩ H) ?_;rintro v w (⟨k,g0,hk,Kc,TU,rfl,H⟩|⟨hb,_,_⟩)
 case inr=>exact absurd hb G2
 have VC:k < s.tab.length:=(List.getElem?_eq_some_iff.1 hk).1;have AQ:=hw.slots.2;refine YC H ?_;intro b14 w H;refine J5 H ?_;intro w H;refine J0 H ?_;have hL:=hw.mine ((r:Int),b1,L) (by rw[Vl];simp)
 have UG:k∉L:=by
  intro hj;obtain⟨g,f,hf,_⟩:=(hL.2 k).1 hj;rw[hk] at hf;cases hf
 have sX:(Zc L k).Pairwise (· < ·):=OH hL.1 UG;have Yt:A9 i c k:=⟨by omega,by have:=hw.lays.1;omega,by omega,by omega⟩
 have Bc:Rs s.lays k ⟨a,r,true,false,i,c,List.replicate n 0⟩:=by
  refine⟨Yt,l,UN,hR,by simpa using Va,fun x w hx=>?_⟩;have hx:(List.replicate n 0)[x]? = some w:=hx;have:=eq_of_mem_replicate (mem_of_getElem? hx);subst this;exact⟨by omega,fun _=>⟨.none,trivial,rfl⟩⟩
 have al':KT s.size s.own mem r S ((Q9.mk a r true false i c (List.replicate n 0)).ws.length+1) own' mem' S' (Q9.mk a r true false i c (List.replicate n 0)).addr:=by
  show KT s.size s.own mem r S ((List.replicate n 0).length+1) own' mem' S' a;rw[length_replicate];exact al
 have E3:=qD hw hk Kc VN Vl Tc (e:=⟨a,r,true,false,i,c,List.replicate n 0⟩) rfl Bc al' sX (fun j=>OF);have Qi:(s.tab.set k (⟨g0+1,some ⟨a,r,true,false,i,c,List.replicate n 0⟩⟩:QW))[k]? = some ⟨g0+1,some ⟨a,r,true,false,i,c,List.replicate n 0⟩⟩:=getElem?_set_self VC;have Cj:Un s.size own' ⟨a,r,true,false,i,c,List.replicate n 0⟩:=(E3.obj k _ _ Qi).2.1
 have OE:a+1+n≤mem'.length:=by
  have h1:QT (Q9.mk a r true false i c (List.replicate n 0))≤own'.length*s.size:=Cj.1;unfold QT at h1;rw[Zb,hm.len,← VH];simpa using h1
 have sK:K1 s.size own' a (n+1):=by
  have:=iE Cj;simpa using this
 replace H:=Js [8,5,3,0,0,0,0,0,0,0,0,0,0,0] 0 H;refine J1 H ?_;intro w H;refine YI H ?_;refine Jl 3 [10] H ?_;refine Mp H ?_;refine Jl 8 [10] H ?_;refine Uf 9 rfl (Q8.none rfl) rfl (by kernel_rfl) ?_;refine Jo 10 H ?_;refine Jk rfl rfl (qa q.ip q.sp q.bp s.size s.lays mem' own' a i c k n l Yt UN hR Va OE sK H) ?_;rintro v w ⟨rfl,H⟩;refine Jx H ?_;replace H:=Js [13,0,0,0,0,0,0,0,0,0,0,0,0,0] 0 H;replace H:Q0 w (VV b1 L::star ((m1++m2).map VG)::_):=(Q0.pick (R:=VG) (x:=((r:Int),b1,L)) Vl).1 H
 have Rv:L.length≤63:=by
  have:=BK L 0 63 (fun x hx=>⟨Nat.zero_le _,by
   obtain⟨g,f,h3,_⟩:=(hL.2 x).1 hx;have h4:=(List.getElem?_eq_some_iff.1 h3).1;have:=hw.slots.2;omega⟩) hL.1
  omega
 refine J1 H ?_;intro w H;refine YI H ?_;refine Jl 3 [8] H ?_;refine Ja 4 ?_;refine Rc 5 [8] (key:=(r:Int)) H rfl (Q8.none rfl) rfl rfl Vp (by kernel_rfl) ?_;rw[Xm];refine Jf 6 ?_;refine Jl 7 [8] H ?_;refine Jo 8 H ?_;refine Jk rfl rfl (iD b1 L k hL.1 (by omega) UG H) ?_;rintro v w ⟨rfl,H⟩;refine Jx H ?_;refine Ay H ?_;intro w H;refine J0 H ?_
 have GN:∀ (j g:Nat) (f:Q9),s.tab[j]? = some ⟨g,some f⟩→QT f≤(Q9.mk a r true false i c (List.replicate n 0)).addr∨QT (Q9.mk a r true false i c (List.replicate n 0))≤f.addr:=by
  intro j g f hj;have QA:j≠k:=fun h=>by subst h;rw[hk] at hj;cases hj
  refine E3.apart j k g (g0+1) f _ QA ?_ Qi;show (s.tab.set k _)[j]? = _;rw[getElem?_set_ne (fun h=>QA h.symm)];exact hj
 have sR:(mem'.set a (X9 i c k)).length=mem'.length:=length_set
 have VR:=qJ hw hm hk (e:=⟨a,r,true,false,i,c,List.replicate n 0⟩) al' (mem2:=Vc (mem'.set a (X9 i c k)) (a+1) n 0) (by rw[Yi (by omega),sR]) VH
  (by
   show (Vc (mem'.set a (X9 i c k)) (a+1) n 0)[a]? = some (X9 i c k);rw[Ul (by omega),if_neg (by omega),getElem?_set_self (by omega)])
  (fun x w hx => by
   have hx:(List.replicate n 0)[x]? = some w:=hx;have h0:=eq_of_mem_replicate (mem_of_getElem? hx);have h1:=(List.getElem?_eq_some_iff.1 hx).1;rw[length_replicate] at h1;subst h0;show (Vc (mem'.set a (X9 i c k)) (a+1) n 0)[a+1+x]? = some 0;rw[Ul (by omega),if_pos (by omega)])
  (fun x hx => by
   have hx:x < a∨QT (Q9.mk a r true false i c (List.replicate n 0))≤x:=hx;unfold QT at hx;rw[length_replicate] at hx;have hx:x < a∨a+1+n≤x:=hx;rw[Ul (by omega),if_neg (by omega),getElem?_set_ne (by omega)])
  GN (s':={ s with own:=own',tab:=s.tab.set k ⟨g0+1,some ⟨a,r,true,false,i,c,List.replicate n 0⟩⟩,sps:=p1++((r:Int),b0,S')::p2,mns:=m1++((r:Int),b1,Zc L k)::m2 }) rfl rfl rfl
 have LK:s.sps.map Vv=(p1++((r:Int),b0,S')::p2).map Vv:=by rw[VN];simp
 have E4:s.mns.map VX=(m1++((r:Int),b1,Zc L k)::m2).map VX:=by rw[Vl];simp
 rw[LK,E4] at H;have H:=(Q0.pick (R:=VG) (x:=((r:Int),b1,Zc L k)) (g1:=m1) (g2:=m2) rfl).2 H;replace H:=Js [6,6,0,0,0,0,1,1,1,1,1,1,1] 1 H;have H:=(Q0.pick (R:=Y0 q.sp) (x:=((r:Int),b0,S')) (g1:=p1) (g2:=p2) rfl).2 H;replace H:=Js [7,2,2,2,2,3,3,3,0,2,0,0] 0 H;have H:=(VM E3 VR H).swap;refine Q3 (Jz H (fun w' H' => .cellN H' rfl (by repeat first|exact .nil _|apply QY.cons rfl) (.tmp .nil)) fun w' H' => .inr (.inr (.inr ⟨hE,k,g0,a,{ s with own:=own',tab:=s.tab.set k ⟨g0+1,some ⟨a,r,true,false,i,c,List.replicate n 0⟩⟩,sps:=p1++((r:Int),b0,S')::p2,mns:=m1++((r:Int),b1,Zc L k)::m2 },hk,Kc,TU,rfl,rfl,rfl,rfl,rfl,rfl,?_,by rw[hN];exact sY hw.size.1 al,fun hP=>rq hP VN (e:=⟨a,r,true,false,i,c,List.replicate n 0⟩) rfl hw.size.1 (hw.spc ((r:Int),b0,S) (by rw[VN];simp)) al' rfl rfl rfl,H'.drop⟩)));show s.tab.set k _=s.tab.set k _;rw[hN];rfl
def sH:Option (Nat×Nat)→Yo
 | some (k,g) => .obj k g
 | none => .none
def GY (told:List (Nat×Nat)) (kd t:Nat):Yo:=if kd=2 then sH told[t]? else if kd=1 then .grave else .none
def RR (ls:List Qa) (i:Nat):Qa:=(ls[i - 1]?).getD ⟨0,[],0,[]⟩
structure KZ (lays:List Qa) (told:List (Nat×Nat)) (e:Q9) (x:QS):Prop where
 region:e.region=x.region
 lay:e.lay=x.lay
 count:e.count=x.count
 held:e.held=x.held
 pinned:e.pinned=x.pinned
 len:e.ws.length=x.w.length
 ref:∀ p,p < x.w.length→Ve (RR lays x.lay) p=true→U1 (e.ws.getD p 0)=GY told (x.kind.getD p 0) (x.to.getD p 0)
 word:∀ p,p < x.w.length→Ve (RR lays x.lay) p=false→e.ws.getD p 0=x.w.getD p 0
 kind:∀ p,p < x.w.length→x.kind.getD p 0≠0→Ve (RR lays x.lay) p=true∧x.kind.getD p 0≤2
structure Rel (s:CS) (m:MS) (told:List (Nat×Nat)):Prop where
 len:told.length=m.objs.length
 lays:s.lays=m.lays
 tree:∀ (r q:Int),(r,q)∈s.par↔∃ k:Nat,r=k∧1≤k∧m.P[k]? = some q∧0≤q
 nd:(s.par.map (·.1)).Nodup
 last:s.last+1=m.P.length
 obj:∀ (o:Nat) (x:QS) (k g:Nat),m.objs[o]? = some x→told[o]? = some (k,g)→x.gone=false→∃ e,s.tab[k]? = some ⟨g,some e⟩∧KZ m.lays told e x
 gone:∀ (o:Nat) (x:QS) (k g:Nat),m.objs[o]? = some x→told[o]? = some (k,g)→x.gone=true→∀ e,s.tab[k]? ≠ some ⟨g,some e⟩
 used:∀ (k g:Nat) (e:Q9),s.tab[k]? = some ⟨g,some e⟩→∃ o:Nat,told[o]? = some (k,g)
 gens:∀ (o k g:Nat),told[o]? = some (k,g)→∃ t,s.tab[k]? = some t∧g≤t.gen
 nodup:told.Nodup
structure KG (s:CS) (m:MS) (told:List (Nat×Nat)):Prop where
 len:told.length=m.objs.length
 lays:s.lays=m.lays
 tree:∀ (r q:Int),(r,q)∈s.par↔∃ k:Nat,r=k∧1≤k∧m.P[k]? = some q∧0≤q
 nd:(s.par.map (·.1)).Nodup
 obj:∀ (o:Nat) (x:QS) (k g:Nat),m.objs[o]? = some x→told[o]? = some (k,g)→x.gone=false→∃ e,s.tab[k]? = some ⟨g,some e⟩∧KZ m.lays told e x
 gone:∀ (o:Nat) (x:QS) (k g:Nat),m.objs[o]? = some x→told[o]? = some (k,g)→x.gone=true→∀ e,s.tab[k]? ≠ some ⟨g,some e⟩
theorem Rel.w {s:CS} {m:MS} {told:List (Nat×Nat)} (R:Rel s m told):KG s m told:=⟨R.len,R.lays,R.tree,R.nd,R.obj,R.gone⟩
theorem OJ {α:Type} {l:List α} (h:l.Nodup) {i j:Nat} {a:α} (hi:l[i]? = some a) (hj:l[j]? = some a):i=j:=by
 have h1:=(List.getElem?_eq_some_iff.1 hi);have h2:=(List.getElem?_eq_some_iff.1 hj);obtain⟨a1,b1⟩:=h1;obtain⟨a2,b2⟩:=h2;have h3:=pairwise_iff_getElem.1 h
 rcases Nat.lt_trichotomy i j with h4|h4|h4
 ·exact absurd (b1.trans b2.symm) (h3 i j a1 a2 h4)
 ·exact h4
 ·exact absurd (b2.trans b1.symm) (h3 j i a2 a1 h4)
theorem HX {s:CS} {m:MS} {told:List (Nat×Nat)} (R:Rel s m told) {n k g:Nat} {e e':Q9} {x x':QS} (ht:told[n]? = some (k,g)) (hk:s.tab[k]? = some ⟨g,some e⟩) (hx:m.objs[n]? = some x) (hg:x.gone=false) (Wx:x'.gone=false) (hl:KZ m.lays told e' x') (rem:List ((Int×Int)×Int)) :
  Rel { Y6 s k g e' with rem:=rem } (G9 m n x') told:=by
 have Z4:=(List.getElem?_eq_some_iff.1 hx).1;have VC:=(List.getElem?_eq_some_iff.1 hk).1;refine⟨by show told.length=(m.objs.set n x').length;rw[length_set];exact R.len,R.lays,R.tree,R.nd,R.last,?_,?_,?_,?_,R.nodup⟩
 ·intro o x0 k0 g0 (Z9:(m.objs.set n x')[o]? = some x0) Kd Kc;by_cases Xn:n=o
  ·subst Xn;rw[getElem?_set_self Z4] at Z9;injection Z9 with Z9
   subst Z9;rw[ht] at Kd;injection Kd with h1
   injection h1 with h1 h2
   subst h1 h2;exact⟨e',by show (s.tab.set k _)[k]? = _;rw[getElem?_set_self VC],hl⟩
  ·rw[getElem?_set_ne Xn] at Z9;obtain⟨e0,h1,h2⟩:=R.obj o x0 k0 g0 Z9 Kd Kc;refine⟨e0,?_,h2⟩;show (s.tab.set k _)[k0]? = _;by_cases R7:k=k0
   ·subst R7;rw[hk] at h1;injection h1 with h1
    injection h1 with h1 _
    subst h1;exact absurd (OJ R.nodup ht Kd) Xn
   ·rw[getElem?_set_ne R7];exact h1
 ·intro o x0 k0 g0 (Z9:(m.objs.set n x')[o]? = some x0) Kd Kc e0 (h1:(s.tab.set k _)[k0]? = _);by_cases Xn:n=o
  ·subst Xn;rw[getElem?_set_self Z4] at Z9;injection Z9 with Z9
   subst Z9;rw[Wx] at Kc;cases Kc
  ·rw[getElem?_set_ne Xn] at Z9
   rcases VE h1 with ⟨rfl,h2,_⟩|⟨_,h2⟩
   ·injection h2 with h2 _
    subst h2;exact Xn (OJ R.nodup ht Kd)
   ·exact R.gone o x0 k0 g0 Z9 Kd Kc e0 h2
 ·intro k0 g0 e0 (h1:(s.tab.set k _)[k0]? = _)
  rcases VE h1 with ⟨rfl,h2,_⟩|⟨_,h2⟩
  ·injection h2 with h2 _
   subst h2;exact⟨n,ht⟩
  ·exact R.used k0 g0 e0 h2
 ·intro o k0 g0 Kd;obtain⟨t,h1,h2⟩:=R.gens o k0 g0 Kd;show ∃ t,(s.tab.set k _)[k0]? = some t∧_;by_cases R7:k=k0
  ·subst R7;rw[hk] at h1;injection h1 with h1
   subst h1;exact⟨_,getElem?_set_self VC,h2⟩
  ·exact⟨t,by rw[getElem?_set_ne R7];exact h1,h2⟩
theorem sI {s:CS} {m:MS} {told:List (Nat×Nat)} (R:Rel s m told) {n:Nat} {x x':QS} (hx:m.objs[n]? = some x) (hg:x.gone=true) (Wx:x'.gone=true):Rel s (G9 m n x') told:=by
 have Z4:=(List.getElem?_eq_some_iff.1 hx).1;refine⟨by show told.length=(m.objs.set n x').length;rw[length_set];exact R.len,R.lays,R.tree,R.nd,R.last,?_,?_,R.used,R.gens,R.nodup⟩
 ·intro o x0 k0 g0 (Z9:(m.objs.set n x')[o]? = some x0) Kd Kc;by_cases Xn:n=o
  ·subst Xn;rw[getElem?_set_self Z4] at Z9;injection Z9 with Z9
   subst Z9;rw[Wx] at Kc;cases Kc
  ·rw[getElem?_set_ne Xn] at Z9;exact R.obj o x0 k0 g0 Z9 Kd Kc
 ·intro o x0 k0 g0 (Z9:(m.objs.set n x')[o]? = some x0) Kd Kc;by_cases Xn:n=o
  ·subst Xn;exact R.gone n x k0 g0 hx Kd hg
  ·rw[getElem?_set_ne Xn] at Z9;exact R.gone o x0 k0 g0 Z9 Kd Kc
def KU (told:List (Nat×Nat)) (i g o:Int):Prop:=(∃ k gg n:Nat,i=k∧g=gg∧o=n∧told[n]? = some (k,gg))∨(o = -1∧∀ (k gg n:Nat),i=k→g=gg→told[n]? ≠ some (k,gg))
@[reducible] def Vd (s:CS) (m:MS) (told:List (Nat×Nat)) (i g o:Int):Prop:=(V4 s.tab i g=none∧VL m o=none) ∨
  ∃ (k gg n:Nat) (e:Q9) (x:QS),i=k∧g=gg∧o=n∧told[n]? = some (k,gg)∧s.tab[k]? = some ⟨gg,some e⟩∧m.objs[n]? = some x∧x.gone=false∧KZ m.lays told e x∧V4 s.tab i g=some (k,e)∧VL m o=some (n,x)
theorem iL {s:CS} {m:MS} {told:List (Nat×Nat)} (R:KG s m told) {k gg n:Nat} (ht:told[n]? = some (k,gg)):Vd s m told k gg n:=by
 have Z4:n < m.objs.length:=by rw[← R.len];exact(List.getElem?_eq_some_iff.1 ht).1
 have hx:=getElem?_eq_getElem Z4;generalize m.objs[n]=x at hx;cases hg:x.gone with
 | true=>
  left;constructor
  ·cases hv:V4 s.tab k gg with
   | none=>rfl
   | some q=>
    obtain⟨k',e⟩:=q;obtain⟨n',h1,h2,h3⟩:=Z1.1 (Rq.1 hv).1;obtain rfl:k=k':=by omega
    obtain rfl:gg=n':=by omega
    exact absurd h3 (R.gone n x k gg hx ht hg e)
  ·rw[JP,hx];simp[hg]
 | false=>
  obtain⟨e,he,hl⟩:=R.obj n x k gg hx ht hg;have ZD:Ql s.tab k gg=some (k,e):=Z1.2 ⟨gg,rfl,rfl,he⟩;cases hh:x.held with
  | true=>
   right;refine⟨k,gg,n,e,x,rfl,rfl,rfl,ht,he,hx,hg,hl,Rq.2 ⟨ZD,by rw[hl.held,hh]⟩,?_⟩;rw[JP,hx];simp[hg,hh]
  | false=>
   left;constructor
   ·cases hv:V4 s.tab k gg with
    | none=>rfl
    | some q=>
     obtain⟨k',e'⟩:=q;obtain⟨h1,h2⟩:=Rq.1 hv;rw[ZD] at h1;injection h1 with h1
     injection h1 with h1 h3
     subst h3;rw[hl.held,hh] at h2;cases h2
   ·rw[JP,hx];simp[hh]
theorem AE {s:CS} {m:MS} {told:List (Nat×Nat)} (R:Rel s m told) {i g o:Int} (P:KU told i g o):Vd s m told i g o:=by
 rcases P with ⟨k,gg,n,rfl,rfl,rfl,ht⟩|⟨rfl,VK⟩
 ·exact iL R.w ht
 ·left;refine⟨?_,rfl⟩;cases hv:V4 s.tab i g with
  | none=>rfl
  | some q=>
   obtain⟨k,e⟩:=q;obtain⟨n',h1,h2,h3⟩:=Z1.1 (Rq.1 hv).1;obtain⟨o,ho⟩:=R.used k n' e h3;exact absurd ho (VK k n' o h1 h2)
theorem Bd {s:CS} {m:MS} {told:List (Nat×Nat)} (R:KG s m told) {e:Q9} {x:QS} (h:KZ m.lays told e x):Qc s e=YF m x:=by
 unfold Qc YF;rw[R.lays,h.lay]
theorem iM {s:CS} {m:MS} {told:List (Nat×Nat)} (R:KG s m told) {i g o:Int} (V:Vd s m told i g o) (place:Int) :
  (Vr m o place false≠0∧KV s i g place=(0,Vr m o place false))∨(Vr m o place false=0∧∃ (n j:Nat) (x:QS),o=n∧place=j∧m.objs[n]? = some x∧j < x.w.length∧KV s i g place=(x.w.getD j 0,0)):=by
 rcases V with ⟨h1,h2⟩|⟨k,gg,n,e,x,rfl,rfl,rfl,ht,hk,hx,hg,hl,h1,h2⟩
 ·left;rw[WN h2,iY h1];exact⟨by omega,rfl⟩
 ·rw[K9 h2,TR h1,Bd R hl,hl.len];by_cases h0:Qb (YF m x) x.w.length place false=0
  ·right;obtain⟨j,rfl,hj,hr⟩:=UP h0;refine⟨h0,n,j,x,rfl,rfl,hx,hj,?_⟩;rw[if_pos h0,Int.toNat_natCast,hl.word j hj hr]
  ·left;exact⟨h0,by rw[if_neg h0]⟩
theorem sJ {s:CS} {m:MS} {told:List (Nat×Nat)} (R:Rel s m told) {i g o:Int} (P:KU told i g o) (place:Int) :
  (Vr m o place false≠0∧KV s i g place=(0,Vr m o place false))∨(Vr m o place false=0∧∃ (n j:Nat) (x:QS),o=n∧place=j∧m.objs[n]? = some x∧j < x.w.length∧KV s i g place=(x.w.getD j 0,0)):=iM R.w (AE R P) place
theorem Ck {α:Type} {l:List α} {i j:Nat} {a d:α} (h:i < l.length):(l.set i a).getD j d=if i=j then a else l.getD j d:=by
 rw[getD_eq_getElem?_getD,getD_eq_getElem?_getD,getElem?_set];split
 ·rename_i ZR;subst ZR;simp[h]
 ·rfl
def Be (m:MS) (o place:Int) (X:Nat):MS:=
 match VL m o with
 | none=>m
 | some (k,x)=>if Qb (YF m x) x.w.length place false=0 then G9 m k { x with w:=x.w.set place.toNat X } else m
theorem iN {m:MS} {o place:Int} {X:Nat} (h:VL m o=none):Be m o place X=m:=by unfold Be;rw[h]
theorem Td {m:MS} {o place:Int} {X k:Nat} {x:QS} (h:VL m o=some (k,x)):Be m o place X=if Qb (YF m x) x.w.length place false=0 then G9 m k { x with w:=x.w.set place.toNat X } else m:=by unfold Be;rw[h]
theorem sM {s:CS} {m:MS} {told:List (Nat×Nat)} (R:Rel s m told) {i g o:Int} (P:KU told i g o) (place:Int) (X:Nat) :
  (RV s i g place X).2=Vr m o place false∧Rel (RV s i g place X).1 (Be m o place X) told:=by
 rcases AE R P with ⟨h1,h2⟩|⟨k,gg,n,e,x,rfl,rfl,rfl,ht,hk,hx,hg,hl,h1,h2⟩
 ·rw[WN h2,L1 h1,iN h2];exact⟨rfl,R⟩
 ·rw[K9 h2,L3 h1,Td h2,Bd R.w hl,hl.len];by_cases h0:Qb (YF m x) x.w.length place false=0
  ·obtain⟨j,rfl,hj,hr⟩:=UP h0;rw[if_pos h0,if_pos h0,h0,Int.toNat_natCast,Int.toNat_natCast];refine⟨rfl,HX R ht hk hx hg (by exact hg) ?_ s.rem⟩;refine⟨hl.region,hl.lay,hl.count,hl.held,hl.pinned,by simp[hl.len],?_,?_,?_⟩
   ·intro p hp Ym;have Ru:p < x.w.length:=by simpa using hp
    show U1 ((e.ws.set j X).getD p 0)=_;rw[Ck (by rw[hl.len];exact hj)];rw[if_neg (by rintro rfl;exact absurd (Ym.symm.trans hr) (by decide))];exact hl.ref p Ru Ym
   ·intro p hp Ym;have Ru:p < x.w.length:=by simpa using hp
    show (e.ws.set j X).getD p 0=(x.w.set j X).getD p 0;rw[Ck (by rw[hl.len];exact hj),Ck hj];split
    ·rfl
    ·exact hl.word p Ru Ym
   ·intro p hp hn;have Ru:p < x.w.length:=by simpa using hp
    exact hl.kind p Ru hn
  ·rw[if_neg h0,if_neg h0];exact⟨rfl,R⟩
theorem iO {ls:List Qa} {told:List (Nat×Nat)} {e:Q9} {x:QS} (h:KZ ls told e x) (b:Bool):KZ ls told { e with held:=b } { x with held:=b }:=⟨h.region,h.lay,h.count,rfl,h.pinned,h.len,h.ref,h.word,h.kind⟩
theorem sN {ls:List Qa} {told:List (Nat×Nat)} {e:Q9} {x:QS} (h:KZ ls told e x) (b:Bool):KZ ls told { e with pinned:=b } { x with pinned:=b }:=⟨h.region,h.lay,h.count,h.held,rfl,h.len,h.ref,h.word,h.kind⟩
theorem sP {s:CS} {m:MS} {told:List (Nat×Nat)} (R:Rel s m told) {i g o:Int} (P:KU told i g o) :
  (RY s i g).2=(Xh m o).2∧Rel (RY s i g).1 (Xh m o).1 told:=by
 rcases AE R P with ⟨h1,h2⟩|⟨k,gg,n,e,x,rfl,rfl,rfl,ht,hk,hx,hg,hl,h1,h2⟩
 ·have:Xh m o=(m,8):=by unfold Xh;rw[h2]
  rw[this,L6 h1];exact⟨rfl,R⟩
 ·have:Xh m n=(G9 m n { x with held:=false },0):=by unfold Xh;rw[h2]
  rw[this,L7 h1,Int.toNat_natCast];exact⟨rfl,HX R ht hk hx hg (by exact hg) (iO hl false) s.rem⟩
theorem sS {s:CS} {m:MS} {told:List (Nat×Nat)} (R:Rel s m told) {i g o:Int} (P:KU told i g o) (on:Bool) :
  (RZ s i g on).2=(Xi m o on).2∧Rel (RZ s i g on).1 (Xi m o on).1 told:=by
 rcases AE R P with ⟨h1,h2⟩|⟨k,gg,n,e,x,rfl,rfl,rfl,ht,hk,hx,hg,hl,h1,h2⟩
 ·have:Xi m o on=(m,8):=by unfold Xi;rw[h2]
  rw[this,L8 h1];exact⟨rfl,R⟩
 ·have:Xi m n on=if x.pinned=on then (m,7) else (G9 m n { x with pinned:=on },0):=by unfold Xi;rw[h2]
  rw[this,L9 h1,Int.toNat_natCast,hl.pinned];by_cases hb:x.pinned=on
  ·rw[if_pos hb,if_pos hb];exact⟨rfl,R⟩
  ·rw[if_neg hb,if_neg hb];exact⟨rfl,HX R ht hk hx hg (by exact hg) (sN hl on) s.rem⟩
theorem iP {s:CS} {m:MS} {told:List (Nat×Nat)} (R:KG s m told) {i g o:Int} (V:Vd s m told i g o) (place:Int) :
  (Vr m o place true≠0∧Yu s i g place=(.none,Vr m o place true))∨(Vr m o place true=0∧∃ (n j:Nat) (x:QS),o=n∧place=j∧m.objs[n]? = some x∧VL m o=some (n,x)∧j < x.w.length∧Ve (RR m.lays x.lay) j=true∧x.kind.getD j 0≤2∧Yu s i g place=(GY told (x.kind.getD j 0) (x.to.getD j 0),0)):=by
 rcases V with ⟨h1,h2⟩|⟨k,gg,n,e,x,rfl,rfl,rfl,ht,hk,hx,hg,hl,h1,h2⟩
 ·left;rw[WN h2,TC h1];exact⟨by omega,rfl⟩
 ·rw[K9 h2,L4 h1,Bd R hl,hl.len];by_cases h0:Qb (YF m x) x.w.length place true=0
  ·right;obtain⟨j,rfl,hj,hr⟩:=UP h0;refine⟨h0,n,j,x,rfl,rfl,hx,h2,hj,hr,?_,?_⟩
   ·by_cases hz:x.kind.getD j 0=0
    ·omega
    ·exact(hl.kind j hj hz).2
   ·rw[if_pos h0,Int.toNat_natCast,hl.ref j hj hr]
  ·left;exact⟨h0,by rw[if_neg h0]⟩
theorem Te {s:CS} {m:MS} {told:List (Nat×Nat)} (R:Rel s m told) {i g o:Int} (P:KU told i g o) (place:Int) :
  (Vr m o place true≠0∧Yu s i g place=(.none,Vr m o place true))∨(Vr m o place true=0∧∃ (n j:Nat) (x:QS),o=n∧place=j∧m.objs[n]? = some x∧VL m o=some (n,x)∧j < x.w.length∧Ve (RR m.lays x.lay) j=true∧x.kind.getD j 0≤2∧Yu s i g place=(GY told (x.kind.getD j 0) (x.to.getD j 0),0)):=iP R.w (AE R P) place
theorem iS {ls:List Qa} {told:List (Nat×Nat)} {e:Q9} {x:QS} {n:Nat} (h:KZ ls told e x) (hm:K6 ls n x) {j:Nat} (hj:j < x.w.length) (hr:Ve (RR ls x.lay) j=true) (kd t:Nat) (GQ:kd≤2) (W:Nat) (hW:U1 W=GY told kd t):KZ ls told { e with ws:=e.ws.set j W } { x with kind:=x.kind.set j kd,to:=x.to.set j t }:=by
 refine⟨h.region,h.lay,h.count,h.held,h.pinned,by simp[h.len],?_,?_,?_⟩
 ·intro p hp Ym;show U1 ((e.ws.set j W).getD p 0)=GY told ((x.kind.set j kd).getD p 0) ((x.to.set j t).getD p 0);rw[Ck (by rw[h.len];exact hj),Ck (by rw[hm.kind];exact hj),Ck (by rw[hm.to];exact hj)];split
  ·exact hW
  ·exact h.ref p hp Ym
 ·intro p hp Ym;show (e.ws.set j W).getD p 0=x.w.getD p 0;rw[Ck (by rw[h.len];exact hj),if_neg (by rintro rfl;exact absurd (hr.symm.trans Ym) (by decide))];exact h.word p hp Ym
 ·intro p hp (hn:(x.kind.set j kd).getD p 0≠0);show _∧(x.kind.set j kd).getD p 0≤2;rw[Ck (by rw[hm.kind];exact hj)] at hn ⊢;by_cases hjp:j=p
  ·subst hjp;rw[if_pos rfl];exact⟨hr,GQ⟩
  ·rw[if_neg hjp] at hn ⊢;exact h.kind p hp hn
theorem sc {s:CS} {m:MS} {told:List (Nat×Nat)} (R:Rel s m told) (hm:VF m) {i g o:Int} (P:KU told i g o) (place:Int) :
  (Xl s i g place .none).2=(R8 m o place).2∧Rel (Xl s i g place .none).1 (R8 m o place).1 told:=by
 rcases AE R P with ⟨h1,h2⟩|⟨k,gg,n,e,x,rfl,rfl,rfl,ht,hk,hx,hg,hl,h1,h2⟩
 ·rw[gr h2,LY h1];exact⟨rfl,R⟩
 ·rw[TV h2,E1 h1,Bd R.w hl,hl.len];by_cases h0:Qb (YF m x) x.w.length place true=0
  ·obtain⟨j,rfl,hj,hr⟩:=UP h0;rw[if_pos h0,if_pos h0,Int.toNat_natCast,Int.toNat_natCast];exact⟨rfl,HX R ht hk hx hg (by exact hg) (iS hl (hm.objs x (mem_of_getElem? hx)) hj hr 0 0 (by omega) _ rfl) _⟩
  ·rw[if_neg h0,if_neg h0];exact⟨rfl,R⟩
theorem iT {s:CS} {m:MS} {told:List (Nat×Nat)} (R:Rel s m told) (hw:WF s) (hm:VF m) {i g o u v q:Int} (P:KU told i g o) (Q:KU told u v q) (place:Int) :
  (GV s i g place u v).2=(Zw m o place q).2∧Rel (GV s i g place u v).1 (Zw m o place q).1 told:=by
 rcases AE R P with ⟨h1,h2⟩|⟨k,gg,n,e,x,rfl,rfl,rfl,ht,hk,hx,hg,hl,h1,h2⟩
 ·have h3:Zw m o place q=(m,8):=by unfold Zw;rw[h2]
  have h4:GV s i g place u v=(s,8):=by unfold GV;rw[TC h1];rw[if_pos (by decide)]
  rw[h3,h4];exact⟨rfl,R⟩
 ·by_cases h0:Qb (YF m x) x.w.length place true=0
  ·have hz:(Yu s k gg place).2=0:=by rw[L4 h1,Bd R.w hl,hl.len,if_pos h0]
   rcases AE R Q with ⟨h3,h4⟩|⟨k',gg',n',e',x',rfl,rfl,rfl,WJ,Yb,V9,Wx,ia,h3,h4⟩
   ·have h5:Zw m n place q=(m,8):=by unfold Zw;rw[h2];show (if Qb _ _ _ _=0 then _ else _)=_;rw[if_pos h0,h4]
    have h6:GV s k gg place u v=(s,8):=by unfold GV;rw[hz,if_neg (by decide),h3];rfl
    rw[h5,h6];exact⟨rfl,R⟩
   ·have h5:Zw m n place n'=(G9 m n { x with kind:=x.kind.set place.toNat 2,to:=x.to.set place.toNat n' },0):=by unfold Zw;rw[h2];show (if Qb _ _ _ _=0 then _ else _)=_;rw[if_pos h0,h4]
    have h6:GV s k gg place k' gg'=Xl s k gg place (.obj k' gg'):=by unfold GV;rw[hz,if_neg (by decide),h3];rfl
    rw[h5,h6,E1 h1,Bd R.w hl,hl.len,if_pos h0];obtain⟨j,rfl,hj,hr⟩:=UP h0;rw[Int.toNat_natCast,Int.toNat_natCast];have QK:=TM hw Yb;exact⟨rfl,HX R ht hk hx hg (by exact hg) (iS hl (hm.objs x (mem_of_getElem? hx)) hj hr 2 n' (by omega) _ (by rw[i8 QK.1];unfold GY;rw[if_pos rfl,WJ];rfl)) _⟩
  ·have hz:Yu s k gg place=(.none,Qb (YF m x) x.w.length place true):=by rw[L4 h1,Bd R.w hl,hl.len,if_neg h0]
   have h5:Zw m n place q=(m,Qb (YF m x) x.w.length place true):=by unfold Zw;rw[h2];show (if Qb _ _ _ _=0 then _ else _)=_;rw[if_neg h0]
   have h6:GV s k gg place u v=(s,Qb (YF m x) x.w.length place true):=by unfold GV;rw[hz,if_pos h0]
   rw[h5,h6];exact⟨rfl,R⟩
theorem sd {s:CS} {m:MS} {told:List (Nat×Nat)} (R:Rel s m told) (hm:VF m) {i g o:Int} (P:KU told i g o) (place:Int) :
  (Yu s i g place).2=(ZF m o place).2.2.2∧(Yu s i g place).1=GY told (ZF m o place).2.1 (ZF m o place).2.2.1∧(ZF m o place).2.1≤2∧((ZF m o place).2.1=2→(ZF m o place).2.2.1 < told.length)∧Rel (UU s i g place) (ZF m o place).1 told:=by
 rcases Te R P place with ⟨h0,h1⟩|⟨h0,n,j,x,rfl,rfl,hx,hv,hj,hr,VP,h1⟩
 ·have h3:ZF m o place=(m,0,0,Vr m o place true):=by
   cases hv:VL m o with
   | none=>unfold ZF;rw[hv,WN hv]
   | some kx=>
    obtain⟨k,x⟩:=kx;rw[K9 hv] at h0 ⊢;unfold ZF;rw[hv];show (if Qb _ _ _ _=0 then _ else _)=_;rw[if_neg h0]
  have h4:UU s i g place=s:=by unfold UU;rw[h1]
  rw[h3,h4,h1];exact⟨rfl,rfl,by show 0≤2;omega,fun h=>(by cases h),R⟩
 ·rw[K9 hv] at h0;have h3:ZF m n j=(if x.kind.getD j 0=2 then AC m (x.to.getD j 0) else m,x.kind.getD j 0,x.to.getD j 0,0):=by unfold ZF;rw[hv];show (if Qb _ _ _ _=0 then _ else _)=_;rw[if_pos h0,Int.toNat_natCast]
  have HU:=hm.objs x (mem_of_getElem? hx);rw[h3,h1];by_cases GQ:x.kind.getD j 0=2
  ·have KB:j < x.kind.length:=by rw[HU.kind];exact hj
   have ib:=getElem?_eq_getElem KB;have KQ:=HU.goes j (by rw[ib];rw[getD_eq_getElem?_getD,ib] at GQ;exact congrArg some GQ);have E5:x.to.getD j 0 < told.length:=by rw[R.len];exact KQ
   generalize BN:x.to.getD j 0=td at *;rw[GQ,if_pos rfl];have hy:=getElem?_eq_getElem KQ;generalize m.objs[td]=y at hy;have LW:=getElem?_eq_getElem E5;generalize told[td]=ab at LW;obtain⟨a,b⟩:=ab;have E6:GY told 2 td = .obj a b:=by unfold GY;rw[if_pos rfl,LW];rfl
   have h4:UU s i g j=BS s a b:=by unfold UU;rw[h1,GQ,E6];rfl
   have h5:AC m td=G9 m td { y with held:=true }:=by unfold AC;rw[hy]
   rw[h4,h5];refine⟨rfl,rfl,by show 2≤2;omega,fun _=>E5,?_⟩;by_cases RH:y.gone=true
   ·have h6:Ql s.tab a b=none:=by
     cases ZD:Ql s.tab a b with
     | none=>rfl
     | some q=>
      obtain⟨k',e'⟩:=q;obtain⟨n',h1,h2,h3⟩:=Z1.1 ZD;obtain rfl:a=k':=by omega
      obtain rfl:b=n':=by omega
      exact absurd h3 (R.gone td y a b hy LW RH e')
    rw[LZ h6];exact sI R hy RH (by exact RH)
   ·have RH:y.gone=false:=by simpa using RH
    obtain⟨e',Kq,ia⟩:=R.obj td y a b hy LW RH;have h6:Ql s.tab a b=some (a,e'):=Z1.2 ⟨b,rfl,rfl,Kq⟩;rw[LG h6];exact HX R LW Kq hy RH (by exact RH) (iO ia true) s.rem
  ·have h4:UU s i g j=s:=by
    unfold UU;rw[h1]
    have:∀ a b,GY told (x.kind.getD j 0) (x.to.getD j 0) ≠ .obj a b:=by
     intro a b;unfold GY;rw[if_neg GQ];split <;> intro h <;> cases h
    generalize GY told (x.kind.getD j 0) (x.to.getD j 0)=L at this;cases L with
    | none=>rfl
    | grave=>rfl
    | obj a b=>exact absurd rfl (this a b)
   rw[h4,if_neg GQ];exact⟨rfl,rfl,VP,fun h=>absurd h GQ,R⟩
def ic:Option (Nat×QS)→Value
 | some (_,x) => .tuple #[.agg #[.int .i64 x.region,.int .i64 x.lay,.int .i64 x.count,.int .i64 x.w.length,.bool x.pinned],.int .i64 0]
 | none => .tuple #[.agg #[.int .i64 0,.int .i64 0,.int .i64 0,.int .i64 0,.bool false],.int .i64 8]
theorem se {s:CS} {m:MS} {told:List (Nat×Nat)} (R:KG s m told) {i g o:Int} (V:Vd s m told i g o):TF (V4 s.tab i g)=ic (VL m o):=by
 rcases V with ⟨h1,h2⟩|⟨k,gg,n,e,x,rfl,rfl,rfl,ht,hk,hx,hg,hl,h1,h2⟩
 ·rw[h1,h2];rfl
 ·rw[h1,h2];show Value.tuple #[.agg (TE e).toArray,.int .i64 0]=_;show Value.tuple #[.agg #[.int .i64 e.region,.int .i64 e.lay,.int .i64 e.count,.int .i64 e.ws.length,.bool e.pinned],.int .i64 0]=Value.tuple #[.agg #[.int .i64 x.region,.int .i64 x.lay,.int .i64 x.count,.int .i64 x.w.length,.bool x.pinned],.int .i64 0];rw[hl.region,hl.lay,hl.count,hl.len,hl.pinned]
theorem E7 {s:CS} {m:MS} {told:List (Nat×Nat)} (R:Rel s m told) (id:Int):(QV s.par id).isSome=Yj m.P id:=by
 unfold Yj;cases hf:QV s.par id with
 | some q=>
  obtain⟨k,rfl,h1,h2,h3⟩:=(R.tree id q).1 (KE hf);have h4:=(List.getElem?_eq_some_iff.1 h2).1
  symm
  show decide _=true;rw[decide_eq_true];refine⟨by omega,by omega,?_⟩;rw[Int.toNat_natCast,getD_eq_getElem?_getD,h2];exact h3
 | none=>
  symm
  show decide _=false;rw[decide_eq_false];rintro⟨h1,h2,h3⟩;obtain⟨k,rfl⟩:∃ k:Nat,id=k:=⟨id.toNat,by omega⟩;have hk:k < m.P.length:=by omega
  have h4:=getElem?_eq_getElem hk;rw[Int.toNat_natCast,getD_eq_getElem?_getD,h4] at h3;have h5:=(R.tree k m.P[k]).2 ⟨k,rfl,by omega,h4,h3⟩;rw[(YP R.nd).2 h5] at hf;cases hf
theorem LA {P:List Int} {k:Nat}:k∈V5 P↔∃ q,P[k]? = some q∧1≤k∧0≤q:=by
 unfold V5;rw[JN];constructor
 ·rintro⟨h1,h2,h3⟩;have h4:=getElem?_eq_getElem h1;rw[getD_eq_getElem?_getD,h4] at h3;exact⟨_,h4,h2,by simpa using h3⟩
 ·rintro⟨q,h1,h2,h3⟩;refine⟨(List.getElem?_eq_some_iff.1 h1).1,h2,?_⟩;rw[getD_eq_getElem?_getD,h1];simpa using h3
theorem Tf (P:List Int):(V5 P).Nodup:=(gl P _ _).imp (fun h=>by omega)
theorem HK {s:CS} {m:MS} {told:List (Nat×Nat)} (R:KG s m told):s.par.length=(V5 m.P).length:=by
 have h1:((V5 m.P).map fun k:Nat=>(k:Int)).Nodup:=by
  refine List.Pairwise.map _ ?_ (Tf m.P);intro a b K2;omega
 have h2:=UQ R.nd (l₂:=(V5 m.P).map fun k:Nat=>(k:Int)) (by
  intro z hz;obtain⟨⟨r,q⟩,hq,rfl⟩:=mem_map.1 hz;obtain⟨k,rfl,a,b,c⟩:=(R.tree r q).1 hq;exact mem_map.2 ⟨k,LA.2 ⟨q,b,a,c⟩,rfl⟩)
 have h3:=UQ h1 (l₂:=s.par.map (·.1)) (by
  intro z hz;obtain⟨k,hk,rfl⟩:=mem_map.1 hz;obtain⟨q,a,b,c⟩:=LA.1 hk;exact mem_map.2 ⟨((k:Int),q),(R.tree k q).2 ⟨k,rfl,b,a,c⟩,rfl⟩)
 rw[length_map,length_map] at h2 h3;omega
theorem sf {s:CS} {m:MS} {told:List (Nat×Nat)} (R:Rel s m told) (hw:WF s) (parent:Int):Gf s.par parent=Gh m.P parent:=by
 unfold Gf Gh;rw[E7 R,HK R.w];have:=hw.par.1;rw[HK R.w] at this;by_cases h:parent≠0∧Yj m.P parent=false
 ·rw[if_pos h,if_pos h]
 ·rw[if_neg h,if_neg h];by_cases h2:(V5 m.P).length=64
  ·rw[if_pos h2,if_pos (by omega)]
  ·rw[if_neg h2,if_neg (by omega)]
theorem Tg {s:CS} {m:MS} {told:List (Nat×Nat)} (R:Rel s m told) {parent:Int} (h:Gh m.P parent=0) (b b2:Nat):Rel (E2 s parent b b2) { m with P:=m.P++[parent] } told:=by
 have hp:0≤parent:=by
  unfold Gh at h;split at h
  ·cases h
  ·rename_i hn;by_cases h0:parent=0
   ·omega
   ·have:Yj m.P parent=true:=by
     cases hl:Yj m.P parent with
     | true=>rfl
     | false=>exact absurd ⟨h0,hl⟩ hn
    unfold Yj at this;have:=of_decide_eq_true this;omega
 have hl:=R.last;refine⟨R.len,R.lays,?_,?_,?_,R.obj,R.gone,R.used,R.gens,R.nodup⟩
 ·intro r q;show (r,q)∈s.par++[(((s.last+1:Nat):Int),parent)]↔∃ k:Nat,r=k∧1≤k∧(m.P++[parent])[k]? = some q∧0≤q;rw[mem_append,R.tree r q];constructor
  ·rintro(⟨k,rfl,a,b,c⟩|h)
   ·exact⟨k,rfl,a,by rw[getElem?_append_left (List.getElem?_eq_some_iff.1 b).1];exact b,c⟩
   ·simp only[mem_singleton] at h;injection h with h1 h2
    subst h1 h2;exact⟨s.last+1,rfl,by omega,by rw[hl,getElem?_append_right (Nat.le_refl _),Nat.sub_self];rfl,hp⟩
  ·rintro⟨k,rfl,a,b,c⟩;by_cases hk:k < m.P.length
   ·rw[getElem?_append_left hk] at b;exact .inl ⟨k,rfl,a,b,c⟩
   ·right;have VP:=(List.getElem?_eq_some_iff.1 b).1;simp at VP;obtain rfl:k=m.P.length:=by omega
    rw[getElem?_append_right (Nat.le_refl _),Nat.sub_self] at b;injection b with b
    simp only[mem_singleton];rw[hl,← b]
 ·show ((s.par++[(((s.last+1:Nat):Int),parent)]).map (·.1)).Nodup;rw[map_append];refine nodup_append.2 ⟨R.nd,by simp,?_⟩;intro a ha b hb;simp only[map_cons,map_nil,mem_singleton] at hb;subst hb;obtain⟨⟨r,q⟩,hq,rfl⟩:=mem_map.1 ha;obtain⟨k,h1,_,h2,_⟩:=(R.tree r q).1 hq;have:=(List.getElem?_eq_some_iff.1 h2).1;intro h3;have h4:r=((s.last+1:Nat):Int):=h3;omega
 ·show s.last+1+1=(m.P++[parent]).length;simp;omega
theorem Th {ls:List Qa} {l:Qa} {i:Nat} (h:i - 1 < ls.length):RR (ls++[l]) i=RR ls i:=by
 unfold RR;rw[getElem?_append_left h]
theorem sg {ls:List Qa} {told:List (Nat×Nat)} {e:Q9} {x:QS} (h:KZ ls told e x) {l:Qa} (hi:x.lay - 1 < ls.length):KZ (ls++[l]) told e x:=by
 refine⟨h.region,h.lay,h.count,h.held,h.pinned,h.len,?_,?_,?_⟩
 ·rw[Th hi];exact h.ref
 ·rw[Th hi];exact h.word
 ·rw[Th hi];exact h.kind
theorem ie {s:CS} {m:MS} {told:List (Nat×Nat)} (R:Rel s m told) (hm:VF m) (ws:List Nat):(RG s ws).2=(UY m ws).2∧Rel (RG s ws).1 (UY m ws).1 told:=by
 cases hd:Gw ws with
 | none=>
  have h1:UY m ws=(m,0,4):=by unfold UY;rw[hd]
  rw[h1,LU hd];exact⟨rfl,R⟩
 | some l=>
  have h1:UY m ws=if 64≤m.lays.length then (m,0,5) else ({ m with lays:=m.lays++[l] },m.lays.length+1,0):=by unfold UY;rw[hd]
  rw[h1,HG hd,R.lays];have:=hm.lays.1;by_cases Y3:m.lays.length=64
  ·rw[if_pos Y3,if_pos (by omega)];exact⟨rfl,R⟩
  ·rw[if_neg Y3,if_neg (by omega)];refine⟨rfl,R.len,rfl,R.tree,R.nd,R.last,?_,R.gone,R.used,R.gens,R.nodup⟩;intro o x k g hx ht hg;obtain⟨e,h1,h2⟩:=R.obj o x k g hx ht hg;have HU:=hm.objs x (mem_of_getElem? hx);obtain⟨l',h3,_⟩:=HU.lay;exact⟨e,h1,sg h2 (List.getElem?_eq_some_iff.1 h3).1⟩
theorem Ti {s:CS} {m:MS} {told:List (Nat×Nat)} (R:Rel s m told) (region id count:Int):UX s region id count=(YO m region id count).2∧((YO m region id count).2=0→ZJ s id count=(YO m region id count).1):=by
 unfold UX ZJ YO Ba;rw[E7 R,R.lays];by_cases h1:Yj m.P region=false
 ·rw[if_pos h1,if_pos h1];exact⟨rfl,fun h=>by cases h⟩
 ·rw[if_neg h1,if_neg h1];by_cases h2:id < 1∨(m.lays.length:Int) < id
  ·rw[if_pos h2,if_pos h2];exact⟨rfl,fun h=>by cases h⟩
  ·rw[if_neg h2,if_neg h2];exact⟨rfl,fun _=>rfl⟩
theorem sh {ls:List Qa} {told:List (Nat×Nat)} {e:Q9} {x:QS} (h:KZ ls told e x) {t:Nat×Nat} (hx:∀ p,x.kind[p]? = some 2→x.to.getD p 0 < told.length):KZ ls (told++[t]) e x:=by
 refine⟨h.region,h.lay,h.count,h.held,h.pinned,h.len,?_,h.word,h.kind⟩;intro p hp hr;rw[h.ref p hp hr];unfold GY;by_cases h2:x.kind.getD p 0=2
 ·rw[if_pos h2,if_pos h2]
  have h3:x.kind[p]? = some 2:=by
   rw[getD_eq_getElem?_getD] at h2;cases hk:x.kind[p]? with
   | none=>rw[hk] at h2;cases h2
   | some q=>rw[hk] at h2;exact congrArg some h2
  rw[getElem?_append_left (hx p h3)]
 ·rw[if_neg h2,if_neg h2]
theorem Tj (n p:Nat):(List.replicate n 0).getD p 0=0:=by
 rw[getD_eq_getElem?_getD,getElem?_replicate];split <;> rfl
theorem ig {s s':CS} {m:MS} {told:List (Nat×Nat)} (R:Rel s m told) (hm:VF m) {region id count:Int} (Yt:(YO m region id count).2=0) {k g0 addr:Nat} (hk:s.tab[k]? = some ⟨g0,none⟩)
  (e1:s'.lays=s.lays) (e2:s'.last=s.last) (e3:s'.par=s.par) (e4:s'.tab=s.tab.set k ⟨g0+1,some ⟨addr,region,true,false,id.toNat,count.toNat,List.replicate (ZJ s id count) 0⟩⟩) :
  (∀ n:Nat,told[n]? ≠ some (k,g0+1))∧Rel s' (BO m region id count) (told++[(k,g0+1)]):=by
 have VC:=(List.getElem?_eq_some_iff.1 hk).1;have hn:ZJ s id count=(YO m region id count).1:=(Ti R region id count).2 Yt;have hr:BO m region id count={ m with objs:=m.objs++[XG region id count (YO m region id count).1] }:=rfl
 have Gx:region=(region.toNat:Int):=by
  obtain⟨r,la,c,l,rfl,_⟩:=OK Yt;rfl
 have LC:∀ n:Nat,told[n]? ≠ some (k,g0+1):=by
  intro n hn;obtain⟨t,h1,h2⟩:=R.gens n k (g0+1) hn;rw[hk] at h1;injection h1 with h1
  subst h1;have h2:g0+1≤g0:=h2;omega
 refine⟨LC,?_⟩;rw[hr]
 have QA:∀ (o k0 g:Nat) (e:Q9),s.tab[k0]? = some ⟨g,some e⟩→k≠k0:=by
  rintro o k0 g e h rfl;rw[hk] at h;injection h with h
  injection h with _ h
  cases h
 refine⟨by show (told++[_]).length=(m.objs++[_]).length;rw[length_append,length_append,R.len];rfl,by rw[e1];exact R.lays,by rw[e3];exact R.tree,by rw[e3];exact R.nd,by rw[e2];exact R.last,?_,?_,?_,?_,?_⟩
 ·intro o x k0 g (hx:(m.objs++[XG region id count (YO m region id count).1])[o]? = some x) ht hg;by_cases ho:o < m.objs.length
  ·rw[getElem?_append_left ho] at hx;rw[getElem?_append_left (by rw[R.len];exact ho)] at ht;obtain⟨e,h1,h2⟩:=R.obj o x k0 g hx ht hg;refine⟨e,?_,sh h2 (by rw[R.len];exact(hm.objs x (mem_of_getElem? hx)).goes)⟩;rw[e4,getElem?_set_ne (QA o k0 g e h1)];exact h1
  ·have VH:=(List.getElem?_eq_some_iff.1 hx).1;rw[length_append] at VH;obtain rfl:o=m.objs.length:=by simp at VH;omega
   rw[getElem?_append_right (Nat.le_refl _),Nat.sub_self] at hx;rw[← R.len,getElem?_append_right (Nat.le_refl _),Nat.sub_self] at ht;injection hx with hx
   injection ht with ht
   injection ht with h1 h2
   subst hx h1 h2;refine⟨_,by rw[e4,getElem?_set_self VC],?_⟩;rw[hn];refine⟨Gx,rfl,rfl,rfl,rfl,rfl,?_,?_,?_⟩
   ·intro p hp _;show U1 ((List.replicate _ 0).getD p 0)=GY _ ((List.replicate _ 0).getD p 0) ((List.replicate _ 0).getD p 0);rw[Tj];rfl
   ·intro p hp _;rfl
   ·intro p hp (hk:(List.replicate _ 0).getD p 0≠0);exact absurd (Tj _ p) hk
 ·intro o x k0 g (hx:(m.objs++[XG region id count (YO m region id count).1])[o]? = some x) ht hg;by_cases ho:o < m.objs.length
  ·rw[getElem?_append_left ho] at hx;rw[getElem?_append_left (by rw[R.len];exact ho)] at ht;intro e h1;rw[e4] at h1
   rcases VE h1 with ⟨rfl,h2,_⟩|⟨_,h2⟩
   ·injection h2 with h2 _
    subst h2;exact LC o ht
   ·exact R.gone o x k0 g hx ht hg e h2
  ·have VH:=(List.getElem?_eq_some_iff.1 hx).1;rw[length_append] at VH;obtain rfl:o=m.objs.length:=by simp at VH;omega
   rw[getElem?_append_right (Nat.le_refl _),Nat.sub_self] at hx;injection hx with hx
   subst hx;cases hg
 ·intro k0 g e h1;rw[e4] at h1
  rcases VE h1 with ⟨rfl,h2,_⟩|⟨_,h2⟩
  ·injection h2 with h2 _
   subst h2;exact⟨told.length,by rw[getElem?_append_right (Nat.le_refl _),Nat.sub_self];rfl⟩
  ·obtain⟨o,ho⟩:=R.used k0 g e h2;exact⟨o,by rw[getElem?_append_left (List.getElem?_eq_some_iff.1 ho).1];exact ho⟩
 ·intro o k0 g ht;rw[e4];by_cases ho:o < told.length
  ·rw[getElem?_append_left ho] at ht;obtain⟨t,h1,h2⟩:=R.gens o k0 g ht;by_cases R7:k=k0
   ·subst R7;rw[hk] at h1;injection h1 with h1
    subst h1;exact⟨_,getElem?_set_self VC,by show g≤g0+1;have h2:g≤g0:=h2;omega⟩
   ·exact⟨t,by rw[getElem?_set_ne R7];exact h1,h2⟩
  ·have VH:=(List.getElem?_eq_some_iff.1 ht).1;rw[length_append] at VH;obtain rfl:o=told.length:=by simp at VH;omega
   rw[getElem?_append_right (Nat.le_refl _),Nat.sub_self] at ht;injection ht with ht
   injection ht with h1 h2
   subst h1 h2;exact⟨_,getElem?_set_self VC,Nat.le_refl _⟩
 ·refine nodup_append.2 ⟨R.nodup,by simp,?_⟩;intro a ha b hb;simp only[mem_singleton] at hb;subst hb;rintro rfl;obtain⟨n,h⟩:=mem_iff_getElem?.1 ha;exact LC n h
def U3 (l:List (Nat×Nat)):List Value:=l.flatMap fun t=>[.int .i64 (t.1:Nat),.int .i64 (t.2:Nat)]
theorem Bf (l:List (Nat×Nat)):(U3 l).length=l.length*2:=by
 induction l with
 | nil=>rfl
 | cons p L ih=>simp only[U3,flatMap_cons,length_append,length_cons,length_nil] at ih ⊢;omega
theorem Tk (a b:List (Nat×Nat)):U3 (a++b)=U3 a++U3 b:=by simp[U3]
theorem si {L:List (Nat×Nat)} {i:Nat} {p:Nat×Nat} (h:L[i]? = some p):(U3 L)[i*2]? = some (.int .i64 (p.1:Nat))∧(U3 L)[i*2+1]? = some (.int .i64 (p.2:Nat)):=by
 induction L generalizing i with
 | nil=>simp at h
 | cons x L ih=>
  cases i with
  | zero=>
   simp at h;subst h;exact⟨rfl,rfl⟩
  | succ i=>
   have:=ih (i:=i) (by simpa using h);rw[show (i+1)*2=i*2+2 by omega];exact this
theorem sj {c:List Value} {o n:Nat} {L:List (Nat×Nat)} (h:QY c o n (U3 L)) {i:Nat} {p:Nat×Nat} (hp:L[i]? = some p):QY c (o+i*2) 2 [.int .i64 (p.1:Nat),.int .i64 (p.2:Nat)]:=by
 obtain⟨h1,h2⟩:=si hp;refine h.part (es:=[.int .i64 (p.1:Nat),.int .i64 (p.2:Nat)]) fun j v hj=>?_
 match j,hj with
 | 0,hj=>rw[← hj];exact h1
 | 1,hj=>rw[← hj];exact h2
theorem Wa {L:List (Nat×Nat)} {spare:List Value} {i:Nat} {p:Nat×Nat} (h:L[i]? = some p):QY (U3 L++spare) (0+i*2) 2 [.int .i64 (p.1:Nat),.int .i64 (p.2:Nat)]:=by
 refine sj (L:=L) (n:=(U3 L).length) (QY.of_get fun j v hj=>?_) h;rw[Nat.zero_add,getElem?_append_left (List.getElem?_eq_some_iff.1 hj).1];exact hj
@[reducible] def V8 (v:Value) (told:List (Nat×Nat)):Q2:=QF 69 2 v (U3 told)
@[reducible] def Y8 (p c mo:Nat) (v:Value):Q2:=pts p (row 48 [pp c,pp mo,v])
structure RQ where
 c:Nat
 mo:Nat
 v:Value
def Ua (p:Nat) (s:CS) (m:MS) (told:List (Nat×Nat)):Q2:=ex fun q:RQ=>star [Y8 p q.c q.mo q.v,QD q.c s,Qy q.mo m,V8 q.v told]
theorem E8 [Q4] {w:World} {p:Nat} {s:CS} {m:MS} {told:List (Nat×Nat)} {l:List Q2} (H:Q0 w (Ua p s m told::l)):∃ (c mo:Nat) (a:Option Addr) (cap:Nat),Q0 w (Y8 p c mo (.slice a told.length cap)::QD c s::Qy mo m::V8 (.slice a told.length cap) told::l):=by
 obtain⟨⟨c,mo,v⟩,H⟩:=Q0.ex.1 H;have H:=Q0.star.1 H;obtain⟨a,cap,rfl⟩:=QI (H.drop.drop.drop) (Bf told) (by decide);exact⟨c,mo,a,cap,H⟩
theorem Yw [Q4] {w:World} {p c mo:Nat} {v:Value} {s:CS} {m:MS} {told:List (Nat×Nat)} {l:List Q2} (H:Q0 w (Y8 p c mo v::QD c s::Qy mo m::V8 v told::l)):Q0 w (Ua p s m told::l):=
 Q0.ex.2 ⟨⟨c,mo,v⟩,Q0.star.2 H⟩
theorem ii [Q4] (p c mo:Nat) (a:Option Addr) (cap:Nat) (told:List (Nat×Nat)) (Qw:told.length≤1000000) (k i g:Int) (raw:Bool) {w:World} {fr:List Q2} (H:Q0 w (Y8 p c mo (.slice a told.length cap)::V8 (.slice a told.length cap) told::fr)) :
  Calls Tryz.prog 160 #[pp p,.int .i64 k,.bool raw,GJ i g] w (ret fun v w'=>∃ i' g' o,v = .tuple #[GJ i' g',.int .i64 o]∧KU told i' g' o∧(raw=false→told≠[]→o ≠ -1)∧(raw=true∨told=[]→i'=i∧g'=g)∧Q0 w' (Y8 p c mo (.slice a told.length cap)::V8 (.slice a told.length cap) told::fr)):=by
 refine QQ Tryz.func160 rfl (by kernel_rfl) ?_;refine J8 H ?_;intro b7 w H;refine VO H ?_;intro b8 w H;refine Yn H ?_;refine Qt (fun ms σ w=>ms=[]∧(∃ q,σ 21 = .bool q∧(q=true↔raw=false∧told≠[]))∧σ 0=pp p∧σ 1 = .int .i64 k∧σ 7=pp b7∧σ 8=pp b8∧Q0 w (pts b7 (row 69 [.int .i64 i,.int .i64 g])::pts b8 (row 69 [.int .i64 0,.int .i64 0])::Y8 p c mo (.slice a told.length cap)::V8 (.slice a told.length cap) told::fr)) ?_ ?_
 ·cases raw with
  | true=>
   refine YJ H ?_;refine SZ H ?_;refine IS H ?_;refine J0 H ?_;exact⟨rfl,rfl,⟨false,rfl,by simp⟩,rfl,rfl,rfl,rfl,H.swap⟩
  | false=>
   refine CY H ?_;refine Qe rfl rfl rfl (VJ rfl rfl ?_);refine Qe rfl rfl rfl (QC H rfl rfl rfl ?_);refine Qe rfl rfl rfl (Gm rfl rfl ?_);refine VW rfl rfl rfl rfl ?_;refine J0 H ?_;refine⟨rfl,rfl,⟨_,rfl,?_⟩,rfl,rfl,rfl,rfl,H.swap⟩;cases told with
   | nil=>simp
   | cons x l=>
    refine⟨fun _=>⟨rfl,by simp⟩,fun _=>?_⟩;show decide ((((x::l).length:Nat):Int) > 0)=true;exact decide_eq_true (by rw[length_cons];omega)
 rintro ms σ w ⟨rfl,⟨q,g21,hq⟩,g0,g1,g7,g8,H⟩;rw[Q1 g21,Q1 g0,Q1 g1,Q1 g7,Q1 g8];refine J6 H ?_;refine Qt (fun ms σ w=>ms=[]∧σ 0=pp p∧σ 7=pp b7∧σ 8=pp b8∧∃ i' g':Int,(raw=false→told≠[]→∃ n x y:Nat,told[n]? = some (x,y)∧i'=x∧g'=y)∧(raw=true∨told=[]→i'=i∧g'=g)∧Q0 w (pts b7 (row 69 [.int .i64 i',.int .i64 g'])::pts b8 (row 69 [.int .i64 0,.int .i64 0])::Y8 p c mo (.slice a told.length cap)::V8 (.slice a told.length cap) told::fr)) ?_ ?_
 ·cases q with
  | true=>
   obtain⟨JJ,OM⟩:=hq.1 rfl;refine Vt H ?_;refine J1 H ?_;intro w H;refine YI H ?_;refine Jl 3 [16] H ?_;refine Ja 4 ?_;refine KI 5 rfl (Q8.none rfl) rfl (by kernel_rfl) ?_;refine FT H ?_;refine Jl 9 [16] H ?_;refine Ap 10 rfl (Q8.none rfl) rfl (by kernel_rfl) ?_;refine KI 11 rfl (Q8.none rfl) rfl (by kernel_rfl) ?_
   obtain⟨K,hK⟩:∃ K:Nat,IntKind.u64.wrap k=K:=⟨(IntKind.u64.wrap k).toNat,by
    have:0≤IntKind.u64.wrap k:=Int.emod_nonneg _ (by decide);omega⟩
   have LD:0 < told.length:=length_pos_iff.2 OM;have e1:IntKind.u64.wrap (told.length:Int)=(told.length:Int):=Int.emod_eq_of_lt (by omega) (by show (told.length:Int) < 18446744073709551616;omega);rw[hK,e1];have DW:=Nat.mod_lt K LD
   refine XF (v := .int .u64 ((K % told.length:Nat):Int)) 12 rfl (Q8.none rfl) (by
    show (if IntKind.u64=IntKind.u64 then (if (told.length:Int)=0 then none else some (Value.int IntKind.u64 (Int.tmod (K:Int) (told.length:Int)))) else none)=_;rw[if_pos rfl,if_neg (by omega),Int.tmod_eq_emod_of_nonneg (by omega),Int.natCast_emod]) (by kernel_rfl) ?_
   refine KI 13 rfl (Q8.none rfl) rfl (by kernel_rfl) ?_;rw[Qh (x:=((K % told.length:Nat):Int)) (by omega) (by omega)];generalize K % told.length=n at DW;have hn:=getElem?_eq_getElem DW;generalize told[n]=xy at hn;obtain⟨x,y⟩:=xy;replace H:=Js [3,0,0,0] 0 H;obtain⟨bT,sT,rfl,H,QJ⟩:=VY H LD;refine Ji 14 ?_;refine Vz 15 [16] H rfl (Q8.none rfl) rfl (Wa hn) (by kernel_rfl) ?_;refine Jo 16 H ?_;refine KM H ?_;intro w H;replace H:=QJ _ _ H;refine Jx H ?_;replace H:=Js [1,1,1,0] 0 H;exact⟨rfl,rfl,rfl,rfl,rfl,x,y,fun _ _=>⟨n,x,y,hn,rfl,rfl⟩,fun h=>absurd h (by rintro(h|h);exact absurd (JJ.symm.trans h) (by decide);exact OM h),H⟩
  | false=>
   refine Vk H ?_;refine⟨rfl,rfl,rfl,rfl,rfl,i,g,?_,fun _=>⟨rfl,rfl⟩,H⟩;intro h1 h2;exact absurd (hq.2 ⟨h1,h2⟩) (by decide)
 rintro ms σ w ⟨rfl,g0,g7,g8,i',g',VQ,YB,H⟩;rw[Q1 g0,Q1 g7,Q1 g8];refine G6 H ?_;refine B7 H ?_;refine Qp (fun ms σ w q=>ms=[]∧∃ j:Nat,j≤told.length∧q=told.length - j∧(∀ (n x y:Nat),n < j→told[n]? = some (x,y)→¬(i'=x∧g'=y))∧σ 7=pp b7∧σ 8=pp b8∧σ 41 = .slice a told.length cap∧σ 42 = .int .i64 told.length∧σ 43 = .int .i64 j∧Q0 w (V8 (.slice a told.length cap) told::pts b7 (row 69 [.int .i64 i',.int .i64 g'])::pts b8 (row 69 [.int .i64 0,.int .i64 0])::Y8 p c mo (.slice a told.length cap)::fr)) (m:=told.length) ⟨rfl,0,by omega,rfl,by omega,rfl,rfl,rfl,rfl,rfl,H.sel [3,0,0,0] 0⟩ ?_;rintro ms σ w q ⟨rfl,j,hj,rfl,VK,g7,g8,g41,g42,g43,H⟩;rw[Q1 g7,Q1 g8,Q1 g41,Q1 g42,Q1 g43];refine J7 H ?_;refine Qk rfl (fun h=>QE ?_) (fun h=>Qu ?_)
 ·have Q6:j < told.length:=by omega
  have hn:=getElem?_eq_getElem Q6;generalize told[j]=xy at hn;obtain⟨x,y⟩:=xy;obtain⟨bT,sT,rfl,H,QJ⟩:=VY H (by omega);refine DD H ?_;refine Jd ?_;refine Q5 rfl (Vy H rfl (Wa hn) rfl ?_);refine VO H ?_;intro b11 w H;refine F0 H ?_;intro w H;refine NH H ?_;refine J2 H ?_;replace H:=H.drop;refine Qk (p:=((x:Int),(y:Int))=(i',g')) rfl (fun he=>?_) (fun he=>QE ?_)
  ·injection he with h1 h2
   subst h1 h2;refine B6 H ?_;intro w H;refine J0 H ?_;replace H:=QJ _ _ H;replace H:=Js [2,2,0] 1 H;refine Q3 (Jz H (fun w' H' => .cellN H' rfl (by repeat first|exact .nil _|apply QY.cons rfl) (.tmp .nil)) fun w' H'=>⟨x,y,j,rfl,.inl ⟨x,y,j,rfl,rfl,rfl,hn⟩,fun _ _=>by omega,YB,H'.drop⟩)
  ·replace H:=QJ _ _ H;refine J3 H ?_;refine⟨_,⟨rfl,j+1,Q6,rfl,?_,rfl,rfl,rfl,rfl,Qg (by omega),H⟩,by omega⟩;intro n x' y' hnj HR hc;by_cases hnj':n=j
   ·subst hnj';rw[hn] at HR;injection HR with HR
    injection HR with h1 h2
    subst h1 h2;exact he (by rw[hc.1,hc.2])
   ·exact VK n x' y' (by omega) HR hc
 ·have V0:j=told.length:=by omega
  subst V0;refine Ay H ?_;intro w H;refine J0 H ?_;replace H:=Js [2,2,0] 1 H;refine Q3 (Jz H (fun w' H' => .cellN H' rfl (by repeat first|exact .nil _|apply QY.cons rfl) (.tmp .nil)) fun w' H'=>⟨i',g',-1,rfl,.inr ⟨rfl,?_⟩,?_,YB,H'.drop⟩)
  ·intro x y n h1 h2 hn;exact VK n x y (List.getElem?_eq_some_iff.1 hn).1 hn ⟨h1,h2⟩
  ·intro h1 h2 _;obtain⟨n,x,y,hn,h3,h4⟩:=VQ h1 h2;exact VK n x y (List.getElem?_eq_some_iff.1 hn).1 hn ⟨h3,h4⟩
theorem Tl (a b c:Int):veq [.int .i64 a,.int .i64 b,.int .i64 c] [.int .i64 a,.int .i64 b,.int .i64 c]=true:=by
 simp[veq]
theorem LF (xs ys:List Value):(if ZA BinOp.eql=true then veq xs ys else !veq xs ys)=veq xs ys:=if_pos rfl
theorem Tn [Q4] (p c mo:Nat) (a:Option Addr) (cap:Nat) (told:List (Nat×Nat)) (kd t:Nat) (GQ:kd≤2) (ht:kd=2→t < told.length) {w:World} {fr:List Q2} (H:Q0 w (Y8 p c mo (.slice a told.length cap)::V8 (.slice a told.length cap) told::fr)) :
  Calls Tryz.prog 40 #[pp p,GS (GY told kd t),.int .i64 kd,.int .i64 t] w (ret fun v w'=>v = .bool true∧Q0 w' (Y8 p c mo (.slice a told.length cap)::V8 (.slice a told.length cap) told::fr)):=by
 by_cases h2:kd=2
 ·subst h2;have Q6:=ht rfl;have hn:=getElem?_eq_getElem Q6;generalize told[t]=xy at hn;obtain⟨x,y⟩:=xy;have E6:GY told 2 t = .obj x y:=by unfold GY;rw[if_pos rfl,hn];rfl
  rw[E6];refine QQ Tryz.func40 rfl (by kernel_rfl) ?_;refine J8 H ?_;intro b5 w H;refine ZZ H ?_;refine Vt H ?_;replace H:=Js [2,0,0] 0 H;obtain⟨bT,sT,rfl,H,QJ⟩:=VY H (by omega);refine J1 H ?_;intro w H;refine CX H ?_;refine Jl 4 [] H ?_;refine Ap 5 rfl (Q8.none rfl) rfl (by kernel_rfl) ?_;refine Ja 6 ?_;rw[show decide ((t:Int) < (told.length:Int))=true from decide_eq_true (by omega)];refine Ja 7 ?_;refine Vz 8 [] H rfl (Q8.of rfl rfl rfl) rfl (by repeat first|exact .nil _|apply QY.cons rfl) (by kernel_rfl) ?_;refine IH H ?_;refine Jl 12 [] H ?_;refine Ja 13 ?_;refine Ji 14 ?_;refine Vz 15 [] H rfl (Q8.of rfl rfl rfl) rfl (Wa hn) (by kernel_rfl) ?_;refine Uf 16 rfl (Q8.of rfl rfl rfl) rfl (by kernel_rfl) ?_;refine f9 17 rfl (Q8.of rfl rfl rfl) rfl rfl rfl rfl (.inl rfl) (by kernel_rfl) ?_;rw[LF,Tl];refine Ja 18 ?_;refine Ja 19 ?_;refine Jx H ?_;replace H:=QJ _ _ H;replace H:=Js [2,0] 1 H;exact Q3 (Jy H rfl fun w' H'=>⟨rfl,H'⟩)
 ·have E6:GS (GY told kd t) = .agg #[.int .i64 kd,.int .i64 0,.int .i64 0]:=by
   unfold GY;rw[if_neg h2];by_cases h1:kd=1
   ·subst h1;rfl
   ·obtain rfl:kd=0:=by omega
    rfl
  rw[E6];refine QQ Tryz.func40 rfl (by kernel_rfl) ?_;refine J8 H ?_;intro b5 w H;refine ZZ H ?_;rw[show ((kd:Int) == 2)=false by simp;omega];refine Vk H ?_;refine FU H ?_;refine WV H ?_;refine Q5 rfl (IY rfl rfl rfl rfl (.inl rfl) rfl ?_);refine J0 H ?_;have hv:=Tl kd 0 0;exact Q3 (Jy H.drop rfl fun w' H'=>⟨congrArg Value.bool ((LF _ _).trans hv),H'⟩)
def sn (own:List Nat) (n:Nat):Prop:=∃ a,a+n≤own.length∧∀ i,a≤i→i < a+n→own.getD i 0=0
theorem ij [Q4] (p c mo:Nat) (v:Value) (s:CS) {w:World} {fr:List Q2} (H:Q0 w (Y8 p c mo v::QD c s::fr)) :
  Calls Tryz.prog 230 #[pp p] w (ret fun x w'=>∃ b:Nat,x = .int .i64 b∧sn s.own b∧Q0 w' (Y8 p c mo v::QD c s::fr)):=by
 obtain⟨q,mem,hw,hm,H⟩:=YQ H.swap;have VH:=hw.own.2;refine QQ Tryz.func230 rfl (by kernel_rfl) ?_;refine Vg H ?_;refine J3 H ?_;replace H:=Js [3,0,0,0,0,0,0,0,0,0,0,0] 0 H;refine Fg H ?_;refine Jc rfl rfl (Sd q.sp s.size mem s.own H) ?_;rintro v w ⟨rfl,H⟩;refine Yn H ?_;refine Qd ?_
 refine Qp (fun ms σ w n=>ms=[]∧∃ j row best:Nat,j≤s.own.length∧n=s.own.length - j∧row≤j∧best≤j∧(∀ i,j - row≤i→i < j→s.own.getD i 0=0)∧(∃ a,a+best≤j∧∀ i,a≤i→i < a+best→s.own.getD i 0=0)∧σ 0=pp p∧σ 3 = .int .i64 best∧σ 4 = .int .i64 row∧σ 13 = .int .i64 s.own.length∧σ 14 = .int .i64 j ∧
  Q0 w (ST q.sp s.size mem s.own::VU c q::V6 q.ip q.sp q.bp::Qq q.bp s.lays::Qr q.tp s.tab::Qo q.trp s.last s.par::RS q.rp s.rem::mp (ki .i64) V2 q.sm (s.sps.map Vv)::star (s.sps.map (Y0 q.sp))::mp (ki .i64) V2 q.mm (s.mns.map VX)::star (s.mns.map VG)::Y8 p c mo v::fr)) (m:=s.own.length) ⟨rfl,0,0,0,by omega,rfl,by omega,by omega,by omega,⟨0,by omega,by omega⟩,rfl,rfl,rfl,rfl,rfl,H⟩ ?_
 rintro ms σ w n ⟨rfl,j,row,best,hj,rfl,hrj,hbj,ik,To,g0,g3,g4,g13,g14,H⟩;rw[Q1 g0,Q1 g3,Q1 g4,Q1 g13,Q1 g14];refine J7 H ?_;refine Qk rfl (fun h=>QE ?_) (fun h=>Qu ?_)
 ·have Q6:j < s.own.length:=by omega
  refine Dd H ?_;refine Vj H ?_;rw[Qg (by omega)];refine Iu H ?_;refine Jc rfl rfl (Se q.sp s.size mem s.own j H Q6) ?_;rintro v w ⟨rfl,H⟩;refine J0 H ?_;by_cases h0:s.own.getD j 0=0
  ·rw[show (((s.own.getD j 0:Nat):Int) != 0)=false by rw[h0];rfl];refine FK H ?_;refine F6 H ?_;rw[show (if ((row+1:Nat):Int) > ((best:Nat):Int) then ((row+1:Nat):Int) else ((best:Nat):Int))=((max best (row+1):Nat):Int) by split <;> omega];refine ZZ H ?_;rw[Qg (by omega)];refine⟨_,⟨rfl,j+1,row+1,max best (row+1),Q6,rfl,by omega,by omega,?_,?_,rfl,rfl,rfl,rfl,rfl,H⟩,by omega⟩
   ·intro i h1 h2;by_cases ZR:i=j
    ·rw[ZR];exact h0
    ·exact ik i (by omega) (by omega)
   ·by_cases hb:row+1≤best
    ·obtain⟨a,h1,h2⟩:=To;rw[Nat.max_eq_left hb];exact⟨a,by omega,h2⟩
    ·rw[Nat.max_eq_right (by omega)];refine⟨j - row,by omega,fun i h1 h2=>?_⟩;by_cases ZR:i=j
     ·rw[ZR];exact h0
     ·exact ik i (by omega) (by omega)
  ·rw[show (((s.own.getD j 0:Nat):Int) != 0)=true by rw[bne_iff_ne];omega];refine ZB H ?_;refine J9 H ?_;refine F6 H ?_;rw[show (if (0:Int) > ((best:Nat):Int) then (0:Int) else ((best:Nat):Int))=((best:Nat):Int) by split <;> omega];refine ZZ H ?_;rw[Qg (by omega)];obtain⟨a,h1,h2⟩:=To;exact⟨_,⟨rfl,j+1,0,best,Q6,rfl,by omega,by omega,by omega,⟨a,by omega,h2⟩,rfl,rfl,rfl,rfl,rfl,H⟩,by omega⟩
 ·obtain⟨a,h1,h2⟩:=To;refine J3 H ?_;replace H:=Js [1,1,1,0,0,0,0,0,0,0,0,0] 0 H;exact Q3 (Jy ((VM hw hm H).swap) rfl fun w' H'=>⟨best,rfl,⟨a,by omega,h2⟩,H'⟩)
theorem il (a b c d:Int) (e:Bool):veq [.int .i64 a,.int .i64 b,.int .i64 c,.int .i64 d,.bool e] [.int .i64 a,.int .i64 b,.int .i64 c,.int .i64 d,.bool e]=true:=by
 simp[veq]
theorem im [Q4] (p c mo:Nat) (v:Value) (s:CS) (m:MS) (told:List (Nat×Nat)) (R:KG s m told) (i g o:Int) (P:Vd s m told i g o) {w:World} {fr:List Q2} (H:Q0 w (Y8 p c mo v::QD c s::Qy mo m::fr)) :
  Calls Tryz.prog 37 #[pp p,GJ i g,.int .i64 o] w (ret fun x w'=>x = .bool true∧Q0 w' (Y8 p c mo v::QD c s::Qy mo m::fr)):=by
 have hT:=fun (w:World) (fr:List Q2) (H:Q0 w (QD c s::fr))=>TH c s i g H;rw[se R P] at hT
 obtain⟨a1,a2,a3,a4,a5,a6,Y4⟩:∃ a1 a2 a3 a4 a5 a6,ic (VL m o) = .tuple #[.agg #[.int .i64 a1,.int .i64 a2,.int .i64 a3,.int .i64 a4,.bool a5],.int .i64 a6]:=by
  cases VL m o <;> exact⟨_,_,_,_,_,_,rfl⟩
 refine QQ Tryz.func37 rfl (by kernel_rfl) ?_;refine J8 H ?_;intro b4 w H;refine J0 H ?_;replace H:=Js [2,0,0,0] 0 H;refine J6 H ?_;refine Qt (fun ms σ w=>ms=[]∧∃ b7,σ 0=pp p∧σ 2 = .int .i64 o∧σ 7=pp b7∧σ 8 = .int .i64 a6∧Q0 w (pts b7 (row 71 [.int .i64 a1,.int .i64 a2,.int .i64 a3,.int .i64 a4,.bool a5])::Y8 p c mo v::QD c s::Qy mo m::fr)) ?_ ?_
 ·refine J1 H ?_;intro w H;refine B8 H ?_;refine Jw 5 9 H rfl rfl (V3 (a:=[]) (b:=[]) rfl rfl (call (hT _ _ H) ?_)) (YW H rfl ?_)
  ·rintro v w ⟨rfl,H⟩;rw[Y4];refine B9 H ?_;intro b7 w H;refine A7 H ?_;intro w H;refine Uj H ?_;replace H:=Js [0,2,0,1] 1 H;exact⟨rfl,rfl,b7,rfl,rfl,rfl,rfl,H⟩
  ·intro b7 w H;refine Jo 5 H ?_;refine Jk rfl rfl (hT _ _ H.swap) ?_;rintro v w ⟨rfl,H⟩;rw[Y4];refine CC H ?_;intro w H;refine Uj H ?_;replace H:=Js [1,2,0,1] 1 H;exact⟨rfl,rfl,b7,rfl,rfl,rfl,rfl,H⟩
 rintro ms σ w ⟨rfl,b7,g0,g2,g7,g8,H⟩;rw[Q1 g0,Q1 g2,Q1 g7,Q1 g8];replace H:=Js [3,0,0,0] 0 H;refine Vb H ?_;refine Jc rfl rfl (Dx mo m o H) ?_;rintro v w ⟨rfl,H⟩
 cases hv:VL m o with
 | none=>
  rw[hv] at Y4;cases Y4;refine Rm H ?_;refine YJ H ?_;refine Iv H ?_;refine Qe rfl rfl rfl (IY rfl rfl rfl rfl (.inl rfl) rfl ?_);refine J4 H ?_;replace H:=Js [2,2,0] 1 H;exact Q3 (Jy H rfl fun w' H'=>⟨congrArg Value.bool ((LF _ _).trans (il 0 0 0 0 false)),H'⟩)
 | some nx=>
  obtain⟨n,x⟩:=nx;rw[hv] at Y4;cases Y4;obtain⟨rfl,hx,hh,hg⟩:=WM hv;have VH:=(List.getElem?_eq_some_iff.1 hx).1;obtain⟨t,lc,aL,cL,bO,cO,sO,ptrs,q,vw,vk,vt,rest,hm,h2,hp,H,QU⟩:=UT H hx;have V7:=BJ hx hm;obtain⟨aw,cw,rfl⟩:=QI H.drop (GA _) (by decide);refine YT H ?_;refine Iu H ?_;refine Jd ?_;refine Q5 rfl (QC H rfl hp rfl ?_);refine Yn H ?_;refine Wu H mixed ?_;intro w H;refine Ja 0 ?_;refine Ja 1 ?_;refine Ja 2 ?_;refine Vz 3 [] H rfl (Q8.of rfl rfl rfl) rfl (by repeat first|exact .nil _|apply QY.cons rfl) (by kernel_rfl) ?_;refine N8 H ?_;refine Iw H ?_;refine Jl 11 [] H ?_;refine Dg H ?_;refine Jf 14 ?_;refine Jl 15 [] H ?_;refine Ja 16 ?_;refine Ja 17 ?_;refine Jf 18 ?_;refine Jl 19 [] H ?_;refine Ap 20 rfl (Q8.of rfl rfl rfl) rfl (by kernel_rfl) ?_;refine Ja 21 ?_;refine Ja 22 ?_;refine Jf 23 ?_;refine Jl 24 [] H ?_;refine Uf 25 rfl (Q8.of rfl rfl rfl) rfl (by kernel_rfl) ?_;refine f9 26 rfl (Q8.of rfl rfl rfl) rfl rfl rfl rfl (.inl rfl) (by kernel_rfl) ?_;rw[LF,il];refine Ja 27 ?_;refine Ja 28 ?_;refine Jx H ?_;replace H:=K8 hx (QU _ _ _ V7 H);replace H:=Js [2,2,0] 1 H;exact Q3 (Jy H rfl fun w' H'=>⟨rfl,H'⟩)
theorem Tp:∀ {a b:List Nat},a.Pairwise (· < ·)→b.Pairwise (· < ·)→(∀ x,x∈a↔x∈b)→a=b
 | [],[],_,_,_=>rfl
 | [],y::b,_,_,h=>by have:=(h y).2 (by simp);cases this
 | x::a,[],_,_,h=>by have:=(h x).1 (by simp);cases this
 | x::a,y::b,ha,hb,h=>by
  rw[pairwise_cons] at ha hb
  have Yy:x=y:=by
   have h1:=(h x).1 (by simp);have h2:=(h y).2 (by simp);rw[mem_cons] at h1 h2
   rcases h1 with h1|h1
   ·exact h1
   ·rcases h2 with h2|h2
    ·exact h2.symm
    ·have:=hb.1 x h1;have:=ha.1 y h2;omega
  subst Yy;congr 1;refine Tp ha.2 hb.2 fun z=>?_;have hz:=h z;rw[mem_cons,mem_cons] at hz;constructor
  ·intro h1;have:=ha.1 z h1
   rcases hz.1 (.inr h1) with h2|h2
   ·omega
   ·exact h2
  ·intro h1;have:=hb.1 z h1
   rcases hz.2 (.inr h1) with h2|h2
   ·omega
   ·exact h2
def AF (l:Qa) (i:Nat):List Nat:=l.recs.map (l.fixed+i*l.record+·)
def Gi (l:Qa) (c:Nat):List Nat:=l.refs++(List.range c).flatMap (AF l)
theorem io {l:List Nat} {n:Nat} (h:Rp l n):l=(List.range n).filter (fun p=>decide (p∈l)):=by
 refine Tp h.2 (List.Pairwise.filter _ pairwise_lt_range) fun x=>?_;rw[mem_filter,mem_range,decide_eq_true_eq];exact⟨fun hx=>⟨h.1 x hx,hx⟩,fun hx=>hx.2⟩
theorem iq {l:Qa} (hR:YK l):∀ c:Nat,(c > 0→l.record≠0)→Gi l c=(List.range (l.fixed+c*l.record)).filter (Ve l)
 | 0,_=>by
  unfold Gi;rw[Nat.zero_mul,Nat.add_zero,range_zero,flatMap_nil,append_nil];refine(io hR.2.2.2.1).trans (filter_congr fun x hx=>?_);unfold Ve;rw[if_pos (mem_range.1 hx)]
 | c+1,h=>by
  have ih:=iq hR c (fun _=>h (by omega));have hr:0 < l.record:=Nat.pos_of_ne_zero (h (by omega))
  have e:Gi l (c+1)=Gi l c++AF l c:=by
   unfold Gi;rw[range_succ,flatMap_append,append_assoc];simp
  have e3:List.range ((l.fixed+c*l.record)+l.record)=List.range (l.fixed+c*l.record)++(List.range l.record).map (l.fixed+c*l.record+·):=range_add;rw[e,ih,show l.fixed+(c+1)*l.record=(l.fixed+c*l.record)+l.record by rw[Nat.succ_mul];omega,e3,filter_append];congr 1;rw[filter_map];unfold AF;congr 1;refine(io hR.2.2.2.2).trans (filter_congr fun x hx=>?_);have hx:=mem_range.1 hx;show _=Ve l (l.fixed+c*l.record+x);unfold Ve;rw[if_neg (by omega),show l.fixed+c*l.record+x - l.fixed=x+l.record*c by rw[Nat.mul_comm];omega,Nat.add_mul_mod_self_left,Nat.mod_eq_of_lt hx]
theorem sq [Q4] (vr vq:Value) (l:Qa) (c:Nat) (h1:vr.oneCell'=true) (h2:vq.oneCell'=true) {w:World} {fr:List Q2} (H:Q0 w fr) :
  Calls Tryz.prog 187 #[GD l.fixed vr l.record vq,.int .i64 c] w (ret fun v w'=>∃ b1 b2,v = .func (.func 238) #[] #[pp b1,pp b2]∧Q0 w' (pts b1 (row 102 [.int .i64 l.fixed,vr,.int .i64 l.record,vq])::pts b2 (row 3 [.int .i64 c])::fr)):=by
 refine QQ Tryz.func187 rfl (by kernel_rfl) ?_;refine J8 H ?_;intro b2 w H;refine BQ H ?_;intro b3 w H;refine ZZ H ?_;exact Q3 (Jy H.swap rfl fun w' H'=>⟨b2,b3,rfl,H'⟩)
theorem sr [Q4] (yl b1 b2:Nat) (vr vq:Value) (l:Qa) (hR:YK l) (c:Nat) {n:Nat} (hz:Vh l c=(n,0)) (J:List Nat→Q2)
  (hy:∀ (ks:List Nat) (p:Nat) (rest:List Q2) (w:World),(∃ t,(List.range n).filter (Ve l)=ks++p::t)→Q0 w (J ks::rest)→SL.Yields Tryz.prog yl #[.int .i64 p] w (fun v w'=>v = .bool true∧Q0 w' (J (ks++[p])::rest)))
  {w:World} {fr:List Q2} (H:Q0 w (J []::pts b1 (row 102 [.int .i64 l.fixed,vr,.int .i64 l.record,vq])::pts b2 (row 3 [.int .i64 c])::NL vr l.refs::NL vq l.recs::fr)) :
  Calls Tryz.prog 238 #[.func (.yield yl) #[] #[],pp b1,pp b2] w (ret fun _ w'=>Q0 w' (J ((List.range n).filter (Ve l))::pts b1 (row 102 [.int .i64 l.fixed,vr,.int .i64 l.record,vq])::pts b2 (row 3 [.int .i64 c])::NL vr l.refs::NL vq l.recs::fr)):=by
 obtain⟨z1,z2,z3,z4,z5⟩:=Sj hz;have Z3:=iq hR c (by omega);rw[Int.toNat_natCast] at z3;rw[← z3] at Z3;rw[← Z3] at hy ⊢;have hfx:=hR.1;have hrc:=hR.2.1;have Ys:=Rp.len hR.2.2.2.1;have Vu:=Rp.len hR.2.2.2.2;obtain⟨ar,cr,rfl⟩:=QI (H.sel [3,0,0,0] 0) (QM _) (by decide);obtain⟨aq,cq,rfl⟩:=QI (H.sel [4,0,0,0,0] 0) (QM _) (by decide);refine QQ Tryz.func238 rfl (by kernel_rfl) ?_;refine XL H ?_;refine WY H ?_;replace H:=Js [3,3,0,0,0] 0 H;obtain⟨D1,H,Y5,Vo⟩:=sls_rd H (QM _) (by decide);obtain⟨D2,H,Zl,ZU⟩:=sls_rd H.swap (QM _) (by decide);refine Jc rfl rfl (JX _ _ l hR c ⟨(Y5 _).there,Zl _⟩ H) ?_;rintro v w ⟨rfl,H⟩;rw[hz];replace H:=Vo _ _ (ZU _ _ H).swap;refine UI H ?_;replace H:=Js [0,0,0,0,0] 0 H;refine FZ H ?_;refine FJ H ?_;refine Qt (fun ms σ w=>ms=[]∧σ 0 = .func (.yield yl) #[] #[]∧σ 1=pp b1∧σ 4 = .int .i64 n∧Q0 w (NL (.slice ar l.refs.length cr) l.refs::NL (.slice aq l.recs.length cq) l.recs::J l.refs::pts b1 (row 102 [.int .i64 l.fixed,.slice ar l.refs.length cr,.int .i64 l.record,.slice aq l.recs.length cq])::pts b2 (row 3 [.int .i64 c])::fr)) ?_ ?_
 ·refine Qd ?_;refine Qp (fun ms σ w z=>ms=[]∧∃ i:Nat,i≤l.refs.length∧z=l.refs.length - i∧σ 0 = .func (.yield yl) #[] #[]∧σ 1=pp b1∧σ 4 = .int .i64 n∧σ 20 = .slice ar l.refs.length cr∧σ 21 = .int .i64 l.refs.length∧σ 22 = .int .i64 i∧Q0 w (NL (.slice ar l.refs.length cr) l.refs::NL (.slice aq l.recs.length cq) l.recs::J (l.refs.take i)::pts b1 (row 102 [.int .i64 l.fixed,.slice ar l.refs.length cr,.int .i64 l.record,.slice aq l.recs.length cq])::pts b2 (row 3 [.int .i64 c])::fr)) (m:=l.refs.length) ⟨rfl,0,by omega,rfl,rfl,rfl,rfl,rfl,rfl,rfl,H⟩ ?_;rintro ms σ w z ⟨rfl,i,hi,rfl,g0,g1,g4,g20,g21,g22,H⟩;rw[Q1 g0,Q1 g1,Q1 g4,Q1 g20,Q1 g21,Q1 g22];refine J7 H ?_;refine Qk rfl (fun h=>QE ?_) (fun h=>Qu ?_)
  ·have Q6:i < l.refs.length:=by omega
   have hn:=getElem?_eq_getElem Q6;have Qi:l.refs.take (i+1)=l.refs.take i++[l.refs[i]]:=by rw[take_add_one,hn];rfl
   have G5:l.refs=l.refs.take i++l.refs[i]::l.refs.drop (i+1):=split_at hn;generalize l.refs[i]=p at hn Qi G5;obtain⟨bT,sT,rfl,H,QJ⟩:=VY H (by omega);refine Z8 H ?_;refine Jd ?_;refine Q5 rfl (QC H rfl (Gb hn) rfl ?_);refine J0 H ?_;replace H:=QJ _ _ H;replace H:=Js [2,0,0,0,0] 0 H;refine J9 H ?_;refine Q5 rfl (By rfl rfl (SL.Yields.mono (hy (l.refs.take i) p _ _ ⟨l.refs.drop (i+1)++(List.range c).flatMap (AF l),by unfold Gi;rw[show l.refs.take i++p::(l.refs.drop (i+1)++(List.range c).flatMap (AF l))=(l.refs.take i++p::l.refs.drop (i+1))++(List.range c).flatMap (AF l) by simp,← G5]⟩ H) ?_));rintro v w ⟨rfl,H⟩;refine YT H ?_;replace H:=Js [1,1,0,0,0] 0 H;refine J3 H ?_;rw[← Qi] at H;exact⟨_,⟨rfl,i+1,Q6,rfl,rfl,rfl,rfl,rfl,rfl,Qg (by omega),H⟩,by omega⟩
  ·have V0:i=l.refs.length:=by omega
   subst V0;rw[take_length] at H;exact⟨rfl,rfl,rfl,rfl,rfl,H⟩
 rintro ms σ w ⟨rfl,g0,g1,g4,H⟩;rw[Q1 g0,Q1 g1,Q1 g4];refine FZ H ?_;refine Yn H ?_;refine Qt (fun ms σ w=>ms=[]∧Q0 w (NL (.slice ar l.refs.length cr) l.refs::NL (.slice aq l.recs.length cq) l.recs::J (Gi l c)::pts b1 (row 102 [.int .i64 l.fixed,.slice ar l.refs.length cr,.int .i64 l.record,.slice aq l.recs.length cq])::pts b2 (row 3 [.int .i64 c])::fr)) ?_ ?_
 ·refine Qd ?_;refine Qp (fun ms σ w z=>ms=[]∧∃ i A:Nat,i≤c∧A=l.fixed+i*l.record∧z=c - i∧σ 0 = .func (.yield yl) #[] #[]∧σ 1=pp b1∧σ 4 = .int .i64 n∧σ 8 = .int .i64 A∧Q0 w (NL (.slice ar l.refs.length cr) l.refs::NL (.slice aq l.recs.length cq) l.recs::J (Gi l i)::pts b1 (row 102 [.int .i64 l.fixed,.slice ar l.refs.length cr,.int .i64 l.record,.slice aq l.recs.length cq])::pts b2 (row 3 [.int .i64 c])::fr)) (m:=c) ⟨rfl,0,l.fixed,by omega,by omega,rfl,rfl,rfl,rfl,rfl,by unfold Gi;rw[range_zero,flatMap_nil,append_nil];exact H⟩ ?_;rintro ms σ w z ⟨rfl,i,A,hi,hA,rfl,g0,g1,g4,g8,H⟩;rw[Q1 g0,Q1 g1,Q1 g4,Q1 g8];refine Ic H ?_;refine Qk rfl (fun h=>QE ?_) (fun h=>Qu ?_)
  ·have AH:i < c:=by
    refine Nat.lt_of_not_le fun VS=>?_;have:=Nat.mul_le_mul_right l.record VS;omega
   have hb:A+l.record≤n:=by
    have:=Nat.mul_le_mul_right l.record (Nat.succ_le_of_lt AH);rw[Nat.succ_mul] at this;omega
   have hAl:A < 8192:=by omega
   have ir:Gi l (i+1)=Gi l i++AF l i:=by
    unfold Gi;rw[range_succ,flatMap_append,append_assoc];simp
   have Yd:∃ t,Gi l c=Gi l i++AF l i++t:=by
    rw[← ir];unfold Gi;refine⟨((List.range (c - (i+1))).map (i+1+·)).flatMap (AF l),?_⟩;rw[append_assoc,← flatMap_append,← range_add,show i+1+(c - (i+1))=c by omega]
   obtain⟨tl,Yd⟩:=Yd;refine J6 H ?_;refine Qt (fun ms σ w=>ms=[]∧σ 0 = .func (.yield yl) #[] #[]∧σ 1=pp b1∧σ 4 = .int .i64 n∧σ 8 = .int .i64 A∧Q0 w (NL (.slice ar l.refs.length cr) l.refs::NL (.slice aq l.recs.length cq) l.recs::J (Gi l (i+1))::pts b1 (row 102 [.int .i64 l.fixed,.slice ar l.refs.length cr,.int .i64 l.record,.slice aq l.recs.length cq])::pts b2 (row 3 [.int .i64 c])::fr)) ?_ ?_
   ·refine Qd ?_;refine FZ H ?_;refine B7 H ?_;refine Qp (fun ms σ w z=>ms=[]∧∃ j:Nat,j≤l.recs.length∧z=l.recs.length - j∧σ 0 = .func (.yield yl) #[] #[]∧σ 1=pp b1∧σ 4 = .int .i64 n∧σ 8 = .int .i64 A∧σ 41 = .slice aq l.recs.length cq∧σ 42 = .int .i64 l.recs.length∧σ 43 = .int .i64 j∧Q0 w (NL (.slice ar l.refs.length cr) l.refs::NL (.slice aq l.recs.length cq) l.recs::J (Gi l i++(l.recs.take j).map (l.fixed+i*l.record+·))::pts b1 (row 102 [.int .i64 l.fixed,.slice ar l.refs.length cr,.int .i64 l.record,.slice aq l.recs.length cq])::pts b2 (row 3 [.int .i64 c])::fr)) (m:=l.recs.length) ⟨rfl,0,by omega,rfl,rfl,rfl,rfl,rfl,rfl,rfl,rfl,by rw[take_zero,map_nil,append_nil];exact H⟩ ?_;rintro ms σ w z ⟨rfl,j,hj,rfl,g0,g1,g4,g8,g41,g42,g43,H⟩;rw[Q1 g0,Q1 g1,Q1 g4,Q1 g8,Q1 g41,Q1 g42,Q1 g43];refine J7 H ?_;refine Qk rfl (fun h=>QE ?_) (fun h=>Qu ?_)
    ·have Q6:j < l.recs.length:=by omega
     have hn:=getElem?_eq_getElem Q6;have Qi:l.recs.take (j+1)=l.recs.take j++[l.recs[j]]:=by rw[take_add_one,hn];rfl
     have G5:l.recs=l.recs.take j++l.recs[j]::l.recs.drop (j+1):=split_at hn;have AI:=hR.2.2.2.2.1 l.recs[j] (getElem_mem _);generalize l.recs[j]=p at hn Qi G5 AI;replace H:=Js [1,0,0,0,0] 0 H;obtain⟨bT,sT,rfl,H,QJ⟩:=VY H (by omega);refine Z8 H ?_;refine Jd ?_;refine Q5 rfl (QC H rfl (Gb hn) rfl ?_);refine J0 H ?_;replace H:=QJ _ _ H;replace H:=Js [2,0,0,0,0] 0 H;refine A2 H ?_;rw[Qh (x:=(A:Int)+(p:Int)) (by omega) (by omega),show (A:Int)+(p:Int)=((A+p:Nat):Int) by omega]
     refine Q5 rfl (By rfl rfl (SL.Yields.mono (hy (Gi l i++(l.recs.take j).map (l.fixed+i*l.record+·)) (A+p) _ _ ⟨(l.recs.drop (j+1)).map (l.fixed+i*l.record+·)++tl,by
      rw[Yd];unfold AF
      conv=>lhs;rw[G5]
      rw[hA];simp⟩ H) ?_))
     rintro v w ⟨rfl,H⟩;refine YT H ?_;replace H:=Js [2,1,0,0,0] 0 H;refine J3 H ?_;have e4:Gi l i++(l.recs.take j).map (l.fixed+i*l.record+·)++[A+p]=Gi l i++(l.recs.take (j+1)).map (l.fixed+i*l.record+·):=by rw[Qi,hA];simp
     rw[e4] at H;exact⟨_,⟨rfl,j+1,Q6,rfl,rfl,rfl,rfl,rfl,rfl,rfl,Qg (by omega),H⟩,by omega⟩
    ·have V0:j=l.recs.length:=by omega
     subst V0;rw[take_length] at H;have e5:Gi l i++l.recs.map (l.fixed+i*l.record+·)=Gi l (i+1):=ir.symm;rw[e5] at H;exact⟨rfl,rfl,rfl,rfl,rfl,rfl,H⟩
   rintro ms σ w ⟨rfl,g0,g1,g4,g8,H⟩;rw[Q1 g0,Q1 g1,Q1 g4,Q1 g8];refine NI H ?_;refine J4 H ?_;refine⟨_,⟨rfl,i+1,A+l.record,AH,by rw[hA,Nat.succ_mul];omega,rfl,rfl,rfl,rfl,?_,H⟩,by omega⟩;show Value.int .i64 (IntKind.i64.wrap ((A:Int)+(l.record:Int)))=_;rw[Qh (by omega) (by omega)];rfl
  ·have V0:i=c:=by
    refine Nat.le_antisymm hi (Nat.le_of_not_lt fun Q6=>?_);have LH:0 < l.record:=Nat.pos_of_ne_zero (z5 (by omega));have:=Nat.mul_lt_mul_of_pos_right Q6 LH;omega
   subst V0;exact⟨rfl,rfl,H⟩
 rintro ms σ w ⟨rfl,H⟩;replace H:=Js [2,2,2,0,0] 0 H;exact Z2 _ (.inl rfl) H rfl fun w' H'=>H'
def Rw (l:Qa) (n:Nat):List Nat:=(List.range n).filter (Ve l)
theorem Tq {l:Qa} {n p:Nat} {a t:List Nat} (h:Rw l n=a++p::t):p < n∧Ve l p=true:=by
 have:p∈Rw l n:=by rw[h];simp
 unfold Rw at this;rw[mem_filter,mem_range] at this;exact this
structure iu (ls:List Qa) (size:Nat) (own:List Nat) (addr i c s n:Nat) (l:Qa) (lk:Nat→Yo) (mem:List Nat):Prop where
 img:WI ls size mem own addr i c s n l
 link:∀ p,p < n→Ve l p=true→XS (lk p)∧mem.getD (addr+1+p) 0=Vm (lk p)
theorem iv [Q4] (ip:Nat) (addr:Nat) {w:World} {fr:List Q2} (H:Q0 w fr) :
  Calls Tryz.prog 113 #[pp ip,.int .i64 addr] w (ret fun v w'=>∃ b1 b2,v = .func (.func 186) #[] #[pp b1,pp b2]∧Q0 w' (pts b1 (row 36 [pp ip])::pts b2 (row 3 [.int .i64 addr])::fr)):=by
 refine QQ Tryz.func113 rfl (by kernel_rfl) ?_;refine GW H ?_;intro b2 w H;refine BQ H ?_;intro b3 w H;refine ZZ H ?_;exact Q3 (Jy H.swap rfl fun w' H'=>⟨b2,b3,rfl,H'⟩)
theorem iw [Q4] (yl bm ba ip sp bp size:Nat) (ls:List Qa) (own:List Nat) (addr i c s n:Nat) (l:Qa) (lk:Nat→Yo) (F:List Nat→Prop) (hF:∀ mem,F mem→iu ls size own addr i c s n l lk mem) (J:List Nat→Q2)
  (hy : ∀ (ks : List Nat) (p : Nat) (mem : List Nat) (rest : List Q2) (w : World), F mem → (∃ t, Rw l n = ks ++ p :: t) → Q0 w (J ks :: V6 ip sp bp :: Qq bp ls :: ST sp size mem own :: rest) →
   SL.Yields Tryz.prog yl #[.int .i64 p,GS (lk p)] w (fun v w'=>v = .bool true∧∃ mem',F mem'∧Q0 w' (J (ks++[p])::V6 ip sp bp::Qq bp ls::ST sp size mem' own::rest)))
  {mem:List Nat} (hm:F mem) {w:World} {fr:List Q2} (H:Q0 w (J []::pts bm (row 36 [pp ip])::pts ba (row 3 [.int .i64 addr])::V6 ip sp bp::Qq bp ls::ST sp size mem own::fr)) :
  Calls Tryz.prog 186 #[.func (.yield yl) #[] #[],pp bm,pp ba] w (ret fun _ w'=>∃ mem',F mem'∧Q0 w' (J (Rw l n)::pts bm (row 36 [pp ip])::pts ba (row 3 [.int .i64 addr])::V6 ip sp bp::Qq bp ls::ST sp size mem' own::fr)):=by
 have hR:=(hF _ hm).img.right;have hz:=(hF _ hm).img.siz;refine QQ Tryz.func186 rfl (by kernel_rfl) ?_;refine GW H ?_;intro b3 w H;refine J2 H ?_;refine UJ H ?_;refine NJ H ?_;refine CB H ?_;replace H:=Js [4,4,4,0,0,0,0] 0 H;refine Ix H ?_;refine Jc rfl rfl (T4 ip sp bp size ls mem own addr i c s n l (hF _ hm).img H) ?_;rintro v w ⟨vr,vq,rfl,H⟩;obtain⟨ar,cr,rfl⟩:=QI H (QM _) (by decide);obtain⟨aq,cq,rfl⟩:=QI H.drop (QM _) (by decide);refine IF H ?_;refine VO H ?_;intro b4 w H;refine VO H ?_;intro b5 w H;refine J5 H ?_;intro w H;refine J5 H ?_;intro w H;refine Im H ?_;refine XL H ?_;refine Gs H ?_;refine Jc rfl rfl (sq _ _ l c rfl rfl H) ?_;rintro v w ⟨b1,b2,rfl,H⟩;refine CV H ?_;refine Qd (W9 (a:=[]) (b:=[pp b1,pp b2]) H rfl (fun yl2 D w H=>?_));generalize hL:LR _ yl2 _ _ _ _ D .ready=L at H ⊢;obtain⟨J2,LI⟩:∃ J2:List Nat→Q2,J2=fun ks=>ex fun mem':List Nat=>star [prop (F mem'),L,J ks,pts bm (row 36 [pp ip]),pts ba (row 3 [.int .i64 addr]),pts b3 (row 279 [.func (.yield yl) #[] #[]]),V6 ip sp bp,Qq bp ls,ST sp size mem' own]:=⟨_,rfl⟩
 have VQ:∀ (ks:List Nat) (mem':List Nat) (w:World) (l':List Q2),F mem'→Q0 w (L::J ks::pts bm (row 36 [pp ip])::pts ba (row 3 [.int .i64 addr])::pts b3 (row 279 [.func (.yield yl) #[] #[]])::V6 ip sp bp::Qq bp ls::ST sp size mem' own::l')→Q0 w (J2 ks::l'):=by
  intro ks mem' w l' h H;rw[LI];exact Q0.ex.2 ⟨mem',Q0.star.2 (Q0.prop.2 ⟨h,H⟩)⟩
 have YB:∀ (ks:List Nat) (w:World) (l':List Q2),Q0 w (J2 ks::l')→∃ mem',F mem'∧Q0 w (L::J ks::pts bm (row 36 [pp ip])::pts ba (row 3 [.int .i64 addr])::pts b3 (row 279 [.func (.yield yl) #[] #[]])::V6 ip sp bp::Qq bp ls::ST sp size mem' own::l'):=by
  intro ks w l' H;rw[LI] at H;obtain⟨mem',H⟩:=Q0.ex.1 H;exact⟨mem',Q0.prop.1 (Q0.star.1 H)⟩
 replace H:=Js [0,11,11,11,10,7,7,7,1,1,3,3,0] 2 H;replace H:=VQ [] mem _ _ hm H;refine call (sr yl2 b1 b2 _ _ l hR c hz J2 ?_ H) ?_
 ·intro ks p rest w Yd H;obtain⟨mem',V7,H⟩:=YB _ _ _ H;obtain⟨t,Yd⟩:=Yd;obtain⟨ss,D8⟩:=Tq Yd
  have Us:Qb l n (p:Int) true=0:=by
   unfold Qb;rw[if_neg (by omega),Int.toNat_natCast,if_neg (by rw[D8];decide)]
  have Zr:=fun (w:World) (rest:List Q2)=>hy ks p mem' rest w V7 ⟨t,Yd⟩;obtain⟨a1,a2,a3,Y7⟩:=Xf (lk p);rw[Y7] at Zr;subst hL;refine Kp (args:=[.int .i64 p]) H rfl rfl ?_;refine Vg H ?_;refine⟨rfl,_,H,fun w H=>Qd ?_⟩;replace H:=Js [5,5,5,0,0,0,0,0] 0 H;refine Ix H ?_;refine Jv ?_;refine Jc rfl rfl (gJ ip sp bp size ls mem' own addr i c s n l (hF _ V7).img p (lk p) (fun _=>by rw[Int.toNat_natCast];exact(hF _ V7).link p ss D8) (fun h=>absurd Us h) H) ?_;rintro v w ⟨rfl,H⟩;rw[Us,Y7];refine YC H ?_;intro b9 w H;refine J5 H ?_;intro w H;refine J0 H ?_;replace H:=Js [5,1,1,1,1,1,1,1,0] 0 H;refine XP H ?_;refine CK H ?_;refine Q5 rfl (By rfl rfl (SL.Yields.mono (Zr _ _ H) ?_));rintro v w ⟨rfl,mem'',hm'',H⟩;refine YT H ?_;replace H:=Js [4,0,3,3,3,0,0,0] 1 H;exact⟨rfl,_,H,fun w H=>⟨rfl,VQ _ _ _ _ hm'' H⟩⟩
 ·rintro v w H;obtain⟨mem',V7,H⟩:=YB _ _ _ H;subst hL;refine⟨_,H,fun w H=>?_⟩;replace H:=Js [11,0,0,0,1,1,1] 5 H;exact Bx (ms:=[D]) _ (.inl rfl) ((Q0.star (k:=[pts D (.deferred (some []))])).2 H) rfl fun w' H'=>⟨mem',V7,H'⟩
def Used (ts:List QW) (i:Int):Prop:=∃ (k n:Nat) (e:Q9),i=k∧ts[k]? = some ⟨n,some e⟩
def YG (e:Q9) (p:Nat):Yo:=U1 (e.ws.getD p 0)
theorem iy {s:CS} (h:WF s) {mem:List Nat} (m:YY s mem) {k g:Nat} {e:Q9} (hk:s.tab[k]? = some ⟨g,some e⟩):iu s.lays s.size s.own e.addr e.lay e.count k e.ws.length (Qc s e) (YG e) mem:=
 ⟨WS h m hk, fun p hp hr => by
  have h1:=iQ h hk hp hr;exact⟨h1.1,by rw[TX h m hk hp];exact h1.2⟩⟩
end Go.Proofs.YtmjdnljneifpcaaGreatDoor
