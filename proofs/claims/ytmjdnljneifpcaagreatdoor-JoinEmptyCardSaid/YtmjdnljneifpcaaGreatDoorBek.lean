/- Cells: what is proved on the way: every input of the statement; no condition. Texts joined: CelI LawP LawQ LawR LawA LawB LawC LawD LnkA LnkB LnkC. -/
import Derived.Test.YtmjdnljneifpcaaGreatDoorBee
import Derived.Test.YtmjdnljneifpcaaGreatDoorBej
import Derived.Test.YtmjdnljneifpcaaGreatDoorBei
import Derived.Test.YtmjdnljneifpcaaGreatDoorBec
import Derived.Test.YtmjdnljneifpcaaGreatDoorBeh
set_option linter.unusedVariables false
set_option linter.unusedSimpArgs false
set_option linter.unusedSectionVars false
namespace Go.Proofs.YtmjdnljneifpcaaGreatDoor
open List
open Go.SL
def BD (s:CS) (id:Int):Qb:=(s.lays[id.toNat - 1]?).getD ⟨0,[],0,[]⟩
def UY (s:CS) (region id count:Int):Nat:=if (QV s.par region).isSome=false then 15 else if id < 1∨(s.lays.length:Int) < id then 6 else (Vg (BD s id) count).2
def ZI (s:CS) (id count:Int):Nat:=(Vg (BD s id) count).1
theorem R7 {α:Type} {V:Type} {l:List α} {f:α→Int} {g:α→V} {k:Int} {b:V} (h:QV (l.map fun a=>(f a,g a)) k=some b):∃ x g1 g2,l=g1++x::g2∧f x=k∧g x=b:=by
 obtain⟨x,hx,h1⟩:=mem_map.1 (KK h);injection h1 with h1 h2
 obtain⟨g1,g2,h3⟩:=append_of_mem hx;exact⟨x,g1,g2,h3,h1,h2⟩
theorem R8 {α:Type} {V:Type} {l:List α} {f:α→Int} {g:α→V} {k:Int} (h:k∈l.map f):∃ b,QV (l.map fun a=>(f a,g a)) k=some b:=by
 cases hf:QV (l.map fun a=>(f a,g a)) k with
 | some b=>exact⟨b,rfl⟩
 | none=>
  refine absurd ?_ (D3.1 hf);rw[map_map];exact h
theorem TF {size:Nat} {own:List Nat} {r:Int} {S:QO} (h:XO size own r S):S.parts.length≤own.length:=by
 have h1:∀ l:List (Nat×Nat),(∀ p∈l,1≤p.2)→l.length≤(QR l).length:=by
  intro l
  induction l with
  | nil=>intro _;exact Nat.zero_le _
  | cons a l ih=>
   intro ha;have h1:=ih (fun p hp=>ha p (mem_cons_of_mem _ hp));have h2:=ha a (mem_cons_self ..);simp only[QR,flatMap_cons,length_append,length_map,length_range,length_cons] at h1 ⊢;omega
 have h2:=h1 S.parts (fun p hp=>(h.parts p hp).1)
 have h3:=U5 h.nodup (l₂:=List.range own.length) (fun c hc=>by
  obtain⟨q,hq,_,_⟩:=(h.owned c).1 hc;exact mem_range.2 (List.getElem?_eq_some_iff.1 hq).1)
 rw[length_range] at h3;omega
theorem rH {size:Nat} {own:List Nat} {r:Int} {S:QO} (h:XO size own r S) (h1:own.length≤63) (h2:size≤1024):S.fin≤1048576:=by
 by_cases h0:S.fin=0
 ·omega
 ·obtain⟨c,e,_,hc⟩:=h.fin h0;have:=(h.parts _ hc).2;rw[e];exact Nat.le_trans (Nat.mul_le_mul (show c+1≤64 by omega) h2) (by omega)
theorem i8 {size:Nat} {own:List Nat} {e:Q8} (h:Ug size own e):Xw size own e.addr (e.ws.length+1):=by
 intro c c1 c2;obtain⟨r,hr,_,ZK⟩:=h.2 c c1 (by rw[show e.addr+(e.ws.length+1) - 1=e.addr+e.ws.length by omega] at c2;exact c2);rw[getD_eq_getElem?_getD,hr];show r≠0;omega
theorem i9 {size:Nat} {own mem own' mem':List Nat} {r n a:Nat} {S S':QO} (h:KM size own mem r S n own' mem' S' a):own'.length=own.length:=by
 cases h with
 | room _=>rfl
 | one ha _ _=>exact Yh ha
 | run _ ha _ _ _=>exact Yh ha
def OY (own own':List Nat) (k:Nat):Prop:=own'.length=own.length∧∃ a0 k0,k0≤k∧∀ i,own'.getD i 0≠0→own.getD i 0≠0∨(a0≤i∧i < a0+k0)
theorem rI {size:Nat} (hs:1≤size) {own mem own' mem':List Nat} {r n a:Nat} {S S':QO} (h:KM size own mem r S (n+1) own' mem' S' a):OY own own' (n / size+1):=by
 refine⟨i9 h,?_⟩;cases h with
 | room _=>exact⟨0,0,Nat.zero_le _,fun i hi => .inl hi⟩
 | @one b ha _ _=>
  refine⟨b,1,Nat.le_add_left 1 _,fun i hi=>?_⟩;rw[CW ha] at hi;split at hi
  ·right;assumption
  ·exact .inl hi
 | @run b k hk ha _ _ Gp=>
  refine⟨b,k,?_,fun i hi=>?_⟩
  ·have h2:k - 1≤n / size:=by
    rw[Nat.le_div_iff_mul_le (by omega)];omega
   omega
  ·rw[CW ha] at hi;split at hi
   ·right;assumption
   ·exact .inl hi
theorem rJ [Q4] (p:Nat) (s:CS) (region id count:Int) {w:World} {fr:List Q2} [hT:Z6 0 Lib.deBruijn64tab fr] (H:Q0 w (QD p s::fr)) :
  Calls Tryz.prog 31 #[pp p,.int .i64 region,.int .i64 id,.int .i64 count] w (ret fun v w'=>
   (UY s region id count≠0∧v = .tuple #[Xv 0 0,.int .i64 (UY s region id count)]∧Q0 w' (QD p s::fr)) ∨
   (UY s region id count=0∧(∀ t∈s.tab,busy t=true)∧v = .tuple #[Xv 0 0,.int .i64 12]∧Q0 w' (QD p s::fr)) ∨
   (UY s region id count=0∧(∀ a,a+(ZI s id count / s.size+1)≤s.own.length→∃ i,a≤i∧i < a+(ZI s id count / s.size+1)∧s.own.getD i 0≠0)∧v = .tuple #[Xv 0 0,.int .i64 11]∧Q0 w' (QD p s::fr)) ∨
   (UY s region id count = 0 ∧ ∃ k g0 addr s', s.tab[k]? = some ⟨g0, none⟩ ∧ g0 ≤ 254 ∧ (∀ j t, j < k → s.tab[j]? = some t → busy t = true) ∧ v = .tuple #[Xv k (g0 + 1), .int .i64 0] ∧
    s'.size=s.size∧s'.lays=s.lays∧s'.last=s.last∧s'.par=s.par∧s'.rem=s.rem∧s'.tab=s.tab.set k ⟨g0+1,some ⟨addr,region,true,false,id.toNat,count.toNat,List.replicate (ZI s id count) 0⟩⟩∧OY s.own s'.own (ZI s id count / s.size+1)∧(Yi s→Yi s')∧Q0 w' (QD p s'::fr))):=by
 obtain⟨q,mem,hw,hm,H⟩:=Y9 H;have TH:=Si (H.pull 5);refine QQ Tryz.func31 rfl (by kernel_rfl) ?_;refine YM H ?_;clear H;intro b8 w H;refine J0 H ?_;replace H:=Js [6,0,0,0,0,0,0,0,0,0,0,0] 0 H;refine J6 H ?_
 refine Yx (fun ms σ w=>ms=[]∧(QV s.par region).isSome=true∧σ 0=pp p∧σ 1 = .int .i64 region∧σ 2 = .int .i64 id∧σ 3 = .int .i64 count∧σ 8=pp b8 ∧
  Q0 w (Qp q.bp s.lays::pts b8 (row 69 [.int .i64 0,.int .i64 0])::VY p q::V6 q.ip q.sp q.bp::ST q.sp s.size mem s.own::Qr q.tp s.tab::Qo q.trp s.last s.par::RS q.rp s.rem::mp (ki .i64) Qz q.sm (s.sps.map Vt)::star (s.sps.map (Vx q.sp))::mp (ki .i64) Qz q.mm (s.mns.map VU)::star (s.mns.map VV)::fr)) ?_ ?_
 ·refine Bx H ?_;refine VM H ?_;refine Jc rfl rfl (Iw q.trp s.last s.par region H) ?_;clear H;rintro v w ⟨rfl,H⟩;cases hf:(QV s.par region).isSome with
  | false=>
   have he:UY s region id count=15:=by unfold UY;rw[if_pos hf]
   refine Mo H ?_;clear H;intro w H;refine J0 H ?_;replace H:=Js [1,1,1,1,1,1,0,0,0,0,0,0] 0 H;refine Q3 (.inr ⟨by simp,Jz H (fun w' H' => .cellN H' rfl (by repeat first|exact .nil _|apply QY.cons rfl) (.tmp .nil)) fun w' H' => .inl ⟨by omega,by rw[he];rfl,VJ hw hm H'.drop⟩⟩)
  | true=>
   refine DI H ?_;replace H:=Js [4,1,1,1,1,1,0,0,0,0,0,0] 0 H;exact .inl ⟨rfl,rfl,rfl,rfl,rfl,rfl,rfl,rfl,H⟩
 clear H;rintro ms σ w ⟨rfl,X0,g0,g1,g2,g3,g8,H⟩;rw[Q1 g0,Q1 g1,Q1 g2,Q1 g3,Q1 g8];clear g0 g1 g2 g3 g8;refine VM H ?_;by_cases Qx:id < 1∨(s.lays.length:Int) < id
 ·have he:UY s region id count=6:=by unfold UY;rw[X0,if_neg (by simp),if_pos Qx]
  refine Jc rfl rfl (pI q.bp s.lays id Qx H) ?_;clear H;rintro v w ⟨rfl,H⟩;refine YA H ?_;clear H;intro b10 w H;refine J5 H ?_;clear H;intro w H;refine ZX H ?_;refine Vr H ?_;refine IT H ?_;clear H;intro w H;refine J0 H ?_;replace H:=Js [2,2,2,1,1,1,1,1,1,1,1,1] 1 H;exact Q3 (Jz H (fun w' H' => .cellN H' rfl (by repeat first|exact .nil _|apply QY.cons rfl) (.tmp .nil)) fun w' H' => .inl ⟨by omega,by rw[he];rfl,VJ hw hm H'.drop⟩)
 obtain⟨i,rfl⟩:∃ i:Nat,id=i:=⟨id.toNat,by omega⟩;have UE:=getElem?_eq_getElem (l:=s.lays) (i:=i - 1) (by omega)
 have BE:BD s (i:Int)=s.lays[i - 1]'(by omega):=by
  unfold BD;rw[Int.toNat_natCast,UE];rfl
 have hR:YU (BD s (i:Int)):=by rw[BE];exact hw.lays.2 _ (getElem_mem _)
 rw[← BE] at UE;have hE:UY s region i count=(Vg (BD s i) count).2:=by unfold UY;rw[X0,if_neg (by simp),if_neg Qx]
 have hN:ZI s i count=(Vg (BD s i) count).1:=rfl;generalize BD s (i:Int)=l at UE hR hE hN;refine Jc rfl rfl (Sr q.bp s.lays i (by omega) l UE H) ?_;clear H;rintro v w ⟨vr,vq,rfl,H⟩;obtain⟨ar,cr,rfl⟩:=QI H (QJ _) (by decide);obtain⟨aq,cq,rfl⟩:=QI H.drop (QJ _) (by decide);refine YA H ?_;clear H;intro b10 w H;refine J5 H ?_;clear H;intro w H;refine ZT H ?_;refine Ey H ?_;replace H:=Js [1,1,0,0,0,0,0,0,0,0,0,0,0,0,0] 0 H;obtain⟨D1,H,Y2,Vo⟩:=sls_rd H (QJ _) (by decide);obtain⟨D2,H,Zj,ZR⟩:=sls_rd H.swap (QJ _) (by decide);refine Jc rfl rfl (Iq _ _ l hR count ⟨(Y2 _).there,Zj _⟩ H) ?_;clear H;rintro v w ⟨rfl,H⟩;replace H:=Vo _ _ (ZR _ _ H).swap;replace H:=Js [8,3,3,3,3,3,3,3,3,3,3,3] 3 H;generalize Ve:Vg l count=z at hE hN H ⊢;obtain⟨n,er⟩:=z;refine DE H ?_
 refine Yx (fun ms σ w=>ms=[]∧er=0∧¬ (∀ t∈s.tab,busy t=true)∧σ 0=pp p∧σ 1 = .int .i64 region∧σ 2 = .int .i64 i∧σ 3 = .int .i64 count∧σ 8=pp b8∧σ 12 = .int .i64 n ∧
  Q0 w (Qr q.tp s.tab::Qp q.bp s.lays::pts b8 (row 69 [.int .i64 0,.int .i64 0])::VY p q::V6 q.ip q.sp q.bp::ST q.sp s.size mem s.own::Qo q.trp s.last s.par::RS q.rp s.rem::mp (ki .i64) Qz q.sm (s.sps.map Vt)::star (s.sps.map (Vx q.sp))::mp (ki .i64) Qz q.mm (s.mns.map VU)::star (s.mns.map VV)::fr)) ?_ ?_
 ·refine Qe ?_;refine Vj H ?_;by_cases h0:er=0
  ·subst h0;refine F5 H ?_;refine G1 H ?_;refine Jc rfl rfl (gS q.tp s.tab H) ?_;clear H;rintro v w ⟨rfl,H⟩;have iQ:U8 s.tab≤s.tab.length:=length_filter_le _ _;by_cases hb:∀ t∈s.tab,busy t=true
   ·have rL:U8 s.tab=s.tab.length:=by unfold U8;rw[filter_eq_self.2 hb]
    rw[show s.tab.length - U8 s.tab=0 by omega];refine Mo H ?_;clear H;intro w H;refine J0 H ?_;replace H:=Js [2,2,2,1,1,0,0,0,0,0,0,0] 0 H;refine Q3 (.inr ⟨by simp,Jz H (fun w' H' => .cellN H' rfl (by repeat first|exact .nil _|apply QY.cons rfl) (.tmp .nil)) fun w' H' => .inr (.inl ⟨hE,hb,rfl,VJ hw hm H'.drop⟩)⟩)
   ·have rL:U8 s.tab≠s.tab.length:=by
     intro h;refine hb fun t ht=>?_;exact length_filter_eq_length_iff.1 h t ht
    refine J4 H ?_;rw[show (((s.tab.length - U8 s.tab:Nat):Int) == 0)=false by simp;omega];refine Vf H ?_;exact .inl ⟨rfl,rfl,rfl,hb,rfl,rfl,rfl,rfl,rfl,rfl,H⟩
  ·rw[show (((er:Nat):Int) != 0)=true by simpa using h0];refine Vr H ?_;refine IT H ?_;clear H;intro w H;refine J0 H ?_;replace H:=Js [2,2,2,1,1,0,0,0,0,0,0,0] 0 H;refine Q3 (.inr ⟨by simp,Jz H (fun w' H' => .cellN H' rfl (by repeat first|exact .nil _|apply QY.cons rfl) (.tmp .nil)) fun w' H' => .inl ⟨by rw[hE];exact h0,by rw[hE];rfl,VJ hw hm H'.drop⟩⟩)
 clear H;rintro ms σ w ⟨rfl,rfl,Zw,g0,g1,g2,g3,g8,g12,H⟩;rw[Q1 g0,Q1 g1,Q1 g2,Q1 g3,Q1 g8,Q1 g12];clear g0 g1 g2 g3 g8 g12;obtain⟨z1,z2,z3,z4,z5⟩:=Sa Ve;obtain⟨c,rfl⟩:∃ c:Nat,count=c:=⟨count.toNat,by omega⟩;have K6:region∈s.par.map (·.1):=Di X0;obtain⟨b,WL⟩:=R8 (l:=s.sps) (f:=fun x=>x.1) (g:=fun x=>x.2.1) (k:=region) (by rw[hw.skeys];exact K6);obtain⟨⟨r0,b0,S⟩,p1,p2,VL,iV,iY⟩:=R7 WL;obtain rfl:r0=region:=iV;obtain rfl:b0=b:=iY;obtain⟨b2,ZW⟩:=R8 (l:=s.mns) (f:=fun x=>x.1) (g:=fun x=>x.2.1) (k:=r0) (by rw[hw.mkeys];exact K6);obtain⟨⟨r1,b1,L⟩,m1,m2,Vk,VC,YD⟩:=R7 ZW;obtain rfl:r1=r0:=VC;obtain rfl:b1=b2:=YD
 have ZK:1≤r1:=by
  obtain⟨⟨ra,rx⟩,hx,rfl⟩:=mem_map.1 K6;exact(hw.par.2.2 _ _ hx).1
 obtain⟨r,rfl⟩:∃ r:Nat,r1=r:=⟨r1.toNat,by omega⟩;have hS:XO s.size s.own r S:=hw.spc ((r:Int),b0,S) (by rw[VL];simp);have A7:=rH hS hw.own.2 hw.size.2;have Uk:=TF hS;have Z9:=hw.own.2;refine VM H ?_;refine Q5 rfl (GH (ek:=ki .i64) (vv:=Qz) (key:=(r:Int)) H rfl rfl Vp rfl ?_);have CP:QV (s.sps.map Vt) (r:Int)=some b0:=WL;have Xh:QV (s.mns.map VU) (r:Int)=some b1:=ZW;rw[CP];refine ZS H ?_;rw[Qg (x:=((n:Nat):Int)+1) (by omega) (by omega),show ((n:Nat):Int)+1=((n+1:Nat):Int) by omega];replace H:=Js [9,5,0,0,0,0,0,0,0,0,0,0] 0 H;replace H:Q0 w (Qy b0 q.sp r S::star ((p1++p2).map (Vx q.sp))::_):=(Q0.pick (R:=Vx q.sp) (x:=((r:Int),b0,S)) VL).1 H;replace H:=Js [0,1,0,0,0,0,0,0,0,0,0,0,0] 0 H;refine Jc rfl rfl (fw b0 q.sp r s.size (n+1) S mem s.own (by omega) (by omega) (by omega) hS.at1 A7 Z9 hw.size.1 hw.size.2 (by omega) H) ?_;clear H;rintro v w (⟨a,own',mem',S',rfl,al,H⟩|⟨rfl,VZ,H⟩)
 case inr=>
  refine IS H ?_;refine IT H ?_;clear H;intro w H;refine J0 H ?_;replace H:=Js [0,1,0,0,0,0,0,0,0,0,0,0,0] 0 H;have H:=(Q0.pick (R:=Vx q.sp) (x:=((r:Int),b0,S)) VL).2 H;replace H:=Js [5,5,3,1,1,2,2,2,0,1,1,0] 0 H;have H:=(VJ hw hm H).swap;refine Q3 (Jz H (fun w' H' => .cellN H' rfl (by repeat first|exact .nil _|apply QY.cons rfl) (.tmp .nil)) fun w' H' => .inr (.inr (.inl ⟨hE,?_,rfl,H'.drop⟩)));rw[hN];intro a ha;rw[Nat.add_sub_cancel] at VZ;exact VZ a ha
 have Vi:=i9 al;obtain⟨GW,JT⟩:=ft hw hm.len al;refine UA H ?_;refine XF H ?_;refine W3 H ?_;replace H:=Js [3,0,0,0,0,0,0,0,0,0,0,0,0] 0 H;refine Jc rfl rfl (qu q.tp s.tab ⟨a,r,true,false,i,c,List.replicate n 0⟩ H) ?_;clear H;rintro v w (⟨k,g0,hk,KP,T6,rfl,H⟩|⟨hb,_,_⟩)
 case inr=>exact absurd hb Zw
 have VB:k < s.tab.length:=(List.getElem?_eq_some_iff.1 hk).1;have Wz:=hw.slots.2;refine YA H ?_;clear H;intro b14 w H;refine J5 H ?_;clear H;intro w H;refine J0 H ?_;have hL:=hw.mine ((r:Int),b1,L) (by rw[Vk];simp)
 have UQ:k∉L:=by
  intro hj;obtain⟨g,f,hf,_⟩:=(hL.2 k).1 hj;rw[hk] at hf;cases hf
 have rM:(Za L k).Pairwise (· < ·):=OV hL.1 UQ;have Yr:Wy i c k:=⟨by omega,by have:=hw.lays.1;omega,by omega,by omega⟩
 have Fs:Ri s.lays k ⟨a,r,true,false,i,c,List.replicate n 0⟩:=by
  refine⟨Yr,l,UE,hR,by simpa using Ve,fun x w hx=>?_⟩;have hx:(List.replicate n 0)[x]? = some w:=hx;have:=eq_of_mem_replicate (mem_of_getElem? hx);subst this;exact⟨by omega,fun _=>⟨.none,trivial,rfl⟩⟩
 have al':KM s.size s.own mem r S ((Q8.mk a r true false i c (List.replicate n 0)).ws.length+1) own' mem' S' (Q8.mk a r true false i c (List.replicate n 0)).addr:=by
  show KM s.size s.own mem r S ((List.replicate n 0).length+1) own' mem' S' a;rw[length_replicate];exact al
 have Dt:=pi hw hk KP VL Vk TH (e:=⟨a,r,true,false,i,c,List.replicate n 0⟩) rfl Fs al' rM (fun j=>OQ);have Qj:(s.tab.set k (⟨g0+1,some ⟨a,r,true,false,i,c,List.replicate n 0⟩⟩:QW))[k]? = some ⟨g0+1,some ⟨a,r,true,false,i,c,List.replicate n 0⟩⟩:=getElem?_set_self VB;have CT:Ug s.size own' ⟨a,r,true,false,i,c,List.replicate n 0⟩:=(Dt.obj k _ _ Qj).2.1
 have O9:a+1+n≤mem'.length:=by
  have h1:Qa (Q8.mk a r true false i c (List.replicate n 0))≤own'.length*s.size:=CT.1;unfold Qa at h1;rw[GW,hm.len,← Vi];simpa using h1
 have rN:Xw s.size own' a (n+1):=by
  have:=i8 CT;simpa using this
 replace H:=Js [8,5,3,0,0,0,0,0,0,0,0,0,0,0] 0 H;refine J1 H ?_;clear H;intro w H;refine YN H ?_;refine Jl 3 [10] H ?_;refine Me H ?_;refine Jl 8 [10] H ?_;refine Uc 9 rfl (Q9.none rfl) rfl (by kernel_rfl) ?_;refine Jo 10 H ?_;refine Jk rfl rfl (qQ q.ip q.sp q.bp s.size s.lays mem' own' a i c k n l Yr UE hR Ve O9 rN H) ?_;clear H;rintro v w ⟨rfl,H⟩;refine Jx H ?_;replace H:=Js [13,0,0,0,0,0,0,0,0,0,0,0,0,0] 0 H;replace H:Q0 w (VQ b1 L::star ((m1++m2).map VV)::_):=(Q0.pick (R:=VV) (x:=((r:Int),b1,L)) Vk).1 H
 have UN:L.length≤63:=by
  have:=B6 L 0 63 (fun x hx=>⟨Nat.zero_le _,by
   obtain⟨g,f,h3,_⟩:=(hL.2 x).1 hx;have h4:=(List.getElem?_eq_some_iff.1 h3).1;have:=hw.slots.2;omega⟩) hL.1
  omega
 refine J1 H ?_;clear H;intro w H;refine YN H ?_;refine Jl 3 [8] H ?_;refine Ja 4 ?_;refine RL 5 [8] (key:=(r:Int)) H rfl (Q9.none rfl) rfl rfl Vp (by kernel_rfl) ?_;rw[Xh];refine Jf 6 ?_;refine Jl 7 [8] H ?_;refine Jo 8 H ?_;refine Jk rfl rfl (i7 b1 L k hL.1 (by omega) UQ H) ?_;clear H;rintro v w ⟨rfl,H⟩;refine Jx H ?_;refine Ak H ?_;clear H;intro w H;refine J0 H ?_
 have GF:∀ (j g:Nat) (f:Q8),s.tab[j]? = some ⟨g,some f⟩→Qa f≤(Q8.mk a r true false i c (List.replicate n 0)).addr∨Qa (Q8.mk a r true false i c (List.replicate n 0))≤f.addr:=by
  intro j g f hj;have QB:j≠k:=fun h=>by subst h;rw[hk] at hj;cases hj
  refine Dt.apart j k g (g0+1) f _ QB ?_ Qj;show (s.tab.set k _)[j]? = _;rw[getElem?_set_ne (fun h=>QB h.symm)];exact hj
 have rO:(mem'.set a (Uy i c k)).length=mem'.length:=length_set
 have VR:=po hw hm hk (e:=⟨a,r,true,false,i,c,List.replicate n 0⟩) al' (mem2:=VT (mem'.set a (Uy i c k)) (a+1) n 0) (by rw[Yh (by omega),rO]) Vi
  (by
   show (VT (mem'.set a (Uy i c k)) (a+1) n 0)[a]? = some (Uy i c k);rw[Ue (by omega),if_neg (by omega),getElem?_set_self (by omega)])
  (fun x w hx => by
   have hx:(List.replicate n 0)[x]? = some w:=hx;have h0:=eq_of_mem_replicate (mem_of_getElem? hx);have h1:=(List.getElem?_eq_some_iff.1 hx).1;rw[length_replicate] at h1;subst h0;show (VT (mem'.set a (Uy i c k)) (a+1) n 0)[a+1+x]? = some 0;rw[Ue (by omega),if_pos (by omega)])
  (fun x hx => by
   have hx:x < a∨Qa (Q8.mk a r true false i c (List.replicate n 0))≤x:=hx;unfold Qa at hx;rw[length_replicate] at hx;have hx:x < a∨a+1+n≤x:=hx;rw[Ue (by omega),if_neg (by omega),getElem?_set_ne (by omega)])
  GF (s':={ s with own:=own',tab:=s.tab.set k ⟨g0+1,some ⟨a,r,true,false,i,c,List.replicate n 0⟩⟩,sps:=p1++((r:Int),b0,S')::p2,mns:=m1++((r:Int),b1,Za L k)::m2 }) rfl rfl rfl
 have L1:s.sps.map Vt=(p1++((r:Int),b0,S')::p2).map Vt:=by rw[VL];simp
 have Du:s.mns.map VU=(m1++((r:Int),b1,Za L k)::m2).map VU:=by rw[Vk];simp
 rw[L1,Du] at H;have H:=(Q0.pick (R:=VV) (x:=((r:Int),b1,Za L k)) (g1:=m1) (g2:=m2) rfl).2 H;replace H:=Js [6,6,0,0,0,0,1,1,1,1,1,1,1] 1 H;have H:=(Q0.pick (R:=Vx q.sp) (x:=((r:Int),b0,S')) (g1:=p1) (g2:=p2) rfl).2 H;replace H:=Js [7,2,2,2,2,3,3,3,0,2,0,0] 0 H;have H:=(VJ Dt VR H).swap;refine Q3 (Jz H (fun w' H' => .cellN H' rfl (by repeat first|exact .nil _|apply QY.cons rfl) (.tmp .nil)) fun w' H' => .inr (.inr (.inr ⟨hE,k,g0,a,{ s with own:=own',tab:=s.tab.set k ⟨g0+1,some ⟨a,r,true,false,i,c,List.replicate n 0⟩⟩,sps:=p1++((r:Int),b0,S')::p2,mns:=m1++((r:Int),b1,Za L k)::m2 },hk,KP,T6,rfl,rfl,rfl,rfl,rfl,rfl,?_,by rw[hN];exact rI hw.size.1 al,fun hP=>rW hP VL (e:=⟨a,r,true,false,i,c,List.replicate n 0⟩) rfl hw.size.1 (hw.spc ((r:Int),b0,S) (by rw[VL];simp)) al' rfl rfl rfl,H'.drop⟩)));show s.tab.set k _=s.tab.set k _;rw[hN];rfl
def rP:Option (Nat×Nat)→Yn
 | some (k,g) => .obj k g
 | none => .none
def G7 (told:List (Nat×Nat)) (kd t:Nat):Yn:=if kd=2 then rP told[t]? else if kd=1 then .grave else .none
def R9 (ls:List Qb) (i:Nat):Qb:=(ls[i - 1]?).getD ⟨0,[],0,[]⟩
structure K7 (lays:List Qb) (told:List (Nat×Nat)) (e:Q8) (x:QT):Prop where
 region:e.region=x.region
 lay:e.lay=x.lay
 count:e.count=x.count
 held:e.held=x.held
 pinned:e.pinned=x.pinned
 len:e.ws.length=x.w.length
 ref:∀ p,p < x.w.length→Va (R9 lays x.lay) p=true→Gu (e.ws.getD p 0)=G7 told (x.kind.getD p 0) (x.to.getD p 0)
 word:∀ p,p < x.w.length→Va (R9 lays x.lay) p=false→e.ws.getD p 0=x.w.getD p 0
 kind:∀ p,p < x.w.length→x.kind.getD p 0≠0→Va (R9 lays x.lay) p=true∧x.kind.getD p 0≤2
structure Rel (s:CS) (m:MS) (told:List (Nat×Nat)):Prop where
 len:told.length=m.objs.length
 lays:s.lays=m.lays
 tree:∀ (r q:Int),(r,q)∈s.par↔∃ k:Nat,r=k∧1≤k∧m.P[k]? = some q∧0≤q
 nd:(s.par.map (·.1)).Nodup
 last:s.last+1=m.P.length
 obj:∀ (o:Nat) (x:QT) (k g:Nat),m.objs[o]? = some x→told[o]? = some (k,g)→x.gone=false→∃ e,s.tab[k]? = some ⟨g,some e⟩∧K7 m.lays told e x
 gone:∀ (o:Nat) (x:QT) (k g:Nat),m.objs[o]? = some x→told[o]? = some (k,g)→x.gone=true→∀ e,s.tab[k]? ≠ some ⟨g,some e⟩
 used:∀ (k g:Nat) (e:Q8),s.tab[k]? = some ⟨g,some e⟩→∃ o:Nat,told[o]? = some (k,g)
 gens:∀ (o k g:Nat),told[o]? = some (k,g)→∃ t,s.tab[k]? = some t∧g≤t.gen
 nodup:told.Nodup
structure Xi (s:CS) (m:MS) (told:List (Nat×Nat)):Prop where
 len:told.length=m.objs.length
 lays:s.lays=m.lays
 tree:∀ (r q:Int),(r,q)∈s.par↔∃ k:Nat,r=k∧1≤k∧m.P[k]? = some q∧0≤q
 nd:(s.par.map (·.1)).Nodup
 obj:∀ (o:Nat) (x:QT) (k g:Nat),m.objs[o]? = some x→told[o]? = some (k,g)→x.gone=false→∃ e,s.tab[k]? = some ⟨g,some e⟩∧K7 m.lays told e x
 gone:∀ (o:Nat) (x:QT) (k g:Nat),m.objs[o]? = some x→told[o]? = some (k,g)→x.gone=true→∀ e,s.tab[k]? ≠ some ⟨g,some e⟩
theorem Rel.w {s:CS} {m:MS} {told:List (Nat×Nat)} (R:Rel s m told):Xi s m told:=⟨R.len,R.lays,R.tree,R.nd,R.obj,R.gone⟩
theorem OZ {α:Type} {l:List α} (h:l.Nodup) {i j:Nat} {a:α} (hi:l[i]? = some a) (hj:l[j]? = some a):i=j:=by
 have h1:=(List.getElem?_eq_some_iff.1 hi);have h2:=(List.getElem?_eq_some_iff.1 hj);obtain⟨a1,b1⟩:=h1;obtain⟨a2,b2⟩:=h2;have h3:=pairwise_iff_getElem.1 h
 rcases Nat.lt_trichotomy i j with h4|h4|h4
 ·exact absurd (b1.trans b2.symm) (h3 i j a1 a2 h4)
 ·exact h4
 ·exact absurd (b2.trans b1.symm) (h3 j i a2 a1 h4)
theorem Ft {s:CS} {m:MS} {told:List (Nat×Nat)} (R:Rel s m told) {n k g:Nat} {e e':Q8} {x x':QT} (ht:told[n]? = some (k,g)) (hk:s.tab[k]? = some ⟨g,some e⟩) (hx:m.objs[n]? = some x) (hg:x.gone=false) (Wn:x'.gone=false) (hl:K7 m.lays told e' x') (rem:List ((Int×Int)×Int)) :
  Rel { Y3 s k g e' with rem:=rem } (G4 m n x') told:=by
 have Z3:=(List.getElem?_eq_some_iff.1 hx).1;have VB:=(List.getElem?_eq_some_iff.1 hk).1;refine⟨by show told.length=(m.objs.set n x').length;rw[length_set];exact R.len,R.lays,R.tree,R.nd,R.last,?_,?_,?_,?_,R.nodup⟩
 ·intro o x0 k0 g0 (Z8:(m.objs.set n x')[o]? = some x0) KS KP;by_cases Xj:n=o
  ·subst Xj;rw[getElem?_set_self Z3] at Z8;injection Z8 with Z8
   subst Z8;rw[ht] at KS;injection KS with h1
   injection h1 with h1 h2
   subst h1 h2;exact⟨e',by show (s.tab.set k _)[k]? = _;rw[getElem?_set_self VB],hl⟩
  ·rw[getElem?_set_ne Xj] at Z8;obtain⟨e0,h1,h2⟩:=R.obj o x0 k0 g0 Z8 KS KP;refine⟨e0,?_,h2⟩;show (s.tab.set k _)[k0]? = _;by_cases Kv:k=k0
   ·subst Kv;rw[hk] at h1;injection h1 with h1
    injection h1 with h1 _
    subst h1;exact absurd (OZ R.nodup ht KS) Xj
   ·rw[getElem?_set_ne Kv];exact h1
 ·intro o x0 k0 g0 (Z8:(m.objs.set n x')[o]? = some x0) KS KP e0 (h1:(s.tab.set k _)[k0]? = _);by_cases Xj:n=o
  ·subst Xj;rw[getElem?_set_self Z3] at Z8;injection Z8 with Z8
   subst Z8;rw[Wn] at KP;cases KP
  ·rw[getElem?_set_ne Xj] at Z8
   rcases VE h1 with ⟨rfl,h2,_⟩|⟨_,h2⟩
   ·injection h2 with h2 _
    subst h2;exact Xj (OZ R.nodup ht KS)
   ·exact R.gone o x0 k0 g0 Z8 KS KP e0 h2
 ·intro k0 g0 e0 (h1:(s.tab.set k _)[k0]? = _)
  rcases VE h1 with ⟨rfl,h2,_⟩|⟨_,h2⟩
  ·injection h2 with h2 _
   subst h2;exact⟨n,ht⟩
  ·exact R.used k0 g0 e0 h2
 ·intro o k0 g0 KS;obtain⟨t,h1,h2⟩:=R.gens o k0 g0 KS;show ∃ t,(s.tab.set k _)[k0]? = some t∧_;by_cases Kv:k=k0
  ·subst Kv;rw[hk] at h1;injection h1 with h1
   subst h1;exact⟨_,getElem?_set_self VB,h2⟩
  ·exact⟨t,by rw[getElem?_set_ne Kv];exact h1,h2⟩
theorem rS {s:CS} {m:MS} {told:List (Nat×Nat)} (R:Rel s m told) {n:Nat} {x x':QT} (hx:m.objs[n]? = some x) (hg:x.gone=true) (Wn:x'.gone=true):Rel s (G4 m n x') told:=by
 have Z3:=(List.getElem?_eq_some_iff.1 hx).1;refine⟨by show told.length=(m.objs.set n x').length;rw[length_set];exact R.len,R.lays,R.tree,R.nd,R.last,?_,?_,R.used,R.gens,R.nodup⟩
 ·intro o x0 k0 g0 (Z8:(m.objs.set n x')[o]? = some x0) KS KP;by_cases Xj:n=o
  ·subst Xj;rw[getElem?_set_self Z3] at Z8;injection Z8 with Z8
   subst Z8;rw[Wn] at KP;cases KP
  ·rw[getElem?_set_ne Xj] at Z8;exact R.obj o x0 k0 g0 Z8 KS KP
 ·intro o x0 k0 g0 (Z8:(m.objs.set n x')[o]? = some x0) KS KP;by_cases Xj:n=o
  ·subst Xj;exact R.gone n x k0 g0 hx KS hg
  ·rw[getElem?_set_ne Xj] at Z8;exact R.gone o x0 k0 g0 Z8 KS KP
def K8 (told:List (Nat×Nat)) (i g o:Int):Prop:=(∃ k gg n:Nat,i=k∧g=gg∧o=n∧told[n]? = some (k,gg))∨(o = -1∧∀ (k gg n:Nat),i=k→g=gg→told[n]? ≠ some (k,gg))
@[reducible] def Vd (s:CS) (m:MS) (told:List (Nat×Nat)) (i g o:Int):Prop:=(V3 s.tab i g=none∧VH m o=none) ∨
  ∃ (k gg n:Nat) (e:Q8) (x:QT),i=k∧g=gg∧o=n∧told[n]? = some (k,gg)∧s.tab[k]? = some ⟨gg,some e⟩∧m.objs[n]? = some x∧x.gone=false∧K7 m.lays told e x∧V3 s.tab i g=some (k,e)∧VH m o=some (n,x)
theorem iZ {s:CS} {m:MS} {told:List (Nat×Nat)} (R:Xi s m told) {k gg n:Nat} (ht:told[n]? = some (k,gg)):Vd s m told k gg n:=by
 have Z3:n < m.objs.length:=by rw[← R.len];exact(List.getElem?_eq_some_iff.1 ht).1
 have hx:=getElem?_eq_getElem Z3;generalize m.objs[n]=x at hx;cases hg:x.gone with
 | true=>
  left;constructor
  ·cases hv:V3 s.tab k gg with
   | none=>rfl
   | some q=>
    obtain⟨k',e⟩:=q;obtain⟨n',h1,h2,h3⟩:=Yz.1 (WK.1 hv).1;obtain rfl:k=k':=by omega
    obtain rfl:gg=n':=by omega
    exact absurd h3 (R.gone n x k gg hx ht hg e)
  ·rw[JK,hx];simp[hg]
 | false=>
  obtain⟨e,he,hl⟩:=R.obj n x k gg hx ht hg;have ZE:Qk s.tab k gg=some (k,e):=Yz.2 ⟨gg,rfl,rfl,he⟩;cases hh:x.held with
  | true=>
   right;refine⟨k,gg,n,e,x,rfl,rfl,rfl,ht,he,hx,hg,hl,WK.2 ⟨ZE,by rw[hl.held,hh]⟩,?_⟩;rw[JK,hx];simp[hg,hh]
  | false=>
   left;constructor
   ·cases hv:V3 s.tab k gg with
    | none=>rfl
    | some q=>
     obtain⟨k',e'⟩:=q;obtain⟨h1,h2⟩:=WK.1 hv;rw[ZE] at h1;injection h1 with h1
     injection h1 with h1 h3
     subst h3;rw[hl.held,hh] at h2;cases h2
   ·rw[JK,hx];simp[hh]
theorem AZ {s:CS} {m:MS} {told:List (Nat×Nat)} (R:Rel s m told) {i g o:Int} (P:K8 told i g o):Vd s m told i g o:=by
 rcases P with ⟨k,gg,n,rfl,rfl,rfl,ht⟩|⟨rfl,VZ⟩
 ·exact iZ R.w ht
 ·left;refine⟨?_,rfl⟩;cases hv:V3 s.tab i g with
  | none=>rfl
  | some q=>
   obtain⟨k,e⟩:=q;obtain⟨n',h1,h2,h3⟩:=Yz.1 (WK.1 hv).1;obtain⟨o,ho⟩:=R.used k n' e h3;exact absurd ho (VZ k n' o h1 h2)
theorem BF {s:CS} {m:MS} {told:List (Nat×Nat)} (R:Xi s m told) {e:Q8} {x:QT} (h:K7 m.lays told e x):Qd s e=YE m x:=by
 unfold Qd YE;rw[R.lays,h.lay]
theorem iG {s:CS} {m:MS} {told:List (Nat×Nat)} (R:Xi s m told) {i g o:Int} (V:Vd s m told i g o) (place:Int) :
  (Vs m o place false≠0∧K5 s i g place=(0,Vs m o place false))∨(Vs m o place false=0∧∃ (n j:Nat) (x:QT),o=n∧place=j∧m.objs[n]? = some x∧j < x.w.length∧K5 s i g place=(x.w.getD j 0,0)):=by
 rcases V with ⟨h1,h2⟩|⟨k,gg,n,e,x,rfl,rfl,rfl,ht,hk,hx,hg,hl,h1,h2⟩
 ·left;rw[WE h2,gj h1];exact⟨by omega,rfl⟩
 ·rw[K3 h2,T8 h1,BF R hl,hl.len];by_cases h0:Qc (YE m x) x.w.length place false=0
  ·right;obtain⟨j,rfl,hj,hr⟩:=UI h0;refine⟨h0,n,j,x,rfl,rfl,hx,hj,?_⟩;rw[if_pos h0,Int.toNat_natCast,hl.word j hj hr]
  ·left;exact⟨h0,by rw[if_neg h0]⟩
theorem rT {s:CS} {m:MS} {told:List (Nat×Nat)} (R:Rel s m told) {i g o:Int} (P:K8 told i g o) (place:Int) :
  (Vs m o place false≠0∧K5 s i g place=(0,Vs m o place false))∨(Vs m o place false=0∧∃ (n j:Nat) (x:QT),o=n∧place=j∧m.objs[n]? = some x∧j < x.w.length∧K5 s i g place=(x.w.getD j 0,0)):=iG R.w (AZ R P) place
theorem Ca {α:Type} {l:List α} {i j:Nat} {a d:α} (h:i < l.length):(l.set i a).getD j d=if i=j then a else l.getD j d:=by
 rw[getD_eq_getElem?_getD,getD_eq_getElem?_getD,getElem?_set];split
 ·rename_i ZA;subst ZA;simp[h]
 ·rfl
def BH (m:MS) (o place:Int) (X:Nat):MS:=
 match VH m o with
 | none=>m
 | some (k,x)=>if Qc (YE m x) x.w.length place false=0 then G4 m k { x with w:=x.w.set place.toNat X } else m
theorem iU {m:MS} {o place:Int} {X:Nat} (h:VH m o=none):BH m o place X=m:=by unfold BH;rw[h]
theorem TI {m:MS} {o place:Int} {X k:Nat} {x:QT} (h:VH m o=some (k,x)):BH m o place X=if Qc (YE m x) x.w.length place false=0 then G4 m k { x with w:=x.w.set place.toNat X } else m:=by unfold BH;rw[h]
theorem rc {s:CS} {m:MS} {told:List (Nat×Nat)} (R:Rel s m told) {i g o:Int} (P:K8 told i g o) (place:Int) (X:Nat) :
  (Kz s i g place X).2=Vs m o place false∧Rel (Kz s i g place X).1 (BH m o place X) told:=by
 rcases AZ R P with ⟨h1,h2⟩|⟨k,gg,n,e,x,rfl,rfl,rfl,ht,hk,hx,hg,hl,h1,h2⟩
 ·rw[WE h2,JA h1,iU h2];exact⟨rfl,R⟩
 ·rw[K3 h2,JB h1,TI h2,BF R.w hl,hl.len];by_cases h0:Qc (YE m x) x.w.length place false=0
  ·obtain⟨j,rfl,hj,hr⟩:=UI h0;rw[if_pos h0,if_pos h0,h0,Int.toNat_natCast,Int.toNat_natCast];refine⟨rfl,Ft R ht hk hx hg (by exact hg) ?_ s.rem⟩;refine⟨hl.region,hl.lay,hl.count,hl.held,hl.pinned,by simp[hl.len],?_,?_,?_⟩
   ·intro p hp Ym;have Rk:p < x.w.length:=by simpa using hp
    show Gu ((e.ws.set j X).getD p 0)=_;rw[Ca (by rw[hl.len];exact hj)];rw[if_neg (by rintro rfl;exact absurd (Ym.symm.trans hr) (by decide))];exact hl.ref p Rk Ym
   ·intro p hp Ym;have Rk:p < x.w.length:=by simpa using hp
    show (e.ws.set j X).getD p 0=(x.w.set j X).getD p 0;rw[Ca (by rw[hl.len];exact hj),Ca hj];split
    ·rfl
    ·exact hl.word p Rk Ym
   ·intro p hp hn;have Rk:p < x.w.length:=by simpa using hp
    exact hl.kind p Rk hn
  ·rw[if_neg h0,if_neg h0];exact⟨rfl,R⟩
theorem iX {ls:List Qb} {told:List (Nat×Nat)} {e:Q8} {x:QT} (h:K7 ls told e x) (b:Bool):K7 ls told { e with held:=b } { x with held:=b }:=⟨h.region,h.lay,h.count,rfl,h.pinned,h.len,h.ref,h.word,h.kind⟩
theorem re {ls:List Qb} {told:List (Nat×Nat)} {e:Q8} {x:QT} (h:K7 ls told e x) (b:Bool):K7 ls told { e with pinned:=b } { x with pinned:=b }:=⟨h.region,h.lay,h.count,h.held,rfl,h.len,h.ref,h.word,h.kind⟩
theorem rh {s:CS} {m:MS} {told:List (Nat×Nat)} (R:Rel s m told) {i g o:Int} (P:K8 told i g o) :
  (R3 s i g).2=(Xc m o).2∧Rel (R3 s i g).1 (Xc m o).1 told:=by
 rcases AZ R P with ⟨h1,h2⟩|⟨k,gg,n,e,x,rfl,rfl,rfl,ht,hk,hx,hg,hl,h1,h2⟩
 ·have:Xc m o=(m,8):=by unfold Xc;rw[h2]
  rw[this,JE h1];exact⟨rfl,R⟩
 ·have:Xc m n=(G4 m n { x with held:=false },0):=by unfold Xc;rw[h2]
  rw[this,JF h1,Int.toNat_natCast];exact⟨rfl,Ft R ht hk hx hg (by exact hg) (iX hl false) s.rem⟩
theorem ri {s:CS} {m:MS} {told:List (Nat×Nat)} (R:Rel s m told) {i g o:Int} (P:K8 told i g o) (on:Bool) :
  (R4 s i g on).2=(Xd m o on).2∧Rel (R4 s i g on).1 (Xd m o on).1 told:=by
 rcases AZ R P with ⟨h1,h2⟩|⟨k,gg,n,e,x,rfl,rfl,rfl,ht,hk,hx,hg,hl,h1,h2⟩
 ·have:Xd m o on=(m,8):=by unfold Xd;rw[h2]
  rw[this,JH h1];exact⟨rfl,R⟩
 ·have:Xd m n on=if x.pinned=on then (m,7) else (G4 m n { x with pinned:=on },0):=by unfold Xd;rw[h2]
  rw[this,JI h1,Int.toNat_natCast,hl.pinned];by_cases hb:x.pinned=on
  ·rw[if_pos hb,if_pos hb];exact⟨rfl,R⟩
  ·rw[if_neg hb,if_neg hb];exact⟨rfl,Ft R ht hk hx hg (by exact hg) (re hl on) s.rem⟩
theorem iK {s:CS} {m:MS} {told:List (Nat×Nat)} (R:Xi s m told) {i g o:Int} (V:Vd s m told i g o) (place:Int) :
  (Vs m o place true≠0∧Ys s i g place=(.none,Vs m o place true))∨(Vs m o place true=0∧∃ (n j:Nat) (x:QT),o=n∧place=j∧m.objs[n]? = some x∧VH m o=some (n,x)∧j < x.w.length∧Va (R9 m.lays x.lay) j=true∧x.kind.getD j 0≤2∧Ys s i g place=(G7 told (x.kind.getD j 0) (x.to.getD j 0),0)):=by
 rcases V with ⟨h1,h2⟩|⟨k,gg,n,e,x,rfl,rfl,rfl,ht,hk,hx,hg,hl,h1,h2⟩
 ·left;rw[WE h2,TZ h1];exact⟨by omega,rfl⟩
 ·rw[K3 h2,JC h1,BF R hl,hl.len];by_cases h0:Qc (YE m x) x.w.length place true=0
  ·right;obtain⟨j,rfl,hj,hr⟩:=UI h0;refine⟨h0,n,j,x,rfl,rfl,hx,h2,hj,hr,?_,?_⟩
   ·by_cases hz:x.kind.getD j 0=0
    ·omega
    ·exact(hl.kind j hj hz).2
   ·rw[if_pos h0,Int.toNat_natCast,hl.ref j hj hr]
  ·left;exact⟨h0,by rw[if_neg h0]⟩
theorem TJ {s:CS} {m:MS} {told:List (Nat×Nat)} (R:Rel s m told) {i g o:Int} (P:K8 told i g o) (place:Int) :
  (Vs m o place true≠0∧Ys s i g place=(.none,Vs m o place true))∨(Vs m o place true=0∧∃ (n j:Nat) (x:QT),o=n∧place=j∧m.objs[n]? = some x∧VH m o=some (n,x)∧j < x.w.length∧Va (R9 m.lays x.lay) j=true∧x.kind.getD j 0≤2∧Ys s i g place=(G7 told (x.kind.getD j 0) (x.to.getD j 0),0)):=iK R.w (AZ R P) place
theorem iR {ls:List Qb} {told:List (Nat×Nat)} {e:Q8} {x:QT} {n:Nat} (h:K7 ls told e x) (hm:K1 ls n x) {j:Nat} (hj:j < x.w.length) (hr:Va (R9 ls x.lay) j=true) (kd t:Nat) (G5:kd≤2) (W:Nat) (hW:Gu W=G7 told kd t):K7 ls told { e with ws:=e.ws.set j W } { x with kind:=x.kind.set j kd,to:=x.to.set j t }:=by
 refine⟨h.region,h.lay,h.count,h.held,h.pinned,by simp[h.len],?_,?_,?_⟩
 ·intro p hp Ym;show Gu ((e.ws.set j W).getD p 0)=G7 told ((x.kind.set j kd).getD p 0) ((x.to.set j t).getD p 0);rw[Ca (by rw[h.len];exact hj),Ca (by rw[hm.kind];exact hj),Ca (by rw[hm.to];exact hj)];split
  ·exact hW
  ·exact h.ref p hp Ym
 ·intro p hp Ym;show (e.ws.set j W).getD p 0=x.w.getD p 0;rw[Ca (by rw[h.len];exact hj),if_neg (by rintro rfl;exact absurd (hr.symm.trans Ym) (by decide))];exact h.word p hp Ym
 ·intro p hp (hn:(x.kind.set j kd).getD p 0≠0);show _∧(x.kind.set j kd).getD p 0≤2;rw[Ca (by rw[hm.kind];exact hj)] at hn ⊢;by_cases hjp:j=p
  ·subst hjp;rw[if_pos rfl];exact⟨hr,G5⟩
  ·rw[if_neg hjp] at hn ⊢;exact h.kind p hp hn
theorem rj {s:CS} {m:MS} {told:List (Nat×Nat)} (R:Rel s m told) (hm:Vc m) {i g o:Int} (P:K8 told i g o) (place:Int) :
  (Xg s i g place .none).2=(Kx m o place).2∧Rel (Xg s i g place .none).1 (Kx m o place).1 told:=by
 rcases AZ R P with ⟨h1,h2⟩|⟨k,gg,n,e,x,rfl,rfl,rfl,ht,hk,hx,hg,hl,h1,h2⟩
 ·rw[gN h2,JM h1];exact⟨rfl,R⟩
 ·rw[Sz h2,Dq h1,BF R.w hl,hl.len];by_cases h0:Qc (YE m x) x.w.length place true=0
  ·obtain⟨j,rfl,hj,hr⟩:=UI h0;rw[if_pos h0,if_pos h0,Int.toNat_natCast,Int.toNat_natCast];exact⟨rfl,Ft R ht hk hx hg (by exact hg) (iR hl (hm.objs x (mem_of_getElem? hx)) hj hr 0 0 (by omega) _ rfl) _⟩
  ·rw[if_neg h0,if_neg h0];exact⟨rfl,R⟩
theorem iW {s:CS} {m:MS} {told:List (Nat×Nat)} (R:Rel s m told) (hw:WF s) (hm:Vc m) {i g o u v q:Int} (P:K8 told i g o) (Q:K8 told u v q) (place:Int) :
  (G6 s i g place u v).2=(Zr m o place q).2∧Rel (G6 s i g place u v).1 (Zr m o place q).1 told:=by
 rcases AZ R P with ⟨h1,h2⟩|⟨k,gg,n,e,x,rfl,rfl,rfl,ht,hk,hx,hg,hl,h1,h2⟩
 ·have h3:Zr m o place q=(m,8):=by unfold Zr;rw[h2]
  have h4:G6 s i g place u v=(s,8):=by unfold G6;rw[TZ h1];rw[if_pos (by decide)]
  rw[h3,h4];exact⟨rfl,R⟩
 ·by_cases h0:Qc (YE m x) x.w.length place true=0
  ·have hz:(Ys s k gg place).2=0:=by rw[JC h1,BF R.w hl,hl.len,if_pos h0]
   rcases AZ R Q with ⟨h3,h4⟩|⟨k',gg',n',e',x',rfl,rfl,rfl,WB,Yk,VA,Wn,iA,h3,h4⟩
   ·have h5:Zr m n place q=(m,8):=by unfold Zr;rw[h2];show (if Qc _ _ _ _=0 then _ else _)=_;rw[if_pos h0,h4]
    have h6:G6 s k gg place u v=(s,8):=by unfold G6;rw[hz,if_neg (by decide),h3];rfl
    rw[h5,h6];exact⟨rfl,R⟩
   ·have h5:Zr m n place n'=(G4 m n { x with kind:=x.kind.set place.toNat 2,to:=x.to.set place.toNat n' },0):=by unfold Zr;rw[h2];show (if Qc _ _ _ _=0 then _ else _)=_;rw[if_pos h0,h4]
    have h6:G6 s k gg place k' gg'=Xg s k gg place (.obj k' gg'):=by unfold G6;rw[hz,if_neg (by decide),h3];rfl
    rw[h5,h6,Dq h1,BF R.w hl,hl.len,if_pos h0];obtain⟨j,rfl,hj,hr⟩:=UI h0;rw[Int.toNat_natCast,Int.toNat_natCast];have QX:=TW hw Yk;exact⟨rfl,Ft R ht hk hx hg (by exact hg) (iR hl (hm.objs x (mem_of_getElem? hx)) hj hr 2 n' (by omega) _ (by rw[gc QX.1];unfold G7;rw[if_pos rfl,WB];rfl)) _⟩
  ·have hz:Ys s k gg place=(.none,Qc (YE m x) x.w.length place true):=by rw[JC h1,BF R.w hl,hl.len,if_neg h0]
   have h5:Zr m n place q=(m,Qc (YE m x) x.w.length place true):=by unfold Zr;rw[h2];show (if Qc _ _ _ _=0 then _ else _)=_;rw[if_neg h0]
   have h6:G6 s k gg place u v=(s,Qc (YE m x) x.w.length place true):=by unfold G6;rw[hz,if_pos h0]
   rw[h5,h6];exact⟨rfl,R⟩
theorem rl {s:CS} {m:MS} {told:List (Nat×Nat)} (R:Rel s m told) (hm:Vc m) {i g o:Int} (P:K8 told i g o) (place:Int) :
  (Ys s i g place).2=(ZF m o place).2.2.2∧(Ys s i g place).1=G7 told (ZF m o place).2.1 (ZF m o place).2.2.1∧(ZF m o place).2.1≤2∧((ZF m o place).2.1=2→(ZF m o place).2.2.1 < told.length)∧Rel (UV s i g place) (ZF m o place).1 told:=by
 rcases TJ R P place with ⟨h0,h1⟩|⟨h0,n,j,x,rfl,rfl,hx,hv,hj,hr,VN,h1⟩
 ·have h3:ZF m o place=(m,0,0,Vs m o place true):=by
   cases hv:VH m o with
   | none=>unfold ZF;rw[hv,WE hv]
   | some kx=>
    obtain⟨k,x⟩:=kx;rw[K3 hv] at h0 ⊢;unfold ZF;rw[hv];show (if Qc _ _ _ _=0 then _ else _)=_;rw[if_neg h0]
  have h4:UV s i g place=s:=by unfold UV;rw[h1]
  rw[h3,h4,h1];exact⟨rfl,rfl,by show 0≤2;omega,fun h=>(by cases h),R⟩
 ·rw[K3 hv] at h0;have h3:ZF m n j=(if x.kind.getD j 0=2 then AV m (x.to.getD j 0) else m,x.kind.getD j 0,x.to.getD j 0,0):=by unfold ZF;rw[hv];show (if Qc _ _ _ _=0 then _ else _)=_;rw[if_pos h0,Int.toNat_natCast]
  have JT:=hm.objs x (mem_of_getElem? hx);rw[h3,h1];by_cases G5:x.kind.getD j 0=2
  ·have KG:j < x.kind.length:=by rw[JT.kind];exact hj
   have iB:=getElem?_eq_getElem KG;have K4:=JT.goes j (by rw[iB];rw[getD_eq_getElem?_getD,iB] at G5;exact congrArg some G5);have Dv:x.to.getD j 0 < told.length:=by rw[R.len];exact K4
   generalize BW:x.to.getD j 0=td at *;rw[G5,if_pos rfl];have hy:=getElem?_eq_getElem K4;generalize m.objs[td]=y at hy;have L3:=getElem?_eq_getElem Dv;generalize told[td]=ab at L3;obtain⟨a,b⟩:=ab;have Dw:G7 told 2 td = .obj a b:=by unfold G7;rw[if_pos rfl,L3];rfl
   have h4:UV s i g j=BC s a b:=by unfold UV;rw[h1,G5,Dw];rfl
   have h5:AV m td=G4 m td { y with held:=true }:=by unfold AV;rw[hy]
   rw[h4,h5];refine⟨rfl,rfl,by show 2≤2;omega,fun _=>Dv,?_⟩;by_cases RV:y.gone=true
   ·have h6:Qk s.tab a b=none:=by
     cases ZE:Qk s.tab a b with
     | none=>rfl
     | some q=>
      obtain⟨k',e'⟩:=q;obtain⟨n',h1,h2,h3⟩:=Yz.1 ZE;obtain rfl:a=k':=by omega
      obtain rfl:b=n':=by omega
      exact absurd h3 (R.gone td y a b hy L3 RV e')
    rw[JN h6];exact rS R hy RV (by exact RV)
   ·have RV:y.gone=false:=by simpa using RV
    obtain⟨e',W1,iA⟩:=R.obj td y a b hy L3 RV;have h6:Qk s.tab a b=some (a,e'):=Yz.2 ⟨b,rfl,rfl,W1⟩;rw[JO h6];exact Ft R L3 W1 hy RV (by exact RV) (iX iA true) s.rem
  ·have h4:UV s i g j=s:=by
    unfold UV;rw[h1]
    have:∀ a b,G7 told (x.kind.getD j 0) (x.to.getD j 0) ≠ .obj a b:=by
     intro a b;unfold G7;rw[if_neg G5];split <;> intro h <;> cases h
    generalize G7 told (x.kind.getD j 0) (x.to.getD j 0)=L at this;cases L with
    | none=>rfl
    | grave=>rfl
    | obj a b=>exact absurd rfl (this a b)
   rw[h4,if_neg G5];exact⟨rfl,rfl,VN,fun h=>absurd h G5,R⟩
def iC:Option (Nat×QT)→Value
 | some (_,x) => .tuple #[.agg #[.int .i64 x.region,.int .i64 x.lay,.int .i64 x.count,.int .i64 x.w.length,.bool x.pinned],.int .i64 0]
 | none => .tuple #[.agg #[.int .i64 0,.int .i64 0,.int .i64 0,.int .i64 0,.bool false],.int .i64 8]
theorem rm {s:CS} {m:MS} {told:List (Nat×Nat)} (R:Xi s m told) {i g o:Int} (V:Vd s m told i g o):TU (V3 s.tab i g)=iC (VH m o):=by
 rcases V with ⟨h1,h2⟩|⟨k,gg,n,e,x,rfl,rfl,rfl,ht,hk,hx,hg,hl,h1,h2⟩
 ·rw[h1,h2];rfl
 ·rw[h1,h2];show Value.tuple #[.agg (gl e).toArray,.int .i64 0]=_;show Value.tuple #[.agg #[.int .i64 e.region,.int .i64 e.lay,.int .i64 e.count,.int .i64 e.ws.length,.bool e.pinned],.int .i64 0]=Value.tuple #[.agg #[.int .i64 x.region,.int .i64 x.lay,.int .i64 x.count,.int .i64 x.w.length,.bool x.pinned],.int .i64 0];rw[hl.region,hl.lay,hl.count,hl.len,hl.pinned]
theorem Cb {s:CS} {m:MS} {told:List (Nat×Nat)} (R:Rel s m told) (id:Int):(QV s.par id).isSome=Yb m.P id:=by
 unfold Yb;cases hf:QV s.par id with
 | some q=>
  obtain⟨k,rfl,h1,h2,h3⟩:=(R.tree id q).1 (KK hf);have h4:=(List.getElem?_eq_some_iff.1 h2).1
  symm
  show decide _=true;rw[decide_eq_true];refine⟨by omega,by omega,?_⟩;rw[Int.toNat_natCast,getD_eq_getElem?_getD,h2];exact h3
 | none=>
  symm
  show decide _=false;rw[decide_eq_false];rintro⟨h1,h2,h3⟩;obtain⟨k,rfl⟩:∃ k:Nat,id=k:=⟨id.toNat,by omega⟩;have hk:k < m.P.length:=by omega
  have h4:=getElem?_eq_getElem hk;rw[Int.toNat_natCast,getD_eq_getElem?_getD,h4] at h3;have h5:=(R.tree k m.P[k]).2 ⟨k,rfl,by omega,h4,h3⟩;rw[(YI R.nd).2 h5] at hf;cases hf
theorem L4 {P:List Int} {k:Nat}:k∈V4 P↔∃ q,P[k]? = some q∧1≤k∧0≤q:=by
 unfold V4;rw[JU];constructor
 ·rintro⟨h1,h2,h3⟩;have h4:=getElem?_eq_getElem h1;rw[getD_eq_getElem?_getD,h4] at h3;exact⟨_,h4,h2,by simpa using h3⟩
 ·rintro⟨q,h1,h2,h3⟩;refine⟨(List.getElem?_eq_some_iff.1 h1).1,h2,?_⟩;rw[getD_eq_getElem?_getD,h1];simpa using h3
theorem TM (P:List Int):(V4 P).Nodup:=(gI P _ _).imp (fun h=>by omega)
theorem Fu {s:CS} {m:MS} {told:List (Nat×Nat)} (R:Xi s m told):s.par.length=(V4 m.P).length:=by
 have h1:((V4 m.P).map fun k:Nat=>(k:Int)).Nodup:=by
  refine List.Pairwise.map _ ?_ (TM m.P);intro a b Xx;omega
 have h2:=U5 R.nd (l₂:=(V4 m.P).map fun k:Nat=>(k:Int)) (by
  intro z hz;obtain⟨⟨r,q⟩,hq,rfl⟩:=mem_map.1 hz;obtain⟨k,rfl,a,b,c⟩:=(R.tree r q).1 hq;exact mem_map.2 ⟨k,L4.2 ⟨q,b,a,c⟩,rfl⟩)
 have h3:=U5 h1 (l₂:=s.par.map (·.1)) (by
  intro z hz;obtain⟨k,hk,rfl⟩:=mem_map.1 hz;obtain⟨q,a,b,c⟩:=L4.1 hk;exact mem_map.2 ⟨((k:Int),q),(R.tree k q).2 ⟨k,rfl,b,a,c⟩,rfl⟩)
 rw[length_map,length_map] at h2 h3;omega
theorem rn {s:CS} {m:MS} {told:List (Nat×Nat)} (R:Rel s m told) (hw:WF s) (parent:Int):Ga s.par parent=Gc m.P parent:=by
 unfold Ga Gc;rw[Cb R,Fu R.w];have:=hw.par.1;rw[Fu R.w] at this;by_cases h:parent≠0∧Yb m.P parent=false
 ·rw[if_pos h,if_pos h]
 ·rw[if_neg h,if_neg h];by_cases h2:(V4 m.P).length=64
  ·rw[if_pos h2,if_pos (by omega)]
  ·rw[if_neg h2,if_neg (by omega)]
theorem TO {s:CS} {m:MS} {told:List (Nat×Nat)} (R:Rel s m told) {parent:Int} (h:Gc m.P parent=0) (b b2:Nat):Rel (Dr s parent b b2) { m with P:=m.P++[parent] } told:=by
 have hp:0≤parent:=by
  unfold Gc at h;split at h
  ·cases h
  ·rename_i hn;by_cases h0:parent=0
   ·omega
   ·have:Yb m.P parent=true:=by
     cases hl:Yb m.P parent with
     | true=>rfl
     | false=>exact absurd ⟨h0,hl⟩ hn
    unfold Yb at this;have:=of_decide_eq_true this;omega
 have hl:=R.last;refine⟨R.len,R.lays,?_,?_,?_,R.obj,R.gone,R.used,R.gens,R.nodup⟩
 ·intro r q;show (r,q)∈s.par++[(((s.last+1:Nat):Int),parent)]↔∃ k:Nat,r=k∧1≤k∧(m.P++[parent])[k]? = some q∧0≤q;rw[mem_append,R.tree r q];constructor
  ·rintro(⟨k,rfl,a,b,c⟩|h)
   ·exact⟨k,rfl,a,by rw[getElem?_append_left (List.getElem?_eq_some_iff.1 b).1];exact b,c⟩
   ·simp only[mem_singleton] at h;injection h with h1 h2
    subst h1 h2;exact⟨s.last+1,rfl,by omega,by rw[hl,getElem?_append_right (Nat.le_refl _),Nat.sub_self];rfl,hp⟩
  ·rintro⟨k,rfl,a,b,c⟩;by_cases hk:k < m.P.length
   ·rw[getElem?_append_left hk] at b;exact .inl ⟨k,rfl,a,b,c⟩
   ·right;have VN:=(List.getElem?_eq_some_iff.1 b).1;simp at VN;obtain rfl:k=m.P.length:=by omega
    rw[getElem?_append_right (Nat.le_refl _),Nat.sub_self] at b;injection b with b
    simp only[mem_singleton];rw[hl,← b]
 ·show ((s.par++[(((s.last+1:Nat):Int),parent)]).map (·.1)).Nodup;rw[map_append];refine nodup_append.2 ⟨R.nd,by simp,?_⟩;intro a ha b hb;simp only[map_cons,map_nil,mem_singleton] at hb;subst hb;obtain⟨⟨r,q⟩,hq,rfl⟩:=mem_map.1 ha;obtain⟨k,h1,_,h2,_⟩:=(R.tree r q).1 hq;have:=(List.getElem?_eq_some_iff.1 h2).1;intro h3;have h4:r=((s.last+1:Nat):Int):=h3;omega
 ·show s.last+1+1=(m.P++[parent]).length;simp;omega
theorem TP {ls:List Qb} {l:Qb} {i:Nat} (h:i - 1 < ls.length):R9 (ls++[l]) i=R9 ls i:=by
 unfold R9;rw[getElem?_append_left h]
theorem ro {ls:List Qb} {told:List (Nat×Nat)} {e:Q8} {x:QT} (h:K7 ls told e x) {l:Qb} (hi:x.lay - 1 < ls.length):K7 (ls++[l]) told e x:=by
 refine⟨h.region,h.lay,h.count,h.held,h.pinned,h.len,?_,?_,?_⟩
 ·rw[TP hi];exact h.ref
 ·rw[TP hi];exact h.word
 ·rw[TP hi];exact h.kind
theorem iD {s:CS} {m:MS} {told:List (Nat×Nat)} (R:Rel s m told) (hm:Vc m) (ws:List Nat):(R5 s ws).2=(U7 m ws).2∧Rel (R5 s ws).1 (U7 m ws).1 told:=by
 cases hd:Gq ws with
 | none=>
  have h1:U7 m ws=(m,0,4):=by unfold U7;rw[hd]
  rw[h1,JP hd];exact⟨rfl,R⟩
 | some l=>
  have h1:U7 m ws=if 64≤m.lays.length then (m,0,5) else ({ m with lays:=m.lays++[l] },m.lays.length+1,0):=by unfold U7;rw[hd]
  rw[h1,Fr hd,R.lays];have:=hm.lays.1;by_cases Y0:m.lays.length=64
  ·rw[if_pos Y0,if_pos (by omega)];exact⟨rfl,R⟩
  ·rw[if_neg Y0,if_neg (by omega)];refine⟨rfl,R.len,rfl,R.tree,R.nd,R.last,?_,R.gone,R.used,R.gens,R.nodup⟩;intro o x k g hx ht hg;obtain⟨e,h1,h2⟩:=R.obj o x k g hx ht hg;have JT:=hm.objs x (mem_of_getElem? hx);obtain⟨l',h3,_⟩:=JT.lay;exact⟨e,h1,ro h2 (List.getElem?_eq_some_iff.1 h3).1⟩
theorem TS {s:CS} {m:MS} {told:List (Nat×Nat)} (R:Rel s m told) (region id count:Int):UY s region id count=(YO m region id count).2∧((YO m region id count).2=0→ZI s id count=(YO m region id count).1):=by
 unfold UY ZI YO BD;rw[Cb R,R.lays];by_cases h1:Yb m.P region=false
 ·rw[if_pos h1,if_pos h1];exact⟨rfl,fun h=>by cases h⟩
 ·rw[if_neg h1,if_neg h1];by_cases h2:id < 1∨(m.lays.length:Int) < id
  ·rw[if_pos h2,if_pos h2];exact⟨rfl,fun h=>by cases h⟩
  ·rw[if_neg h2,if_neg h2];exact⟨rfl,fun _=>rfl⟩
theorem rq {ls:List Qb} {told:List (Nat×Nat)} {e:Q8} {x:QT} (h:K7 ls told e x) {t:Nat×Nat} (hx:∀ p,x.kind[p]? = some 2→x.to.getD p 0 < told.length):K7 ls (told++[t]) e x:=by
 refine⟨h.region,h.lay,h.count,h.held,h.pinned,h.len,?_,h.word,h.kind⟩;intro p hp hr;rw[h.ref p hp hr];unfold G7;by_cases h2:x.kind.getD p 0=2
 ·rw[if_pos h2,if_pos h2]
  have h3:x.kind[p]? = some 2:=by
   rw[getD_eq_getElem?_getD] at h2;cases hk:x.kind[p]? with
   | none=>rw[hk] at h2;cases h2
   | some q=>rw[hk] at h2;exact congrArg some h2
  rw[getElem?_append_left (hx p h3)]
 ·rw[if_neg h2,if_neg h2]
theorem TT (n p:Nat):(List.replicate n 0).getD p 0=0:=by
 rw[getD_eq_getElem?_getD,getElem?_replicate];split <;> rfl
theorem iE {s s':CS} {m:MS} {told:List (Nat×Nat)} (R:Rel s m told) (hm:Vc m) {region id count:Int} (Yr:(YO m region id count).2=0) {k g0 addr:Nat} (hk:s.tab[k]? = some ⟨g0,none⟩)
  (e1:s'.lays=s.lays) (e2:s'.last=s.last) (e3:s'.par=s.par) (e4:s'.tab=s.tab.set k ⟨g0+1,some ⟨addr,region,true,false,id.toNat,count.toNat,List.replicate (ZI s id count) 0⟩⟩) :
  (∀ n:Nat,told[n]? ≠ some (k,g0+1))∧Rel s' (BA m region id count) (told++[(k,g0+1)]):=by
 have VB:=(List.getElem?_eq_some_iff.1 hk).1;have hn:ZI s id count=(YO m region id count).1:=(TS R region id count).2 Yr;have hr:BA m region id count={ m with objs:=m.objs++[X7 region id count (YO m region id count).1] }:=rfl
 have UF:region=(region.toNat:Int):=by
  obtain⟨r,la,c,l,rfl,_⟩:=O3 Yr;rfl
 have L5:∀ n:Nat,told[n]? ≠ some (k,g0+1):=by
  intro n hn;obtain⟨t,h1,h2⟩:=R.gens n k (g0+1) hn;rw[hk] at h1;injection h1 with h1
  subst h1;have h2:g0+1≤g0:=h2;omega
 refine⟨L5,?_⟩;rw[hr]
 have QB:∀ (o k0 g:Nat) (e:Q8),s.tab[k0]? = some ⟨g,some e⟩→k≠k0:=by
  rintro o k0 g e h rfl;rw[hk] at h;injection h with h
  injection h with _ h
  cases h
 refine⟨by show (told++[_]).length=(m.objs++[_]).length;rw[length_append,length_append,R.len];rfl,by rw[e1];exact R.lays,by rw[e3];exact R.tree,by rw[e3];exact R.nd,by rw[e2];exact R.last,?_,?_,?_,?_,?_⟩
 ·intro o x k0 g (hx:(m.objs++[X7 region id count (YO m region id count).1])[o]? = some x) ht hg;by_cases ho:o < m.objs.length
  ·rw[getElem?_append_left ho] at hx;rw[getElem?_append_left (by rw[R.len];exact ho)] at ht;obtain⟨e,h1,h2⟩:=R.obj o x k0 g hx ht hg;refine⟨e,?_,rq h2 (by rw[R.len];exact(hm.objs x (mem_of_getElem? hx)).goes)⟩;rw[e4,getElem?_set_ne (QB o k0 g e h1)];exact h1
  ·have Vi:=(List.getElem?_eq_some_iff.1 hx).1;rw[length_append] at Vi;obtain rfl:o=m.objs.length:=by simp at Vi;omega
   rw[getElem?_append_right (Nat.le_refl _),Nat.sub_self] at hx;rw[← R.len,getElem?_append_right (Nat.le_refl _),Nat.sub_self] at ht;injection hx with hx
   injection ht with ht
   injection ht with h1 h2
   subst hx h1 h2;refine⟨_,by rw[e4,getElem?_set_self VB],?_⟩;rw[hn];refine⟨UF,rfl,rfl,rfl,rfl,rfl,?_,?_,?_⟩
   ·intro p hp _;show Gu ((List.replicate _ 0).getD p 0)=G7 _ ((List.replicate _ 0).getD p 0) ((List.replicate _ 0).getD p 0);rw[TT];rfl
   ·intro p hp _;rfl
   ·intro p hp (hk:(List.replicate _ 0).getD p 0≠0);exact absurd (TT _ p) hk
 ·intro o x k0 g (hx:(m.objs++[X7 region id count (YO m region id count).1])[o]? = some x) ht hg;by_cases ho:o < m.objs.length
  ·rw[getElem?_append_left ho] at hx;rw[getElem?_append_left (by rw[R.len];exact ho)] at ht;intro e h1;rw[e4] at h1
   rcases VE h1 with ⟨rfl,h2,_⟩|⟨_,h2⟩
   ·injection h2 with h2 _
    subst h2;exact L5 o ht
   ·exact R.gone o x k0 g hx ht hg e h2
  ·have Vi:=(List.getElem?_eq_some_iff.1 hx).1;rw[length_append] at Vi;obtain rfl:o=m.objs.length:=by simp at Vi;omega
   rw[getElem?_append_right (Nat.le_refl _),Nat.sub_self] at hx;injection hx with hx
   subst hx;cases hg
 ·intro k0 g e h1;rw[e4] at h1
  rcases VE h1 with ⟨rfl,h2,_⟩|⟨_,h2⟩
  ·injection h2 with h2 _
   subst h2;exact⟨told.length,by rw[getElem?_append_right (Nat.le_refl _),Nat.sub_self];rfl⟩
  ·obtain⟨o,ho⟩:=R.used k0 g e h2;exact⟨o,by rw[getElem?_append_left (List.getElem?_eq_some_iff.1 ho).1];exact ho⟩
 ·intro o k0 g ht;rw[e4];by_cases ho:o < told.length
  ·rw[getElem?_append_left ho] at ht;obtain⟨t,h1,h2⟩:=R.gens o k0 g ht;by_cases Kv:k=k0
   ·subst Kv;rw[hk] at h1;injection h1 with h1
    subst h1;exact⟨_,getElem?_set_self VB,by show g≤g0+1;have h2:g≤g0:=h2;omega⟩
   ·exact⟨t,by rw[getElem?_set_ne Kv];exact h1,h2⟩
  ·have Vi:=(List.getElem?_eq_some_iff.1 ht).1;rw[length_append] at Vi;obtain rfl:o=told.length:=by simp at Vi;omega
   rw[getElem?_append_right (Nat.le_refl _),Nat.sub_self] at ht;injection ht with ht
   injection ht with h1 h2
   subst h1 h2;exact⟨_,getElem?_set_self VB,Nat.le_refl _⟩
 ·refine nodup_append.2 ⟨R.nodup,by simp,?_⟩;intro a ha b hb;simp only[mem_singleton] at hb;subst hb;rintro rfl;obtain⟨n,h⟩:=mem_iff_getElem?.1 ha;exact L5 n h
def Gw (l:List (Nat×Nat)):List Value:=l.flatMap fun t=>[.int .i64 (t.1:Nat),.int .i64 (t.2:Nat)]
theorem Cc (l:List (Nat×Nat)):(Gw l).length=l.length*2:=by
 induction l with
 | nil=>rfl
 | cons p L ih=>simp only[Gw,flatMap_cons,length_append,length_cons,length_nil] at ih ⊢;omega
theorem Ta (a b:List (Nat×Nat)):Gw (a++b)=Gw a++Gw b:=by simp[Gw]
theorem rt {L:List (Nat×Nat)} {i:Nat} {p:Nat×Nat} (h:L[i]? = some p):(Gw L)[i*2]? = some (.int .i64 (p.1:Nat))∧(Gw L)[i*2+1]? = some (.int .i64 (p.2:Nat)):=by
 induction L generalizing i with
 | nil=>simp at h
 | cons x L ih=>
  cases i with
  | zero=>
   simp at h;subst h;exact⟨rfl,rfl⟩
  | succ i=>
   have:=ih (i:=i) (by simpa using h);rw[show (i+1)*2=i*2+2 by omega];exact this
theorem ru {c:List Value} {o n:Nat} {L:List (Nat×Nat)} (h:QY c o n (Gw L)) {i:Nat} {p:Nat×Nat} (hp:L[i]? = some p):QY c (o+i*2) 2 [.int .i64 (p.1:Nat),.int .i64 (p.2:Nat)]:=by
 obtain⟨h1,h2⟩:=rt hp;refine h.part (es:=[.int .i64 (p.1:Nat),.int .i64 (p.2:Nat)]) fun j v hj=>?_
 match j,hj with
 | 0,hj=>rw[← hj];exact h1
 | 1,hj=>rw[← hj];exact h2
theorem AG {L:List (Nat×Nat)} {spare:List Value} {i:Nat} {p:Nat×Nat} (h:L[i]? = some p):QY (Gw L++spare) (0+i*2) 2 [.int .i64 (p.1:Nat),.int .i64 (p.2:Nat)]:=by
 refine ru (L:=L) (n:=(Gw L).length) (QY.of_get fun j v hj=>?_) h;rw[Nat.zero_add,getElem?_append_left (List.getElem?_eq_some_iff.1 hj).1];exact hj
@[reducible] def VD (v:Value) (told:List (Nat×Nat)):Q2:=QE 69 2 v (Gw told)
@[reducible] def YK (p c mo:Nat) (v:Value):Q2:=pts p (row 48 [pp c,pp mo,v])
structure RQ where
 c:Nat
 mo:Nat
 v:Value
def UO (p:Nat) (s:CS) (m:MS) (told:List (Nat×Nat)):Q2:=ex fun q:RQ=>star [YK p q.c q.mo q.v,QD q.c s,V0 q.mo m,VD q.v told]
theorem Dx [Q4] {w:World} {p:Nat} {s:CS} {m:MS} {told:List (Nat×Nat)} {l:List Q2} (H:Q0 w (UO p s m told::l)):∃ (c mo:Nat) (a:Option Addr) (cap:Nat),Q0 w (YK p c mo (.slice a told.length cap)::QD c s::V0 mo m::VD (.slice a told.length cap) told::l):=by
 obtain⟨⟨c,mo,v⟩,H⟩:=Q0.ex.1 H;have H:=Q0.star.1 H;obtain⟨a,cap,rfl⟩:=QI (H.drop.drop.drop) (Cc told) (by decide);exact⟨c,mo,a,cap,H⟩
theorem Z1 [Q4] {w:World} {p c mo:Nat} {v:Value} {s:CS} {m:MS} {told:List (Nat×Nat)} {l:List Q2} (H:Q0 w (YK p c mo v::QD c s::V0 mo m::VD v told::l)):Q0 w (UO p s m told::l):=
 Q0.ex.2 ⟨⟨c,mo,v⟩,Q0.star.2 H⟩
theorem iF [Q4] (p c mo:Nat) (a:Option Addr) (cap:Nat) (told:List (Nat×Nat)) (Qw:told.length≤1000000) (k i g:Int) (raw:Bool) {w:World} {fr:List Q2} (H:Q0 w (YK p c mo (.slice a told.length cap)::VD (.slice a told.length cap) told::fr)) :
  Calls Tryz.prog 160 #[pp p,.int .i64 k,.bool raw,GB i g] w (ret fun v w'=>∃ i' g' o,v = .tuple #[GB i' g',.int .i64 o]∧K8 told i' g' o∧(raw=false→told≠[]→o ≠ -1)∧(raw=true∨told=[]→i'=i∧g'=g)∧Q0 w' (YK p c mo (.slice a told.length cap)::VD (.slice a told.length cap) told::fr)):=by
 refine QQ Tryz.func160 rfl (by kernel_rfl) ?_;refine J8 H ?_;clear H;intro b7 w H;refine VS H ?_;clear H;intro b8 w H;refine Yy H ?_;refine Qt (fun ms σ w=>ms=[]∧(∃ q,σ 21 = .bool q∧(q=true↔raw=false∧told≠[]))∧σ 0=pp p∧σ 1 = .int .i64 k∧σ 7=pp b7∧σ 8=pp b8∧Q0 w (pts b7 (row 69 [.int .i64 i,.int .i64 g])::pts b8 (row 69 [.int .i64 0,.int .i64 0])::YK p c mo (.slice a told.length cap)::VD (.slice a told.length cap) told::fr)) ?_ ?_
 ·cases raw with
  | true=>
   refine Y7 H ?_;refine IK H ?_;refine J0 H ?_;exact⟨rfl,rfl,⟨false,rfl,by simp⟩,rfl,rfl,rfl,rfl,H.swap⟩
  | false=>
   refine Ao H ?_;refine QS rfl rfl rfl (VW rfl rfl ?_);refine QS rfl rfl rfl (QA H rfl rfl rfl ?_);refine QS rfl rfl rfl (Gk rfl rfl ?_);refine VG rfl rfl rfl rfl ?_;refine J0 H ?_;refine⟨rfl,rfl,⟨_,rfl,?_⟩,rfl,rfl,rfl,rfl,H.swap⟩;cases told with
   | nil=>simp
   | cons x l=>
    refine⟨fun _=>⟨rfl,by simp⟩,fun _=>?_⟩;show decide ((((x::l).length:Nat):Int) > 0)=true;exact decide_eq_true (by rw[length_cons];omega)
 clear H;rintro ms σ w ⟨rfl,⟨q,g21,hq⟩,g0,g1,g7,g8,H⟩;rw[Q1 g21,Q1 g0,Q1 g1,Q1 g7,Q1 g8];refine J6 H ?_;refine Qt (fun ms σ w=>ms=[]∧σ 0=pp p∧σ 7=pp b7∧σ 8=pp b8∧∃ i' g':Int,(raw=false→told≠[]→∃ n x y:Nat,told[n]? = some (x,y)∧i'=x∧g'=y)∧(raw=true∨told=[]→i'=i∧g'=g)∧Q0 w (pts b7 (row 69 [.int .i64 i',.int .i64 g'])::pts b8 (row 69 [.int .i64 0,.int .i64 0])::YK p c mo (.slice a told.length cap)::VD (.slice a told.length cap) told::fr)) ?_ ?_
 ·cases q with
  | true=>
   obtain⟨JV,OG⟩:=hq.1 rfl;refine Vr H ?_;refine J1 H ?_;clear H;intro w H;refine YN H ?_;refine Jl 3 [16] H ?_;refine Ja 4 ?_;refine KA 5 rfl (Q9.none rfl) rfl (by kernel_rfl) ?_;refine FU H ?_;refine Jl 9 [16] H ?_;refine Aa 10 rfl (Q9.none rfl) rfl (by kernel_rfl) ?_;refine KA 11 rfl (Q9.none rfl) rfl (by kernel_rfl) ?_
   obtain⟨K,hK⟩:∃ K:Nat,IntKind.u64.wrap k=K:=⟨(IntKind.u64.wrap k).toNat,by
    have:0≤IntKind.u64.wrap k:=Int.emod_nonneg _ (by decide);omega⟩
   have L6:0 < told.length:=length_pos_iff.2 OG;have e1:IntKind.u64.wrap (told.length:Int)=(told.length:Int):=Int.emod_eq_of_lt (by omega) (by show (told.length:Int) < 18446744073709551616;omega);rw[hK,e1];have DY:=Nat.mod_lt K L6
   refine XW (v := .int .u64 ((K % told.length:Nat):Int)) 12 rfl (Q9.none rfl) (by
    show (if IntKind.u64=IntKind.u64 then (if (told.length:Int)=0 then none else some (Value.int IntKind.u64 (Int.tmod (K:Int) (told.length:Int)))) else none)=_;rw[if_pos rfl,if_neg (by omega),Int.tmod_eq_emod_of_nonneg (by omega),Int.natCast_emod]) (by kernel_rfl) ?_
   refine KA 13 rfl (Q9.none rfl) rfl (by kernel_rfl) ?_;rw[Qg (x:=((K % told.length:Nat):Int)) (by omega) (by omega)];generalize K % told.length=n at DY;have hn:=getElem?_eq_getElem DY;generalize told[n]=xy at hn;obtain⟨x,y⟩:=xy;replace H:=Js [3,0,0,0] 0 H;obtain⟨bT,sT,rfl,H,QM⟩:=VX H L6;refine Ji 14 ?_;refine Vw 15 [16] H rfl (Q9.none rfl) rfl (AG hn) (by kernel_rfl) ?_;refine Jo 16 H ?_;refine KD H ?_;clear H;intro w H;replace H:=QM _ _ H;refine Jx H ?_;replace H:=Js [1,1,1,0] 0 H;exact⟨rfl,rfl,rfl,rfl,rfl,x,y,fun _ _=>⟨n,x,y,hn,rfl,rfl⟩,fun h=>absurd h (by rintro(h|h);exact absurd (JV.symm.trans h) (by decide);exact OG h),H⟩
  | false=>
   refine Vf H ?_;refine⟨rfl,rfl,rfl,rfl,rfl,i,g,?_,fun _=>⟨rfl,rfl⟩,H⟩;intro h1 h2;exact absurd (hq.2 ⟨h1,h2⟩) (by decide)
 clear H;rintro ms σ w ⟨rfl,g0,g7,g8,i',g',V9,YW,H⟩;rw[Q1 g0,Q1 g7,Q1 g8];refine G1 H ?_;refine Ax H ?_;refine Qq (fun ms σ w q=>ms=[]∧∃ j:Nat,j≤told.length∧q=told.length - j∧(∀ (n x y:Nat),n < j→told[n]? = some (x,y)→¬(i'=x∧g'=y))∧σ 7=pp b7∧σ 8=pp b8∧σ 41 = .slice a told.length cap∧σ 42 = .int .i64 told.length∧σ 43 = .int .i64 j∧Q0 w (VD (.slice a told.length cap) told::pts b7 (row 69 [.int .i64 i',.int .i64 g'])::pts b8 (row 69 [.int .i64 0,.int .i64 0])::YK p c mo (.slice a told.length cap)::fr)) (m:=told.length) ⟨rfl,0,by omega,rfl,by omega,rfl,rfl,rfl,rfl,rfl,H.sel [3,0,0,0] 0⟩ ?_;clear H;rintro ms σ w q ⟨rfl,j,hj,rfl,VZ,g7,g8,g41,g42,g43,H⟩;rw[Q1 g7,Q1 g8,Q1 g41,Q1 g42,Q1 g43];refine J7 H ?_;refine Qm rfl (fun h=>QF ?_) (fun h=>Qv ?_)
 ·have Q6:j < told.length:=by omega
  have hn:=getElem?_eq_getElem Q6;generalize told[j]=xy at hn;obtain⟨x,y⟩:=xy;obtain⟨bT,sT,rfl,H,QM⟩:=VX H (by omega);refine Ek H ?_;refine Jd ?_;refine Q5 rfl (Vz H rfl (AG hn) rfl ?_);refine VS H ?_;clear H;intro b11 w H;refine Hy H ?_;clear H;intro w H;refine NG H ?_;refine J2 H ?_;replace H:=H.drop;refine Qm (p:=((x:Int),(y:Int))=(i',g')) rfl (fun he=>?_) (fun he=>QF ?_)
  ·injection he with h1 h2
   subst h1 h2;refine Aw H ?_;clear H;intro w H;refine J0 H ?_;replace H:=QM _ _ H;replace H:=Js [2,2,0] 1 H;refine Q3 (Jz H (fun w' H' => .cellN H' rfl (by repeat first|exact .nil _|apply QY.cons rfl) (.tmp .nil)) fun w' H'=>⟨x,y,j,rfl,.inl ⟨x,y,j,rfl,rfl,rfl,hn⟩,fun _ _=>by omega,YW,H'.drop⟩)
  ·replace H:=QM _ _ H;refine J3 H ?_;refine⟨_,⟨rfl,j+1,Q6,rfl,?_,rfl,rfl,rfl,rfl,Qh (by omega),H⟩,by omega⟩;intro n x' y' hnj Fv hc;by_cases hnj':n=j
   ·subst hnj';rw[hn] at Fv;injection Fv with Fv
    injection Fv with h1 h2
    subst h1 h2;exact he (by rw[hc.1,hc.2])
   ·exact VZ n x' y' (by omega) Fv hc
 ·have V2:j=told.length:=by omega
  subst V2;refine Ak H ?_;clear H;intro w H;refine J0 H ?_;replace H:=Js [2,2,0] 1 H;refine Q3 (Jz H (fun w' H' => .cellN H' rfl (by repeat first|exact .nil _|apply QY.cons rfl) (.tmp .nil)) fun w' H'=>⟨i',g',-1,rfl,.inr ⟨rfl,?_⟩,?_,YW,H'.drop⟩)
  ·intro x y n h1 h2 hn;exact VZ n x y (List.getElem?_eq_some_iff.1 hn).1 hn ⟨h1,h2⟩
  ·intro h1 h2 _;obtain⟨n,x,y,hn,h3,h4⟩:=V9 h1 h2;exact VZ n x y (List.getElem?_eq_some_iff.1 hn).1 hn ⟨h3,h4⟩
theorem Tb (a b c:Int):veq [.int .i64 a,.int .i64 b,.int .i64 c] [.int .i64 a,.int .i64 b,.int .i64 c]=true:=by
 simp[veq]
theorem L7 (xs ys:List Value):(if ZC BinOp.eql=true then veq xs ys else !veq xs ys)=veq xs ys:=if_pos rfl
theorem Tc [Q4] (p c mo:Nat) (a:Option Addr) (cap:Nat) (told:List (Nat×Nat)) (kd t:Nat) (G5:kd≤2) (ht:kd=2→t < told.length) {w:World} {fr:List Q2} (H:Q0 w (YK p c mo (.slice a told.length cap)::VD (.slice a told.length cap) told::fr)) :
  Calls Tryz.prog 40 #[pp p,GN (G7 told kd t),.int .i64 kd,.int .i64 t] w (ret fun v w'=>v = .bool true∧Q0 w' (YK p c mo (.slice a told.length cap)::VD (.slice a told.length cap) told::fr)):=by
 by_cases h2:kd=2
 ·subst h2;have Q6:=ht rfl;have hn:=getElem?_eq_getElem Q6;generalize told[t]=xy at hn;obtain⟨x,y⟩:=xy;have Dw:G7 told 2 t = .obj x y:=by unfold G7;rw[if_pos rfl,hn];rfl
  rw[Dw];refine QQ Tryz.func40 rfl (by kernel_rfl) ?_;refine J8 H ?_;clear H;intro b5 w H;refine ZX H ?_;refine Vr H ?_;replace H:=Js [2,0,0] 0 H;obtain⟨bT,sT,rfl,H,QM⟩:=VX H (by omega);refine J1 H ?_;clear H;intro w H;refine C0 H ?_;refine Jl 4 [] H ?_;refine Aa 5 rfl (Q9.none rfl) rfl (by kernel_rfl) ?_;refine Ja 6 ?_;rw[show decide ((t:Int) < (told.length:Int))=true from decide_eq_true (by omega)];refine Ja 7 ?_;refine Vw 8 [] H rfl (Q9.of rfl rfl rfl) rfl (by repeat first|exact .nil _|apply QY.cons rfl) (by kernel_rfl) ?_;refine I6 H ?_;refine Jl 12 [] H ?_;refine Ja 13 ?_;refine Ji 14 ?_;refine Vw 15 [] H rfl (Q9.of rfl rfl rfl) rfl (AG hn) (by kernel_rfl) ?_;refine Uc 16 rfl (Q9.of rfl rfl rfl) rfl (by kernel_rfl) ?_;refine eJ 17 rfl (Q9.of rfl rfl rfl) rfl rfl rfl rfl (.inl rfl) (by kernel_rfl) ?_;rw[L7,Tb];refine Ja 18 ?_;refine Ja 19 ?_;refine Jx H ?_;replace H:=QM _ _ H;replace H:=Js [2,0] 1 H;exact Q3 (Jy H rfl fun w' H'=>⟨rfl,H'⟩)
 ·have Dw:GN (G7 told kd t) = .agg #[.int .i64 kd,.int .i64 0,.int .i64 0]:=by
   unfold G7;rw[if_neg h2];by_cases h1:kd=1
   ·subst h1;rfl
   ·obtain rfl:kd=0:=by omega
    rfl
  rw[Dw];refine QQ Tryz.func40 rfl (by kernel_rfl) ?_;refine J8 H ?_;clear H;intro b5 w H;refine ZX H ?_;rw[show ((kd:Int) == 2)=false by simp;omega];refine Vf H ?_;refine Ey H ?_;refine W3 H ?_;refine Q5 rfl (Hr rfl rfl rfl rfl (.inl rfl) rfl ?_);refine J0 H ?_;have hv:=Tb kd 0 0;exact Q3 (Jy H.drop rfl fun w' H'=>⟨congrArg Value.bool ((L7 _ _).trans hv),H'⟩)
def rv (own:List Nat) (n:Nat):Prop:=∃ a,a+n≤own.length∧∀ i,a≤i→i < a+n→own.getD i 0=0
theorem iH [Q4] (p c mo:Nat) (v:Value) (s:CS) {w:World} {fr:List Q2} (H:Q0 w (YK p c mo v::QD c s::fr)) :
  Calls Tryz.prog 230 #[pp p] w (ret fun x w'=>∃ b:Nat,x = .int .i64 b∧rv s.own b∧Q0 w' (YK p c mo v::QD c s::fr)):=by
 obtain⟨q,mem,hw,hm,H⟩:=Y9 H.swap;have Vi:=hw.own.2;refine QQ Tryz.func230 rfl (by kernel_rfl) ?_;refine Vl H ?_;refine J3 H ?_;replace H:=Js [3,0,0,0,0,0,0,0,0,0,0,0] 0 H;refine Ib H ?_;refine Jc rfl rfl (SI q.sp s.size mem s.own H) ?_;clear H;rintro v w ⟨rfl,H⟩;refine Yy H ?_;refine Qe ?_
 refine Qq (fun ms σ w n=>ms=[]∧∃ j row best:Nat,j≤s.own.length∧n=s.own.length - j∧row≤j∧best≤j∧(∀ i,j - row≤i→i < j→s.own.getD i 0=0)∧(∃ a,a+best≤j∧∀ i,a≤i→i < a+best→s.own.getD i 0=0)∧σ 0=pp p∧σ 3 = .int .i64 best∧σ 4 = .int .i64 row∧σ 13 = .int .i64 s.own.length∧σ 14 = .int .i64 j ∧
  Q0 w (ST q.sp s.size mem s.own::VY c q::V6 q.ip q.sp q.bp::Qp q.bp s.lays::Qr q.tp s.tab::Qo q.trp s.last s.par::RS q.rp s.rem::mp (ki .i64) Qz q.sm (s.sps.map Vt)::star (s.sps.map (Vx q.sp))::mp (ki .i64) Qz q.mm (s.mns.map VU)::star (s.mns.map VV)::YK p c mo v::fr)) (m:=s.own.length) ⟨rfl,0,0,0,by omega,rfl,by omega,by omega,by omega,⟨0,by omega,by omega⟩,rfl,rfl,rfl,rfl,rfl,H⟩ ?_
 clear H;rintro ms σ w n ⟨rfl,j,row,best,hj,rfl,hrj,hbj,iI,Td,g0,g3,g4,g13,g14,H⟩;rw[Q1 g0,Q1 g3,Q1 g4,Q1 g13,Q1 g14];refine J7 H ?_;refine Qm rfl (fun h=>QF ?_) (fun h=>Qv ?_)
 ·have Q6:j < s.own.length:=by omega
  refine F8 H ?_;refine Vj H ?_;rw[Qh (by omega)];refine Ic H ?_;refine Jc rfl rfl (SJ q.sp s.size mem s.own j H Q6) ?_;clear H;rintro v w ⟨rfl,H⟩;refine J0 H ?_;by_cases h0:s.own.getD j 0=0
  ·rw[show (((s.own.getD j 0:Nat):Int) != 0)=false by rw[h0];rfl];refine F0 H ?_;refine Er H ?_;rw[show (if ((row+1:Nat):Int) > ((best:Nat):Int) then ((row+1:Nat):Int) else ((best:Nat):Int))=((max best (row+1):Nat):Int) by split <;> omega];refine ZX H ?_;rw[Qh (by omega)];refine⟨_,⟨rfl,j+1,row+1,max best (row+1),Q6,rfl,by omega,by omega,?_,?_,rfl,rfl,rfl,rfl,rfl,H⟩,by omega⟩
   ·intro i h1 h2;by_cases ZA:i=j
    ·rw[ZA];exact h0
    ·exact iI i (by omega) (by omega)
   ·by_cases hb:row+1≤best
    ·obtain⟨a,h1,h2⟩:=Td;rw[Nat.max_eq_left hb];exact⟨a,by omega,h2⟩
    ·rw[Nat.max_eq_right (by omega)];refine⟨j - row,by omega,fun i h1 h2=>?_⟩;by_cases ZA:i=j
     ·rw[ZA];exact h0
     ·exact iI i (by omega) (by omega)
  ·rw[show (((s.own.getD j 0:Nat):Int) != 0)=true by rw[bne_iff_ne];omega];refine ZD H ?_;refine J9 H ?_;refine Er H ?_;rw[show (if (0:Int) > ((best:Nat):Int) then (0:Int) else ((best:Nat):Int))=((best:Nat):Int) by split <;> omega];refine ZX H ?_;rw[Qh (by omega)];obtain⟨a,h1,h2⟩:=Td;exact⟨_,⟨rfl,j+1,0,best,Q6,rfl,by omega,by omega,by omega,⟨a,by omega,h2⟩,rfl,rfl,rfl,rfl,rfl,H⟩,by omega⟩
 ·obtain⟨a,h1,h2⟩:=Td;refine J3 H ?_;replace H:=Js [1,1,1,0,0,0,0,0,0,0,0,0] 0 H;exact Q3 (Jy ((VJ hw hm H).swap) rfl fun w' H'=>⟨best,rfl,⟨a,by omega,h2⟩,H'⟩)
theorem iJ (a b c d:Int) (e:Bool):veq [.int .i64 a,.int .i64 b,.int .i64 c,.int .i64 d,.bool e] [.int .i64 a,.int .i64 b,.int .i64 c,.int .i64 d,.bool e]=true:=by
 simp[veq]
theorem iL [Q4] (p c mo:Nat) (v:Value) (s:CS) (m:MS) (told:List (Nat×Nat)) (R:Xi s m told) (i g o:Int) (P:Vd s m told i g o) {w:World} {fr:List Q2} (H:Q0 w (YK p c mo v::QD c s::V0 mo m::fr)) :
  Calls Tryz.prog 37 #[pp p,GB i g,.int .i64 o] w (ret fun x w'=>x = .bool true∧Q0 w' (YK p c mo v::QD c s::V0 mo m::fr)):=by
 have hT:=fun (w:World) (fr:List Q2) (H:Q0 w (QD c s::fr))=>rQ c s i g H;rw[rm R P] at hT
 obtain⟨a1,a2,a3,a4,a5,a6,Y1⟩:∃ a1 a2 a3 a4 a5 a6,iC (VH m o) = .tuple #[.agg #[.int .i64 a1,.int .i64 a2,.int .i64 a3,.int .i64 a4,.bool a5],.int .i64 a6]:=by
  cases VH m o <;> exact⟨_,_,_,_,_,_,rfl⟩
 refine QQ Tryz.func37 rfl (by kernel_rfl) ?_;refine J8 H ?_;clear H;intro b4 w H;refine J0 H ?_;replace H:=Js [2,0,0,0] 0 H;refine J6 H ?_;refine Qt (fun ms σ w=>ms=[]∧∃ b7,σ 0=pp p∧σ 2 = .int .i64 o∧σ 7=pp b7∧σ 8 = .int .i64 a6∧Q0 w (pts b7 (row 71 [.int .i64 a1,.int .i64 a2,.int .i64 a3,.int .i64 a4,.bool a5])::YK p c mo v::QD c s::V0 mo m::fr)) ?_ ?_
 ·refine J1 H ?_;clear H;intro w H;refine C6 H ?_;refine Jw 5 9 H rfl rfl (V1 (a:=[]) (b:=[]) rfl rfl (call (hT _ _ H) ?_)) (YH H rfl ?_)
  ·clear H;rintro v w ⟨rfl,H⟩;rw[Y1];refine C7 H ?_;clear H;intro b7 w H;refine C8 H ?_;clear H;intro w H;refine XI H ?_;replace H:=Js [0,2,0,1] 1 H;exact⟨rfl,rfl,b7,rfl,rfl,rfl,rfl,H⟩
  ·clear H;intro b7 w H;refine Jo 5 H ?_;refine Jk rfl rfl (hT _ _ H.swap) ?_;clear H;rintro v w ⟨rfl,H⟩;rw[Y1];refine C9 H ?_;clear H;intro w H;refine XI H ?_;replace H:=Js [1,2,0,1] 1 H;exact⟨rfl,rfl,b7,rfl,rfl,rfl,rfl,H⟩
 clear H;rintro ms σ w ⟨rfl,b7,g0,g2,g7,g8,H⟩;rw[Q1 g0,Q1 g2,Q1 g7,Q1 g8];replace H:=Js [3,0,0,0] 0 H;refine VM H ?_;refine Jc rfl rfl (Dk mo m o H) ?_;clear H;rintro v w ⟨rfl,H⟩
 cases hv:VH m o with
 | none=>
  rw[hv] at Y1;cases Y1;refine WQ H ?_;refine Y7 H ?_;refine Ie H ?_;refine QS rfl rfl rfl (Hr rfl rfl rfl rfl (.inl rfl) rfl ?_);refine J4 H ?_;replace H:=Js [2,2,0] 1 H;exact Q3 (Jy H rfl fun w' H'=>⟨congrArg Value.bool ((L7 _ _).trans (iJ 0 0 0 0 false)),H'⟩)
 | some nx=>
  obtain⟨n,x⟩:=nx;rw[hv] at Y1;cases Y1;obtain⟨rfl,hx,hh,hg⟩:=WD hv;have Vi:=(List.getElem?_eq_some_iff.1 hx).1;obtain⟨t,lc,aL,cL,bO,cO,sO,ptrs,q,vw,vk,vt,rest,hm,h2,hp,H,QK⟩:=X5 H hx;have V7:=BK hx hm;obtain⟨aw,cw,rfl⟩:=QI H.drop (GY _) (by decide);refine YS H ?_;refine Ic H ?_;refine Jd ?_;refine Q5 rfl (QA H rfl hp rfl ?_);refine Yy H ?_;refine Ae H mixed ?_;clear H;intro w H;refine Ja 0 ?_;refine Ja 1 ?_;refine Ja 2 ?_;refine Vw 3 [] H rfl (Q9.of rfl rfl rfl) rfl (by repeat first|exact .nil _|apply QY.cons rfl) (by kernel_rfl) ?_;refine Mw H ?_;refine FE H ?_;refine Jl 11 [] H ?_;refine Ww H ?_;refine Jf 14 ?_;refine Jl 15 [] H ?_;refine Ja 16 ?_;refine Ja 17 ?_;refine Jf 18 ?_;refine Jl 19 [] H ?_;refine Aa 20 rfl (Q9.of rfl rfl rfl) rfl (by kernel_rfl) ?_;refine Ja 21 ?_;refine Ja 22 ?_;refine Jf 23 ?_;refine Jl 24 [] H ?_;refine Uc 25 rfl (Q9.of rfl rfl rfl) rfl (by kernel_rfl) ?_;refine eJ 26 rfl (Q9.of rfl rfl rfl) rfl rfl rfl rfl (.inl rfl) (by kernel_rfl) ?_;rw[L7,iJ];refine Ja 27 ?_;refine Ja 28 ?_;refine Jx H ?_;replace H:=K2 hx (QK _ _ _ V7 H);replace H:=Js [2,2,0] 1 H;exact Q3 (Jy H rfl fun w' H'=>⟨rfl,H'⟩)
theorem Te:∀ {a b:List Nat},a.Pairwise (· < ·)→b.Pairwise (· < ·)→(∀ x,x∈a↔x∈b)→a=b
 | [],[],_,_,_=>rfl
 | [],y::b,_,_,h=>by have:=(h y).2 (by simp);cases this
 | x::a,[],_,_,h=>by have:=(h x).1 (by simp);cases this
 | x::a,y::b,ha,hb,h=>by
  rw[pairwise_cons] at ha hb
  have Yv:x=y:=by
   have h1:=(h x).1 (by simp);have h2:=(h y).2 (by simp);rw[mem_cons] at h1 h2
   rcases h1 with h1|h1
   ·exact h1
   ·rcases h2 with h2|h2
    ·exact h2.symm
    ·have:=hb.1 x h1;have:=ha.1 y h2;omega
  subst Yv;congr 1;refine Te ha.2 hb.2 fun z=>?_;have hz:=h z;rw[mem_cons,mem_cons] at hz;constructor
  ·intro h1;have:=ha.1 z h1
   rcases hz.1 (.inr h1) with h2|h2
   ·omega
   ·exact h2
  ·intro h1;have:=hb.1 z h1
   rcases hz.2 (.inr h1) with h2|h2
   ·omega
   ·exact h2
def AU (l:Qb) (i:Nat):List Nat:=l.recs.map (l.fixed+i*l.record+·)
def Gd (l:Qb) (c:Nat):List Nat:=l.refs++(List.range c).flatMap (AU l)
theorem iM {l:List Nat} {n:Nat} (h:Rh l n):l=(List.range n).filter (fun p=>decide (p∈l)):=by
 refine Te h.2 (List.Pairwise.filter _ pairwise_lt_range) fun x=>?_;rw[mem_filter,mem_range,decide_eq_true_eq];exact⟨fun hx=>⟨h.1 x hx,hx⟩,fun hx=>hx.2⟩
theorem iN {l:Qb} (hR:YU l):∀ c:Nat,(c > 0→l.record≠0)→Gd l c=(List.range (l.fixed+c*l.record)).filter (Va l)
 | 0,_=>by
  unfold Gd;rw[Nat.zero_mul,Nat.add_zero,range_zero,flatMap_nil,append_nil];refine(iM hR.2.2.2.1).trans (filter_congr fun x hx=>?_);unfold Va;rw[if_pos (mem_range.1 hx)]
 | c+1,h=>by
  have ih:=iN hR c (fun _=>h (by omega));have hr:0 < l.record:=Nat.pos_of_ne_zero (h (by omega))
  have e:Gd l (c+1)=Gd l c++AU l c:=by
   unfold Gd;rw[range_succ,flatMap_append,append_assoc];simp
  have e3:List.range ((l.fixed+c*l.record)+l.record)=List.range (l.fixed+c*l.record)++(List.range l.record).map (l.fixed+c*l.record+·):=range_add;rw[e,ih,show l.fixed+(c+1)*l.record=(l.fixed+c*l.record)+l.record by rw[Nat.succ_mul];omega,e3,filter_append];congr 1;rw[filter_map];unfold AU;congr 1;refine(iM hR.2.2.2.2).trans (filter_congr fun x hx=>?_);have hx:=mem_range.1 hx;show _=Va l (l.fixed+c*l.record+x);unfold Va;rw[if_neg (by omega),show l.fixed+c*l.record+x - l.fixed=x+l.record*c by rw[Nat.mul_comm];omega,Nat.add_mul_mod_self_left,Nat.mod_eq_of_lt hx]
theorem rz [Q4] (vr vq:Value) (l:Qb) (c:Nat) (h1:vr.oneCell'=true) (h2:vq.oneCell'=true) {w:World} {fr:List Q2} (H:Q0 w fr) :
  Calls Tryz.prog 187 #[GU l.fixed vr l.record vq,.int .i64 c] w (ret fun v w'=>∃ b1 b2,v = .func (.func 238) #[] #[pp b1,pp b2]∧Q0 w' (pts b1 (row 102 [.int .i64 l.fixed,vr,.int .i64 l.record,vq])::pts b2 (row 3 [.int .i64 c])::fr)):=by
 refine QQ Tryz.func187 rfl (by kernel_rfl) ?_;refine J8 H ?_;clear H;intro b2 w H;refine Az H ?_;clear H;intro b3 w H;refine ZX H ?_;exact Q3 (Jy H.swap rfl fun w' H'=>⟨b2,b3,rfl,H'⟩)
theorem s9 [Q4] (yl b1 b2:Nat) (vr vq:Value) (l:Qb) (hR:YU l) (c:Nat) {n:Nat} (hz:Vg l c=(n,0)) (J:List Nat→Q2)
  (hy:∀ (ks:List Nat) (p:Nat) (rest:List Q2) (w:World),(∃ t,(List.range n).filter (Va l)=ks++p::t)→Q0 w (J ks::rest)→SL.Yields Tryz.prog yl #[.int .i64 p] w (fun v w'=>v = .bool true∧Q0 w' (J (ks++[p])::rest)))
  {w:World} {fr:List Q2} (H:Q0 w (J []::pts b1 (row 102 [.int .i64 l.fixed,vr,.int .i64 l.record,vq])::pts b2 (row 3 [.int .i64 c])::NL vr l.refs::NL vq l.recs::fr)) :
  Calls Tryz.prog 238 #[.func (.yield yl) #[] #[],pp b1,pp b2] w (ret fun _ w'=>Q0 w' (J ((List.range n).filter (Va l))::pts b1 (row 102 [.int .i64 l.fixed,vr,.int .i64 l.record,vq])::pts b2 (row 3 [.int .i64 c])::NL vr l.refs::NL vq l.recs::fr)):=by
 obtain⟨z1,z2,z3,z4,z5⟩:=Sa hz;have ZG:=iN hR c (by omega);rw[Int.toNat_natCast] at z3;rw[← z3] at ZG;rw[← ZG] at hy ⊢;have hfx:=hR.1;have hrc:=hR.2.1;have Z0:=Rh.len hR.2.2.2.1;have Y5:=Rh.len hR.2.2.2.2;obtain⟨ar,cr,rfl⟩:=QI (H.sel [3,0,0,0] 0) (QJ _) (by decide);obtain⟨aq,cq,rfl⟩:=QI (H.sel [4,0,0,0,0] 0) (QJ _) (by decide);refine QQ Tryz.func238 rfl (by kernel_rfl) ?_;refine XD H ?_;refine W4 H ?_;replace H:=Js [3,3,0,0,0] 0 H;obtain⟨D1,H,Y2,Vo⟩:=sls_rd H (QJ _) (by decide);obtain⟨D2,H,Zj,ZR⟩:=sls_rd H.swap (QJ _) (by decide);refine Jc rfl rfl (Iq _ _ l hR c ⟨(Y2 _).there,Zj _⟩ H) ?_;clear H;rintro v w ⟨rfl,H⟩;rw[hz];replace H:=Vo _ _ (ZR _ _ H).swap;refine UA H ?_;replace H:=Js [0,0,0,0,0] 0 H;refine Ew H ?_;refine F9 H ?_;refine Qt (fun ms σ w=>ms=[]∧σ 0 = .func (.yield yl) #[] #[]∧σ 1=pp b1∧σ 4 = .int .i64 n∧Q0 w (NL (.slice ar l.refs.length cr) l.refs::NL (.slice aq l.recs.length cq) l.recs::J l.refs::pts b1 (row 102 [.int .i64 l.fixed,.slice ar l.refs.length cr,.int .i64 l.record,.slice aq l.recs.length cq])::pts b2 (row 3 [.int .i64 c])::fr)) ?_ ?_
 ·refine Qe ?_;refine Qq (fun ms σ w z=>ms=[]∧∃ i:Nat,i≤l.refs.length∧z=l.refs.length - i∧σ 0 = .func (.yield yl) #[] #[]∧σ 1=pp b1∧σ 4 = .int .i64 n∧σ 20 = .slice ar l.refs.length cr∧σ 21 = .int .i64 l.refs.length∧σ 22 = .int .i64 i∧Q0 w (NL (.slice ar l.refs.length cr) l.refs::NL (.slice aq l.recs.length cq) l.recs::J (l.refs.take i)::pts b1 (row 102 [.int .i64 l.fixed,.slice ar l.refs.length cr,.int .i64 l.record,.slice aq l.recs.length cq])::pts b2 (row 3 [.int .i64 c])::fr)) (m:=l.refs.length) ⟨rfl,0,by omega,rfl,rfl,rfl,rfl,rfl,rfl,rfl,H⟩ ?_;clear H;rintro ms σ w z ⟨rfl,i,hi,rfl,g0,g1,g4,g20,g21,g22,H⟩;rw[Q1 g0,Q1 g1,Q1 g4,Q1 g20,Q1 g21,Q1 g22];refine J7 H ?_;refine Qm rfl (fun h=>QF ?_) (fun h=>Qv ?_)
  ·have Q6:i < l.refs.length:=by omega
   have hn:=getElem?_eq_getElem Q6;have Qj:l.refs.take (i+1)=l.refs.take i++[l.refs[i]]:=by rw[take_add_one,hn];rfl
   have G0:l.refs=l.refs.take i++l.refs[i]::l.refs.drop (i+1):=split_at hn;generalize l.refs[i]=p at hn Qj G0;obtain⟨bT,sT,rfl,H,QM⟩:=VX H (by omega);refine Z7 H ?_;refine Jd ?_;refine Q5 rfl (QA H rfl (U4 hn) rfl ?_);refine J0 H ?_;replace H:=QM _ _ H;replace H:=Js [2,0,0,0,0] 0 H;refine J9 H ?_;refine Q5 rfl (Bk rfl rfl (SL.Yields.mono (hy (l.refs.take i) p _ _ ⟨l.refs.drop (i+1)++(List.range c).flatMap (AU l),by unfold Gd;rw[show l.refs.take i++p::(l.refs.drop (i+1)++(List.range c).flatMap (AU l))=(l.refs.take i++p::l.refs.drop (i+1))++(List.range c).flatMap (AU l) by simp,← G0]⟩ H) ?_));clear H;rintro v w ⟨rfl,H⟩;refine YS H ?_;replace H:=Js [1,1,0,0,0] 0 H;refine J3 H ?_;rw[← Qj] at H;exact⟨_,⟨rfl,i+1,Q6,rfl,rfl,rfl,rfl,rfl,rfl,Qh (by omega),H⟩,by omega⟩
  ·have V2:i=l.refs.length:=by omega
   subst V2;rw[take_length] at H;exact⟨rfl,rfl,rfl,rfl,rfl,H⟩
 clear H;rintro ms σ w ⟨rfl,g0,g1,g4,H⟩;rw[Q1 g0,Q1 g1,Q1 g4];refine Ew H ?_;refine Yy H ?_;refine Qt (fun ms σ w=>ms=[]∧Q0 w (NL (.slice ar l.refs.length cr) l.refs::NL (.slice aq l.recs.length cq) l.recs::J (Gd l c)::pts b1 (row 102 [.int .i64 l.fixed,.slice ar l.refs.length cr,.int .i64 l.record,.slice aq l.recs.length cq])::pts b2 (row 3 [.int .i64 c])::fr)) ?_ ?_
 ·refine Qe ?_;refine Qq (fun ms σ w z=>ms=[]∧∃ i A:Nat,i≤c∧A=l.fixed+i*l.record∧z=c - i∧σ 0 = .func (.yield yl) #[] #[]∧σ 1=pp b1∧σ 4 = .int .i64 n∧σ 8 = .int .i64 A∧Q0 w (NL (.slice ar l.refs.length cr) l.refs::NL (.slice aq l.recs.length cq) l.recs::J (Gd l i)::pts b1 (row 102 [.int .i64 l.fixed,.slice ar l.refs.length cr,.int .i64 l.record,.slice aq l.recs.length cq])::pts b2 (row 3 [.int .i64 c])::fr)) (m:=c) ⟨rfl,0,l.fixed,by omega,by omega,rfl,rfl,rfl,rfl,rfl,by unfold Gd;rw[range_zero,flatMap_nil,append_nil];exact H⟩ ?_;clear H;rintro ms σ w z ⟨rfl,i,A,hi,hA,rfl,g0,g1,g4,g8,H⟩;rw[Q1 g0,Q1 g1,Q1 g4,Q1 g8];refine IU H ?_;refine Qm rfl (fun h=>QF ?_) (fun h=>Qv ?_)
  ·have AX:i < c:=by
    refine Nat.lt_of_not_le fun VO=>?_;have:=Nat.mul_le_mul_right l.record VO;omega
   have hb:A+l.record≤n:=by
    have:=Nat.mul_le_mul_right l.record (Nat.succ_le_of_lt AX);rw[Nat.succ_mul] at this;omega
   have hAl:A < 8192:=by omega
   have iO:Gd l (i+1)=Gd l i++AU l i:=by
    unfold Gd;rw[range_succ,flatMap_append,append_assoc];simp
   have Yc:∃ t,Gd l c=Gd l i++AU l i++t:=by
    rw[← iO];unfold Gd;refine⟨((List.range (c - (i+1))).map (i+1+·)).flatMap (AU l),?_⟩;rw[append_assoc,← flatMap_append,← range_add,show i+1+(c - (i+1))=c by omega]
   obtain⟨tl,Yc⟩:=Yc;refine J6 H ?_;refine Qt (fun ms σ w=>ms=[]∧σ 0 = .func (.yield yl) #[] #[]∧σ 1=pp b1∧σ 4 = .int .i64 n∧σ 8 = .int .i64 A∧Q0 w (NL (.slice ar l.refs.length cr) l.refs::NL (.slice aq l.recs.length cq) l.recs::J (Gd l (i+1))::pts b1 (row 102 [.int .i64 l.fixed,.slice ar l.refs.length cr,.int .i64 l.record,.slice aq l.recs.length cq])::pts b2 (row 3 [.int .i64 c])::fr)) ?_ ?_
   ·refine Qe ?_;refine Ew H ?_;refine Ax H ?_;refine Qq (fun ms σ w z=>ms=[]∧∃ j:Nat,j≤l.recs.length∧z=l.recs.length - j∧σ 0 = .func (.yield yl) #[] #[]∧σ 1=pp b1∧σ 4 = .int .i64 n∧σ 8 = .int .i64 A∧σ 41 = .slice aq l.recs.length cq∧σ 42 = .int .i64 l.recs.length∧σ 43 = .int .i64 j∧Q0 w (NL (.slice ar l.refs.length cr) l.refs::NL (.slice aq l.recs.length cq) l.recs::J (Gd l i++(l.recs.take j).map (l.fixed+i*l.record+·))::pts b1 (row 102 [.int .i64 l.fixed,.slice ar l.refs.length cr,.int .i64 l.record,.slice aq l.recs.length cq])::pts b2 (row 3 [.int .i64 c])::fr)) (m:=l.recs.length) ⟨rfl,0,by omega,rfl,rfl,rfl,rfl,rfl,rfl,rfl,rfl,by rw[take_zero,map_nil,append_nil];exact H⟩ ?_;clear H;rintro ms σ w z ⟨rfl,j,hj,rfl,g0,g1,g4,g8,g41,g42,g43,H⟩;rw[Q1 g0,Q1 g1,Q1 g4,Q1 g8,Q1 g41,Q1 g42,Q1 g43];refine J7 H ?_;refine Qm rfl (fun h=>QF ?_) (fun h=>Qv ?_)
    ·have Q6:j < l.recs.length:=by omega
     have hn:=getElem?_eq_getElem Q6;have Qj:l.recs.take (j+1)=l.recs.take j++[l.recs[j]]:=by rw[take_add_one,hn];rfl
     have G0:l.recs=l.recs.take j++l.recs[j]::l.recs.drop (j+1):=split_at hn;have AK:=hR.2.2.2.2.1 l.recs[j] (getElem_mem _);generalize l.recs[j]=p at hn Qj G0 AK;replace H:=Js [1,0,0,0,0] 0 H;obtain⟨bT,sT,rfl,H,QM⟩:=VX H (by omega);refine Z7 H ?_;refine Jd ?_;refine Q5 rfl (QA H rfl (U4 hn) rfl ?_);refine J0 H ?_;replace H:=QM _ _ H;replace H:=Js [2,0,0,0,0] 0 H;refine Wr H ?_;rw[Qg (x:=(A:Int)+(p:Int)) (by omega) (by omega),show (A:Int)+(p:Int)=((A+p:Nat):Int) by omega]
     refine Q5 rfl (Bk rfl rfl (SL.Yields.mono (hy (Gd l i++(l.recs.take j).map (l.fixed+i*l.record+·)) (A+p) _ _ ⟨(l.recs.drop (j+1)).map (l.fixed+i*l.record+·)++tl,by
      rw[Yc];unfold AU
      conv=>lhs;rw[G0]
      rw[hA];simp⟩ H) ?_))
     clear H;rintro v w ⟨rfl,H⟩;refine YS H ?_;replace H:=Js [2,1,0,0,0] 0 H;refine J3 H ?_;have e4:Gd l i++(l.recs.take j).map (l.fixed+i*l.record+·)++[A+p]=Gd l i++(l.recs.take (j+1)).map (l.fixed+i*l.record+·):=by rw[Qj,hA];simp
     rw[e4] at H;exact⟨_,⟨rfl,j+1,Q6,rfl,rfl,rfl,rfl,rfl,rfl,rfl,Qh (by omega),H⟩,by omega⟩
    ·have V2:j=l.recs.length:=by omega
     subst V2;rw[take_length] at H;have e5:Gd l i++l.recs.map (l.fixed+i*l.record+·)=Gd l (i+1):=iO.symm;rw[e5] at H;exact⟨rfl,rfl,rfl,rfl,rfl,rfl,H⟩
   clear H;rintro ms σ w ⟨rfl,g0,g1,g4,g8,H⟩;rw[Q1 g0,Q1 g1,Q1 g4,Q1 g8];refine NU H ?_;refine J4 H ?_;refine⟨_,⟨rfl,i+1,A+l.record,AX,by rw[hA,Nat.succ_mul];omega,rfl,rfl,rfl,rfl,?_,H⟩,by omega⟩;show Value.int .i64 (IntKind.i64.wrap ((A:Int)+(l.record:Int)))=_;rw[Qg (by omega) (by omega)];rfl
  ·have V2:i=c:=by
    refine Nat.le_antisymm hi (Nat.le_of_not_lt fun Q6=>?_);have L8:0 < l.record:=Nat.pos_of_ne_zero (z5 (by omega));have:=Nat.mul_lt_mul_of_pos_right Q6 L8;omega
   subst V2;exact⟨rfl,rfl,H⟩
 clear H;rintro ms σ w ⟨rfl,H⟩;replace H:=Js [2,2,2,0,0] 0 H;exact Z2 _ (.inl rfl) H rfl fun w' H'=>H'
def Rl (l:Qb) (n:Nat):List Nat:=(List.range n).filter (Va l)
theorem Tf {l:Qb} {n p:Nat} {a t:List Nat} (h:Rl l n=a++p::t):p < n∧Va l p=true:=by
 have:p∈Rl l n:=by rw[h];simp
 unfold Rl at this;rw[mem_filter,mem_range] at this;exact this
structure iP (ls:List Qb) (size:Nat) (own:List Nat) (addr i c s n:Nat) (l:Qb) (lk:Nat→Yn) (mem:List Nat):Prop where
 img:WA ls size mem own addr i c s n l
 link:∀ p,p < n→Va l p=true→XL (lk p)∧mem.getD (addr+1+p) 0=Vm (lk p)
theorem iS [Q4] (ip:Nat) (addr:Nat) {w:World} {fr:List Q2} (H:Q0 w fr) :
  Calls Tryz.prog 113 #[pp ip,.int .i64 addr] w (ret fun v w'=>∃ b1 b2,v = .func (.func 186) #[] #[pp b1,pp b2]∧Q0 w' (pts b1 (row 36 [pp ip])::pts b2 (row 3 [.int .i64 addr])::fr)):=by
 refine QQ Tryz.func113 rfl (by kernel_rfl) ?_;refine GV H ?_;clear H;intro b2 w H;refine Az H ?_;clear H;intro b3 w H;refine ZX H ?_;exact Q3 (Jy H.swap rfl fun w' H'=>⟨b2,b3,rfl,H'⟩)
theorem iT [Q4] (yl bm ba ip sp bp size:Nat) (ls:List Qb) (own:List Nat) (addr i c s n:Nat) (l:Qb) (lk:Nat→Yn) (F:List Nat→Prop) (hF:∀ mem,F mem→iP ls size own addr i c s n l lk mem) (J:List Nat→Q2)
  (hy : ∀ (ks : List Nat) (p : Nat) (mem : List Nat) (rest : List Q2) (w : World), F mem → (∃ t, Rl l n = ks ++ p :: t) → Q0 w (J ks :: V6 ip sp bp :: Qp bp ls :: ST sp size mem own :: rest) →
   SL.Yields Tryz.prog yl #[.int .i64 p,GN (lk p)] w (fun v w'=>v = .bool true∧∃ mem',F mem'∧Q0 w' (J (ks++[p])::V6 ip sp bp::Qp bp ls::ST sp size mem' own::rest)))
  {mem:List Nat} (hm:F mem) {w:World} {fr:List Q2} (H:Q0 w (J []::pts bm (row 36 [pp ip])::pts ba (row 3 [.int .i64 addr])::V6 ip sp bp::Qp bp ls::ST sp size mem own::fr)) :
  Calls Tryz.prog 186 #[.func (.yield yl) #[] #[],pp bm,pp ba] w (ret fun _ w'=>∃ mem',F mem'∧Q0 w' (J (Rl l n)::pts bm (row 36 [pp ip])::pts ba (row 3 [.int .i64 addr])::V6 ip sp bp::Qp bp ls::ST sp size mem' own::fr)):=by
 have hR:=(hF _ hm).img.right;have hz:=(hF _ hm).img.siz;refine QQ Tryz.func186 rfl (by kernel_rfl) ?_;refine GV H ?_;clear H;intro b3 w H;refine J2 H ?_;refine UB H ?_;refine NX H ?_;refine C5 H ?_;replace H:=Js [4,4,4,0,0,0,0] 0 H;refine If H ?_;refine Jc rfl rfl (Ss ip sp bp size ls mem own addr i c s n l (hF _ hm).img H) ?_;clear H;rintro v w ⟨vr,vq,rfl,H⟩;obtain⟨ar,cr,rfl⟩:=QI H (QJ _) (by decide);obtain⟨aq,cq,rfl⟩:=QI H.drop (QJ _) (by decide);refine I5 H ?_;refine VS H ?_;clear H;intro b4 w H;refine VS H ?_;clear H;intro b5 w H;refine J5 H ?_;clear H;intro w H;refine J5 H ?_;clear H;intro w H;refine IH H ?_;refine XD H ?_;refine Gm H ?_;refine Jc rfl rfl (rz _ _ l c rfl rfl H) ?_;clear H;rintro v w ⟨b1,b2,rfl,H⟩;refine Bw H ?_;refine Qe (W0 (a:=[]) (b:=[pp b1,pp b2]) H rfl (fun yl2 D w H=>?_));generalize hL:LR _ yl2 _ _ _ _ D .ready=L at H ⊢;obtain⟨J2,L9⟩:∃ J2:List Nat→Q2,J2=fun ks=>ex fun mem':List Nat=>star [prop (F mem'),L,J ks,pts bm (row 36 [pp ip]),pts ba (row 3 [.int .i64 addr]),pts b3 (row 279 [.func (.yield yl) #[] #[]]),V6 ip sp bp,Qp bp ls,ST sp size mem' own]:=⟨_,rfl⟩
 have V9:∀ (ks:List Nat) (mem':List Nat) (w:World) (l':List Q2),F mem'→Q0 w (L::J ks::pts bm (row 36 [pp ip])::pts ba (row 3 [.int .i64 addr])::pts b3 (row 279 [.func (.yield yl) #[] #[]])::V6 ip sp bp::Qp bp ls::ST sp size mem' own::l')→Q0 w (J2 ks::l'):=by
  intro ks mem' w l' h H;rw[L9];exact Q0.ex.2 ⟨mem',Q0.star.2 (Q0.prop.2 ⟨h,H⟩)⟩
 have YW:∀ (ks:List Nat) (w:World) (l':List Q2),Q0 w (J2 ks::l')→∃ mem',F mem'∧Q0 w (L::J ks::pts bm (row 36 [pp ip])::pts ba (row 3 [.int .i64 addr])::pts b3 (row 279 [.func (.yield yl) #[] #[]])::V6 ip sp bp::Qp bp ls::ST sp size mem' own::l'):=by
  intro ks w l' H;rw[L9] at H;obtain⟨mem',H⟩:=Q0.ex.1 H;exact⟨mem',Q0.prop.1 (Q0.star.1 H)⟩
 replace H:=Js [0,11,11,11,10,7,7,7,1,1,3,3,0] 2 H;replace H:=V9 [] mem _ _ hm H;refine call (s9 yl2 b1 b2 _ _ l hR c hz J2 ?_ H) ?_
 ·clear H;intro ks p rest w Yc H;obtain⟨mem',V7,H⟩:=YW _ _ _ H;obtain⟨t,Yc⟩:=Yc;obtain⟨sQ,D0⟩:=Tf Yc
  have Uk:Qc l n (p:Int) true=0:=by
   unfold Qc;rw[if_neg (by omega),Int.toNat_natCast,if_neg (by rw[D0];decide)]
  have GM:=fun (w:World) (rest:List Q2)=>hy ks p mem' rest w V7 ⟨t,Yc⟩;obtain⟨a1,a2,a3,Y4⟩:=Xa (lk p);rw[Y4] at GM;subst hL;refine Kj (args:=[.int .i64 p]) H rfl rfl ?_;refine Vl H ?_;refine⟨rfl,_,H,fun w H=>Qe ?_⟩;replace H:=Js [5,5,5,0,0,0,0,0] 0 H;refine If H ?_;refine Jv ?_;refine Jc rfl rfl (gV ip sp bp size ls mem' own addr i c s n l (hF _ V7).img p (lk p) (fun _=>by rw[Int.toNat_natCast];exact(hF _ V7).link p sQ D0) (fun h=>absurd Uk h) H) ?_;clear H;rintro v w ⟨rfl,H⟩;rw[Uk,Y4];refine YA H ?_;clear H;intro b9 w H;refine J5 H ?_;clear H;intro w H;refine J0 H ?_;replace H:=Js [5,1,1,1,1,1,1,1,0] 0 H;refine XJ H ?_;refine C1 H ?_;refine Q5 rfl (Bk rfl rfl (SL.Yields.mono (GM _ _ H) ?_));clear H;rintro v w ⟨rfl,mem'',hm'',H⟩;refine YS H ?_;replace H:=Js [4,0,3,3,3,0,0,0] 1 H;exact⟨rfl,_,H,fun w H=>⟨rfl,V9 _ _ _ _ hm'' H⟩⟩
 ·clear H;rintro v w H;obtain⟨mem',V7,H⟩:=YW _ _ _ H;subst hL;refine⟨_,H,fun w H=>?_⟩;replace H:=Js [11,0,0,0,1,1,1] 5 H;exact Bj (ms:=[D]) _ (.inl rfl) ((Q0.star (k:=[pts D (.deferred (some []))])).2 H) rfl fun w' H'=>⟨mem',V7,H'⟩
def Used (ts:List QW) (i:Int):Prop:=∃ (k n:Nat) (e:Q8),i=k∧ts[k]? = some ⟨n,some e⟩
def YQ (e:Q8) (p:Nat):Yn:=Gu (e.ws.getD p 0)
theorem ia {s:CS} (h:WF s) {mem:List Nat} (m:Y8 s mem) {k g:Nat} {e:Q8} (hk:s.tab[k]? = some ⟨g,some e⟩):iP s.lays s.size s.own e.addr e.lay e.count k e.ws.length (Qd s e) (YQ e) mem:=
 ⟨WJ h m hk, fun p hp hr => by
  have h1:=gf h hk hp hr;exact⟨h1.1,by rw[T7 h m hk hp];exact h1.2⟩⟩
end Go.Proofs.YtmjdnljneifpcaaGreatDoor
