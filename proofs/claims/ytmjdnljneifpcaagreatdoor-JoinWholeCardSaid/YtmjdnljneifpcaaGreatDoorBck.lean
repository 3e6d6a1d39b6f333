/- Cells: what is proved on the way: every input of the statement; no condition. Texts joined: CelI LawP LawQ LawR LawA LawB LawC LawD LnkA LnkB LnkC. -/
import Derived.Test.YtmjdnljneifpcaaGreatDoorBce
import Derived.Test.YtmjdnljneifpcaaGreatDoorBcj
import Derived.Test.YtmjdnljneifpcaaGreatDoorBci
import Derived.Test.YtmjdnljneifpcaaGreatDoorBcc
import Derived.Test.YtmjdnljneifpcaaGreatDoorBch
set_option linter.unusedVariables false
set_option linter.unusedSimpArgs false
set_option linter.unusedSectionVars false
namespace Go.Proofs.YtmjdnljneifpcaaGreatDoor
open List
open Go.SL
def Kr (s:CS) (id:Int):QM:=(s.lays[id.toNat - 1]?).getD ⟨0,[],0,[]⟩
def Ze (s:CS) (region id count:Int):Nat:=if (QY s.par region).isSome=false then 15 else if id < 1∨(s.lays.length:Int) < id then 6 else (VG (Kr s id) count).2
def YI (s:CS) (id count:Int):Nat:=(VG (Kr s id) count).1
theorem X7 {α:Type} {V:Type} {l:List α} {f:α→Int} {g:α→V} {k:Int} {b:V} (h:QY (l.map fun a=>(f a,g a)) k=some b):∃ x g1 g2,l=g1++x::g2∧f x=k∧g x=b:=by
 obtain⟨x,hx,h1⟩:=mem_map.1 (UC h);injection h1 with h1 h2
 obtain⟨g1,g2,h3⟩:=append_of_mem hx;exact⟨x,g1,g2,h3,h1,h2⟩
theorem X8 {α:Type} {V:Type} {l:List α} {f:α→Int} {g:α→V} {k:Int} (h:k∈l.map f):∃ b,QY (l.map fun a=>(f a,g a)) k=some b:=by
 cases hf:QY (l.map fun a=>(f a,g a)) k with
 | some b=>exact⟨b,rfl⟩
 | none=>
  refine absurd ?_ (W7.1 hf);rw[map_map];exact h
theorem Ib {size:Nat} {own:List Nat} {r:Int} {S:QE} (h:Gc size own r S):S.parts.length≤own.length:=by
 have h1:∀ l:List (Nat×Nat),(∀ p∈l,1≤p.2)→l.length≤(QU l).length:=by
  intro l
  induction l with
  | nil=>intro _;exact Nat.zero_le _
  | cons a l ih=>
   intro ha;have h1:=ih (fun p hp=>ha p (mem_cons_of_mem _ hp));have h2:=ha a (mem_cons_self ..);simp only[QU,flatMap_cons,length_append,length_map,length_range,length_cons] at h1 ⊢;omega
 have h2:=h1 S.parts (fun p hp=>(h.parts p hp).1)
 have h3:=ZS h.nodup (l₂:=List.range own.length) (fun c hc=>by
  obtain⟨q,hq,_,_⟩:=(h.owned c).1 hc;exact mem_range.2 (List.getElem?_eq_some_iff.1 hq).1)
 rw[length_range] at h3;omega
theorem dX {size:Nat} {own:List Nat} {r:Int} {S:QE} (h:Gc size own r S) (h1:own.length≤63) (h2:size≤1024):S.fin≤1048576:=by
 by_cases h0:S.fin=0
 ·omega
 ·obtain⟨c,e,_,hc⟩:=h.fin h0;have:=(h.parts _ hc).2;rw[e];exact Nat.le_trans (Nat.mul_le_mul (show c+1≤64 by omega) h2) (by omega)
theorem Nk {size:Nat} {own:List Nat} {e:Q7} (h:Zv size own e):Gx size own e.addr (e.ws.length+1):=by
 intro c c1 c2;obtain⟨r,hr,_,hr1⟩:=h.2 c c1 (by rw[show e.addr+(e.ws.length+1) - 1=e.addr+e.ws.length by omega] at c2;exact c2);rw[getD_eq_getElem?_getD,hr];show r≠0;omega
theorem Nl {size:Nat} {own mem own' mem':List Nat} {r n a:Nat} {S S':QE} (h:UG size own mem r S n own' mem' S' a):own'.length=own.length:=by
 cases h with
 | room _=>rfl
 | one ha _ _=>exact Vz ha
 | run _ ha _ _ _=>exact Vz ha
def FR (own own':List Nat) (k:Nat):Prop:=own'.length=own.length∧∃ a0 k0,k0≤k∧∀ i,own'.getD i 0≠0→own.getD i 0≠0∨(a0≤i∧i < a0+k0)
theorem dK {size:Nat} (hs:1≤size) {own mem own' mem':List Nat} {r n a:Nat} {S S':QE} (h:UG size own mem r S (n+1) own' mem' S' a):FR own own' (n / size+1):=by
 refine⟨Nl h,?_⟩;cases h with
 | room _=>exact⟨0,0,Nat.zero_le _,fun i hi => .inl hi⟩
 | @one b ha _ _=>
  refine⟨b,1,Nat.le_add_left 1 _,fun i hi=>?_⟩;rw[Rk ha] at hi;split at hi
  ·right;assumption
  ·exact .inl hi
 | @run b k hk ha _ _ hn2=>
  refine⟨b,k,?_,fun i hi=>?_⟩
  ·have h2:k - 1≤n / size:=by
    rw[Nat.le_div_iff_mul_le (by omega)];omega
   omega
  ·rw[Rk ha] at hi;split at hi
   ·right;assumption
   ·exact .inl hi
theorem dR [Q4] (p:Nat) (s:CS) (region id count:Int) {w:World} {fr:List Q2} [hT:YX 0 Lib.deBruijn64tab fr] (H:Q0 w (QA p s::fr)) :
  Calls Tryz.prog 31 #[pp p,.int .i64 region,.int .i64 id,.int .i64 count] w (ret fun v w'=>
   (Ze s region id count≠0∧v = .tuple #[Gw 0 0,.int .i64 (Ze s region id count)]∧Q0 w' (QA p s::fr)) ∨
   (Ze s region id count=0∧(∀ t∈s.tab,busy t=true)∧v = .tuple #[Gw 0 0,.int .i64 12]∧Q0 w' (QA p s::fr)) ∨
   (Ze s region id count=0∧(∀ a,a+(YI s id count / s.size+1)≤s.own.length→∃ i,a≤i∧i < a+(YI s id count / s.size+1)∧s.own.getD i 0≠0)∧v = .tuple #[Gw 0 0,.int .i64 11]∧Q0 w' (QA p s::fr)) ∨
   (Ze s region id count = 0 ∧ ∃ k g0 addr s', s.tab[k]? = some ⟨g0, none⟩ ∧ g0 ≤ 254 ∧ (∀ j t, j < k → s.tab[j]? = some t → busy t = true) ∧ v = .tuple #[Gw k (g0 + 1), .int .i64 0] ∧
    s'.size=s.size∧s'.lays=s.lays∧s'.last=s.last∧s'.par=s.par∧s'.rem=s.rem∧s'.tab=s.tab.set k ⟨g0+1,some ⟨addr,region,true,false,id.toNat,count.toNat,List.replicate (YI s id count) 0⟩⟩∧FR s.own s'.own (YI s id count / s.size+1)∧(Y1 s→Y1 s')∧Q0 w' (QA p s'::fr))):=by
 obtain⟨q,mem,hw,hm,H⟩:=Vv H;have hndp:=I7 (H.pull 5);refine Q9 Tryz.func31 rfl (by kernel_rfl) ?_;refine Vp H ?_;clear H;intro b8 w H;refine J0 H ?_;replace H:=Js [6,0,0,0,0,0,0,0,0,0,0,0] 0 H;refine J6 H ?_
 refine Y6 (fun ms σ w=>ms=[]∧(QY s.par region).isSome=true∧σ 0=pp p∧σ 1 = .int .i64 region∧σ 2 = .int .i64 id∧σ 3 = .int .i64 count∧σ 8=pp b8 ∧
  Q0 w (Qh q.bp s.lays::pts b8 (row 69 [.int .i64 0,.int .i64 0])::Qv p q::Qt q.ip q.sp q.bp::ST q.sp s.size mem s.own::Qi q.tp s.tab::Qf q.trp s.last s.par::RS q.rp s.rem::mp (ki .i64) Qp q.sm (s.sps.map VE)::star (s.sps.map (VJ q.sp))::mp (ki .i64) Qp q.mm (s.mns.map Qx)::star (s.mns.map Qy)::fr)) ?_ ?_
 ·refine RW H ?_;refine VQ H ?_;refine Jc rfl rfl (CL q.trp s.last s.par region H) ?_;clear H;rintro v w ⟨rfl,H⟩;cases hf:(QY s.par region).isSome with
  | false=>
   have he:Ze s region id count=15:=by unfold Ze;rw[if_pos hf]
   refine E0 H ?_;clear H;intro w H;refine J0 H ?_;replace H:=Js [1,1,1,1,1,1,0,0,0,0,0,0] 0 H;refine Q3 (.inr ⟨by simp,Jz H (fun w' H' => .cellN H' rfl (by repeat first|exact .nil _|apply QV.cons rfl) (.tmp .nil)) fun w' H' => .inl ⟨by omega,by rw[he];rfl,VR hw hm H'.drop⟩⟩)
  | true=>
   refine WH H ?_;replace H:=Js [4,1,1,1,1,1,0,0,0,0,0,0] 0 H;exact .inl ⟨rfl,rfl,rfl,rfl,rfl,rfl,rfl,rfl,H⟩
 clear H;rintro ms σ w ⟨rfl,hlive,g0,g1,g2,g3,g8,H⟩;rw[Q1 g0,Q1 g1,Q1 g2,Q1 g3,Q1 g8];clear g0 g1 g2 g3 g8;refine VQ H ?_;by_cases hid:id < 1∨(s.lays.length:Int) < id
 ·have he:Ze s region id count=6:=by unfold Ze;rw[hlive,if_neg (by simp),if_pos hid]
  refine Jc rfl rfl (aG q.bp s.lays id hid H) ?_;clear H;rintro v w ⟨rfl,H⟩;refine Vj H ?_;clear H;intro b10 w H;refine J4 H ?_;clear H;intro w H;refine YA H ?_;refine CZ H ?_;clear H;intro w H;refine J0 H ?_;replace H:=Js [2,2,2,1,1,1,1,1,1,1,1,1] 1 H;exact Q3 (Jz H (fun w' H' => .cellN H' rfl (by repeat first|exact .nil _|apply QV.cons rfl) (.tmp .nil)) fun w' H' => .inl ⟨by omega,by rw[he];rfl,VR hw hm H'.drop⟩)
 obtain⟨i,rfl⟩:∃ i:Nat,id=i:=⟨id.toNat,by omega⟩;have hil:=getElem?_eq_getElem (l:=s.lays) (i:=i - 1) (by omega)
 have hlay:Kr s (i:Int)=s.lays[i - 1]'(by omega):=by
  unfold Kr;rw[Int.toNat_natCast,hil];rfl
 have hR:Vf (Kr s (i:Int)):=by rw[hlay];exact hw.lays.2 _ (getElem_mem _)
 rw[← hlay] at hil;have hE:Ze s region i count=(VG (Kr s i) count).2:=by unfold Ze;rw[hlive,if_neg (by simp),if_neg hid]
 have hN:YI s i count=(VG (Kr s i) count).1:=rfl;generalize Kr s (i:Int)=l at hil hR hE hN;refine Jc rfl rfl (IZ q.bp s.lays i (by omega) l hil H) ?_;clear H;rintro v w ⟨vr,vq,rfl,H⟩;obtain⟨ar,cr,rfl⟩:=QF H (QH _) (by decide);obtain⟨aq,cq,rfl⟩:=QF H.drop (QH _) (by decide);refine Vj H ?_;clear H;intro b10 w H;refine J4 H ?_;clear H;intro w H;refine Yv H ?_;refine AD H ?_;replace H:=Js [1,1,0,0,0,0,0,0,0,0,0,0,0,0,0] 0 H;obtain⟨D1,H,hD1,hC1⟩:=sls_rd H (QH _) (by decide);obtain⟨D2,H,hD2,hC2⟩:=sls_rd H.swap (QH _) (by decide);refine Jc rfl rfl (CC _ _ l hR count ⟨(hD1 _).there,hD2 _⟩ H) ?_;clear H;rintro v w ⟨rfl,H⟩;replace H:=hC1 _ _ (hC2 _ _ H).swap;replace H:=Js [8,3,3,3,3,3,3,3,3,3,3,3] 3 H;generalize hsz:VG l count=z at hE hN H ⊢;obtain⟨n,er⟩:=z;refine WC H ?_
 refine Y6 (fun ms σ w=>ms=[]∧er=0∧¬ (∀ t∈s.tab,busy t=true)∧σ 0=pp p∧σ 1 = .int .i64 region∧σ 2 = .int .i64 i∧σ 3 = .int .i64 count∧σ 8=pp b8∧σ 12 = .int .i64 n ∧
  Q0 w (Qi q.tp s.tab::Qh q.bp s.lays::pts b8 (row 69 [.int .i64 0,.int .i64 0])::Qv p q::Qt q.ip q.sp q.bp::ST q.sp s.size mem s.own::Qf q.trp s.last s.par::RS q.rp s.rem::mp (ki .i64) Qp q.sm (s.sps.map VE)::star (s.sps.map (VJ q.sp))::mp (ki .i64) Qp q.mm (s.mns.map Qx)::star (s.mns.map Qy)::fr)) ?_ ?_
 ·refine QP ?_;refine VX H ?_;by_cases h0:er=0
  ·subst h0;refine C5 H ?_;refine Yd H ?_;refine Jc rfl rfl (NN q.tp s.tab H) ?_;clear H;rintro v w ⟨rfl,H⟩;have hbt:Zx s.tab≤s.tab.length:=length_filter_le _ _;by_cases hb:∀ t∈s.tab,busy t=true
   ·have hbe:Zx s.tab=s.tab.length:=by unfold Zx;rw[filter_eq_self.2 hb]
    rw[show s.tab.length - Zx s.tab=0 by omega];refine E0 H ?_;clear H;intro w H;refine J0 H ?_;replace H:=Js [2,2,2,1,1,0,0,0,0,0,0,0] 0 H;refine Q3 (.inr ⟨by simp,Jz H (fun w' H' => .cellN H' rfl (by repeat first|exact .nil _|apply QV.cons rfl) (.tmp .nil)) fun w' H' => .inr (.inl ⟨hE,hb,rfl,VR hw hm H'.drop⟩)⟩)
   ·have hbe:Zx s.tab≠s.tab.length:=by
     intro h;refine hb fun t ht=>?_;exact length_filter_eq_length_iff.1 h t ht
    refine J3 H ?_;rw[show (((s.tab.length - Zx s.tab:Nat):Int) == 0)=false by simp;omega];refine V6 H ?_;exact .inl ⟨rfl,rfl,rfl,hb,rfl,rfl,rfl,rfl,rfl,rfl,H⟩
  ·rw[show (((er:Nat):Int) != 0)=true by simpa using h0];refine CZ H ?_;clear H;intro w H;refine J0 H ?_;replace H:=Js [2,2,2,1,1,0,0,0,0,0,0,0] 0 H;refine Q3 (.inr ⟨by simp,Jz H (fun w' H' => .cellN H' rfl (by repeat first|exact .nil _|apply QV.cons rfl) (.tmp .nil)) fun w' H' => .inl ⟨by rw[hE];exact h0,by rw[hE];rfl,VR hw hm H'.drop⟩⟩)
 clear H;rintro ms σ w ⟨rfl,rfl,hfree,g0,g1,g2,g3,g8,g12,H⟩;rw[Q1 g0,Q1 g1,Q1 g2,Q1 g3,Q1 g8,Q1 g12];clear g0 g1 g2 g3 g8 g12;obtain⟨z1,z2,z3,z4,z5⟩:=I2 hsz;obtain⟨c,rfl⟩:∃ c:Nat,count=c:=⟨count.toNat,by omega⟩;have hrk:region∈s.par.map (·.1):=Wf hlive;obtain⟨b,hkS⟩:=X8 (l:=s.sps) (f:=fun x=>x.1) (g:=fun x=>x.2.1) (k:=region) (by rw[hw.skeys];exact hrk);obtain⟨⟨r0,b0,S⟩,p1,p2,hsps,h01,h02⟩:=X7 hkS;obtain rfl:r0=region:=h01;obtain rfl:b0=b:=h02;obtain⟨b2,hkM⟩:=X8 (l:=s.mns) (f:=fun x=>x.1) (g:=fun x=>x.2.1) (k:=r0) (by rw[hw.mkeys];exact hrk);obtain⟨⟨r1,b1,L⟩,m1,m2,hmns,h11,h12⟩:=X7 hkM;obtain rfl:r1=r0:=h11;obtain rfl:b1=b2:=h12
 have hr1:1≤r1:=by
  obtain⟨⟨ra,rx⟩,hx,rfl⟩:=mem_map.1 hrk;exact(hw.par.2.2 _ _ hx).1
 obtain⟨r,rfl⟩:∃ r:Nat,r1=r:=⟨r1.toNat,by omega⟩;have hS:Gc s.size s.own r S:=hw.spc ((r:Int),b0,S) (by rw[hsps];simp);have hfin:=dX hS hw.own.2 hw.size.2;have hpl:=Ib hS;have hown:=hw.own.2;refine VQ H ?_;refine Q5 rfl (ZR (ek:=ki .i64) (vv:=Qp) (key:=(r:Int)) H rfl rfl VC rfl ?_);have hkS':QY (s.sps.map VE) (r:Int)=some b0:=hkS;have hkM':QY (s.mns.map Qx) (r:Int)=some b1:=hkM;rw[hkS'];refine YP H ?_;rw[Qb (x:=((n:Nat):Int)+1) (by omega) (by omega),show ((n:Nat):Int)+1=((n+1:Nat):Int) by omega];replace H:=Js [9,5,0,0,0,0,0,0,0,0,0,0] 0 H;replace H:Q0 w (Qn b0 q.sp r S::star ((p1++p2).map (VJ q.sp))::_):=(Q0.pick (R:=VJ q.sp) (x:=((r:Int),b0,S)) hsps).1 H;replace H:=Js [0,1,0,0,0,0,0,0,0,0,0,0,0] 0 H;refine Jc rfl rfl (NV b0 q.sp r s.size (n+1) S mem s.own (by omega) (by omega) (by omega) hS.at1 hfin hown hw.size.1 hw.size.2 (by omega) H) ?_;clear H;rintro v w (⟨a,own',mem',S',rfl,al,H⟩|⟨rfl,hno,H⟩)
 case inr=>
  refine Uw H ?_;refine CZ H ?_;clear H;intro w H;refine J0 H ?_;replace H:=Js [0,1,0,0,0,0,0,0,0,0,0,0,0] 0 H;have H:=(Q0.pick (R:=VJ q.sp) (x:=((r:Int),b0,S)) hsps).2 H;replace H:=Js [5,5,3,1,1,2,2,2,0,1,1,0] 0 H;have H:=(VR hw hm H).swap;refine Q3 (Jz H (fun w' H' => .cellN H' rfl (by repeat first|exact .nil _|apply QV.cons rfl) (.tmp .nil)) fun w' H' => .inr (.inr (.inl ⟨hE,?_,rfl,H'.drop⟩)));rw[hN];intro a ha;rw[Nat.add_sub_cancel] at hno;exact hno a ha
 have hol:=Nl al;obtain⟨hml,hmo⟩:=NQ hw hm.len al;refine G4 H ?_;refine GM H ?_;refine XB H ?_;replace H:=Js [3,0,0,0,0,0,0,0,0,0,0,0,0] 0 H;refine Jc rfl rfl (cP q.tp s.tab ⟨a,r,true,false,i,c,List.replicate n 0⟩ H) ?_;clear H;rintro v w (⟨k,g0,hk,hg0,hbz,rfl,H⟩|⟨hb,_,_⟩)
 case inr=>exact absurd hb hfree
 have hkl:k < s.tab.length:=(List.getElem?_eq_some_iff.1 hk).1;have hsl:=hw.slots.2;refine Vj H ?_;clear H;intro b14 w H;refine J4 H ?_;clear H;intro w H;refine J0 H ?_;have hL:=hw.mine ((r:Int),b1,L) (by rw[hmns];simp)
 have hLk:k∉L:=by
  intro hj;obtain⟨g,f,hf,_⟩:=(hL.2 k).1 hj;rw[hk] at hf;cases hf
 have hLs:(YS L k).Pairwise (· < ·):=FK hL.1 hLk;have hmay:Xy i c k:=⟨by omega,by have:=hw.lays.1;omega,by omega,by omega⟩
 have hobj:X4 s.lays k ⟨a,r,true,false,i,c,List.replicate n 0⟩:=by
  refine⟨hmay,l,hil,hR,by simpa using hsz,fun x w hx=>?_⟩;have hx:(List.replicate n 0)[x]? = some w:=hx;have:=eq_of_mem_replicate (mem_of_getElem? hx);subst this;exact⟨by omega,fun _=>⟨.none,trivial,rfl⟩⟩
 have al':UG s.size s.own mem r S ((Q7.mk a r true false i c (List.replicate n 0)).ws.length+1) own' mem' S' (Q7.mk a r true false i c (List.replicate n 0)).addr:=by
  show UG s.size s.own mem r S ((List.replicate n 0).length+1) own' mem' S' a;rw[length_replicate];exact al
 have hwf:=aP hw hk hg0 hsps hmns hndp (e:=⟨a,r,true,false,i,c,List.replicate n 0⟩) rfl hobj al' hLs (fun j=>FX);have htk:(s.tab.set k (⟨g0+1,some ⟨a,r,true,false,i,c,List.replicate n 0⟩⟩:QX))[k]? = some ⟨g0+1,some ⟨a,r,true,false,i,c,List.replicate n 0⟩⟩:=getElem?_set_self hkl;have hlies:Zv s.size own' ⟨a,r,true,false,i,c,List.replicate n 0⟩:=(hwf.obj k _ _ htk).2.1
 have hfit:a+1+n≤mem'.length:=by
  have h1:QJ (Q7.mk a r true false i c (List.replicate n 0))≤own'.length*s.size:=hlies.1;unfold QJ at h1;rw[hml,hm.len,← hol];simpa using h1
 have hod:Gx s.size own' a (n+1):=by
  have:=Nk hlies;simpa using this
 replace H:=Js [8,5,3,0,0,0,0,0,0,0,0,0,0,0] 0 H;refine J1 H ?_;clear H;intro w H;refine Y3 H ?_;refine Jl 3 [10] H ?_;refine Dp H ?_;refine Jl 8 [10] H ?_;refine Zq 9 rfl (Q8.none rfl) rfl (by kernel_rfl) ?_;refine Jo 10 H ?_;refine Jk rfl rfl (az q.ip q.sp q.bp s.size s.lays mem' own' a i c k n l hmay hil hR hsz hfit hod H) ?_;clear H;rintro v w ⟨rfl,H⟩;refine Jx H ?_;replace H:=Js [13,0,0,0,0,0,0,0,0,0,0,0,0,0] 0 H;replace H:Q0 w (Qu b1 L::star ((m1++m2).map Qy)::_):=(Q0.pick (R:=Qy) (x:=((r:Int),b1,L)) hmns).1 H
 have hL1:L.length≤63:=by
  have:=Kh L 0 63 (fun x hx=>⟨Nat.zero_le _,by
   obtain⟨g,f,h3,_⟩:=(hL.2 x).1 hx;have h4:=(List.getElem?_eq_some_iff.1 h3).1;have:=hw.slots.2;omega⟩) hL.1
  omega
 refine J1 H ?_;clear H;intro w H;refine Y3 H ?_;refine Jl 3 [8] H ?_;refine Ja 4 ?_;refine Uq 5 [8] (key:=(r:Int)) H rfl (Q8.none rfl) rfl rfl VC (by kernel_rfl) ?_;rw[hkM'];refine Jf 6 ?_;refine Jl 7 [8] H ?_;refine Jo 8 H ?_;refine Jk rfl rfl (Nj b1 L k hL.1 (by omega) hLk H) ?_;clear H;rintro v w ⟨rfl,H⟩;refine Jx H ?_;refine KH H ?_;clear H;intro w H;refine J0 H ?_
 have hap:∀ (j g:Nat) (f:Q7),s.tab[j]? = some ⟨g,some f⟩→QJ f≤(Q7.mk a r true false i c (List.replicate n 0)).addr∨QJ (Q7.mk a r true false i c (List.replicate n 0))≤f.addr:=by
  intro j g f hj;have hne:j≠k:=fun h=>by subst h;rw[hk] at hj;cases hj
  refine hwf.apart j k g (g0+1) f _ hne ?_ htk;show (s.tab.set k _)[j]? = _;rw[getElem?_set_ne (fun h=>hne h.symm)];exact hj
 have hsl2:(mem'.set a (G7 i c k)).length=mem'.length:=length_set
 have hmem:=aT hw hm hk (e:=⟨a,r,true,false,i,c,List.replicate n 0⟩) al' (mem2:=VV (mem'.set a (G7 i c k)) (a+1) n 0) (by rw[Vz (by omega),hsl2]) hol
  (by
   show (VV (mem'.set a (G7 i c k)) (a+1) n 0)[a]? = some (G7 i c k);rw[Zt (by omega),if_neg (by omega),getElem?_set_self (by omega)])
  (fun x w hx => by
   have hx:(List.replicate n 0)[x]? = some w:=hx;have h0:=eq_of_mem_replicate (mem_of_getElem? hx);have h1:=(List.getElem?_eq_some_iff.1 hx).1;rw[length_replicate] at h1;subst h0;show (VV (mem'.set a (G7 i c k)) (a+1) n 0)[a+1+x]? = some 0;rw[Zt (by omega),if_pos (by omega)])
  (fun x hx => by
   have hx:x < a∨QJ (Q7.mk a r true false i c (List.replicate n 0))≤x:=hx;unfold QJ at hx;rw[length_replicate] at hx;have hx:x < a∨a+1+n≤x:=hx;rw[Zt (by omega),if_neg (by omega),getElem?_set_ne (by omega)])
  hap (s':={ s with own:=own',tab:=s.tab.set k ⟨g0+1,some ⟨a,r,true,false,i,c,List.replicate n 0⟩⟩,sps:=p1++((r:Int),b0,S')::p2,mns:=m1++((r:Int),b1,YS L k)::m2 }) rfl rfl rfl
 have hkeyS:s.sps.map VE=(p1++((r:Int),b0,S')::p2).map VE:=by rw[hsps];simp
 have hkeyM:s.mns.map Qx=(m1++((r:Int),b1,YS L k)::m2).map Qx:=by rw[hmns];simp
 rw[hkeyS,hkeyM] at H;have H:=(Q0.pick (R:=Qy) (x:=((r:Int),b1,YS L k)) (g1:=m1) (g2:=m2) rfl).2 H;replace H:=Js [6,6,0,0,0,0,1,1,1,1,1,1,1] 1 H;have H:=(Q0.pick (R:=VJ q.sp) (x:=((r:Int),b0,S')) (g1:=p1) (g2:=p2) rfl).2 H;replace H:=Js [7,2,2,2,2,3,3,3,0,2,0,0] 0 H;have H:=(VR hwf hmem H).swap;refine Q3 (Jz H (fun w' H' => .cellN H' rfl (by repeat first|exact .nil _|apply QV.cons rfl) (.tmp .nil)) fun w' H' => .inr (.inr (.inr ⟨hE,k,g0,a,{ s with own:=own',tab:=s.tab.set k ⟨g0+1,some ⟨a,r,true,false,i,c,List.replicate n 0⟩⟩,sps:=p1++((r:Int),b0,S')::p2,mns:=m1++((r:Int),b1,YS L k)::m2 },hk,hg0,hbz,rfl,rfl,rfl,rfl,rfl,rfl,?_,by rw[hN];exact dK hw.size.1 al,fun hP=>dQ hP hsps (e:=⟨a,r,true,false,i,c,List.replicate n 0⟩) rfl hw.size.1 (hw.spc ((r:Int),b0,S) (by rw[hsps];simp)) al' rfl rfl rfl,H'.drop⟩)));show s.tab.set k _=s.tab.set k _;rw[hN];rfl
def dW:Option (Nat×Nat)→Y4
 | some (k,g) => .obj k g
 | none => .none
def ZY (told:List (Nat×Nat)) (kd t:Nat):Y4:=if kd=2 then dW told[t]? else if kd=1 then .grave else .none
def Uj (ls:List QM) (i:Nat):QM:=(ls[i - 1]?).getD ⟨0,[],0,[]⟩
structure U0 (lays:List QM) (told:List (Nat×Nat)) (e:Q7) (x:QI):Prop where
 region:e.region=x.region
 lay:e.lay=x.lay
 count:e.count=x.count
 held:e.held=x.held
 pinned:e.pinned=x.pinned
 len:e.ws.length=x.w.length
 ref:∀ p,p < x.w.length→VU (Uj lays x.lay) p=true→ZF (e.ws.getD p 0)=ZY told (x.kind.getD p 0) (x.to.getD p 0)
 word:∀ p,p < x.w.length→VU (Uj lays x.lay) p=false→e.ws.getD p 0=x.w.getD p 0
 kind:∀ p,p < x.w.length→x.kind.getD p 0≠0→VU (Uj lays x.lay) p=true∧x.kind.getD p 0≤2
structure Rel (s:CS) (m:MS) (told:List (Nat×Nat)):Prop where
 len:told.length=m.objs.length
 lays:s.lays=m.lays
 tree:∀ (r q:Int),(r,q)∈s.par↔∃ k:Nat,r=k∧1≤k∧m.P[k]? = some q∧0≤q
 nd:(s.par.map (·.1)).Nodup
 last:s.last+1=m.P.length
 obj:∀ (o:Nat) (x:QI) (k g:Nat),m.objs[o]? = some x→told[o]? = some (k,g)→x.gone=false→∃ e,s.tab[k]? = some ⟨g,some e⟩∧U0 m.lays told e x
 gone:∀ (o:Nat) (x:QI) (k g:Nat),m.objs[o]? = some x→told[o]? = some (k,g)→x.gone=true→∀ e,s.tab[k]? ≠ some ⟨g,some e⟩
 used:∀ (k g:Nat) (e:Q7),s.tab[k]? = some ⟨g,some e⟩→∃ o:Nat,told[o]? = some (k,g)
 gens:∀ (o k g:Nat),told[o]? = some (k,g)→∃ t,s.tab[k]? = some t∧g≤t.gen
 nodup:told.Nodup
structure X9 (s:CS) (m:MS) (told:List (Nat×Nat)):Prop where
 len:told.length=m.objs.length
 lays:s.lays=m.lays
 tree:∀ (r q:Int),(r,q)∈s.par↔∃ k:Nat,r=k∧1≤k∧m.P[k]? = some q∧0≤q
 nd:(s.par.map (·.1)).Nodup
 obj:∀ (o:Nat) (x:QI) (k g:Nat),m.objs[o]? = some x→told[o]? = some (k,g)→x.gone=false→∃ e,s.tab[k]? = some ⟨g,some e⟩∧U0 m.lays told e x
 gone:∀ (o:Nat) (x:QI) (k g:Nat),m.objs[o]? = some x→told[o]? = some (k,g)→x.gone=true→∀ e,s.tab[k]? ≠ some ⟨g,some e⟩
theorem Rel.w {s:CS} {m:MS} {told:List (Nat×Nat)} (R:Rel s m told):X9 s m told:=⟨R.len,R.lays,R.tree,R.nd,R.obj,R.gone⟩
theorem FW {α:Type} {l:List α} (h:l.Nodup) {i j:Nat} {a:α} (hi:l[i]? = some a) (hj:l[j]? = some a):i=j:=by
 have h1:=(List.getElem?_eq_some_iff.1 hi);have h2:=(List.getElem?_eq_some_iff.1 hj);obtain⟨a1,b1⟩:=h1;obtain⟨a2,b2⟩:=h2;have h3:=pairwise_iff_getElem.1 h
 rcases Nat.lt_trichotomy i j with h4|h4|h4
 ·exact absurd (b1.trans b2.symm) (h3 i j a1 a2 h4)
 ·exact h4
 ·exact absurd (b2.trans b1.symm) (h3 j i a2 a1 h4)
theorem B5 {s:CS} {m:MS} {told:List (Nat×Nat)} (R:Rel s m told) {n k g:Nat} {e e':Q7} {x x':QI} (ht:told[n]? = some (k,g)) (hk:s.tab[k]? = some ⟨g,some e⟩) (hx:m.objs[n]? = some x) (hg:x.gone=false) (hg':x'.gone=false) (hl:U0 m.lays told e' x') (rem:List ((Int×Int)×Int)) :
  Rel { VO s k g e' with rem:=rem } (Yr m n x') told:=by
 have hnl:=(List.getElem?_eq_some_iff.1 hx).1;have hkl:=(List.getElem?_eq_some_iff.1 hk).1;refine⟨by show told.length=(m.objs.set n x').length;rw[length_set];exact R.len,R.lays,R.tree,R.nd,R.last,?_,?_,?_,?_,R.nodup⟩
 ·intro o x0 k0 g0 (hx0:(m.objs.set n x')[o]? = some x0) ht0 hg0;by_cases hon:n=o
  ·subst hon;rw[getElem?_set_self hnl] at hx0;injection hx0 with hx0
   subst hx0;rw[ht] at ht0;injection ht0 with h1
   injection h1 with h1 h2
   subst h1 h2;exact⟨e',by show (s.tab.set k _)[k]? = _;rw[getElem?_set_self hkl],hl⟩
  ·rw[getElem?_set_ne hon] at hx0;obtain⟨e0,h1,h2⟩:=R.obj o x0 k0 g0 hx0 ht0 hg0;refine⟨e0,?_,h2⟩;show (s.tab.set k _)[k0]? = _;by_cases hkk:k=k0
   ·subst hkk;rw[hk] at h1;injection h1 with h1
    injection h1 with h1 _
    subst h1;exact absurd (FW R.nodup ht ht0) hon
   ·rw[getElem?_set_ne hkk];exact h1
 ·intro o x0 k0 g0 (hx0:(m.objs.set n x')[o]? = some x0) ht0 hg0 e0 (h1:(s.tab.set k _)[k0]? = _);by_cases hon:n=o
  ·subst hon;rw[getElem?_set_self hnl] at hx0;injection hx0 with hx0
   subst hx0;rw[hg'] at hg0;cases hg0
  ·rw[getElem?_set_ne hon] at hx0
   rcases V3 h1 with ⟨rfl,h2,_⟩|⟨_,h2⟩
   ·injection h2 with h2 _
    subst h2;exact hon (FW R.nodup ht ht0)
   ·exact R.gone o x0 k0 g0 hx0 ht0 hg0 e0 h2
 ·intro k0 g0 e0 (h1:(s.tab.set k _)[k0]? = _)
  rcases V3 h1 with ⟨rfl,h2,_⟩|⟨_,h2⟩
  ·injection h2 with h2 _
   subst h2;exact⟨n,ht⟩
  ·exact R.used k0 g0 e0 h2
 ·intro o k0 g0 ht0;obtain⟨t,h1,h2⟩:=R.gens o k0 g0 ht0;show ∃ t,(s.tab.set k _)[k0]? = some t∧_;by_cases hkk:k=k0
  ·subst hkk;rw[hk] at h1;injection h1 with h1
   subst h1;exact⟨_,getElem?_set_self hkl,h2⟩
  ·exact⟨t,by rw[getElem?_set_ne hkk];exact h1,h2⟩
theorem dA {s:CS} {m:MS} {told:List (Nat×Nat)} (R:Rel s m told) {n:Nat} {x x':QI} (hx:m.objs[n]? = some x) (hg:x.gone=true) (hg':x'.gone=true):Rel s (Yr m n x') told:=by
 have hnl:=(List.getElem?_eq_some_iff.1 hx).1;refine⟨by show told.length=(m.objs.set n x').length;rw[length_set];exact R.len,R.lays,R.tree,R.nd,R.last,?_,?_,R.used,R.gens,R.nodup⟩
 ·intro o x0 k0 g0 (hx0:(m.objs.set n x')[o]? = some x0) ht0 hg0;by_cases hon:n=o
  ·subst hon;rw[getElem?_set_self hnl] at hx0;injection hx0 with hx0
   subst hx0;rw[hg'] at hg0;cases hg0
  ·rw[getElem?_set_ne hon] at hx0;exact R.obj o x0 k0 g0 hx0 ht0 hg0
 ·intro o x0 k0 g0 (hx0:(m.objs.set n x')[o]? = some x0) ht0 hg0;by_cases hon:n=o
  ·subst hon;exact R.gone n x k0 g0 hx ht0 hg
  ·rw[getElem?_set_ne hon] at hx0;exact R.gone o x0 k0 g0 hx0 ht0 hg0
def U1 (told:List (Nat×Nat)) (i g o:Int):Prop:=(∃ k gg n:Nat,i=k∧g=gg∧o=n∧told[n]? = some (k,gg))∨(o = -1∧∀ (k gg n:Nat),i=k→g=gg→told[n]? ≠ some (k,gg))
@[reducible] def Vd (s:CS) (m:MS) (told:List (Nat×Nat)) (i g o:Int):Prop:=(Qr s.tab i g=none∧V7 m o=none) ∨
  ∃ (k gg n:Nat) (e:Q7) (x:QI),i=k∧g=gg∧o=n∧told[n]? = some (k,gg)∧s.tab[k]? = some ⟨gg,some e⟩∧m.objs[n]? = some x∧x.gone=false∧U0 m.lays told e x∧Qr s.tab i g=some (k,e)∧V7 m o=some (n,x)
theorem dB {s:CS} {m:MS} {told:List (Nat×Nat)} (R:X9 s m told) {k gg n:Nat} (ht:told[n]? = some (k,gg)):Vd s m told k gg n:=by
 have hnl:n < m.objs.length:=by rw[← R.len];exact(List.getElem?_eq_some_iff.1 ht).1
 have hx:=getElem?_eq_getElem hnl;generalize m.objs[n]=x at hx;cases hg:x.gone with
 | true=>
  left;constructor
  ·cases hv:Qr s.tab k gg with
   | none=>rfl
   | some q=>
    obtain⟨k',e⟩:=q;obtain⟨n',h1,h2,h3⟩:=Y8.1 (XP.1 hv).1;obtain rfl:k=k':=by omega
    obtain rfl:gg=n':=by omega
    exact absurd h3 (R.gone n x k gg hx ht hg e)
  ·rw[CO,hx];simp[hg]
 | false=>
  obtain⟨e,he,hl⟩:=R.obj n x k gg hx ht hg;have hlk:Qd s.tab k gg=some (k,e):=Y8.2 ⟨gg,rfl,rfl,he⟩;cases hh:x.held with
  | true=>
   right;refine⟨k,gg,n,e,x,rfl,rfl,rfl,ht,he,hx,hg,hl,XP.2 ⟨hlk,by rw[hl.held,hh]⟩,?_⟩;rw[CO,hx];simp[hg,hh]
  | false=>
   left;constructor
   ·cases hv:Qr s.tab k gg with
    | none=>rfl
    | some q=>
     obtain⟨k',e'⟩:=q;obtain⟨h1,h2⟩:=XP.1 hv;rw[hlk] at h1;injection h1 with h1
     injection h1 with h1 h3
     subst h3;rw[hl.held,hh] at h2;cases h2
   ·rw[CO,hx];simp[hh]
theorem K7 {s:CS} {m:MS} {told:List (Nat×Nat)} (R:Rel s m told) {i g o:Int} (P:U1 told i g o):Vd s m told i g o:=by
 rcases P with ⟨k,gg,n,rfl,rfl,rfl,ht⟩|⟨rfl,hno⟩
 ·exact dB R.w ht
 ·left;refine⟨?_,rfl⟩;cases hv:Qr s.tab i g with
  | none=>rfl
  | some q=>
   obtain⟨k,e⟩:=q;obtain⟨n',h1,h2,h3⟩:=Y8.1 (XP.1 hv).1;obtain⟨o,ho⟩:=R.used k n' e h3;exact absurd ho (hno k n' o h1 h2)
theorem Ks {s:CS} {m:MS} {told:List (Nat×Nat)} (R:X9 s m told) {e:Q7} {x:QI} (h:U0 m.lays told e x):QN s e=Vt m x:=by
 unfold QN Vt;rw[R.lays,h.lay]
theorem dC {s:CS} {m:MS} {told:List (Nat×Nat)} (R:X9 s m told) {i g o:Int} (V:Vd s m told i g o) (place:Int) :
  (VI m o place false≠0∧UK s i g place=(0,VI m o place false))∨(VI m o place false=0∧∃ (n j:Nat) (x:QI),o=n∧place=j∧m.objs[n]? = some x∧j < x.w.length∧UK s i g place=(x.w.getD j 0,0)):=by
 rcases V with ⟨h1,h2⟩|⟨k,gg,n,e,x,rfl,rfl,rfl,ht,hk,hx,hg,hl,h1,h2⟩
 ·left;rw[Xa h2,Nb h1];exact⟨by omega,rfl⟩
 ·rw[Ud h2,IF h1,Ks R hl,hl.len];by_cases h0:QO (Vt m x) x.w.length place false=0
  ·right;obtain⟨j,rfl,hj,hr⟩:=Zm h0;refine⟨h0,n,j,x,rfl,rfl,hx,hj,?_⟩;rw[if_pos h0,Int.toNat_natCast,hl.word j hj hr]
  ·left;exact⟨h0,by rw[if_neg h0]⟩
theorem dD {s:CS} {m:MS} {told:List (Nat×Nat)} (R:Rel s m told) {i g o:Int} (P:U1 told i g o) (place:Int) :
  (VI m o place false≠0∧UK s i g place=(0,VI m o place false))∨(VI m o place false=0∧∃ (n j:Nat) (x:QI),o=n∧place=j∧m.objs[n]? = some x∧j < x.w.length∧UK s i g place=(x.w.getD j 0,0)):=dC R.w (K7 R P) place
theorem Ru {α:Type} {l:List α} {i j:Nat} {a d:α} (h:i < l.length):(l.set i a).getD j d=if i=j then a else l.getD j d:=by
 rw[getD_eq_getElem?_getD,getD_eq_getElem?_getD,getElem?_set];split
 ·rename_i hij;subst hij;simp[h]
 ·rfl
def Kt (m:MS) (o place:Int) (X:Nat):MS:=
 match V7 m o with
 | none=>m
 | some (k,x)=>if QO (Vt m x) x.w.length place false=0 then Yr m k { x with w:=x.w.set place.toNat X } else m
theorem Nm {m:MS} {o place:Int} {X:Nat} (h:V7 m o=none):Kt m o place X=m:=by unfold Kt;rw[h]
theorem Ic {m:MS} {o place:Int} {X k:Nat} {x:QI} (h:V7 m o=some (k,x)):Kt m o place X=if QO (Vt m x) x.w.length place false=0 then Yr m k { x with w:=x.w.set place.toNat X } else m:=by unfold Kt;rw[h]
theorem dE {s:CS} {m:MS} {told:List (Nat×Nat)} (R:Rel s m told) {i g o:Int} (P:U1 told i g o) (place:Int) (X:Nat) :
  (Uf s i g place X).2=VI m o place false∧Rel (Uf s i g place X).1 (Kt m o place X) told:=by
 rcases K7 R P with ⟨h1,h2⟩|⟨k,gg,n,e,x,rfl,rfl,rfl,ht,hk,hx,hg,hl,h1,h2⟩
 ·rw[Xa h2,Ca h1,Nm h2];exact⟨rfl,R⟩
 ·rw[Ud h2,Cb h1,Ic h2,Ks R.w hl,hl.len];by_cases h0:QO (Vt m x) x.w.length place false=0
  ·obtain⟨j,rfl,hj,hr⟩:=Zm h0;rw[if_pos h0,if_pos h0,h0,Int.toNat_natCast,Int.toNat_natCast];refine⟨rfl,B5 R ht hk hx hg (by exact hg) ?_ s.rem⟩;refine⟨hl.region,hl.lay,hl.count,hl.held,hl.pinned,by simp[hl.len],?_,?_,?_⟩
   ·intro p hp hr';have hp':p < x.w.length:=by simpa using hp
    show ZF ((e.ws.set j X).getD p 0)=_;rw[Ru (by rw[hl.len];exact hj)];rw[if_neg (by rintro rfl;exact absurd (hr'.symm.trans hr) (by decide))];exact hl.ref p hp' hr'
   ·intro p hp hr';have hp':p < x.w.length:=by simpa using hp
    show (e.ws.set j X).getD p 0=(x.w.set j X).getD p 0;rw[Ru (by rw[hl.len];exact hj),Ru hj];split
    ·rfl
    ·exact hl.word p hp' hr'
   ·intro p hp hn;have hp':p < x.w.length:=by simpa using hp
    exact hl.kind p hp' hn
  ·rw[if_neg h0,if_neg h0];exact⟨rfl,R⟩
theorem Nn {ls:List QM} {told:List (Nat×Nat)} {e:Q7} {x:QI} (h:U0 ls told e x) (b:Bool):U0 ls told { e with held:=b } { x with held:=b }:=⟨h.region,h.lay,h.count,rfl,h.pinned,h.len,h.ref,h.word,h.kind⟩
theorem dF {ls:List QM} {told:List (Nat×Nat)} {e:Q7} {x:QI} (h:U0 ls told e x) (b:Bool):U0 ls told { e with pinned:=b } { x with pinned:=b }:=⟨h.region,h.lay,h.count,h.held,rfl,h.len,h.ref,h.word,h.kind⟩
theorem dH {s:CS} {m:MS} {told:List (Nat×Nat)} (R:Rel s m told) {i g o:Int} (P:U1 told i g o) :
  (Ug s i g).2=(Gh m o).2∧Rel (Ug s i g).1 (Gh m o).1 told:=by
 rcases K7 R P with ⟨h1,h2⟩|⟨k,gg,n,e,x,rfl,rfl,rfl,ht,hk,hx,hg,hl,h1,h2⟩
 ·have:Gh m o=(m,8):=by unfold Gh;rw[h2]
  rw[this,Cd h1];exact⟨rfl,R⟩
 ·have:Gh m n=(Yr m n { x with held:=false },0):=by unfold Gh;rw[h2]
  rw[this,Ce h1,Int.toNat_natCast];exact⟨rfl,B5 R ht hk hx hg (by exact hg) (Nn hl false) s.rem⟩
theorem dI {s:CS} {m:MS} {told:List (Nat×Nat)} (R:Rel s m told) {i g o:Int} (P:U1 told i g o) (on:Bool) :
  (Uh s i g on).2=(Gi m o on).2∧Rel (Uh s i g on).1 (Gi m o on).1 told:=by
 rcases K7 R P with ⟨h1,h2⟩|⟨k,gg,n,e,x,rfl,rfl,rfl,ht,hk,hx,hg,hl,h1,h2⟩
 ·have:Gi m o on=(m,8):=by unfold Gi;rw[h2]
  rw[this,Cf h1];exact⟨rfl,R⟩
 ·have:Gi m n on=if x.pinned=on then (m,7) else (Yr m n { x with pinned:=on },0):=by unfold Gi;rw[h2]
  rw[this,Cg h1,Int.toNat_natCast,hl.pinned];by_cases hb:x.pinned=on
  ·rw[if_pos hb,if_pos hb];exact⟨rfl,R⟩
  ·rw[if_neg hb,if_neg hb];exact⟨rfl,B5 R ht hk hx hg (by exact hg) (dF hl on) s.rem⟩
theorem dJ {s:CS} {m:MS} {told:List (Nat×Nat)} (R:X9 s m told) {i g o:Int} (V:Vd s m told i g o) (place:Int) :
  (VI m o place true≠0∧Y9 s i g place=(.none,VI m o place true))∨(VI m o place true=0∧∃ (n j:Nat) (x:QI),o=n∧place=j∧m.objs[n]? = some x∧V7 m o=some (n,x)∧j < x.w.length∧VU (Uj m.lays x.lay) j=true∧x.kind.getD j 0≤2∧Y9 s i g place=(ZY told (x.kind.getD j 0) (x.to.getD j 0),0)):=by
 rcases V with ⟨h1,h2⟩|⟨k,gg,n,e,x,rfl,rfl,rfl,ht,hk,hx,hg,hl,h1,h2⟩
 ·left;rw[Xa h2,IJ h1];exact⟨by omega,rfl⟩
 ·rw[Ud h2,Cc h1,Ks R hl,hl.len];by_cases h0:QO (Vt m x) x.w.length place true=0
  ·right;obtain⟨j,rfl,hj,hr⟩:=Zm h0;refine⟨h0,n,j,x,rfl,rfl,hx,h2,hj,hr,?_,?_⟩
   ·by_cases hz:x.kind.getD j 0=0
    ·omega
    ·exact(hl.kind j hj hz).2
   ·rw[if_pos h0,Int.toNat_natCast,hl.ref j hj hr]
  ·left;exact⟨h0,by rw[if_neg h0]⟩
theorem Ie {s:CS} {m:MS} {told:List (Nat×Nat)} (R:Rel s m told) {i g o:Int} (P:U1 told i g o) (place:Int) :
  (VI m o place true≠0∧Y9 s i g place=(.none,VI m o place true))∨(VI m o place true=0∧∃ (n j:Nat) (x:QI),o=n∧place=j∧m.objs[n]? = some x∧V7 m o=some (n,x)∧j < x.w.length∧VU (Uj m.lays x.lay) j=true∧x.kind.getD j 0≤2∧Y9 s i g place=(ZY told (x.kind.getD j 0) (x.to.getD j 0),0)):=dJ R.w (K7 R P) place
theorem Np {ls:List QM} {told:List (Nat×Nat)} {e:Q7} {x:QI} {n:Nat} (h:U0 ls told e x) (hm:Gz ls n x) {j:Nat} (hj:j < x.w.length) (hr:VU (Uj ls x.lay) j=true) (kd t:Nat) (hkd:kd≤2) (W:Nat) (hW:ZF W=ZY told kd t):U0 ls told { e with ws:=e.ws.set j W } { x with kind:=x.kind.set j kd,to:=x.to.set j t }:=by
 refine⟨h.region,h.lay,h.count,h.held,h.pinned,by simp[h.len],?_,?_,?_⟩
 ·intro p hp hr';show ZF ((e.ws.set j W).getD p 0)=ZY told ((x.kind.set j kd).getD p 0) ((x.to.set j t).getD p 0);rw[Ru (by rw[h.len];exact hj),Ru (by rw[hm.kind];exact hj),Ru (by rw[hm.to];exact hj)];split
  ·exact hW
  ·exact h.ref p hp hr'
 ·intro p hp hr';show (e.ws.set j W).getD p 0=x.w.getD p 0;rw[Ru (by rw[h.len];exact hj),if_neg (by rintro rfl;exact absurd (hr.symm.trans hr') (by decide))];exact h.word p hp hr'
 ·intro p hp (hn:(x.kind.set j kd).getD p 0≠0);show _∧(x.kind.set j kd).getD p 0≤2;rw[Ru (by rw[hm.kind];exact hj)] at hn ⊢;by_cases hjp:j=p
  ·subst hjp;rw[if_pos rfl];exact⟨hr,hkd⟩
  ·rw[if_neg hjp] at hn ⊢;exact h.kind p hp hn
theorem dL {s:CS} {m:MS} {told:List (Nat×Nat)} (R:Rel s m told) (hm:VY m) {i g o:Int} (P:U1 told i g o) (place:Int) :
  (Gk s i g place .none).2=(Ue m o place).2∧Rel (Gk s i g place .none).1 (Ue m o place).1 told:=by
 rcases K7 R P with ⟨h1,h2⟩|⟨k,gg,n,e,x,rfl,rfl,rfl,ht,hk,hx,hg,hl,h1,h2⟩
 ·rw[NI h2,Ci h1];exact⟨rfl,R⟩
 ·rw[IA h2,Wj h1,Ks R.w hl,hl.len];by_cases h0:QO (Vt m x) x.w.length place true=0
  ·obtain⟨j,rfl,hj,hr⟩:=Zm h0;rw[if_pos h0,if_pos h0,Int.toNat_natCast,Int.toNat_natCast];exact⟨rfl,B5 R ht hk hx hg (by exact hg) (Np hl (hm.objs x (mem_of_getElem? hx)) hj hr 0 0 (by omega) _ rfl) _⟩
  ·rw[if_neg h0,if_neg h0];exact⟨rfl,R⟩
theorem Nq {s:CS} {m:MS} {told:List (Nat×Nat)} (R:Rel s m told) (hw:WF s) (hm:VY m) {i g o u v q:Int} (P:U1 told i g o) (Q:U1 told u v q) (place:Int) :
  (Ys s i g place u v).2=(Yg m o place q).2∧Rel (Ys s i g place u v).1 (Yg m o place q).1 told:=by
 rcases K7 R P with ⟨h1,h2⟩|⟨k,gg,n,e,x,rfl,rfl,rfl,ht,hk,hx,hg,hl,h1,h2⟩
 ·have h3:Yg m o place q=(m,8):=by unfold Yg;rw[h2]
  have h4:Ys s i g place u v=(s,8):=by unfold Ys;rw[IJ h1];rw[if_pos (by decide)]
  rw[h3,h4];exact⟨rfl,R⟩
 ·by_cases h0:QO (Vt m x) x.w.length place true=0
  ·have hz:(Y9 s k gg place).2=0:=by rw[Cc h1,Ks R.w hl,hl.len,if_pos h0]
   rcases K7 R Q with ⟨h3,h4⟩|⟨k',gg',n',e',x',rfl,rfl,rfl,ht',hk',hx',hg',hl',h3,h4⟩
   ·have h5:Yg m n place q=(m,8):=by unfold Yg;rw[h2];show (if QO _ _ _ _=0 then _ else _)=_;rw[if_pos h0,h4]
    have h6:Ys s k gg place u v=(s,8):=by unfold Ys;rw[hz,if_neg (by decide),h3];rfl
    rw[h5,h6];exact⟨rfl,R⟩
   ·have h5:Yg m n place n'=(Yr m n { x with kind:=x.kind.set place.toNat 2,to:=x.to.set place.toNat n' },0):=by unfold Yg;rw[h2];show (if QO _ _ _ _=0 then _ else _)=_;rw[if_pos h0,h4]
    have h6:Ys s k gg place k' gg'=Gk s k gg place (.obj k' gg'):=by unfold Ys;rw[hz,if_neg (by decide),h3];rfl
    rw[h5,h6,Wj h1,Ks R.w hl,hl.len,if_pos h0];obtain⟨j,rfl,hj,hr⟩:=Zm h0;rw[Int.toNat_natCast,Int.toNat_natCast];have hok:=IT hw hk';exact⟨rfl,B5 R ht hk hx hg (by exact hg) (Np hl (hm.objs x (mem_of_getElem? hx)) hj hr 2 n' (by omega) _ (by rw[NP hok.1];unfold ZY;rw[if_pos rfl,ht'];rfl)) _⟩
  ·have hz:Y9 s k gg place=(.none,QO (Vt m x) x.w.length place true):=by rw[Cc h1,Ks R.w hl,hl.len,if_neg h0]
   have h5:Yg m n place q=(m,QO (Vt m x) x.w.length place true):=by unfold Yg;rw[h2];show (if QO _ _ _ _=0 then _ else _)=_;rw[if_neg h0]
   have h6:Ys s k gg place u v=(s,QO (Vt m x) x.w.length place true):=by unfold Ys;rw[hz,if_pos h0]
   rw[h5,h6];exact⟨rfl,R⟩
theorem dM {s:CS} {m:MS} {told:List (Nat×Nat)} (R:Rel s m told) (hm:VY m) {i g o:Int} (P:U1 told i g o) (place:Int) :
  (Y9 s i g place).2=(YE m o place).2.2.2∧(Y9 s i g place).1=ZY told (YE m o place).2.1 (YE m o place).2.2.1∧(YE m o place).2.1≤2∧((YE m o place).2.1=2→(YE m o place).2.2.1 < told.length)∧Rel (Zc s i g place) (YE m o place).1 told:=by
 rcases Ie R P place with ⟨h0,h1⟩|⟨h0,n,j,x,rfl,rfl,hx,hv,hj,hr,hk2,h1⟩
 ·have h3:YE m o place=(m,0,0,VI m o place true):=by
   cases hv:V7 m o with
   | none=>unfold YE;rw[hv,Xa hv]
   | some kx=>
    obtain⟨k,x⟩:=kx;rw[Ud hv] at h0 ⊢;unfold YE;rw[hv];show (if QO _ _ _ _=0 then _ else _)=_;rw[if_neg h0]
  have h4:Zc s i g place=s:=by unfold Zc;rw[h1]
  rw[h3,h4,h1];exact⟨rfl,rfl,by show 0≤2;omega,fun h=>(by cases h),R⟩
 ·rw[Ud hv] at h0;have h3:YE m n j=(if x.kind.getD j 0=2 then K6 m (x.to.getD j 0) else m,x.kind.getD j 0,x.to.getD j 0,0):=by unfold YE;rw[hv];show (if QO _ _ _ _=0 then _ else _)=_;rw[if_pos h0,Int.toNat_natCast]
  have hmo:=hm.objs x (mem_of_getElem? hx);rw[h3,h1];by_cases hkd:x.kind.getD j 0=2
  ·have hjk:j < x.kind.length:=by rw[hmo.kind];exact hj
   have hjk2:=getElem?_eq_getElem hjk;have hgo:=hmo.goes j (by rw[hjk2];rw[getD_eq_getElem?_getD,hjk2] at hkd;exact congrArg some hkd);have hgt:x.to.getD j 0 < told.length:=by rw[R.len];exact hgo
   generalize htd:x.to.getD j 0=td at *;rw[hkd,if_pos rfl];have hy:=getElem?_eq_getElem hgo;generalize m.objs[td]=y at hy;have htt:=getElem?_eq_getElem hgt;generalize told[td]=ab at htt;obtain⟨a,b⟩:=ab;have hln:ZY told 2 td = .obj a b:=by unfold ZY;rw[if_pos rfl,htt];rfl
   have h4:Zc s i g j=Kq s a b:=by unfold Zc;rw[h1,hkd,hln];rfl
   have h5:K6 m td=Yr m td { y with held:=true }:=by unfold K6;rw[hy]
   rw[h4,h5];refine⟨rfl,rfl,by show 2≤2;omega,fun _=>hgt,?_⟩;by_cases hyg:y.gone=true
   ·have h6:Qd s.tab a b=none:=by
     cases hlk:Qd s.tab a b with
     | none=>rfl
     | some q=>
      obtain⟨k',e'⟩:=q;obtain⟨n',h1,h2,h3⟩:=Y8.1 hlk;obtain rfl:a=k':=by omega
      obtain rfl:b=n':=by omega
      exact absurd h3 (R.gone td y a b hy htt hyg e')
    rw[Cj h6];exact dA R hy hyg (by exact hyg)
   ·have hyg:y.gone=false:=by simpa using hyg
    obtain⟨e',he',hl'⟩:=R.obj td y a b hy htt hyg;have h6:Qd s.tab a b=some (a,e'):=Y8.2 ⟨b,rfl,rfl,he'⟩;rw[Ck h6];exact B5 R htt he' hy hyg (by exact hyg) (Nn hl' true) s.rem
  ·have h4:Zc s i g j=s:=by
    unfold Zc;rw[h1]
    have:∀ a b,ZY told (x.kind.getD j 0) (x.to.getD j 0) ≠ .obj a b:=by
     intro a b;unfold ZY;rw[if_neg hkd];split <;> intro h <;> cases h
    generalize ZY told (x.kind.getD j 0) (x.to.getD j 0)=L at this;cases L with
    | none=>rfl
    | grave=>rfl
    | obj a b=>exact absurd rfl (this a b)
   rw[h4,if_neg hkd];exact⟨rfl,rfl,hk2,fun h=>absurd h hkd,R⟩
def Nr:Option (Nat×QI)→Value
 | some (_,x) => .tuple #[.agg #[.int .i64 x.region,.int .i64 x.lay,.int .i64 x.count,.int .i64 x.w.length,.bool x.pinned],.int .i64 0]
 | none => .tuple #[.agg #[.int .i64 0,.int .i64 0,.int .i64 0,.int .i64 0,.bool false],.int .i64 8]
theorem dN {s:CS} {m:MS} {told:List (Nat×Nat)} (R:X9 s m told) {i g o:Int} (V:Vd s m told i g o):IP (Qr s.tab i g)=Nr (V7 m o):=by
 rcases V with ⟨h1,h2⟩|⟨k,gg,n,e,x,rfl,rfl,rfl,ht,hk,hx,hg,hl,h1,h2⟩
 ·rw[h1,h2];rfl
 ·rw[h1,h2];show Value.tuple #[.agg (Nc e).toArray,.int .i64 0]=_;show Value.tuple #[.agg #[.int .i64 e.region,.int .i64 e.lay,.int .i64 e.count,.int .i64 e.ws.length,.bool e.pinned],.int .i64 0]=Value.tuple #[.agg #[.int .i64 x.region,.int .i64 x.lay,.int .i64 x.count,.int .i64 x.w.length,.bool x.pinned],.int .i64 0];rw[hl.region,hl.lay,hl.count,hl.len,hl.pinned]
theorem Wl {s:CS} {m:MS} {told:List (Nat×Nat)} (R:Rel s m told) (id:Int):(QY s.par id).isSome=Y0 m.P id:=by
 unfold Y0;cases hf:QY s.par id with
 | some q=>
  obtain⟨k,rfl,h1,h2,h3⟩:=(R.tree id q).1 (UC hf);have h4:=(List.getElem?_eq_some_iff.1 h2).1
  symm
  show decide _=true;rw[decide_eq_true];refine⟨by omega,by omega,?_⟩;rw[Int.toNat_natCast,getD_eq_getElem?_getD,h2];exact h3
 | none=>
  symm
  show decide _=false;rw[decide_eq_false];rintro⟨h1,h2,h3⟩;obtain⟨k,rfl⟩:∃ k:Nat,id=k:=⟨id.toNat,by omega⟩;have hk:k < m.P.length:=by omega
  have h4:=getElem?_eq_getElem hk;rw[Int.toNat_natCast,getD_eq_getElem?_getD,h4] at h3;have h5:=(R.tree k m.P[k]).2 ⟨k,rfl,by omega,h4,h3⟩;rw[(Yl R.nd).2 h5] at hf;cases hf
theorem FA {P:List Int} {k:Nat}:k∈V0 P↔∃ q,P[k]? = some q∧1≤k∧0≤q:=by
 unfold V0;rw[NE];constructor
 ·rintro⟨h1,h2,h3⟩;have h4:=getElem?_eq_getElem h1;rw[getD_eq_getElem?_getD,h4] at h3;exact⟨_,h4,h2,by simpa using h3⟩
 ·rintro⟨q,h1,h2,h3⟩;refine⟨(List.getElem?_eq_some_iff.1 h1).1,h2,?_⟩;rw[getD_eq_getElem?_getD,h1];simpa using h3
theorem If (P:List Int):(V0 P).Nodup:=(bw P _ _).imp (fun h=>by omega)
theorem Cn {s:CS} {m:MS} {told:List (Nat×Nat)} (R:X9 s m told):s.par.length=(V0 m.P).length:=by
 have h1:((V0 m.P).map fun k:Nat=>(k:Int)).Nodup:=by
  refine List.Pairwise.map _ ?_ (If m.P);intro a b hab;omega
 have h2:=ZS R.nd (l₂:=(V0 m.P).map fun k:Nat=>(k:Int)) (by
  intro z hz;obtain⟨⟨r,q⟩,hq,rfl⟩:=mem_map.1 hz;obtain⟨k,rfl,a,b,c⟩:=(R.tree r q).1 hq;exact mem_map.2 ⟨k,FA.2 ⟨q,b,a,c⟩,rfl⟩)
 have h3:=ZS h1 (l₂:=s.par.map (·.1)) (by
  intro z hz;obtain⟨k,hk,rfl⟩:=mem_map.1 hz;obtain⟨q,a,b,c⟩:=FA.1 hk;exact mem_map.2 ⟨((k:Int),q),(R.tree k q).2 ⟨k,rfl,b,a,c⟩,rfl⟩)
 rw[length_map,length_map] at h2 h3;omega
theorem dO {s:CS} {m:MS} {told:List (Nat×Nat)} (R:Rel s m told) (hw:WF s) (parent:Int):Z9 s.par parent=ZV m.P parent:=by
 unfold Z9 ZV;rw[Wl R,Cn R.w];have:=hw.par.1;rw[Cn R.w] at this;by_cases h:parent≠0∧Y0 m.P parent=false
 ·rw[if_pos h,if_pos h]
 ·rw[if_neg h,if_neg h];by_cases h2:(V0 m.P).length=64
  ·rw[if_pos h2,if_pos (by omega)]
  ·rw[if_neg h2,if_neg (by omega)]
theorem Ig {s:CS} {m:MS} {told:List (Nat×Nat)} (R:Rel s m told) {parent:Int} (h:ZV m.P parent=0) (b b2:Nat):Rel (Wk s parent b b2) { m with P:=m.P++[parent] } told:=by
 have hp:0≤parent:=by
  unfold ZV at h;split at h
  ·cases h
  ·rename_i hn;by_cases h0:parent=0
   ·omega
   ·have:Y0 m.P parent=true:=by
     cases hl:Y0 m.P parent with
     | true=>rfl
     | false=>exact absurd ⟨h0,hl⟩ hn
    unfold Y0 at this;have:=of_decide_eq_true this;omega
 have hl:=R.last;refine⟨R.len,R.lays,?_,?_,?_,R.obj,R.gone,R.used,R.gens,R.nodup⟩
 ·intro r q;show (r,q)∈s.par++[(((s.last+1:Nat):Int),parent)]↔∃ k:Nat,r=k∧1≤k∧(m.P++[parent])[k]? = some q∧0≤q;rw[mem_append,R.tree r q];constructor
  ·rintro(⟨k,rfl,a,b,c⟩|h)
   ·exact⟨k,rfl,a,by rw[getElem?_append_left (List.getElem?_eq_some_iff.1 b).1];exact b,c⟩
   ·simp only[mem_singleton] at h;injection h with h1 h2
    subst h1 h2;exact⟨s.last+1,rfl,by omega,by rw[hl,getElem?_append_right (Nat.le_refl _),Nat.sub_self];rfl,hp⟩
  ·rintro⟨k,rfl,a,b,c⟩;by_cases hk:k < m.P.length
   ·rw[getElem?_append_left hk] at b;exact .inl ⟨k,rfl,a,b,c⟩
   ·right;have hk2:=(List.getElem?_eq_some_iff.1 b).1;simp at hk2;obtain rfl:k=m.P.length:=by omega
    rw[getElem?_append_right (Nat.le_refl _),Nat.sub_self] at b;injection b with b
    simp only[mem_singleton];rw[hl,← b]
 ·show ((s.par++[(((s.last+1:Nat):Int),parent)]).map (·.1)).Nodup;rw[map_append];refine nodup_append.2 ⟨R.nd,by simp,?_⟩;intro a ha b hb;simp only[map_cons,map_nil,mem_singleton] at hb;subst hb;obtain⟨⟨r,q⟩,hq,rfl⟩:=mem_map.1 ha;obtain⟨k,h1,_,h2,_⟩:=(R.tree r q).1 hq;have:=(List.getElem?_eq_some_iff.1 h2).1;intro h3;have h4:r=((s.last+1:Nat):Int):=h3;omega
 ·show s.last+1+1=(m.P++[parent]).length;simp;omega
theorem Ih {ls:List QM} {l:QM} {i:Nat} (h:i - 1 < ls.length):Uj (ls++[l]) i=Uj ls i:=by
 unfold Uj;rw[getElem?_append_left h]
theorem dP {ls:List QM} {told:List (Nat×Nat)} {e:Q7} {x:QI} (h:U0 ls told e x) {l:QM} (hi:x.lay - 1 < ls.length):U0 (ls++[l]) told e x:=by
 refine⟨h.region,h.lay,h.count,h.held,h.pinned,h.len,?_,?_,?_⟩
 ·rw[Ih hi];exact h.ref
 ·rw[Ih hi];exact h.word
 ·rw[Ih hi];exact h.kind
theorem Ns {s:CS} {m:MS} {told:List (Nat×Nat)} (R:Rel s m told) (hm:VY m) (ws:List Nat):(Ui s ws).2=(Za m ws).2∧Rel (Ui s ws).1 (Za m ws).1 told:=by
 cases hd:ZD ws with
 | none=>
  have h1:Za m ws=(m,0,4):=by unfold Za;rw[hd]
  rw[h1,Cl hd];exact⟨rfl,R⟩
 | some l=>
  have h1:Za m ws=if 64≤m.lays.length then (m,0,5) else ({ m with lays:=m.lays++[l] },m.lays.length+1,0):=by unfold Za;rw[hd]
  rw[h1,B4 hd,R.lays];have:=hm.lays.1;by_cases h64:m.lays.length=64
  ·rw[if_pos h64,if_pos (by omega)];exact⟨rfl,R⟩
  ·rw[if_neg h64,if_neg (by omega)];refine⟨rfl,R.len,rfl,R.tree,R.nd,R.last,?_,R.gone,R.used,R.gens,R.nodup⟩;intro o x k g hx ht hg;obtain⟨e,h1,h2⟩:=R.obj o x k g hx ht hg;have hmo:=hm.objs x (mem_of_getElem? hx);obtain⟨l',h3,_⟩:=hmo.lay;exact⟨e,h1,dP h2 (List.getElem?_eq_some_iff.1 h3).1⟩
theorem Ii {s:CS} {m:MS} {told:List (Nat×Nat)} (R:Rel s m told) (region id count:Int):Ze s region id count=(Vr m region id count).2∧((Vr m region id count).2=0→YI s id count=(Vr m region id count).1):=by
 unfold Ze YI Vr Kr;rw[Wl R,R.lays];by_cases h1:Y0 m.P region=false
 ·rw[if_pos h1,if_pos h1];exact⟨rfl,fun h=>by cases h⟩
 ·rw[if_neg h1,if_neg h1];by_cases h2:id < 1∨(m.lays.length:Int) < id
  ·rw[if_pos h2,if_pos h2];exact⟨rfl,fun h=>by cases h⟩
  ·rw[if_neg h2,if_neg h2];exact⟨rfl,fun _=>rfl⟩
theorem dS {ls:List QM} {told:List (Nat×Nat)} {e:Q7} {x:QI} (h:U0 ls told e x) {t:Nat×Nat} (hx:∀ p,x.kind[p]? = some 2→x.to.getD p 0 < told.length):U0 ls (told++[t]) e x:=by
 refine⟨h.region,h.lay,h.count,h.held,h.pinned,h.len,?_,h.word,h.kind⟩;intro p hp hr;rw[h.ref p hp hr];unfold ZY;by_cases h2:x.kind.getD p 0=2
 ·rw[if_pos h2,if_pos h2]
  have h3:x.kind[p]? = some 2:=by
   rw[getD_eq_getElem?_getD] at h2;cases hk:x.kind[p]? with
   | none=>rw[hk] at h2;cases h2
   | some q=>rw[hk] at h2;exact congrArg some h2
  rw[getElem?_append_left (hx p h3)]
 ·rw[if_neg h2,if_neg h2]
theorem Ij (n p:Nat):(List.replicate n 0).getD p 0=0:=by
 rw[getD_eq_getElem?_getD,getElem?_replicate];split <;> rfl
theorem Nt {s s':CS} {m:MS} {told:List (Nat×Nat)} (R:Rel s m told) (hm:VY m) {region id count:Int} (hmay:(Vr m region id count).2=0) {k g0 addr:Nat} (hk:s.tab[k]? = some ⟨g0,none⟩)
  (e1:s'.lays=s.lays) (e2:s'.last=s.last) (e3:s'.par=s.par) (e4:s'.tab=s.tab.set k ⟨g0+1,some ⟨addr,region,true,false,id.toNat,count.toNat,List.replicate (YI s id count) 0⟩⟩) :
  (∀ n:Nat,told[n]? ≠ some (k,g0+1))∧Rel s' (Ko m region id count) (told++[(k,g0+1)]):=by
 have hkl:=(List.getElem?_eq_some_iff.1 hk).1;have hn:YI s id count=(Vr m region id count).1:=(Ii R region id count).2 hmay;have hr:Ko m region id count={ m with objs:=m.objs++[GY region id count (Vr m region id count).1] }:=rfl
 have hreg:region=(region.toNat:Int):=by
  obtain⟨r,la,c,l,rfl,_⟩:=FQ hmay;rfl
 have hnew:∀ n:Nat,told[n]? ≠ some (k,g0+1):=by
  intro n hn;obtain⟨t,h1,h2⟩:=R.gens n k (g0+1) hn;rw[hk] at h1;injection h1 with h1
  subst h1;have h2:g0+1≤g0:=h2;omega
 refine⟨hnew,?_⟩;rw[hr]
 have hne:∀ (o k0 g:Nat) (e:Q7),s.tab[k0]? = some ⟨g,some e⟩→k≠k0:=by
  rintro o k0 g e h rfl;rw[hk] at h;injection h with h
  injection h with _ h
  cases h
 refine⟨by show (told++[_]).length=(m.objs++[_]).length;rw[length_append,length_append,R.len];rfl,by rw[e1];exact R.lays,by rw[e3];exact R.tree,by rw[e3];exact R.nd,by rw[e2];exact R.last,?_,?_,?_,?_,?_⟩
 ·intro o x k0 g (hx:(m.objs++[GY region id count (Vr m region id count).1])[o]? = some x) ht hg;by_cases ho:o < m.objs.length
  ·rw[getElem?_append_left ho] at hx;rw[getElem?_append_left (by rw[R.len];exact ho)] at ht;obtain⟨e,h1,h2⟩:=R.obj o x k0 g hx ht hg;refine⟨e,?_,dS h2 (by rw[R.len];exact(hm.objs x (mem_of_getElem? hx)).goes)⟩;rw[e4,getElem?_set_ne (hne o k0 g e h1)];exact h1
  ·have hol:=(List.getElem?_eq_some_iff.1 hx).1;rw[length_append] at hol;obtain rfl:o=m.objs.length:=by simp at hol;omega
   rw[getElem?_append_right (Nat.le_refl _),Nat.sub_self] at hx;rw[← R.len,getElem?_append_right (Nat.le_refl _),Nat.sub_self] at ht;injection hx with hx
   injection ht with ht
   injection ht with h1 h2
   subst hx h1 h2;refine⟨_,by rw[e4,getElem?_set_self hkl],?_⟩;rw[hn];refine⟨hreg,rfl,rfl,rfl,rfl,rfl,?_,?_,?_⟩
   ·intro p hp _;show ZF ((List.replicate _ 0).getD p 0)=ZY _ ((List.replicate _ 0).getD p 0) ((List.replicate _ 0).getD p 0);rw[Ij];rfl
   ·intro p hp _;rfl
   ·intro p hp (hk:(List.replicate _ 0).getD p 0≠0);exact absurd (Ij _ p) hk
 ·intro o x k0 g (hx:(m.objs++[GY region id count (Vr m region id count).1])[o]? = some x) ht hg;by_cases ho:o < m.objs.length
  ·rw[getElem?_append_left ho] at hx;rw[getElem?_append_left (by rw[R.len];exact ho)] at ht;intro e h1;rw[e4] at h1
   rcases V3 h1 with ⟨rfl,h2,_⟩|⟨_,h2⟩
   ·injection h2 with h2 _
    subst h2;exact hnew o ht
   ·exact R.gone o x k0 g hx ht hg e h2
  ·have hol:=(List.getElem?_eq_some_iff.1 hx).1;rw[length_append] at hol;obtain rfl:o=m.objs.length:=by simp at hol;omega
   rw[getElem?_append_right (Nat.le_refl _),Nat.sub_self] at hx;injection hx with hx
   subst hx;cases hg
 ·intro k0 g e h1;rw[e4] at h1
  rcases V3 h1 with ⟨rfl,h2,_⟩|⟨_,h2⟩
  ·injection h2 with h2 _
   subst h2;exact⟨told.length,by rw[getElem?_append_right (Nat.le_refl _),Nat.sub_self];rfl⟩
  ·obtain⟨o,ho⟩:=R.used k0 g e h2;exact⟨o,by rw[getElem?_append_left (List.getElem?_eq_some_iff.1 ho).1];exact ho⟩
 ·intro o k0 g ht;rw[e4];by_cases ho:o < told.length
  ·rw[getElem?_append_left ho] at ht;obtain⟨t,h1,h2⟩:=R.gens o k0 g ht;by_cases hkk:k=k0
   ·subst hkk;rw[hk] at h1;injection h1 with h1
    subst h1;exact⟨_,getElem?_set_self hkl,by show g≤g0+1;have h2:g≤g0:=h2;omega⟩
   ·exact⟨t,by rw[getElem?_set_ne hkk];exact h1,h2⟩
  ·have hol:=(List.getElem?_eq_some_iff.1 ht).1;rw[length_append] at hol;obtain rfl:o=told.length:=by simp at hol;omega
   rw[getElem?_append_right (Nat.le_refl _),Nat.sub_self] at ht;injection ht with ht
   injection ht with h1 h2
   subst h1 h2;exact⟨_,getElem?_set_self hkl,Nat.le_refl _⟩
 ·refine nodup_append.2 ⟨R.nodup,by simp,?_⟩;intro a ha b hb;simp only[mem_singleton] at hb;subst hb;rintro rfl;obtain⟨n,h⟩:=mem_iff_getElem?.1 ha;exact hnew n h
def ZI (l:List (Nat×Nat)):List Value:=l.flatMap fun t=>[.int .i64 (t.1:Nat),.int .i64 (t.2:Nat)]
theorem Rv (l:List (Nat×Nat)):(ZI l).length=l.length*2:=by
 induction l with
 | nil=>rfl
 | cons p L ih=>simp only[ZI,flatMap_cons,length_append,length_cons,length_nil] at ih ⊢;omega
theorem Ik (a b:List (Nat×Nat)):ZI (a++b)=ZI a++ZI b:=by simp[ZI]
theorem dT {L:List (Nat×Nat)} {i:Nat} {p:Nat×Nat} (h:L[i]? = some p):(ZI L)[i*2]? = some (.int .i64 (p.1:Nat))∧(ZI L)[i*2+1]? = some (.int .i64 (p.2:Nat)):=by
 induction L generalizing i with
 | nil=>simp at h
 | cons x L ih=>
  cases i with
  | zero=>
   simp at h;subst h;exact⟨rfl,rfl⟩
  | succ i=>
   have:=ih (i:=i) (by simpa using h);rw[show (i+1)*2=i*2+2 by omega];exact this
theorem da {c:List Value} {o n:Nat} {L:List (Nat×Nat)} (h:QV c o n (ZI L)) {i:Nat} {p:Nat×Nat} (hp:L[i]? = some p):QV c (o+i*2) 2 [.int .i64 (p.1:Nat),.int .i64 (p.2:Nat)]:=by
 obtain⟨h1,h2⟩:=dT hp;refine h.part (es:=[.int .i64 (p.1:Nat),.int .i64 (p.2:Nat)]) fun j v hj=>?_
 match j,hj with
 | 0,hj=>rw[← hj];exact h1
 | 1,hj=>rw[← hj];exact h2
theorem Ku {L:List (Nat×Nat)} {spare:List Value} {i:Nat} {p:Nat×Nat} (h:L[i]? = some p):QV (ZI L++spare) (0+i*2) 2 [.int .i64 (p.1:Nat),.int .i64 (p.2:Nat)]:=by
 refine da (L:=L) (n:=(ZI L).length) (QV.of_get fun j v hj=>?_) h;rw[Nat.zero_add,getElem?_append_left (List.getElem?_eq_some_iff.1 hj).1];exact hj
@[reducible] def VW (v:Value) (told:List (Nat×Nat)):Q2:=QC 69 2 v (ZI told)
@[reducible] def YQ (p c mo:Nat) (v:Value):Q2:=pts p (row 48 [pp c,pp mo,v])
structure RQ where
 c:Nat
 mo:Nat
 v:Value
def GU (p:Nat) (s:CS) (m:MS) (told:List (Nat×Nat)):Q2:=ex fun q:RQ=>star [YQ p q.c q.mo q.v,QA q.c s,Qs q.mo m,VW q.v told]
theorem Co [Q4] {w:World} {p:Nat} {s:CS} {m:MS} {told:List (Nat×Nat)} {l:List Q2} (H:Q0 w (GU p s m told::l)):∃ (c mo:Nat) (a:Option Addr) (cap:Nat),Q0 w (YQ p c mo (.slice a told.length cap)::QA c s::Qs mo m::VW (.slice a told.length cap) told::l):=by
 obtain⟨⟨c,mo,v⟩,H⟩:=Q0.ex.1 H;have H:=Q0.star.1 H;obtain⟨a,cap,rfl⟩:=QF (H.drop.drop.drop) (Rv told) (by decide);exact⟨c,mo,a,cap,H⟩
theorem YK [Q4] {w:World} {p c mo:Nat} {v:Value} {s:CS} {m:MS} {told:List (Nat×Nat)} {l:List Q2} (H:Q0 w (YQ p c mo v::QA c s::Qs mo m::VW v told::l)):Q0 w (GU p s m told::l):=
 Q0.ex.2 ⟨⟨c,mo,v⟩,Q0.star.2 H⟩
theorem Nu [Q4] (p c mo:Nat) (a:Option Addr) (cap:Nat) (told:List (Nat×Nat)) (hlen:told.length≤1000000) (k i g:Int) (raw:Bool) {w:World} {fr:List Q2} (H:Q0 w (YQ p c mo (.slice a told.length cap)::VW (.slice a told.length cap) told::fr)) :
  Calls Tryz.prog 160 #[pp p,.int .i64 k,.bool raw,Yz i g] w (ret fun v w'=>∃ i' g' o,v = .tuple #[Yz i' g',.int .i64 o]∧U1 told i' g' o∧(raw=false→told≠[]→o ≠ -1)∧(raw=true∨told=[]→i'=i∧g'=g)∧Q0 w' (YQ p c mo (.slice a told.length cap)::VW (.slice a told.length cap) told::fr)):=by
 refine Q9 Tryz.func160 rfl (by kernel_rfl) ?_;refine J8 H ?_;clear H;intro b7 w H;refine VZ H ?_;clear H;intro b8 w H;refine YZ H ?_;refine Qo (fun ms σ w=>ms=[]∧(∃ q,σ 21 = .bool q∧(q=true↔raw=false∧told≠[]))∧σ 0=pp p∧σ 1 = .int .i64 k∧σ 7=pp b7∧σ 8=pp b8∧Q0 w (pts b7 (row 69 [.int .i64 i,.int .i64 g])::pts b8 (row 69 [.int .i64 0,.int .i64 0])::YQ p c mo (.slice a told.length cap)::VW (.slice a told.length cap) told::fr)) ?_ ?_
 ·cases raw with
  | true=>
   refine Vq H ?_;refine Ha H ?_;refine Bu H ?_;refine J0 H ?_;exact⟨rfl,rfl,⟨false,rfl,by simp⟩,rfl,rfl,rfl,rfl,H.swap⟩
  | false=>
   refine WE H ?_;refine QT rfl rfl rfl (V8 rfl rfl ?_);refine QT rfl rfl rfl (QR H rfl rfl rfl ?_);refine QT rfl rfl rfl (ZO rfl rfl ?_);refine V2 rfl rfl rfl rfl ?_;refine J0 H ?_;refine⟨rfl,rfl,⟨_,rfl,?_⟩,rfl,rfl,rfl,rfl,H.swap⟩;cases told with
   | nil=>simp
   | cons x l=>
    refine⟨fun _=>⟨rfl,by simp⟩,fun _=>?_⟩;show decide ((((x::l).length:Nat):Int) > 0)=true;exact decide_eq_true (by rw[length_cons];omega)
 clear H;rintro ms σ w ⟨rfl,⟨q,g21,hq⟩,g0,g1,g7,g8,H⟩;rw[Q1 g21,Q1 g0,Q1 g1,Q1 g7,Q1 g8];refine J6 H ?_;refine Qo (fun ms σ w=>ms=[]∧σ 0=pp p∧σ 7=pp b7∧σ 8=pp b8∧∃ i' g':Int,(raw=false→told≠[]→∃ n x y:Nat,told[n]? = some (x,y)∧i'=x∧g'=y)∧(raw=true∨told=[]→i'=i∧g'=g)∧Q0 w (pts b7 (row 69 [.int .i64 i',.int .i64 g'])::pts b8 (row 69 [.int .i64 0,.int .i64 0])::YQ p c mo (.slice a told.length cap)::VW (.slice a told.length cap) told::fr)) ?_ ?_
 ·cases q with
  | true=>
   obtain⟨hq1,hq2⟩:=hq.1 rfl;refine VM H ?_;refine J1 H ?_;clear H;intro w H;refine Y3 H ?_;refine Jl 3 [16] H ?_;refine Ja 4 ?_;refine U7 5 rfl (Q8.none rfl) rfl (by kernel_rfl) ?_;refine Ad H ?_;refine Jl 9 [16] H ?_;refine R9 10 rfl (Q8.none rfl) rfl (by kernel_rfl) ?_;refine U7 11 rfl (Q8.none rfl) rfl (by kernel_rfl) ?_
   obtain⟨K,hK⟩:∃ K:Nat,IntKind.u64.wrap k=K:=⟨(IntKind.u64.wrap k).toNat,by
    have:0≤IntKind.u64.wrap k:=Int.emod_nonneg _ (by decide);omega⟩
   have hlp:0 < told.length:=length_pos_iff.2 hq2;have e1:IntKind.u64.wrap (told.length:Int)=(told.length:Int):=Int.emod_eq_of_lt (by omega) (by show (told.length:Int) < 18446744073709551616;omega);rw[hK,e1];have hmod:=Nat.mod_lt K hlp
   refine GC (v := .int .u64 ((K % told.length:Nat):Int)) 12 rfl (Q8.none rfl) (by
    show (if IntKind.u64=IntKind.u64 then (if (told.length:Int)=0 then none else some (Value.int IntKind.u64 (Int.tmod (K:Int) (told.length:Int)))) else none)=_;rw[if_pos rfl,if_neg (by omega),Int.tmod_eq_emod_of_nonneg (by omega),Int.natCast_emod]) (by kernel_rfl) ?_
   refine U7 13 rfl (Q8.none rfl) rfl (by kernel_rfl) ?_;rw[Qb (x:=((K % told.length:Nat):Int)) (by omega) (by omega)];generalize K % told.length=n at hmod;have hn:=getElem?_eq_getElem hmod;generalize told[n]=xy at hn;obtain⟨x,y⟩:=xy;replace H:=Js [3,0,0,0] 0 H;obtain⟨bT,sT,rfl,H,hcl⟩:=V5 H hlp;refine Ji 14 ?_;refine VP 15 [16] H rfl (Q8.none rfl) rfl (Ku hn) (by kernel_rfl) ?_;refine Jo 16 H ?_;refine U9 H ?_;clear H;intro w H;replace H:=hcl _ _ H;refine Jx H ?_;replace H:=Js [1,1,1,0] 0 H;exact⟨rfl,rfl,rfl,rfl,rfl,x,y,fun _ _=>⟨n,x,y,hn,rfl,rfl⟩,fun h=>absurd h (by rintro(h|h);exact absurd (hq1.symm.trans h) (by decide);exact hq2 h),H⟩
  | false=>
   refine V6 H ?_;refine⟨rfl,rfl,rfl,rfl,rfl,i,g,?_,fun _=>⟨rfl,rfl⟩,H⟩;intro h1 h2;exact absurd (hq.2 ⟨h1,h2⟩) (by decide)
 clear H;rintro ms σ w ⟨rfl,g0,g7,g8,i',g',hin,hout,H⟩;rw[Q1 g0,Q1 g7,Q1 g8];refine Yd H ?_;refine Ka H ?_;refine Ql (fun ms σ w q=>ms=[]∧∃ j:Nat,j≤told.length∧q=told.length - j∧(∀ (n x y:Nat),n < j→told[n]? = some (x,y)→¬(i'=x∧g'=y))∧σ 7=pp b7∧σ 8=pp b8∧σ 41 = .slice a told.length cap∧σ 42 = .int .i64 told.length∧σ 43 = .int .i64 j∧Q0 w (VW (.slice a told.length cap) told::pts b7 (row 69 [.int .i64 i',.int .i64 g'])::pts b8 (row 69 [.int .i64 0,.int .i64 0])::YQ p c mo (.slice a told.length cap)::fr)) (m:=told.length) ⟨rfl,0,by omega,rfl,by omega,rfl,rfl,rfl,rfl,rfl,H.sel [3,0,0,0] 0⟩ ?_;clear H;rintro ms σ w q ⟨rfl,j,hj,rfl,hno,g7,g8,g41,g42,g43,H⟩;rw[Q1 g7,Q1 g8,Q1 g41,Q1 g42,Q1 g43];refine J7 H ?_;refine Qk rfl (fun h=>QB ?_) (fun h=>Qq ?_)
 ·have hlt:j < told.length:=by omega
  have hn:=getElem?_eq_getElem hlt;generalize told[j]=xy at hn;obtain⟨x,y⟩:=xy;obtain⟨bT,sT,rfl,H,hcl⟩:=V5 H (by omega);refine Bf H ?_;refine Jd ?_;refine Q5 rfl (VN H rfl (Ku hn) rfl ?_);refine VZ H ?_;clear H;intro b11 w H;refine Da H ?_;clear H;intro w H;refine EM H ?_;refine J2 H ?_;replace H:=H.drop;refine Qk (p:=((x:Int),(y:Int))=(i',g')) rfl (fun he=>?_) (fun he=>QB ?_)
  ·injection he with h1 h2
   subst h1 h2;refine KS H ?_;clear H;intro w H;refine J0 H ?_;replace H:=hcl _ _ H;replace H:=Js [2,2,0] 1 H;refine Q3 (Jz H (fun w' H' => .cellN H' rfl (by repeat first|exact .nil _|apply QV.cons rfl) (.tmp .nil)) fun w' H'=>⟨x,y,j,rfl,.inl ⟨x,y,j,rfl,rfl,rfl,hn⟩,fun _ _=>by omega,hout,H'.drop⟩)
  ·replace H:=hcl _ _ H;refine J5 H ?_;refine⟨_,⟨rfl,j+1,hlt,rfl,?_,rfl,rfl,rfl,rfl,Qc (by omega),H⟩,by omega⟩;intro n x' y' hnj hn' hc;by_cases hnj':n=j
   ·subst hnj';rw[hn] at hn';injection hn' with hn'
    injection hn' with h1 h2
    subst h1 h2;exact he (by rw[hc.1,hc.2])
   ·exact hno n x' y' (by omega) hn' hc
 ·have hge:j=told.length:=by omega
  subst hge;refine KH H ?_;clear H;intro w H;refine J0 H ?_;replace H:=Js [2,2,0] 1 H;refine Q3 (Jz H (fun w' H' => .cellN H' rfl (by repeat first|exact .nil _|apply QV.cons rfl) (.tmp .nil)) fun w' H'=>⟨i',g',-1,rfl,.inr ⟨rfl,?_⟩,?_,hout,H'.drop⟩)
  ·intro x y n h1 h2 hn;exact hno n x y (List.getElem?_eq_some_iff.1 hn).1 hn ⟨h1,h2⟩
  ·intro h1 h2 _;obtain⟨n,x,y,hn,h3,h4⟩:=hin h1 h2;exact hno n x y (List.getElem?_eq_some_iff.1 hn).1 hn ⟨h3,h4⟩
theorem Il (a b c:Int):veq [.int .i64 a,.int .i64 b,.int .i64 c] [.int .i64 a,.int .i64 b,.int .i64 c]=true:=by
 simp[veq]
theorem Cp (xs ys:List Value):(if YC BinOp.eql=true then veq xs ys else !veq xs ys)=veq xs ys:=if_pos rfl
theorem Nv [Q4] (p c mo:Nat) (a:Option Addr) (cap:Nat) (told:List (Nat×Nat)) (kd t:Nat) (hkd:kd≤2) (ht:kd=2→t < told.length) {w:World} {fr:List Q2} (H:Q0 w (YQ p c mo (.slice a told.length cap)::VW (.slice a told.length cap) told::fr)) :
  Calls Tryz.prog 40 #[pp p,Z5 (ZY told kd t),.int .i64 kd,.int .i64 t] w (ret fun v w'=>v = .bool true∧Q0 w' (YQ p c mo (.slice a told.length cap)::VW (.slice a told.length cap) told::fr)):=by
 by_cases h2:kd=2
 ·subst h2;have hlt:=ht rfl;have hn:=getElem?_eq_getElem hlt;generalize told[t]=xy at hn;obtain⟨x,y⟩:=xy;have hln:ZY told 2 t = .obj x y:=by unfold ZY;rw[if_pos rfl,hn];rfl
  rw[hln];refine Q9 Tryz.func40 rfl (by kernel_rfl) ?_;refine J8 H ?_;clear H;intro b5 w H;refine YA H ?_;refine VM H ?_;replace H:=Js [2,0,0] 0 H;obtain⟨bT,sT,rfl,H,hcl⟩:=V5 H (by omega);refine J1 H ?_;clear H;intro w H;refine RJ H ?_;refine Jl 4 [] H ?_;refine R9 5 rfl (Q8.none rfl) rfl (by kernel_rfl) ?_;refine Ja 6 ?_;rw[show decide ((t:Int) < (told.length:Int))=true from decide_eq_true (by omega)];refine Ja 7 ?_;refine VP 8 [] H rfl (Q8.of rfl rfl rfl) rfl (by repeat first|exact .nil _|apply QV.cons rfl) (by kernel_rfl) ?_;refine Bo H ?_;refine Jl 12 [] H ?_;refine Ja 13 ?_;refine Ji 14 ?_;refine VP 15 [] H rfl (Q8.of rfl rfl rfl) rfl (Ku hn) (by kernel_rfl) ?_;refine Zq 16 rfl (Q8.of rfl rfl rfl) rfl (by kernel_rfl) ?_;refine MB 17 rfl (Q8.of rfl rfl rfl) rfl rfl rfl rfl (.inl rfl) (by kernel_rfl) ?_;rw[Cp,Il];refine Ja 18 ?_;refine Ja 19 ?_;refine Jx H ?_;replace H:=hcl _ _ H;replace H:=Js [2,0] 1 H;exact Q3 (Jy H rfl fun w' H'=>⟨rfl,H'⟩)
 ·have hln:Z5 (ZY told kd t) = .agg #[.int .i64 kd,.int .i64 0,.int .i64 0]:=by
   unfold ZY;rw[if_neg h2];by_cases h1:kd=1
   ·subst h1;rfl
   ·obtain rfl:kd=0:=by omega
    rfl
  rw[hln];refine Q9 Tryz.func40 rfl (by kernel_rfl) ?_;refine J8 H ?_;clear H;intro b5 w H;refine YA H ?_;rw[show ((kd:Int) == 2)=false by simp;omega];refine V6 H ?_;refine AD H ?_;refine XB H ?_;refine Q5 rfl (BS rfl rfl rfl rfl (.inl rfl) rfl ?_);refine J0 H ?_;have hv:=Il kd 0 0;exact Q3 (Jy H.drop rfl fun w' H'=>⟨congrArg Value.bool ((Cp _ _).trans hv),H'⟩)
def db (own:List Nat) (n:Nat):Prop:=∃ a,a+n≤own.length∧∀ i,a≤i→i < a+n→own.getD i 0=0
theorem Nw [Q4] (p c mo:Nat) (v:Value) (s:CS) {w:World} {fr:List Q2} (H:Q0 w (YQ p c mo v::QA c s::fr)) :
  Calls Tryz.prog 230 #[pp p] w (ret fun x w'=>∃ b:Nat,x = .int .i64 b∧db s.own b∧Q0 w' (YQ p c mo v::QA c s::fr)):=by
 obtain⟨q,mem,hw,hm,H⟩:=Vv H.swap;have hol:=hw.own.2;refine Q9 Tryz.func230 rfl (by kernel_rfl) ?_;refine VB H ?_;refine J5 H ?_;replace H:=Js [3,0,0,0,0,0,0,0,0,0,0,0] 0 H;refine EN H ?_;refine Jc rfl rfl (Hx q.sp s.size mem s.own H) ?_;clear H;rintro v w ⟨rfl,H⟩;refine YZ H ?_;refine QP ?_
 refine Ql (fun ms σ w n=>ms=[]∧∃ j row best:Nat,j≤s.own.length∧n=s.own.length - j∧row≤j∧best≤j∧(∀ i,j - row≤i→i < j→s.own.getD i 0=0)∧(∃ a,a+best≤j∧∀ i,a≤i→i < a+best→s.own.getD i 0=0)∧σ 0=pp p∧σ 3 = .int .i64 best∧σ 4 = .int .i64 row∧σ 13 = .int .i64 s.own.length∧σ 14 = .int .i64 j ∧
  Q0 w (ST q.sp s.size mem s.own::Qv c q::Qt q.ip q.sp q.bp::Qh q.bp s.lays::Qi q.tp s.tab::Qf q.trp s.last s.par::RS q.rp s.rem::mp (ki .i64) Qp q.sm (s.sps.map VE)::star (s.sps.map (VJ q.sp))::mp (ki .i64) Qp q.mm (s.mns.map Qx)::star (s.mns.map Qy)::YQ p c mo v::fr)) (m:=s.own.length) ⟨rfl,0,0,0,by omega,rfl,by omega,by omega,by omega,⟨0,by omega,by omega⟩,rfl,rfl,rfl,rfl,rfl,H⟩ ?_
 clear H;rintro ms σ w n ⟨rfl,j,row,best,hj,rfl,hrj,hbj,hrow,hbest,g0,g3,g4,g13,g14,H⟩;rw[Q1 g0,Q1 g3,Q1 g4,Q1 g13,Q1 g14];refine J7 H ?_;refine Qk rfl (fun h=>QB ?_) (fun h=>Qq ?_)
 ·have hlt:j < s.own.length:=by omega
  refine KT H ?_;refine VX H ?_;rw[Qc (by omega)];refine VQ H ?_;refine AL H ?_;refine Jc rfl rfl (Hy q.sp s.size mem s.own j H hlt) ?_;clear H;rintro v w ⟨rfl,H⟩;refine J0 H ?_;by_cases h0:s.own.getD j 0=0
  ·rw[show (((s.own.getD j 0:Nat):Int) != 0)=false by rw[h0];rfl];refine AF H ?_;refine AX H ?_;rw[show (if ((row+1:Nat):Int) > ((best:Nat):Int) then ((row+1:Nat):Int) else ((best:Nat):Int))=((max best (row+1):Nat):Int) by split <;> omega];refine YA H ?_;rw[Qc (by omega)];refine⟨_,⟨rfl,j+1,row+1,max best (row+1),hlt,rfl,by omega,by omega,?_,?_,rfl,rfl,rfl,rfl,rfl,H⟩,by omega⟩
   ·intro i h1 h2;by_cases hij:i=j
    ·rw[hij];exact h0
    ·exact hrow i (by omega) (by omega)
   ·by_cases hb:row+1≤best
    ·obtain⟨a,h1,h2⟩:=hbest;rw[Nat.max_eq_left hb];exact⟨a,by omega,h2⟩
    ·rw[Nat.max_eq_right (by omega)];refine⟨j - row,by omega,fun i h1 h2=>?_⟩;by_cases hij:i=j
     ·rw[hij];exact h0
     ·exact hrow i (by omega) (by omega)
  ·rw[show (((s.own.getD j 0:Nat):Int) != 0)=true by rw[bne_iff_ne];omega];refine YD H ?_;refine J9 H ?_;refine AX H ?_;rw[show (if (0:Int) > ((best:Nat):Int) then (0:Int) else ((best:Nat):Int))=((best:Nat):Int) by split <;> omega];refine YA H ?_;rw[Qc (by omega)];obtain⟨a,h1,h2⟩:=hbest;exact⟨_,⟨rfl,j+1,0,best,hlt,rfl,by omega,by omega,by omega,⟨a,by omega,h2⟩,rfl,rfl,rfl,rfl,rfl,H⟩,by omega⟩
 ·obtain⟨a,h1,h2⟩:=hbest;refine J5 H ?_;replace H:=Js [1,1,1,0,0,0,0,0,0,0,0,0] 0 H;exact Q3 (Jy ((VR hw hm H).swap) rfl fun w' H'=>⟨best,rfl,⟨a,by omega,h2⟩,H'⟩)
theorem Nx (a b c d:Int) (e:Bool):veq [.int .i64 a,.int .i64 b,.int .i64 c,.int .i64 d,.bool e] [.int .i64 a,.int .i64 b,.int .i64 c,.int .i64 d,.bool e]=true:=by
 simp[veq]
theorem dc [Q4] (p c mo:Nat) (v:Value) (s:CS) (m:MS) (told:List (Nat×Nat)) (R:X9 s m told) (i g o:Int) (P:Vd s m told i g o) {w:World} {fr:List Q2} (H:Q0 w (YQ p c mo v::QA c s::Qs mo m::fr)) :
  Calls Tryz.prog 37 #[pp p,Yz i g,.int .i64 o] w (ret fun x w'=>x = .bool true∧Q0 w' (YQ p c mo v::QA c s::Qs mo m::fr)):=by
 have hT:=fun (w:World) (fr:List Q2) (H:Q0 w (QA c s::fr))=>cp c s i g H;rw[dN R P] at hT
 obtain⟨a1,a2,a3,a4,a5,a6,hsh⟩:∃ a1 a2 a3 a4 a5 a6,Nr (V7 m o) = .tuple #[.agg #[.int .i64 a1,.int .i64 a2,.int .i64 a3,.int .i64 a4,.bool a5],.int .i64 a6]:=by
  cases V7 m o <;> exact⟨_,_,_,_,_,_,rfl⟩
 refine Q9 Tryz.func37 rfl (by kernel_rfl) ?_;refine J8 H ?_;clear H;intro b4 w H;refine J0 H ?_;replace H:=Js [2,0,0,0] 0 H;refine J6 H ?_;refine Qo (fun ms σ w=>ms=[]∧∃ b7,σ 0=pp p∧σ 2 = .int .i64 o∧σ 7=pp b7∧σ 8 = .int .i64 a6∧Q0 w (pts b7 (row 71 [.int .i64 a1,.int .i64 a2,.int .i64 a3,.int .i64 a4,.bool a5])::YQ p c mo v::QA c s::Qs mo m::fr)) ?_ ?_
 ·refine J1 H ?_;clear H;intro w H;refine RP H ?_;refine Jw 5 9 H rfl rfl (V1 (a:=[]) (b:=[]) rfl rfl (call (hT _ _ H) ?_)) (Vo H rfl ?_)
  ·clear H;rintro v w ⟨rfl,H⟩;rw[hsh];refine RT H ?_;clear H;intro b7 w H;refine Ra H ?_;clear H;intro w H;refine GP H ?_;replace H:=Js [0,2,0,1] 1 H;exact⟨rfl,rfl,b7,rfl,rfl,rfl,rfl,H⟩
  ·clear H;intro b7 w H;refine Jo 5 H ?_;refine Jk rfl rfl (hT _ _ H.swap) ?_;clear H;rintro v w ⟨rfl,H⟩;rw[hsh];refine Rb H ?_;clear H;intro w H;refine GP H ?_;replace H:=Js [1,2,0,1] 1 H;exact⟨rfl,rfl,b7,rfl,rfl,rfl,rfl,H⟩
 clear H;rintro ms σ w ⟨rfl,b7,g0,g2,g7,g8,H⟩;rw[Q1 g0,Q1 g2,Q1 g7,Q1 g8];replace H:=Js [3,0,0,0] 0 H;refine VQ H ?_;refine Jc rfl rfl (B0 mo m o H) ?_;clear H;rintro v w ⟨rfl,H⟩
 cases hv:V7 m o with
 | none=>
  rw[hv] at hsh;cases hsh;refine XJ H ?_;refine Vq H ?_;refine CG H ?_;refine QT rfl rfl rfl (BS rfl rfl rfl rfl (.inl rfl) rfl ?_);refine J3 H ?_;replace H:=Js [2,2,0] 1 H;exact Q3 (Jy H rfl fun w' H'=>⟨congrArg Value.bool ((Cp _ _).trans (Nx 0 0 0 0 false)),H'⟩)
 | some nx=>
  obtain⟨n,x⟩:=nx;rw[hv] at hsh;cases hsh;obtain⟨rfl,hx,hh,hg⟩:=K5 hv;have hol:=(List.getElem?_eq_some_iff.1 hx).1;obtain⟨t,lc,aL,cL,bO,cO,sO,ptrs,q,vw,vk,vt,rest,hm,h2,hp,H,hclose⟩:=Gg H hx;have hm':=Rr hx hm;obtain⟨aw,cw,rfl⟩:=QF H.drop (Z4 _) (by decide);refine Y7 H ?_;refine VQ H ?_;refine AL H ?_;refine Jd ?_;refine Q5 rfl (QR H rfl hp rfl ?_);refine YZ H ?_;refine RZ H mixed ?_;clear H;intro w H;refine Ja 0 ?_;refine Ja 1 ?_;refine Ja 2 ?_;refine VP 3 [] H rfl (Q8.of rfl rfl rfl) rfl (by repeat first|exact .nil _|apply QV.cons rfl) (by kernel_rfl) ?_;refine EV H ?_;refine EO H ?_;refine Jl 11 [] H ?_;refine Kd H ?_;refine Jf 14 ?_;refine Jl 15 [] H ?_;refine Ja 16 ?_;refine Ja 17 ?_;refine Jf 18 ?_;refine Jl 19 [] H ?_;refine R9 20 rfl (Q8.of rfl rfl rfl) rfl (by kernel_rfl) ?_;refine Ja 21 ?_;refine Ja 22 ?_;refine Jf 23 ?_;refine Jl 24 [] H ?_;refine Zq 25 rfl (Q8.of rfl rfl rfl) rfl (by kernel_rfl) ?_;refine MB 26 rfl (Q8.of rfl rfl rfl) rfl rfl rfl rfl (.inl rfl) (by kernel_rfl) ?_;rw[Cp,Nx];refine Ja 27 ?_;refine Ja 28 ?_;refine Jx H ?_;replace H:=UX hx (hclose _ _ _ hm' H);replace H:=Js [2,2,0] 1 H;exact Q3 (Jy H rfl fun w' H'=>⟨rfl,H'⟩)
theorem Im:∀ {a b:List Nat},a.Pairwise (· < ·)→b.Pairwise (· < ·)→(∀ x,x∈a↔x∈b)→a=b
 | [],[],_,_,_=>rfl
 | [],y::b,_,_,h=>by have:=(h y).2 (by simp);cases this
 | x::a,[],_,_,h=>by have:=(h x).1 (by simp);cases this
 | x::a,y::b,ha,hb,h=>by
  rw[pairwise_cons] at ha hb
  have hxy:x=y:=by
   have h1:=(h x).1 (by simp);have h2:=(h y).2 (by simp);rw[mem_cons] at h1 h2
   rcases h1 with h1|h1
   ·exact h1
   ·rcases h2 with h2|h2
    ·exact h2.symm
    ·have:=hb.1 x h1;have:=ha.1 y h2;omega
  subst hxy;congr 1;refine Im ha.2 hb.2 fun z=>?_;have hz:=h z;rw[mem_cons,mem_cons] at hz;constructor
  ·intro h1;have:=ha.1 z h1
   rcases hz.1 (.inr h1) with h2|h2
   ·omega
   ·exact h2
  ·intro h1;have:=hb.1 z h1
   rcases hz.2 (.inr h1) with h2|h2
   ·omega
   ·exact h2
def K8 (l:QM) (i:Nat):List Nat:=l.recs.map (l.fixed+i*l.record+·)
def ZZ (l:QM) (c:Nat):List Nat:=l.refs++(List.range c).flatMap (K8 l)
theorem Ny {l:List Nat} {n:Nat} (h:X0 l n):l=(List.range n).filter (fun p=>decide (p∈l)):=by
 refine Im h.2 (List.Pairwise.filter _ pairwise_lt_range) fun x=>?_;rw[mem_filter,mem_range,decide_eq_true_eq];exact⟨fun hx=>⟨h.1 x hx,hx⟩,fun hx=>hx.2⟩
theorem Nz {l:QM} (hR:Vf l):∀ c:Nat,(c > 0→l.record≠0)→ZZ l c=(List.range (l.fixed+c*l.record)).filter (VU l)
 | 0,_=>by
  unfold ZZ;rw[Nat.zero_mul,Nat.add_zero,range_zero,flatMap_nil,append_nil];refine(Ny hR.2.2.2.1).trans (filter_congr fun x hx=>?_);unfold VU;rw[if_pos (mem_range.1 hx)]
 | c+1,h=>by
  have ih:=Nz hR c (fun _=>h (by omega));have hr:0 < l.record:=Nat.pos_of_ne_zero (h (by omega))
  have e:ZZ l (c+1)=ZZ l c++K8 l c:=by
   unfold ZZ;rw[range_succ,flatMap_append,append_assoc];simp
  have e3:List.range ((l.fixed+c*l.record)+l.record)=List.range (l.fixed+c*l.record)++(List.range l.record).map (l.fixed+c*l.record+·):=range_add;rw[e,ih,show l.fixed+(c+1)*l.record=(l.fixed+c*l.record)+l.record by rw[Nat.succ_mul];omega,e3,filter_append];congr 1;rw[filter_map];unfold K8;congr 1;refine(Ny hR.2.2.2.2).trans (filter_congr fun x hx=>?_);have hx:=mem_range.1 hx;show _=VU l (l.fixed+c*l.record+x);unfold VU;rw[if_neg (by omega),show l.fixed+c*l.record+x - l.fixed=x+l.record*c by rw[Nat.mul_comm];omega,Nat.add_mul_mod_self_left,Nat.mod_eq_of_lt hx]
theorem de [Q4] (vr vq:Value) (l:QM) (c:Nat) (h1:vr.oneCell'=true) (h2:vq.oneCell'=true) {w:World} {fr:List Q2} (H:Q0 w fr) :
  Calls Tryz.prog 187 #[Yy l.fixed vr l.record vq,.int .i64 c] w (ret fun v w'=>∃ b1 b2,v = .func (.func 238) #[] #[pp b1,pp b2]∧Q0 w' (pts b1 (row 102 [.int .i64 l.fixed,vr,.int .i64 l.record,vq])::pts b2 (row 3 [.int .i64 c])::fr)):=by
 refine Q9 Tryz.func187 rfl (by kernel_rfl) ?_;refine J8 H ?_;clear H;intro b2 w H;refine Ke H ?_;clear H;intro b3 w H;refine YA H ?_;exact Q3 (Jy H.swap rfl fun w' H'=>⟨b2,b3,rfl,H'⟩)
theorem df [Q4] (yl b1 b2:Nat) (vr vq:Value) (l:QM) (hR:Vf l) (c:Nat) {n:Nat} (hz:VG l c=(n,0)) (J:List Nat→Q2)
  (hy:∀ (ks:List Nat) (p:Nat) (rest:List Q2) (w:World),(∃ t,(List.range n).filter (VU l)=ks++p::t)→Q0 w (J ks::rest)→SL.Yields Tryz.prog yl #[.int .i64 p] w (fun v w'=>v = .bool true∧Q0 w' (J (ks++[p])::rest)))
  {w:World} {fr:List Q2} (H:Q0 w (J []::pts b1 (row 102 [.int .i64 l.fixed,vr,.int .i64 l.record,vq])::pts b2 (row 3 [.int .i64 c])::NL vr l.refs::NL vq l.recs::fr)) :
  Calls Tryz.prog 238 #[.func (.yield yl) #[] #[],pp b1,pp b2] w (ret fun _ w'=>Q0 w' (J ((List.range n).filter (VU l))::pts b1 (row 102 [.int .i64 l.fixed,vr,.int .i64 l.record,vq])::pts b2 (row 3 [.int .i64 c])::NL vr l.refs::NL vq l.recs::fr)):=by
 obtain⟨z1,z2,z3,z4,z5⟩:=I2 hz;have hall:=Nz hR c (by omega);rw[Int.toNat_natCast] at z3;rw[← z3] at hall;rw[← hall] at hy ⊢;have hfx:=hR.1;have hrc:=hR.2.1;have hl1:=X0.len hR.2.2.2.1;have hl2:=X0.len hR.2.2.2.2;obtain⟨ar,cr,rfl⟩:=QF (H.sel [3,0,0,0] 0) (QH _) (by decide);obtain⟨aq,cq,rfl⟩:=QF (H.sel [4,0,0,0,0] 0) (QH _) (by decide);refine Q9 Tryz.func238 rfl (by kernel_rfl) ?_;refine GJ H ?_;refine XC H ?_;replace H:=Js [3,3,0,0,0] 0 H;obtain⟨D1,H,hD1,hC1⟩:=sls_rd H (QH _) (by decide);obtain⟨D2,H,hD2,hC2⟩:=sls_rd H.swap (QH _) (by decide);refine Jc rfl rfl (CC _ _ l hR c ⟨(hD1 _).there,hD2 _⟩ H) ?_;clear H;rintro v w ⟨rfl,H⟩;rw[hz];replace H:=hC1 _ _ (hC2 _ _ H).swap;refine G4 H ?_;replace H:=Js [0,0,0,0,0] 0 H;refine AB H ?_;refine C9 H ?_;refine Qo (fun ms σ w=>ms=[]∧σ 0 = .func (.yield yl) #[] #[]∧σ 1=pp b1∧σ 4 = .int .i64 n∧Q0 w (NL (.slice ar l.refs.length cr) l.refs::NL (.slice aq l.recs.length cq) l.recs::J l.refs::pts b1 (row 102 [.int .i64 l.fixed,.slice ar l.refs.length cr,.int .i64 l.record,.slice aq l.recs.length cq])::pts b2 (row 3 [.int .i64 c])::fr)) ?_ ?_
 ·refine QP ?_;refine Ql (fun ms σ w z=>ms=[]∧∃ i:Nat,i≤l.refs.length∧z=l.refs.length - i∧σ 0 = .func (.yield yl) #[] #[]∧σ 1=pp b1∧σ 4 = .int .i64 n∧σ 20 = .slice ar l.refs.length cr∧σ 21 = .int .i64 l.refs.length∧σ 22 = .int .i64 i∧Q0 w (NL (.slice ar l.refs.length cr) l.refs::NL (.slice aq l.recs.length cq) l.recs::J (l.refs.take i)::pts b1 (row 102 [.int .i64 l.fixed,.slice ar l.refs.length cr,.int .i64 l.record,.slice aq l.recs.length cq])::pts b2 (row 3 [.int .i64 c])::fr)) (m:=l.refs.length) ⟨rfl,0,by omega,rfl,rfl,rfl,rfl,rfl,rfl,rfl,H⟩ ?_;clear H;rintro ms σ w z ⟨rfl,i,hi,rfl,g0,g1,g4,g20,g21,g22,H⟩;rw[Q1 g0,Q1 g1,Q1 g4,Q1 g20,Q1 g21,Q1 g22];refine J7 H ?_;refine Qk rfl (fun h=>QB ?_) (fun h=>Qq ?_)
  ·have hlt:i < l.refs.length:=by omega
   have hn:=getElem?_eq_getElem hlt;have htk:l.refs.take (i+1)=l.refs.take i++[l.refs[i]]:=by rw[take_add_one,hn];rfl
   have hdr:l.refs=l.refs.take i++l.refs[i]::l.refs.drop (i+1):=split_at hn;generalize l.refs[i]=p at hn htk hdr;obtain⟨bT,sT,rfl,H,hcl⟩:=V5 H (by omega);refine YW H ?_;refine Jd ?_;refine Q5 rfl (QR H rfl (G8 hn) rfl ?_);refine J0 H ?_;replace H:=hcl _ _ H;replace H:=Js [2,0,0,0,0] 0 H;refine J9 H ?_;refine Q5 rfl (R6 rfl rfl (SL.Yields.mono (hy (l.refs.take i) p _ _ ⟨l.refs.drop (i+1)++(List.range c).flatMap (K8 l),by unfold ZZ;rw[show l.refs.take i++p::(l.refs.drop (i+1)++(List.range c).flatMap (K8 l))=(l.refs.take i++p::l.refs.drop (i+1))++(List.range c).flatMap (K8 l) by simp,← hdr]⟩ H) ?_));clear H;rintro v w ⟨rfl,H⟩;refine Y7 H ?_;replace H:=Js [1,1,0,0,0] 0 H;refine J5 H ?_;rw[← htk] at H;exact⟨_,⟨rfl,i+1,hlt,rfl,rfl,rfl,rfl,rfl,rfl,Qc (by omega),H⟩,by omega⟩
  ·have hge:i=l.refs.length:=by omega
   subst hge;rw[take_length] at H;exact⟨rfl,rfl,rfl,rfl,rfl,H⟩
 clear H;rintro ms σ w ⟨rfl,g0,g1,g4,H⟩;rw[Q1 g0,Q1 g1,Q1 g4];refine AB H ?_;refine YZ H ?_;refine Qo (fun ms σ w=>ms=[]∧Q0 w (NL (.slice ar l.refs.length cr) l.refs::NL (.slice aq l.recs.length cq) l.recs::J (ZZ l c)::pts b1 (row 102 [.int .i64 l.fixed,.slice ar l.refs.length cr,.int .i64 l.record,.slice aq l.recs.length cq])::pts b2 (row 3 [.int .i64 c])::fr)) ?_ ?_
 ·refine QP ?_;refine Ql (fun ms σ w z=>ms=[]∧∃ i A:Nat,i≤c∧A=l.fixed+i*l.record∧z=c - i∧σ 0 = .func (.yield yl) #[] #[]∧σ 1=pp b1∧σ 4 = .int .i64 n∧σ 8 = .int .i64 A∧Q0 w (NL (.slice ar l.refs.length cr) l.refs::NL (.slice aq l.recs.length cq) l.recs::J (ZZ l i)::pts b1 (row 102 [.int .i64 l.fixed,.slice ar l.refs.length cr,.int .i64 l.record,.slice aq l.recs.length cq])::pts b2 (row 3 [.int .i64 c])::fr)) (m:=c) ⟨rfl,0,l.fixed,by omega,by omega,rfl,rfl,rfl,rfl,rfl,by unfold ZZ;rw[range_zero,flatMap_nil,append_nil];exact H⟩ ?_;clear H;rintro ms σ w z ⟨rfl,i,A,hi,hA,rfl,g0,g1,g4,g8,H⟩;rw[Q1 g0,Q1 g1,Q1 g4,Q1 g8];refine By H ?_;refine Qk rfl (fun h=>QB ?_) (fun h=>Qq ?_)
  ·have hic:i < c:=by
    refine Nat.lt_of_not_le fun hle=>?_;have:=Nat.mul_le_mul_right l.record hle;omega
   have hb:A+l.record≤n:=by
    have:=Nat.mul_le_mul_right l.record (Nat.succ_le_of_lt hic);rw[Nat.succ_mul] at this;omega
   have hAl:A < 8192:=by omega
   have hsucc:ZZ l (i+1)=ZZ l i++K8 l i:=by
    unfold ZZ;rw[range_succ,flatMap_append,append_assoc];simp
   have hpre:∃ t,ZZ l c=ZZ l i++K8 l i++t:=by
    rw[← hsucc];unfold ZZ;refine⟨((List.range (c - (i+1))).map (i+1+·)).flatMap (K8 l),?_⟩;rw[append_assoc,← flatMap_append,← range_add,show i+1+(c - (i+1))=c by omega]
   obtain⟨tl,hpre⟩:=hpre;refine J6 H ?_;refine Qo (fun ms σ w=>ms=[]∧σ 0 = .func (.yield yl) #[] #[]∧σ 1=pp b1∧σ 4 = .int .i64 n∧σ 8 = .int .i64 A∧Q0 w (NL (.slice ar l.refs.length cr) l.refs::NL (.slice aq l.recs.length cq) l.recs::J (ZZ l (i+1))::pts b1 (row 102 [.int .i64 l.fixed,.slice ar l.refs.length cr,.int .i64 l.record,.slice aq l.recs.length cq])::pts b2 (row 3 [.int .i64 c])::fr)) ?_ ?_
   ·refine QP ?_;refine AB H ?_;refine Ka H ?_;refine Ql (fun ms σ w z=>ms=[]∧∃ j:Nat,j≤l.recs.length∧z=l.recs.length - j∧σ 0 = .func (.yield yl) #[] #[]∧σ 1=pp b1∧σ 4 = .int .i64 n∧σ 8 = .int .i64 A∧σ 41 = .slice aq l.recs.length cq∧σ 42 = .int .i64 l.recs.length∧σ 43 = .int .i64 j∧Q0 w (NL (.slice ar l.refs.length cr) l.refs::NL (.slice aq l.recs.length cq) l.recs::J (ZZ l i++(l.recs.take j).map (l.fixed+i*l.record+·))::pts b1 (row 102 [.int .i64 l.fixed,.slice ar l.refs.length cr,.int .i64 l.record,.slice aq l.recs.length cq])::pts b2 (row 3 [.int .i64 c])::fr)) (m:=l.recs.length) ⟨rfl,0,by omega,rfl,rfl,rfl,rfl,rfl,rfl,rfl,rfl,by rw[take_zero,map_nil,append_nil];exact H⟩ ?_;clear H;rintro ms σ w z ⟨rfl,j,hj,rfl,g0,g1,g4,g8,g41,g42,g43,H⟩;rw[Q1 g0,Q1 g1,Q1 g4,Q1 g8,Q1 g41,Q1 g42,Q1 g43];refine J7 H ?_;refine Qk rfl (fun h=>QB ?_) (fun h=>Qq ?_)
    ·have hlt:j < l.recs.length:=by omega
     have hn:=getElem?_eq_getElem hlt;have htk:l.recs.take (j+1)=l.recs.take j++[l.recs[j]]:=by rw[take_add_one,hn];rfl
     have hdr:l.recs=l.recs.take j++l.recs[j]::l.recs.drop (j+1):=split_at hn;have hrl:=hR.2.2.2.2.1 l.recs[j] (getElem_mem _);generalize l.recs[j]=p at hn htk hdr hrl;replace H:=Js [1,0,0,0,0] 0 H;obtain⟨bT,sT,rfl,H,hcl⟩:=V5 H (by omega);refine YW H ?_;refine Jd ?_;refine Q5 rfl (QR H rfl (G8 hn) rfl ?_);refine J0 H ?_;replace H:=hcl _ _ H;replace H:=Js [2,0,0,0,0] 0 H;refine Xu H ?_;rw[Qb (x:=(A:Int)+(p:Int)) (by omega) (by omega),show (A:Int)+(p:Int)=((A+p:Nat):Int) by omega]
     refine Q5 rfl (R6 rfl rfl (SL.Yields.mono (hy (ZZ l i++(l.recs.take j).map (l.fixed+i*l.record+·)) (A+p) _ _ ⟨(l.recs.drop (j+1)).map (l.fixed+i*l.record+·)++tl,by
      rw[hpre];unfold K8
      conv=>lhs;rw[hdr]
      rw[hA];simp⟩ H) ?_))
     clear H;rintro v w ⟨rfl,H⟩;refine Y7 H ?_;replace H:=Js [2,1,0,0,0] 0 H;refine J5 H ?_;have e4:ZZ l i++(l.recs.take j).map (l.fixed+i*l.record+·)++[A+p]=ZZ l i++(l.recs.take (j+1)).map (l.fixed+i*l.record+·):=by rw[htk,hA];simp
     rw[e4] at H;exact⟨_,⟨rfl,j+1,hlt,rfl,rfl,rfl,rfl,rfl,rfl,rfl,Qc (by omega),H⟩,by omega⟩
    ·have hge:j=l.recs.length:=by omega
     subst hge;rw[take_length] at H;have e5:ZZ l i++l.recs.map (l.fixed+i*l.record+·)=ZZ l (i+1):=hsucc.symm;rw[e5] at H;exact⟨rfl,rfl,rfl,rfl,rfl,rfl,H⟩
   clear H;rintro ms σ w ⟨rfl,g0,g1,g4,g8,H⟩;rw[Q1 g0,Q1 g1,Q1 g4,Q1 g8];refine EP H ?_;refine J3 H ?_;refine⟨_,⟨rfl,i+1,A+l.record,hic,by rw[hA,Nat.succ_mul];omega,rfl,rfl,rfl,rfl,?_,H⟩,by omega⟩;show Value.int .i64 (IntKind.i64.wrap ((A:Int)+(l.record:Int)))=_;rw[Qb (by omega) (by omega)];rfl
  ·have hge:i=c:=by
    refine Nat.le_antisymm hi (Nat.le_of_not_lt fun hlt=>?_);have hrp:0 < l.record:=Nat.pos_of_ne_zero (z5 (by omega));have:=Nat.mul_lt_mul_of_pos_right hlt hrp;omega
   subst hge;exact⟨rfl,rfl,H⟩
 clear H;rintro ms σ w ⟨rfl,H⟩;replace H:=Js [2,2,2,0,0] 0 H;exact YV _ (.inl rfl) H rfl fun w' H'=>H'
def XQ (l:QM) (n:Nat):List Nat:=(List.range n).filter (VU l)
theorem Io {l:QM} {n p:Nat} {a t:List Nat} (h:XQ l n=a++p::t):p < n∧VU l p=true:=by
 have:p∈XQ l n:=by rw[h];simp
 unfold XQ at this;rw[mem_filter,mem_range] at this;exact this
structure O0 (ls:List QM) (size:Nat) (own:List Nat) (addr i c s n:Nat) (l:QM) (lk:Nat→Y4) (mem:List Nat):Prop where
 img:XT ls size mem own addr i c s n l
 link:∀ p,p < n→VU l p=true→Ga (lk p)∧mem.getD (addr+1+p) 0=VK (lk p)
theorem O1 [Q4] (ip:Nat) (addr:Nat) {w:World} {fr:List Q2} (H:Q0 w fr) :
  Calls Tryz.prog 113 #[pp ip,.int .i64 addr] w (ret fun v w'=>∃ b1 b2,v = .func (.func 186) #[] #[pp b1,pp b2]∧Q0 w' (pts b1 (row 36 [pp ip])::pts b2 (row 3 [.int .i64 addr])::fr)):=by
 refine Q9 Tryz.func113 rfl (by kernel_rfl) ?_;refine Yw H ?_;clear H;intro b2 w H;refine Ke H ?_;clear H;intro b3 w H;refine YA H ?_;exact Q3 (Jy H.swap rfl fun w' H'=>⟨b2,b3,rfl,H'⟩)
theorem O2 [Q4] (yl bm ba ip sp bp size:Nat) (ls:List QM) (own:List Nat) (addr i c s n:Nat) (l:QM) (lk:Nat→Y4) (F:List Nat→Prop) (hF:∀ mem,F mem→O0 ls size own addr i c s n l lk mem) (J:List Nat→Q2)
  (hy : ∀ (ks : List Nat) (p : Nat) (mem : List Nat) (rest : List Q2) (w : World), F mem → (∃ t, XQ l n = ks ++ p :: t) → Q0 w (J ks :: Qt ip sp bp :: Qh bp ls :: ST sp size mem own :: rest) →
   SL.Yields Tryz.prog yl #[.int .i64 p,Z5 (lk p)] w (fun v w'=>v = .bool true∧∃ mem',F mem'∧Q0 w' (J (ks++[p])::Qt ip sp bp::Qh bp ls::ST sp size mem' own::rest)))
  {mem:List Nat} (hm:F mem) {w:World} {fr:List Q2} (H:Q0 w (J []::pts bm (row 36 [pp ip])::pts ba (row 3 [.int .i64 addr])::Qt ip sp bp::Qh bp ls::ST sp size mem own::fr)) :
  Calls Tryz.prog 186 #[.func (.yield yl) #[] #[],pp bm,pp ba] w (ret fun _ w'=>∃ mem',F mem'∧Q0 w' (J (XQ l n)::pts bm (row 36 [pp ip])::pts ba (row 3 [.int .i64 addr])::Qt ip sp bp::Qh bp ls::ST sp size mem' own::fr)):=by
 have hR:=(hF _ hm).img.right;have hz:=(hF _ hm).img.siz;refine Q9 Tryz.func186 rfl (by kernel_rfl) ?_;refine Yw H ?_;clear H;intro b3 w H;refine J2 H ?_;refine Zl H ?_;refine ES H ?_;refine RN H ?_;replace H:=Js [4,4,4,0,0,0,0] 0 H;refine CU H ?_;refine Jc rfl rfl (IG ip sp bp size ls mem own addr i c s n l (hF _ hm).img H) ?_;clear H;rintro v w ⟨vr,vq,rfl,H⟩;obtain⟨ar,cr,rfl⟩:=QF H (QH _) (by decide);obtain⟨aq,cq,rfl⟩:=QF H.drop (QH _) (by decide);refine Bn H ?_;refine VZ H ?_;clear H;intro b4 w H;refine VZ H ?_;clear H;intro b5 w H;refine J4 H ?_;clear H;intro w H;refine J4 H ?_;clear H;intro w H;refine C7 H ?_;refine GJ H ?_;refine ZB H ?_;refine Jc rfl rfl (de _ _ l c rfl rfl H) ?_;clear H;rintro v w ⟨b1,b2,rfl,H⟩;refine RR H ?_;refine QP (XA (a:=[]) (b:=[pp b1,pp b2]) H rfl (fun yl2 D w H=>?_));generalize hL:LR _ yl2 _ _ _ _ D .ready=L at H ⊢;obtain⟨J2,hJ2⟩:∃ J2:List Nat→Q2,J2=fun ks=>ex fun mem':List Nat=>star [prop (F mem'),L,J ks,pts bm (row 36 [pp ip]),pts ba (row 3 [.int .i64 addr]),pts b3 (row 279 [.func (.yield yl) #[] #[]]),Qt ip sp bp,Qh bp ls,ST sp size mem' own]:=⟨_,rfl⟩
 have hin:∀ (ks:List Nat) (mem':List Nat) (w:World) (l':List Q2),F mem'→Q0 w (L::J ks::pts bm (row 36 [pp ip])::pts ba (row 3 [.int .i64 addr])::pts b3 (row 279 [.func (.yield yl) #[] #[]])::Qt ip sp bp::Qh bp ls::ST sp size mem' own::l')→Q0 w (J2 ks::l'):=by
  intro ks mem' w l' h H;rw[hJ2];exact Q0.ex.2 ⟨mem',Q0.star.2 (Q0.prop.2 ⟨h,H⟩)⟩
 have hout:∀ (ks:List Nat) (w:World) (l':List Q2),Q0 w (J2 ks::l')→∃ mem',F mem'∧Q0 w (L::J ks::pts bm (row 36 [pp ip])::pts ba (row 3 [.int .i64 addr])::pts b3 (row 279 [.func (.yield yl) #[] #[]])::Qt ip sp bp::Qh bp ls::ST sp size mem' own::l'):=by
  intro ks w l' H;rw[hJ2] at H;obtain⟨mem',H⟩:=Q0.ex.1 H;exact⟨mem',Q0.prop.1 (Q0.star.1 H)⟩
 replace H:=Js [0,11,11,11,10,7,7,7,1,1,3,3,0] 2 H;replace H:=hin [] mem _ _ hm H;refine call (df yl2 b1 b2 _ _ l hR c hz J2 ?_ H) ?_
 ·clear H;intro ks p rest w hpre H;obtain⟨mem',hm',H⟩:=hout _ _ _ H;obtain⟨t,hpre⟩:=hpre;obtain⟨hpn,hpr⟩:=Io hpre
  have hpl:QO l n (p:Int) true=0:=by
   unfold QO;rw[if_neg (by omega),Int.toNat_natCast,if_neg (by rw[hpr];decide)]
  have hyy:=fun (w:World) (rest:List Q2)=>hy ks p mem' rest w hm' ⟨t,hpre⟩;obtain⟨a1,a2,a3,hkv⟩:=Gy (lk p);rw[hkv] at hyy;subst hL;refine UF (args:=[.int .i64 p]) H rfl rfl ?_;refine VB H ?_;refine⟨rfl,_,H,fun w H=>QP ?_⟩;replace H:=Js [5,5,5,0,0,0,0,0] 0 H;refine CU H ?_;refine Jv ?_;refine Jc rfl rfl (NZ ip sp bp size ls mem' own addr i c s n l (hF _ hm').img p (lk p) (fun _=>by rw[Int.toNat_natCast];exact(hF _ hm').link p hpn hpr) (fun h=>absurd hpl h) H) ?_;clear H;rintro v w ⟨rfl,H⟩;rw[hpl,hkv];refine Vj H ?_;clear H;intro b9 w H;refine J4 H ?_;clear H;intro w H;refine J0 H ?_;replace H:=Js [5,1,1,1,1,1,1,1,0] 0 H;refine GS H ?_;refine RL H ?_;refine Q5 rfl (R6 rfl rfl (SL.Yields.mono (hyy _ _ H) ?_));clear H;rintro v w ⟨rfl,mem'',hm'',H⟩;refine Y7 H ?_;replace H:=Js [4,0,3,3,3,0,0,0] 1 H;exact⟨rfl,_,H,fun w H=>⟨rfl,hin _ _ _ _ hm'' H⟩⟩
 ·clear H;rintro v w H;obtain⟨mem',hm',H⟩:=hout _ _ _ H;subst hL;refine⟨_,H,fun w H=>?_⟩;replace H:=Js [11,0,0,0,1,1,1] 5 H;exact R5 (ms:=[D]) _ (.inl rfl) ((Q0.star (k:=[pts D (.deferred (some []))])).2 H) rfl fun w' H'=>⟨mem',hm',H'⟩
def Used (ts:List QX) (i:Int):Prop:=∃ (k n:Nat) (e:Q7),i=k∧ts[k]? = some ⟨n,some e⟩
def Vb (e:Q7) (p:Nat):Y4:=ZF (e.ws.getD p 0)
theorem O3 {s:CS} (h:WF s) {mem:List Nat} (m:Va s mem) {k g:Nat} {e:Q7} (hk:s.tab[k]? = some ⟨g,some e⟩):O0 s.lays s.size s.own e.addr e.lay e.count k e.ws.length (QN s e) (Vb e) mem:=
 ⟨Xc h m hk, fun p hp hr => by
  have h1:=NT h hk hp hr;exact⟨h1.1,by rw[ID h m hk hp];exact h1.2⟩⟩
end Go.Proofs.YtmjdnljneifpcaaGreatDoor
