/- Cells: what is proved on the way: every input of the statement; no condition. Texts joined: JoiH BumH StoE ImgE. -/
import Derived.Test.YtbnnnljagkjpiaaGreatDoorBgf
import Derived.Test.YtbnnnljagkjpiaaGreatDoorBgu
import Derived.Test.YtbnnnljagkjpiaaGreatDoorBgp
import Derived.Test.YtbnnnljagkjpiaaGreatDoorBgt
import Derived.Test.YtbnnnljagkjpiaaGreatDoorBgh
import Derived.Test.YtbnnnljagkjpiaaGreatDoorBgj
set_option linter.unusedVariables false
set_option linter.unusedSimpArgs false
set_option linter.unusedSectionVars false
namespace Go.Proofs.YtbnnnljagkjpiaaGreatDoor
open List
open Go.SL
theorem Oz {V:Type} {l:List (Int×Nat×V)} (hnd:(l.map fun z=>z.1).Nodup) {x y:Int} (hx:x∈l.map fun z=>z.1) (hy:y∈l.map fun z=>z.1) (hne:y≠x) :
  ∃ (bx:Nat) (X:V) (a1 a2:List (Int×Nat×V)) (bY:Nat) (Y:V) (c1 c2:List (Int×Nat×V)),l=a1++(x,bx,X)::a2∧a1++a2=c1++(y,bY,Y)::c2∧QY (l.map fun z=>(z.1,z.2.1)) x=some bx∧QY (l.map fun z=>(z.1,z.2.1)) y=some bY:=by
 obtain⟨⟨x',bx,X⟩,h1,h2⟩:=mem_map.1 hx;have h2:x'=x:=h2;subst h2;obtain⟨a1,a2,h3⟩:=append_of_mem h1;obtain⟨⟨y',bY,Y⟩,h4,h5⟩:=mem_map.1 hy;have h5:y'=y:=h5;subst h5
 have h6:(y',bY,Y)∈a1++a2:=by
  rw[h3] at h4
  rcases G8 h4 with h7|h7
  ·injection h7 with h7 _
   exact absurd h7 hne
  ·exact h7
 obtain⟨c1,c2,h7⟩:=append_of_mem h6;have hnd2:((l.map fun z=>(z.1,z.2.1)).map (·.1)).Nodup:=by rw[map_map];exact hnd
 exact⟨bx,X,a1,a2,bY,Y,c1,c2,h3,h7,(Z1 hnd2).2 (mem_map.2 ⟨_,h1,rfl⟩),(Z1 hnd2).2 (mem_map.2 ⟨_,h4,rfl⟩)⟩
def Ul (id q:Int) (ts:List QK) (ks:List Nat):List QK:=ts.mapIdx fun k t=>if k∈ks then Zu id q t else t
theorem Cu (id q:Int) (ts:List QK) (ks:List Nat) (k:Nat):(Ul id q ts ks)[k]? = (ts[k]?).map fun t=>if k∈ks then Zu id q t else t:=getElem?_mapIdx
theorem gY (id q:Int) (ts:List QK):Ul id q ts []=ts:=by
 apply ext_getElem?;intro i;rw[Cu];cases ts[i]? <;> simp
theorem gZ {id q:Int} {ts:List QK} {ks:List Nat} {k g:Nat} {e:Q8} (hk:ts[k]? = some ⟨g,some e⟩) (hr:e.region=id):(Ul id q ts ks).set k ⟨g,some { e with region:=q,addr:=e.addr }⟩=Ul id q ts (ks++[k]):=by
 have hkl:=(List.getElem?_eq_some_iff.1 hk).1;apply ext_getElem?;intro i;rw[getElem?_set,Cu,Cu];by_cases h:k=i
 ·subst h;rw[if_pos rfl,if_pos (by unfold Ul;rw[length_mapIdx];exact hkl),hk];simp only[Option.map_some];rw[if_pos (mem_append.2 (.inr (by simp)))];unfold Zu Yp;simp only[Option.map_some];rw[if_pos hr]
 ·rw[if_neg h];cases ts[i]? with
  | none=>rfl
  | some t=>
   have h2:i∈ks++[k]↔i∈ks:=by
    rw[mem_append,mem_singleton];exact⟨fun h4=>h4.elim (fun h=>h) fun h5=>absurd h5.symm h,.inl⟩
   simp only[Option.map_some,h2]
theorem gG {id q:Int} {ts:List QK} {M:List Nat} (hM:∀ i,i∈M↔∃ g e,ts[i]? = some ⟨g,some e⟩∧e.region=id):Ul id q ts M=ts.map (Zu id q):=by
 apply ext_getElem?;intro i;rw[Cu,getElem?_map];cases ht:ts[i]? with
 | none=>rfl
 | some t=>
  simp only[Option.map_some];by_cases h:i∈M
  ·rw[if_pos h]
  ·rw[if_neg h];obtain⟨g,e0⟩:=t;cases e0 with
   | none=>rfl
   | some e=>
    have hne:e.region≠id:=fun h1=>h ((hM i).2 ⟨g,e,ht,h1⟩);unfold Zu Yp;simp only[Option.map_some];rw[if_neg hne]
set_option maxRecDepth 10000 in
theorem gU [Q4] (p:Nat) (s:CS) (region q:Int) (hid:QY s.par region=some q) (hT:Yo s.par) {w:World} {fr:List Q2} (H:Q0 w (QW p s::fr)) :
  Calls Tryz.prog 14 #[pp p,.int .i64 region] w (ret fun v w'=>(q=0∧v = .tuple #[.int .i64 0,.int .i64 16]∧Q0 w' (QW p s::fr))∨(q≠0∧v = .tuple #[.int .i64 q,.int .i64 0]∧∃ s',Ay s region q s'∧Q0 w' (QW p s'::fr))):=by
 obtain⟨u,mem,hw,hm,H⟩:=Vz H;obtain⟨hq1,hq2,hq3⟩:=hT.up _ _ hid;refine QQ Tryz.func14 rfl (by kernel_rfl) ?_;refine Yv H ?_;clear H;intro b2 w H;refine J3 H ?_;replace H:=Js [6,1,0,0,0,0,0] 0 H;refine Ux H ?_;refine Jc rfl rfl (FJ p u s.last s.par region H) ?_;clear H;rintro v w ⟨rfl,H⟩;rw[hid];refine Yl H ?_;refine Uz H ?_;refine Jc rfl rfl (dq u.trp s.last s.par region hT.nd (by have:=hw.par.1;omega) H) ?_;clear H;rintro v w (⟨h1,_,_⟩|⟨h1,rfl,H⟩|⟨q',par',h1,hq0,hP,rfl,H⟩)
 ·rw[hid] at h1;cases h1
 ·rw[hid] at h1;injection h1 with h1
  refine Ve H ?_;clear H;intro b7 w H;refine CQ H ?_;clear H;intro w H;refine AN H ?_;replace H:=Js [2,3,3,3,3,1,2,2,2,2,2] 2 H;exact Q3 (Jy H rfl fun w' H' => .inl ⟨h1,rfl,VY hw hm H'⟩)
 rw[hid] at h1;injection h1 with h1
 subst h1;refine Ve H ?_;clear H;intro b7 w H;refine CQ H ?_;clear H;intro w H;refine Yl H ?_;replace H:Q0 w (pts b7 (row 3 [.int .i64 q])::_):=H;have hrk:region∈s.par.map (·.1):=Wc (by rw[hid];rfl);have hqk:q∈s.par.map (·.1):=Wc (hq3.resolve_left hq0);have hne:q≠region:=by omega
 obtain⟨bi,T,a1,a2,bq,S,c1,c2,hs1,hs2,hkS1,hkS2⟩:=Oz (l:=s.sps) (by rw[hw.skeys];exact hT.nd) (x:=region) (y:=q) (by rw[hw.skeys];exact hrk) (by rw[hw.skeys];exact hqk) hne;obtain⟨gi,M,d1,d2,gq,N,e1,e2,hm1,hm2,hkM1,hkM2⟩:=Oz (l:=s.mns) (by rw[hw.mkeys];exact hT.nd) (x:=region) (y:=q) (by rw[hw.mkeys];exact hrk) (by rw[hw.mkeys];exact hqk) hne;have hkS1':QY (s.sps.map VJ) region=some bi:=hkS1;have hkS2':QY (s.sps.map VJ) q=some bq:=hkS2;have hkM1':QY (s.mns.map V0) region=some gi:=hkM1;have hkM2':QY (s.mns.map V0) q=some gq:=hkM2
 have hSm:(q,bq,S)∈s.sps:=by
  have h1:(q,bq,S)∈a1++a2:=by rw[hs2];simp
  rw[hs1];exact X5 h1
 have hNm:(q,gq,N)∈s.mns:=by
  have h1:(q,gq,N)∈d1++d2:=by rw[hm2];simp
  rw[hm1];exact X5 h1
 obtain⟨t1,t2,t3,t4,t5,t6⟩:=Aw hw (x:=(region,bi,T)) (by rw[hs1];simp);obtain⟨s1,_,_,_,_,_⟩:=Aw hw hSm;have t1:T.parts.length≤63:=t1;have s1:S.parts.length≤63:=s1;have hMm:=hw.mine (region,gi,M) (by rw[hm1];simp);have hNn:=hw.mine _ hNm
 have hbl:∀ L:List Nat,L.Pairwise (· < ·)→(∀ y∈L,y < s.tab.length)→L.length≤64:=fun L h1 h2=>by
  have:=Rm L 0 64 (fun y hy=>⟨Nat.zero_le _,by have:=h2 y hy;have:=hw.slots.2;omega⟩) h1;omega
 have hMt:∀ y∈M,y < s.tab.length:=fun y hy=>by
  obtain⟨g,f,h3,_⟩:=(hMm.2 y).1 hy;exact(List.getElem?_eq_some_iff.1 h3).1
 have hNt:∀ y∈N,y < s.tab.length:=fun y hy=>by
  obtain⟨g,f,h3,_⟩:=(hNn.2 y).1 hy;exact(List.getElem?_eq_some_iff.1 h3).1
 replace H:=Js [10,6,0,1,1,1,1,1,1,1,1,1,0] 0 H;replace H:Q0 w (Qm bi u.sp region.toNat T::star ((a1++a2).map (VL u.sp))::_):=(Q0.pick (R:=VL u.sp) (x:=(region,bi,T)) hs1).1 H;replace H:=Js [1,0] 0 H;replace H:Q0 w (Qm bq u.sp q.toNat S::star ((c1++c2).map (VL u.sp))::_):=(Q0.pick (R:=VL u.sp) (x:=(q,bq,S)) hs2).1 H;replace H:=Js [0,1,1,0] 0 H;refine J1 H ?_;clear H;intro w H;refine Jl 0 [12] H ?_;refine G4 H ?_;refine Jl 3 [12] H ?_;refine Jl 4 [12] H ?_;refine Xl 5 [12] (key:=q) H rfl (Q7.none rfl) rfl rfl Vf (by kernel_rfl) ?_;rw[hkS2'];refine Jl 6 [12] H ?_;refine Ja 7 ?_;refine Jf 8 ?_;refine Jl 9 [12] H ?_;refine Ja 10 ?_;refine Xl 11 [12] (key:=region) H rfl (Q7.none rfl) rfl rfl Vf (by kernel_rfl) ?_;rw[hkS1'];have hJ:=O1 bq bi u.sp q.toNat region.toNat S T s.size mem s.own (by omega) (by omega) (by omega) hw.own.2 t2 t5 H;refine Jo 12 H ?_;refine Jk rfl rfl (hJ) ?_;clear H hJ;rintro v w ⟨rfl,own',hol,hog,H⟩;refine Jx H ?_;replace H:=Js [13,0,0,0,0,0,0,0,0,0,0,0,0,0] 0 H;replace H:Q0 w (Qu gi M::star ((d1++d2).map V8)::_):=(Q0.pick (R:=V8) (x:=(region,gi,M)) hm1).1 H;replace H:=Js [1,0] 0 H;replace H:Q0 w (Qu gq N::star ((e1++e2).map V8)::_):=(Q0.pick (R:=V8) (x:=(q,gq,N)) hm2).1 H;replace H:=Js [2,0,0] 0 H;have hMlen:=hbl M hMm.1 hMt;refine Uz H ?_;refine Q5 rfl (G0 (key:=region) H rfl rfl Vf rfl ?_);rw[hkM1'];refine Jc rfl rfl (FU gi M (by omega) H) ?_;clear H;rintro v w ⟨bv,av,cv,rfl,H⟩;refine AV H ?_
 refine Qk (fun ms σ w=>∃ (D2:Nat) (N':List Nat),ms=[D2]∧N'.Pairwise (· < ·)∧(∀ j,j∈N'↔j∈M∨j∈N)∧σ 1 = .int .i64 region∧σ 2=pp b2∧σ 7=pp b7 ∧
  Q0 w (Qg u.tp (Ul region q s.tab M)::Qt p u::mp (ki .i64) Qo u.mm (s.mns.map V0)::Qu gq N'::pts b2 (row 45 [pp p])::pts b7 (row 3 [.int .i64 q])::star ((e1++e2).map V8)::Qm bq u.sp q.toNat (ZQ S T)::ST u.sp s.size mem own'::star ((c1++c2).map (VL u.sp))::Qr u.ip u.sp u.bp::Qi u.bp s.lays::RS u.rp s.rem::mp (ki .i64) Qo u.sm (s.sps.map VJ)::Qf u.trp s.last par'::pts D2 (.deferred (some []))::fr)) ?_ ?_
 ·refine QP (Xn (a:=[]) (b:=[pp bv]) H rfl (fun yl D2 w H=>?_));generalize hL:LR _ yl _ _ _ _ D2 .ready=LRR at H ⊢;obtain⟨J,hJ⟩:∃ J:List Nat→Q2,J=fun ks=>ex fun y:List Nat×List Nat=>star [prop (y.1.Pairwise (· < ·)∧y.1.length≤1000∧y.2.Pairwise (· < ·)∧∀ j,j∈y.2↔j∈ks∨j∈N),LRR,Qg u.tp (Ul region q s.tab ks),Qt p u,mp (ki .i64) Qo u.mm (s.mns.map V0),Qu gi y.1,Qu gq y.2,pts b2 (row 45 [pp p]),pts b7 (row 3 [.int .i64 q])]:=⟨_,rfl⟩
  have hin:∀ (ks M1 N1:List Nat) (w:World) (l':List Q2),(M1.Pairwise (· < ·)∧M1.length≤1000∧N1.Pairwise (· < ·)∧∀ j,j∈N1↔j∈ks∨j∈N)→Q0 w (LRR::Qg u.tp (Ul region q s.tab ks)::Qt p u::mp (ki .i64) Qo u.mm (s.mns.map V0)::Qu gi M1::Qu gq N1::pts b2 (row 45 [pp p])::pts b7 (row 3 [.int .i64 q])::l')→Q0 w (J ks::l'):=by
   intro ks M1 N1 w l' h H;rw[hJ];exact Q0.ex.2 ⟨(M1,N1),Q0.star.2 (Q0.prop.2 ⟨h,H⟩)⟩
  have hout:∀ (ks:List Nat) (w:World) (l':List Q2),Q0 w (J ks::l')→∃ M1 N1,(M1.Pairwise (· < ·)∧M1.length≤1000∧N1.Pairwise (· < ·)∧∀ j,j∈N1↔j∈ks∨j∈N)∧Q0 w (LRR::Qg u.tp (Ul region q s.tab ks)::Qt p u::mp (ki .i64) Qo u.mm (s.mns.map V0)::Qu gi M1::Qu gq N1::pts b2 (row 45 [pp p])::pts b7 (row 3 [.int .i64 q])::l'):=by
   intro ks w l' H;rw[hJ] at H;obtain⟨⟨M1,N1⟩,H⟩:=Q0.ex.1 H;exact⟨M1,N1,Q0.prop.1 (Q0.star.1 H)⟩
  replace H:=Js [0,15,11,16,3,3,9,8,1,1,1,1,1,1,1,1,1,1,1,1,0] 0 H;rw[← gY region q s.tab] at H;replace H:=hin [] M N _ _ ⟨hMm.1,by omega,hNn.1,fun j=>by simp⟩ H;refine call (FX yl bv av cv M (by omega) J ?_ H) ?_
  ·clear H;intro ks k tt rest w hpre H;obtain⟨M1,N1,⟨hM1,hM2,hN1,hN2⟩,H⟩:=hout _ _ _ H;subst hL;have hkM:k∈M:=by rw[hpre];simp
   have hkn:k∉ks:=fun h=>by
    have h1:=hMm.1;rw[hpre,pairwise_append] at h1;have:=h1.2.2 k h k mem_cons_self;omega
   obtain⟨g,e,hk,her⟩:=(hMm.2 k).1 hkM;have her:e.region=region:=her
   have hk':(Ul region q s.tab ks)[k]? = some ⟨g,some e⟩:=by
    rw[Cu,hk];simp only[Option.map_some];rw[if_neg hkn]
   have hkN:k∉N1:=fun h=>by
    rcases (hN2 k).1 h with h|h
    ·exact hkn h
    ·obtain⟨g',e',h1,h2⟩:=(hNn.2 k).1 h;rw[hk] at h1;injection h1 with h1
     injection h1 with _ h1
     injection h1 with h1
     subst h1;have h2:e.region=q:=h2;omega
   have hN1l:N1.length≤64:=hbl N1 hN1 fun y hy=>by
    rcases (hN2 y).1 hy with h|h
    ·exact hMt y (by rw[hpre];exact mem_append.2 (.inl h))
    ·exact hNt y h
   refine XX (args:=[.int .i64 k]) H rfl rfl ?_;refine VF H ?_;refine⟨rfl,_,H,fun w H=>QP ?_⟩;generalize hLB:LR _ yl _ _ _ _ D2 .busy=LB at H ⊢;replace H:=Js [1,1,0] 0 H;refine Ux H ?_;refine Jc rfl rfl (IC p u (Ul region q s.tab ks) k g e hk' H) ?_;clear H;rintro v w ⟨rfl,H⟩;refine Ve H ?_;clear H;intro b10 w H;refine VZ H ?_;clear H;intro b11 w H;refine J5 H ?_;clear H;intro w H;refine J5 H ?_;clear H;intro w H;refine J2 H ?_;refine Ux H ?_;refine Xo H ?_;refine ZW H ?_;replace H:=Js [2,2,3,3,3,2,2,2,0,0] 0 H;refine Jc rfl rfl (Ox p u (Ul region q s.tab ks) (s.mns.map V0) k g e hk' q e.addr gi gq M1 N1 (by rw[her];exact hkM1') hkM2' hM1 hM2 hN1 (by omega) hkN H) ?_;clear H;rintro v w ⟨rfl,H⟩;rw[gZ hk her] at H;refine J2 H ?_;subst hLB;replace H:=Js [5,0,0,0,0,0,0,0] 2 H;refine⟨rfl,_,H,fun w H=>⟨rfl,hin _ _ _ _ _ ⟨hM1.filter _,Nat.le_trans (length_filter_le _ _) hM2,FY hN1 hkN,fun j=>?_⟩ H⟩⟩;rw[FV,hN2,mem_append,mem_singleton];constructor
   ·rintro(h|h|h)
    ·exact .inl (.inr h)
    ·exact .inl (.inl h)
    ·exact .inr h
   ·rintro((h|h)|h)
    ·exact .inr (.inl h)
    ·exact .inl h
    ·exact .inr (.inr h)
  ·clear H;rintro v w H;obtain⟨M1,N1,⟨hM1,hM2,hN1,hN2⟩,H⟩:=hout _ _ _ H;subst hL;refine⟨_,H,fun w H=>?_⟩;replace H:=Js [0,0,0,1,1,1,3,3,4,4,4,4,4,4,4,4] 4 H;exact⟨rfl,D2,N1,rfl,hN1,hN2,rfl,rfl,rfl,H⟩
 clear H;rintro ms σ w ⟨D2,N',rfl,hN1,hN2,g1,g2,g7,H⟩;rw[Q1 g1,Q1 g2,Q1 g7];rw[gG hMm.2] at H;refine Uz H ?_;refine Q5 rfl (Xk (key:=region) H rfl rfl Vf rfl ?_);clear H;intro w H;refine J2 H ?_;refine Uz H ?_;refine Q5 rfl (Xk (key:=region) H rfl rfl Vf rfl ?_);clear H;intro w H;refine J2 H ?_
 have hkeyS:QC (s.sps.map VJ) region=(c1++(q,bq,ZQ S T)::c2).map VJ:=by
  have h1:((s.sps.map VJ).map (·.1)).Nodup:=by rw[map_map];show (s.sps.map fun z=>z.1).Nodup;rw[hw.skeys];exact hT.nd
  rw[hs1,map_append,map_cons] at h1 ⊢;rw[WO (p:=(region,bi)) h1,← map_append,hs2,map_append,map_append,map_cons,map_cons]
 have hkeyM:QC (s.mns.map V0) region=(e1++(q,gq,N')::e2).map V0:=by
  have h1:((s.mns.map V0).map (·.1)).Nodup:=by rw[map_map];show (s.mns.map fun z=>z.1).Nodup;rw[hw.mkeys];exact hT.nd
  rw[hm1,map_append,map_cons] at h1 ⊢;rw[WO (p:=(region,gi)) h1,← map_append,hm2,map_append,map_append,map_cons,map_cons]
 rw[hkeyS,hkeyM] at H;replace H:=Js [7,8,0,0,0,0,0,0,0,0,0,0,0,0,0,0] 0 H;replace H:=(Q0.pick (R:=VL u.sp) (x:=(q,bq,ZQ S T)) (gs:=c1++(q,bq,ZQ S T)::c2) (g1:=c1) (g2:=c2) rfl).2 H;replace H:=Js [4,6,0,0,0,0,0,0,0,0,0,0,0,0,0] 0 H;replace H:=(Q0.pick (R:=V8) (x:=(q,gq,N')) (gs:=e1++(q,gq,N')::e2) (g1:=e1) (g2:=e2) rfl).2 H;have hwf:=dr hw hT.nd hne.symm hP hs1 hs2 hm1 hm2 hol hog hN1 hN2 s.rem;have hmem:VT { s with own:=own',tab:=s.tab.map (Zu region q),par:=par',rem:=s.rem,sps:=c1++(q,bq,ZQ S T)::c2,mns:=e1++(q,gq,N')::e2 } mem:=dt hm hol rfl rfl;have hpart:Y0 s→Y0 { s with own:=own',tab:=s.tab.map (Zu region q),par:=par',rem:=s.rem,sps:=c1++(q,bq,ZQ S T)::c2,mns:=e1++(q,gq,N')::e2 }:=fun h=>du h (by rw[hw.skeys];exact hT.nd) hs1 hs2 rfl rfl rfl;have hnd:=Au (H.pull 10);replace H:=Js [3,7,7,6,2,7,5,5,1,1,0,0,0,0] 0 H;replace H:=VY hwf hmem H;refine C4 H ?_;refine GJ H ?_;clear H;intro bS w H;replace H:Q0 w (pts bS (row 3 (Qe [q]++[]))::_):=H;replace H:=ZK (E:=3) (k:=1) (len:=1) (cap:=1) (c:=Qe [q]) (spare:=[]) rfl ⟨by decide,by decide⟩ (by decide) H;have hrec:=Oy p { s with own:=own',tab:=s.tab.map (Zu region q),par:=par',rem:=s.rem,sps:=c1++(q,bq,ZQ S T)::c2,mns:=e1++(q,gq,N')::e2 } s.rem hnd _ [q] (fun x hx=>by rw[mem_singleton] at hx;subst hx;simp) (by simp) H;refine Jc rfl rfl (hrec) ?_;clear H hrec;rintro v w ⟨rfl,D,R',hD,hN,H⟩;refine J2 H ?_;refine Zg H ?_;refine J3 H ?_;replace H:=Js [3,0] 2 H;refine Q3 (Kx (ms:=[D2]) _ (.inr rfl) ((Q0.star (k:=[pts D2 (.deferred (some []))])).2 H) rfl fun w' H' => .inr ⟨hq0,rfl,{ s with own:=own',tab:=s.tab.map (Zu region q),par:=par',rem:=R',sps:=c1++(q,bq,ZQ S T)::c2,mns:=e1++(q,gq,N')::e2 },⟨rfl,hol,rfl,rfl,hP,rfl,⟨D,fun r=>?_,⟨hN.nd,hN.on,hN.off⟩⟩,hpart⟩,H'⟩);rw[hD r];constructor
 ·rintro⟨k,g,e,h1,h2,h3⟩;exact⟨k,g,e,⟨g,e,h1,mem_singleton.1 h2⟩,h1,h3⟩
 ·rintro⟨k,g,e,⟨g',e',h1,h2⟩,h3,h4⟩;refine⟨k,g,e,h3,?_,h4⟩;have h1:=h1.symm.trans h3;injection h1 with h1
  injection h1 with _ h1
  injection h1 with h1
  rw[← h1,h2];exact mem_singleton.2 rfl
theorem gX [Q4] (p o sp owner owner2:Nat) (S T:QF) (size:Nat) (mem own:List Nat) {A B:List (Nat×Nat)} {c n:Nat} (hSp:S.parts=A++(c,n)::B) (hA:∀ y∈A,y.1≠c) (hn2:2≤n) (ho:1≤owner2) (hS:S.parts.length≤1000) (hT:T.parts.length≤1000) (h63:own.length≤63)
  (hcn:c+n≤own.length) (hown:∀ d,c≤d→d < c+n→own.getD d 0≠0) {w:World} {fr:List Q2} (H:Q0 w (Qm p sp owner S::Qm o sp owner2 T::ST sp size mem own::fr)) :
  Calls Tryz.prog 58 #[pp p,pp o,.int .i64 c] w (ret fun v w'=>v = .int .i64 0∧Q0 w' (Qm p sp owner { S with parts:=A++B }::Qm o sp owner2 { T with parts:=T.parts++[(c,n)] }::ST sp size mem (V7 own c n owner2)::fr)):=by
 have hf:K5 S.parts c=some (c,n):=by
  unfold K5;rw[hSp,find?_append,find?_eq_none.2 (fun y hy=>by simpa using hA y hy),find?_cons_of_pos (by simp)];rfl
 have hk:S.parts[A.length]? = some (c,n):=by rw[hSp,getElem?_append_right (Nat.le_refl _),Nat.sub_self];rfl
 have htk:S.parts.take A.length=A:=by rw[hSp,take_left'];rfl
 have hdr:S.parts.drop (A.length+1)=B:=by
  rw[hSp,show A++(c,n)::B=(A++[(c,n)])++B by simp,drop_left'];simp
 refine QQ Tryz.func58 rfl (by kernel_rfl) ?_;refine Uw H ?_;refine Jc rfl rfl (O0 p o sp owner owner2 S T H) ?_;clear H;rintro v w ⟨rfl,H⟩;refine Yl H ?_;refine J9 H ?_;refine Jc rfl rfl (II p sp owner S c (by omega) H) ?_;clear H;rintro v w ⟨rfl,H⟩;rw[hf];refine Ve H ?_;clear H;intro b8 w H;refine J5 H ?_;clear H;intro w H;refine E6 H ?_;refine U9 H ?_;rw[show (((n:Nat):Int) == (1:Int))=false by rw[beq_eq_false_iff_ne];omega];refine Vx H ?_;refine Gv H ?_;replace H:=Js [1,0] 0 H;refine Jc rfl rfl (Nv p sp owner S A.length c n hk (by rw[htk];exact fun y hy h=>hA y hy (by rw[h])) (by omega) H) ?_;clear H;rintro v w ⟨rfl,H⟩;rw[htk,hdr] at H;refine J2 H ?_;refine Gv H ?_;replace H:=Js [2,2,0,0] 0 H;refine Jc rfl rfl (Nz o sp owner2 T size mem own c n ho (by omega) h63 (fun j hj=>⟨by omega,hown _ (by omega) (by omega)⟩) (by omega) (by omega) H) ?_;clear H;rintro v w ⟨rfl,H⟩;refine WR H ?_;replace H:=Js [2,0,0] 1 H;exact Q3 (Jy H rfl fun w' H'=>⟨rfl,H'⟩)
def Cv (S:QF) (d:Nat):Bool:=S.parts.any fun x=>decide (1 < x.2∧x.1≤d∧d < x.1+x.2)
theorem gK [Q4] (p sp owner:Nat) (S:QF) (d:Nat) (hp:S.parts.length≤1000) (hb:∀ x∈S.parts,x.1+x.2≤1000) {w:World} {fr:List Q2} (H:Q0 w (Qm p sp owner S::fr)) :
  Calls Tryz.prog 55 #[pp p,.int .i64 d] w (ret fun v w'=>v = .bool (Cv S d)∧Q0 w' (Qm p sp owner S::fr)):=by
 obtain⟨a,c,H⟩:=G9 H;refine QQ Tryz.func55 rfl (by kernel_rfl) ?_;refine RX H ?_;refine KP H ?_;replace H:=Js [1,0] 0 H;refine Ql (fun ms σ w z=>ms=[]∧∃ i:Nat,i≤S.parts.length∧z=S.parts.length - i∧(∀ y∈S.parts.take i,¬ (1 < y.2∧y.1≤d∧d < y.1+y.2))∧σ 1 = .int .i64 d∧σ 12 = .slice a S.parts.length c∧σ 13 = .int .i64 S.parts.length∧σ 14 = .int .i64 i∧Q0 w (QX 226 2 (.slice a S.parts.length c) (S.parts.flatMap Vk)::pts p (row 224 [pp sp,.int .i64 owner,.slice a S.parts.length c,.int .i64 S.at',.int .i64 S.fin])::fr)) (m:=S.parts.length) ⟨rfl,0,by omega,by omega,(fun y hy=>by simp at hy),rfl,rfl,rfl,rfl,H⟩ ?_;clear H;rintro ms σ w z ⟨rfl,i,hi,rfl,hno,g1,g12,g13,g14,H⟩;rw[Q1 g1,Q1 g12,Q1 g13,Q1 g14];refine J8 H ?_;refine Qj rfl (fun h=>QD ?_) (fun h=>Qp ?_)
 ·have hlt:i < S.parts.length:=by omega
  have hn:=getElem?_eq_getElem hlt;have htk:S.parts.take (i+1)=S.parts.take i++[S.parts[i]]:=by rw[take_add_one,hn];rfl
  have hmem:=getElem_mem hlt;generalize S.parts[i]=x at hn htk hmem;obtain⟨x1,x2⟩:=x;have hb0:x1+x2≤1000:=hb _ hmem;obtain⟨bT,sT,rfl,H,hcl⟩:=V3 H (by omega);have hrd:Q9 (S.parts.flatMap Vk++sT) (i*2+0) 2 (Vk (x1,x2)):=RV (vs:=Vk (x1,x2)) XL hn (by repeat first|exact .nil _|apply Q9.cons rfl);have ei:0+((i:Nat):Int).toNat*2=i*2:=by simp
  refine YB H ?_;refine Jd ?_;rw[ei];refine Q5 rfl (VA H rfl hrd rfl ?_);refine VZ H ?_;clear H;intro b6 w H;refine J5 H ?_;clear H;intro w H;refine J2 H ?_;have hfin:∀ {w:World} {l:List Q2},Q0 w l→(1 < x2∧x1≤d∧d < x1+x2)→Cv S d=true:=fun _ h=>any_eq_true.2 ⟨_,hmem,decide_eq_true h⟩
  have hstep:¬ (1 < x2∧x1≤d∧d < x1+x2)→∀ y∈S.parts.take (i+1),¬ (1 < y.2∧y.1≤d∧d < y.1+y.2):=fun h y hy=>by
   rw[htk] at hy
   rcases mem_append.1 hy with hy|hy
   ·exact hno y hy
   ·rw[mem_singleton] at hy;subst hy;exact h
  replace H:=Js [1,0] 0 H;replace H:=hcl _ _ H;replace H:=Js [1,0] 0 H;refine RY H ?_;by_cases h1:1 < x2
  ·rw[show decide (((x2:Nat):Int) > (1:Int))=true from decide_eq_true (by omega)];refine A6 H ?_;refine U9 H ?_;by_cases h2:x1≤d
   ·rw[show decide (((d:Nat):Int)≥((x1:Nat):Int))=true from decide_eq_true (by omega)];refine BL H ?_;refine Ur H ?_;refine U9 H ?_;rw[Qb (x:=(x1:Int)+(x2:Int)) (by omega) (by omega)];refine Yj H ?_;by_cases h3:d < x1+x2
    ·rw[show decide (((d:Nat):Int) < (x1:Int)+(x2:Int))=true from decide_eq_true (by omega)];refine UM H ?_;rw[hfin H ⟨h1,h2,h3⟩];exact Q3 (Jy H rfl fun w' H'=>⟨rfl,Z8 H'.drop.swap⟩)
    ·rw[show decide (((d:Nat):Int) < (x1:Int)+(x2:Int))=false from decide_eq_false (by omega)];refine Uv H ?_;exact⟨_,⟨rfl,i+1,hlt,rfl,hstep (fun h=>h3 h.2.2),rfl,rfl,rfl,Qc (by omega),H.drop⟩,by omega⟩
   ·rw[show decide (((d:Nat):Int)≥((x1:Nat):Int))=false from decide_eq_false (by omega)];refine Uy H ?_;refine KJ H ?_;refine Uv H ?_;exact⟨_,⟨rfl,i+1,hlt,rfl,hstep (fun h=>h2 h.2.1),rfl,rfl,rfl,Qc (by omega),H.drop⟩,by omega⟩
  ·rw[show decide (((x2:Nat):Int) > (1:Int))=false from decide_eq_false (by omega)];refine E2 H ?_;refine Uy H ?_;refine KJ H ?_;refine Uv H ?_;exact⟨_,⟨rfl,i+1,hlt,rfl,hstep (fun h=>h1 h.1),rfl,rfl,rfl,Qc (by omega),H.drop⟩,by omega⟩
 ·have hge:i=S.parts.length:=by omega
  subst hge;rw[take_length] at hno;have hf:Cv S d=false:=any_eq_false.2 (fun y hy=>by simpa using hno y hy);rw[hf];refine VF H ?_;exact Q3 (Jy H rfl fun w' H'=>⟨rfl,Z8 H'.swap⟩)
end Go.Proofs.YtbnnnljagkjpiaaGreatDoor
namespace Go.SL
open List
open Go.Op
section
variable {P:Program} {n:Nat} {r:Option Nat} {σ:QU} {w:World} {l:List Q2}
variable {t u:TypeId} {p:String} {af:Array Edge} {g:Option (Nat×Bool)} {d:Option Tmp} {x y z:Operand} {K:QU→World→Prop}
theorem gR [Q4] {e size bytes b o1 o2 m cap cap' E:Nat} {c vs:List Value} [hT:VW P t e size bytes] (H:Q0 w (pts b (row E c)::l)) (hx:ev σ x = .slice (some ⟨b,o1,none⟩) m cap) (hy:ev σ y = .slice (some ⟨b,o2,none⟩) m cap') (hrd:Q9 c o2 (m*size) vs) (hl:o1+m*size≤c.length) (h1:vs.all (·.oneCell')=true) (hd:Qh n d=true)
  (k:∀ w',Q0 w' (pts b (row E (wr c o1 vs))::l)→K (put σ d (.int .i64 m)) w'):St P n r ⟨d,.call { callee := .builtin .copy,args:=#[x,y],argTypes:=#[t,t] },u,p,af,g⟩ σ w K:=by
 have hs:(sizeOf e).run P w = .ok size w:=by
  obtain⟨k,hk,e2⟩:=Option.map_eq_some_iff.1 hT.info;simp only[Prod.mk.injEq] at e2;exact Zz (by rw[hk];simp[e2.1])
 have ev1:=hrd.len;have hbk:w.heap[b]? = some (.cells c.toArray E (0,0)):=H.pts
 have hfc:(Builtin.firstCells size m (.slice (some ⟨b,o2,none⟩) m cap')).run P w = .ok vs.toArray w:=by
  unfold Builtin.firstCells
  have:=run_loadCells_list (P:=P) (w:=w) ⟨b,o2,none⟩ vs (fun j v hj=>by
   rw[ZX];exact Zl hbk (hrd.get j v hj))
  rwa [ev1] at this
 obtain⟨w',hr,h2,h3,h4⟩:=BY (P:=P) vs w b o1 E c 0 H.pts (by omega) (all_eq_true.1 h1);rw[Nat.add_zero] at h2;have H':=H.set (o':=row E (wr c o1 vs)) h2 h3 h4;refine V6 (v := .int .i64 m) (w':=w') hd (fun c e=>by cases e) ?_ (k w' H');have hmin:Nat.min m m=m:=Nat.min_self m;simp[execOp,resolve,invoke,builtin,hx,hy,Builtin.copy_,Vr hT.und,Builtin.lenOf,hmin,hs,hfc,hr,goInt]
end
end Go.SL
namespace Go.Proofs.YtbnnnljagkjpiaaGreatDoor
open List
open Go.SL
def XV (l:List Nat) (a b n:Nat):List Nat:=l.take a++(l.drop b).take n++l.drop (a+n)
theorem P2 {l:List Nat} {a b n:Nat} (h1:a+n≤l.length) (h2:b+n≤l.length):(XV l a b n).length=l.length:=by simp[XV];omega
theorem gW {l:List Nat} {a b n:Nat} (h1:a+n≤l.length) (h2:b+n≤l.length) {i:Nat} (hi:i < n):(XV l a b n)[a+i]? = l[b+i]?:=by
 unfold XV;rw[append_assoc,getElem?_append_right (by simp;omega),getElem?_append_left (by simp;omega)];have e1:(l.take a).length=a:=by simp;omega
 rw[e1,Nat.add_sub_cancel_left,getElem?_take_of_lt hi,getElem?_drop]
theorem gA {l:List Nat} {a b n:Nat} (h1:a+n≤l.length) (h2:b+n≤l.length) {j:Nat} (hj:j < a∨a+n≤j):(XV l a b n)[j]? = l[j]?:=by
 unfold XV;rw[append_assoc]
 rcases hj with hj|hj
 ·rw[getElem?_append_left (by simp;omega),getElem?_take_of_lt hj]
 ·rw[getElem?_append_right (by simp;omega),getElem?_append_right (by simp;omega),getElem?_drop];congr 1;simp;omega
theorem gB [Q4] (p size:Nat) (mem own:List Nat) (a b n:Nat) (h1:1≤n) (h2:a+n≤mem.length) (h3:U0 size own a n) (h4:b+n≤mem.length) (h5:U0 size own b n) {w:World} {fr:List Q2} (H:Q0 w (ST p size mem own::fr)) :
  Calls Tryz.prog 125 #[pp p,.int .i64 a,.int .i64 b,.int .i64 n] w (ret fun v w'=>v = .int .i64 0∧Q0 w' (ST p size (XV mem a b n) own::fr)):=by
 refine QQ Tryz.func125 rfl (by kernel_rfl) ?_;refine Bf H ?_;refine Vc H ?_;refine Jc rfl rfl (Ag p size mem own a n h1 h2 h3 H) ?_;clear H;rintro v w ⟨rfl,H⟩;refine WC H ?_;refine Jc rfl rfl (Ag p size mem own b n h1 h4 h5 H) ?_;clear H;rintro v w ⟨rfl,H⟩;refine KB H ?_;refine Y4 (fun ms σ w=>ms=[]∧σ 0=pp p∧σ 1 = .int .i64 a∧σ 2 = .int .i64 b∧σ 3 = .int .i64 n∧Q0 w (ST p size mem own::fr)) ?_ ?_
 ·refine QP ?_;refine WD H ?_;refine KC H ?_;refine WD H ?_;refine WE H ?_;exact .inl ⟨rfl,rfl,rfl,rfl,rfl,rfl,H⟩
 ·clear H;rintro ms σ w ⟨rfl,g0,g1,g2,g3,H⟩;rw[Q1 g0,Q1 g1,Q1 g2,Q1 g3];obtain⟨v,v2,u,ws,many,hok,H⟩:=UZ H;have H:=H.swap;have hmem:mem.length≤1048576:=by rw[hok.len];exact Nat.mul_le_mul hok.c2 hok.s2
  obtain⟨a1,c1,rfl⟩:=QE H (Z3 mem) (by decide)
  rcases GD H with ⟨h,_⟩|⟨bb,len,cap',s,h,e3,e4,e5,H⟩
  ·injection h with h4 h5 h6;omega
  injection h with h6 h7 h8
  subst h6 h7 h8;have hvl:(Qa ((mem.drop b).take n)).length=n:=by simp[Qa];omega
  have hrd:Q9 (Qa mem++s) (0+b*1) ((b+n - b)*1) (Qa ((mem.drop b).take n)):=by
   have e:(Qa ((mem.drop b).take n)).length=(b+n - b)*1:=by rw[hvl];omega
   rw[← e];refine Q9.of_get fun j v hj=>?_;have hj':j < n:=by have:=(List.getElem?_eq_some_iff.1 hj).1;omega
   rw[getElem?_append_left (by simp[Qa];omega)];simp only[Qa,getElem?_map,getElem?_take_of_lt hj',getElem?_drop] at hj;simp only[Qa,getElem?_map,Nat.zero_add,Nat.mul_one];exact hj
  have hrd:Q9 (Qa mem++s) (0+b*1) ((a+n - a)*1) (Qa ((mem.drop b).take n)):=by
   rw[show a+n - a=b+n - b by omega];exact hrd
  have hs1:(Qa ((mem.drop b).take n)).all (·.oneCell')=true:=all_eq_true.2 fun v hv=>by
   simp only[Qa,mem_map] at hv;obtain⟨x,_,rfl⟩:=hv;rfl
  refine J1 H ?_;clear H;intro w H;refine Yu H ?_;refine Jl 3 [18] H ?_;refine Us H ?_;refine Ja 6 ?_;refine Ja 7 ?_;rw[Qb (x:=(a:Int)+(n:Int)) (by omega) (by omega),show (a:Int)+(n:Int)=((a+n:Nat):Int) by omega];refine BH 8 rfl (Q7.none rfl) rfl rfl rfl (by omega) (by omega) (by omega) (by kernel_rfl) ?_;refine Bi H ?_;refine Jl 12 [18] H ?_;refine Ja 13 ?_;refine Ja 14 ?_;refine Ja 15 ?_;refine Ja 16 ?_;rw[Qb (x:=(b:Int)+(n:Int)) (by omega) (by omega),show (b:Int)+(n:Int)=((b+n:Nat):Int) by omega];refine BH 17 rfl (Q7.none rfl) rfl rfl rfl (by omega) (by omega) (by omega) (by kernel_rfl) ?_;rw[show b+n - b=a+n - a by omega];refine Jo 18 H ?_;refine gR H rfl rfl hrd (by simp only[length_append,Z3];omega) hs1 rfl ?_;clear H;intro w H;refine Bj H ?_;have hcl:(XV mem a b n).length=mem.length:=P2 h2 h4
  have hwr:wr (Qa mem++s) (0+a*1) (Qa ((mem.drop b).take n))=Qa (XV mem a b n)++s:=by
   rw[DJ _ _ _ (by rw[hvl,length_append,Z3];omega),hvl];unfold XV Qa;rw[Nat.zero_add,Nat.mul_one,take_append_of_le_length (by simp;omega),drop_append_of_le_length (by simp;omega)];simp[map_take,map_drop]
  rw[hwr] at H;exact Q3 (Jy (GN (hok.mem hcl) (ZK (by rw[Z3,hcl]) e4 e5 H).swap) rfl fun w' H'=>⟨rfl,H'⟩)
theorem gC [Q4] (ip sp bp size:Nat) (ls:List QL) (mem own:List Nat) (to addr i c s n:Nat) (l:QL) (h:XM ls size mem own addr i c s n l) (hto:to+(n+1)≤mem.length) (ho:U0 size own to (n+1)) {w:World} {fr:List Q2} (H:Q0 w (Qr ip sp bp::Qi bp ls::ST sp size mem own::fr)) :
  Calls Tryz.prog 59 #[pp ip,.int .i64 to,.int .i64 addr] w (ret fun v w'=>v = .tuple #[.int .i64 ((n+1:Nat):Int),.int .i64 0]∧Q0 w' (Qr ip sp bp::Qi bp ls::ST sp size (XV mem to addr (n+1)) own::fr)):=by
 have hf:=h.fit;refine QQ Tryz.func59 rfl (by kernel_rfl) ?_;refine XF H ?_;refine Jc rfl rfl (CE ip sp bp size ls mem own addr i c s n l h H) ?_;clear H;rintro v w ⟨rfl,H⟩;refine AE H ?_;refine VZ H ?_;clear H;intro b8 w H;refine J5 H ?_;clear H;intro w H;refine Bw H ?_;refine Yk H ?_;refine WC H ?_;replace H:=Js [3,0,0,0] 0 H;refine Jc rfl rfl (gB sp size mem own to addr (n+1) (by omega) hto ho (by omega) h.owned H) ?_;clear H;rintro v w ⟨rfl,H⟩;refine Yl H ?_;refine VX H ?_;replace H:=Js [2,2,0] 1 H;exact Q3 (Jy H rfl fun w' H'=>⟨rfl,H'⟩)
end Go.Proofs.YtbnnnljagkjpiaaGreatDoor
