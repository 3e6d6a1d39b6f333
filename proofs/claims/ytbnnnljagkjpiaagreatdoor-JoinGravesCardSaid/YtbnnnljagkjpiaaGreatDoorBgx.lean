/- Cells: what is proved on the way: every input of the statement; no condition. Texts joined: LawF LawG LawH LawI LawJz LawK ActB GrvP WhoA GrvQ. -/
import Derived.Test.YtbnnnljagkjpiaaGreatDoorBgw
import Derived.Test.YtbnnnljagkjpiaaGreatDoorBgf
import Derived.Test.YtbnnnljagkjpiaaGreatDoorBgt
import Derived.Test.YtbnnnljagkjpiaaGreatDoorBgn
set_option linter.unusedVariables false
set_option linter.unusedSimpArgs false
set_option linter.unusedSectionVars false
namespace Go.Proofs.YtbnnnljagkjpiaaGreatDoor
open List
open Go.SL
theorem P6 (s:CS) (i g p:Int) (x:Nat):Vm (Ua s i g p x).1.tab=Vm s.tab:=by
 cases hv:Qn s.tab i g with
 | none=>rw[CM hv]
 | some q=>
  obtain⟨k,e⟩:=q;obtain⟨n,rfl,rfl,hk,_⟩:=ZF hv;rw[CN hv];split
  ·rw[Int.toNat_natCast];exact Cy hk
  ·rfl
theorem gL (s:CS) (i g:Int):Vm (Ub s i g).1.tab=Vm s.tab:=by
 cases hv:Qn s.tab i g with
 | none=>rw[CP hv]
 | some q=>
  obtain⟨k,e⟩:=q;obtain⟨n,rfl,rfl,hk,_⟩:=ZF hv;rw[CT hv,Int.toNat_natCast];exact Cy hk
theorem gM (s:CS) (i g:Int) (on:Bool):Vm (Uc s i g on).1.tab=Vm s.tab:=by
 cases hv:Qn s.tab i g with
 | none=>rw[Ca hv]
 | some q=>
  obtain⟨k,e⟩:=q;obtain⟨n,rfl,rfl,hk,_⟩:=ZF hv;rw[Cb hv];split
  ·rfl
  ·rw[Int.toNat_natCast];exact Cy hk
theorem P7 (s:CS) (i g p:Int) (l:VP):Vm (Gc s i g p l).1.tab=Vm s.tab:=by
 cases hv:Qn s.tab i g with
 | none=>rw[Cd hv]
 | some q=>
  obtain⟨k,e⟩:=q;obtain⟨n,rfl,rfl,hk,_⟩:=ZF hv;rw[We hv];split
  ·rw[Int.toNat_natCast];exact Cy hk
  ·rfl
theorem P8 (s:CS) (i g p u v:Int):Vm (Yn s i g p u v).1.tab=Vm s.tab:=by
 unfold Yn;split
 ·rfl
 ·split
  ·rfl
  ·exact P7 s i g p _
theorem gN (s:CS) (i g p:Int):Vm (ZM s i g p).tab=Vm s.tab:=by
 unfold ZM;split
 ·rename_i a b _;cases hl:QS s.tab a b with
  | none=>rw[Ce hl]
  | some q=>
   obtain⟨k,e⟩:=q;obtain⟨n,h1,h2,hk⟩:=Y9.1 hl;obtain rfl:b=n:=by omega
   rw[Cf hl];exact Cy hk
 ·rfl
theorem gO (s:CS) (ws:List Nat):Vm (Ud s ws).1.tab=Vm s.tab:=by
 cases hd:ZC ws with
 | none=>rw[Cg hd]
 | some l=>
  rw[Av hd];split <;> rfl
theorem B7 (m:MS) (k:Nat) (x:QI):(Yq m k x).objs.length=m.objs.length:=length_set
theorem P9 (m:MS) (o p:Int):(Ui m o p).1.objs.length=m.objs.length∧(Ui m o p).1.P=m.P:=by
 unfold Ui;split
 ·exact⟨rfl,rfl⟩
 ·split
  ·exact⟨B7 _ _ _,rfl⟩
  ·exact⟨rfl,rfl⟩
theorem PQ (m:MS) (o p u:Int):(Yg m o p u).1.objs.length=m.objs.length∧(Yg m o p u).1.P=m.P:=by
 unfold Yg;split
 ·exact⟨rfl,rfl⟩
 ·split
  ·split
   ·exact⟨rfl,rfl⟩
   ·exact⟨B7 _ _ _,rfl⟩
  ·exact⟨rfl,rfl⟩
theorem PY (m:MS) (o:Int):(Gj m o).1.objs.length=m.objs.length∧(Gj m o).1.P=m.P:=by
 unfold Gj;split
 ·exact⟨rfl,rfl⟩
 ·exact⟨B7 _ _ _,rfl⟩
theorem PZ (m:MS) (o:Int) (on:Bool):(Gk m o on).1.objs.length=m.objs.length∧(Gk m o on).1.P=m.P:=by
 unfold Gk;split
 ·exact⟨rfl,rfl⟩
 ·split
  ·exact⟨rfl,rfl⟩
  ·exact⟨B7 _ _ _,rfl⟩
theorem gP (m:MS) (t:Nat):(K8 m t).objs.length=m.objs.length∧(K8 m t).P=m.P:=by
 unfold K8;split
 ·exact⟨B7 _ _ _,rfl⟩
 ·exact⟨rfl,rfl⟩
theorem PG (m:MS) (o p:Int):(YF m o p).1.objs.length=m.objs.length∧(YF m o p).1.P=m.P:=by
 unfold YF;split
 ·exact⟨rfl,rfl⟩
 ·split
  ·show (if _ then _ else _:MS).objs.length=_∧(if _ then _ else _:MS).P=_;split
   ·exact gP m _
   ·exact⟨rfl,rfl⟩
  ·exact⟨rfl,rfl⟩
theorem gS (m:MS) (o p:Int) (X:Nat):(Ks m o p X).objs.length=m.objs.length∧(Ks m o p X).P=m.P:=by
 unfold Ks;split
 ·exact⟨rfl,rfl⟩
 ·split
  ·exact⟨B7 _ _ _,rfl⟩
  ·exact⟨rfl,rfl⟩
theorem PU (m:MS) (ws:List Nat):(ZT m ws).1.objs=m.objs∧(ZT m ws).1.P=m.P:=by
 unfold ZT;split
 ·exact⟨rfl,rfl⟩
 ·split <;> exact⟨rfl,rfl⟩
theorem PX (s:CS) (i g p:Int) (x:Nat):Y3 s (Ua s i g p x).1:=by
 cases hv:Qn s.tab i g with
 | none=>rw[CM hv];exact Y3.refl s
 | some q=>
  obtain⟨k,e⟩:=q;obtain⟨n,rfl,rfl,hk,_⟩:=ZF hv;rw[CN hv];split
  ·rw[Int.toNat_natCast];exact Y3.set (e':={ e with ws:=e.ws.set p.toNat x }) hk ⟨rfl,rfl,length_set⟩ s.rem
  ·exact Y3.refl s
theorem gT (s:CS) (i g:Int):Y3 s (Ub s i g).1:=by
 cases hv:Qn s.tab i g with
 | none=>rw[CP hv];exact Y3.refl s
 | some q=>
  obtain⟨k,e⟩:=q;obtain⟨n,rfl,rfl,hk,_⟩:=ZF hv;rw[CT hv,Int.toNat_natCast];exact Y3.set (e':={ e with held:=false }) hk ⟨rfl,rfl,rfl⟩ s.rem
theorem ga (s:CS) (i g:Int) (on:Bool):Y3 s (Uc s i g on).1:=by
 cases hv:Qn s.tab i g with
 | none=>rw[Ca hv];exact Y3.refl s
 | some q=>
  obtain⟨k,e⟩:=q;obtain⟨n,rfl,rfl,hk,_⟩:=ZF hv;rw[Cb hv];split
  ·exact Y3.refl s
  ·rw[Int.toNat_natCast];exact Y3.set (e':={ e with pinned:=on }) hk ⟨rfl,rfl,rfl⟩ s.rem
theorem PK (s:CS) (i g p:Int) (l:VP):Y3 s (Gc s i g p l).1:=by
 cases hv:Qn s.tab i g with
 | none=>rw[Cd hv];exact Y3.refl s
 | some q=>
  obtain⟨k,e⟩:=q;obtain⟨n,rfl,rfl,hk,_⟩:=ZF hv;rw[We hv];split
  ·rw[Int.toNat_natCast];exact Y3.set (e':={ e with ws:=e.ws.set p.toNat (VG l) }) hk ⟨rfl,rfl,length_set⟩ _
  ·exact Y3.refl s
theorem gb (s:CS) (i g p u v:Int):Y3 s (Yn s i g p u v).1:=by
 unfold Yn;split
 ·exact Y3.refl s
 ·split
  ·exact Y3.refl s
  ·exact PK s i g p _
theorem gc (s:CS) (i g p:Int):Y3 s (ZM s i g p):=by
 unfold ZM;split
 ·rename_i a b _;cases hl:QS s.tab a b with
  | none=>rw[Ce hl];exact Y3.refl s
  | some q=>
   obtain⟨k,e⟩:=q;obtain⟨n,h1,h2,hk⟩:=Y9.1 hl;obtain rfl:b=n:=by omega
   rw[Cf hl];exact Y3.set (e':={ e with held:=true }) hk ⟨rfl,rfl,rfl⟩ s.rem
 ·exact Y3.refl s
theorem PR (s:CS) (ws:List Nat):Y3 s (Ud s ws).1:=by
 cases hd:ZC ws with
 | none=>rw[Cg hd];exact Y3.refl s
 | some l=>
  rw[Av hd];split
  ·exact Y3.refl s
  ·exact⟨rfl,rfl,rfl,fun k g e h=>⟨e,h,rfl,rfl,rfl⟩⟩
theorem gd (s:CS) (q:Int) (b b2:Nat) (hP:Y0 s):Y0 (Wf s q b b2):=fun k g e hk=>by
 obtain⟨x,x1,x2,x3⟩:=hP k g e hk;exact⟨x,mem_append.2 (.inl x1),x2,x3⟩
theorem UB {s s':CS} {m m':MS} {told:List (Nat×Nat)} (h1:m'.objs.length=m.objs.length) (h2:m'.P=m.P) (h3:Vm s'.tab=Vm s.tab) (h4:Inv s→Inv s':=by exact id) (h5:Y3 s s':=by exact Y3.refl _):Cz s m told s' m' told:=⟨by rw[h2];omega,by omega,.inl ⟨rfl,h3⟩,h4,fun h=>by rw[h5.par];exact h,h5.part⟩
theorem Gm (x:Int):(x == x)=true:=beq_self_eq_true x
theorem gf [Q4] (p:Nat) (s:CS) (m:MS) (told:List (Nat×Nat)) (R:Rel s m told) (hfew:m.objs.length < 100000) (hP:m.P.length < 100000) (k A B C i g:Int) (X:Nat) (hX:X < 18446744073709551616) (vW:Value) (ws:List Nat) (hws:∀ x∈ws,x < 18446744073709551616) (raw:Bool)
  {w:World} {fr:List Q2} [hT:YW 0 Lib.deBruijn64tab fr] (hrW:Vt fr vW ws.length 1 (Qa ws)) (H:Q0 w (Uk p s m told::fr)) :
  Calls Tryz.prog 89 #[pp p,.agg #[.int .i64 k,.int .i64 A,.int .i64 B,.int .i64 C,.int .u64 X,vW,.bool raw,.int .i64 i,.int .i64 g]] w (ret fun v w'=>v = .bool true∧∃ s' m' told',Rel s' m' told'∧Cz s m told s' m' told'∧Q0 w' (Uk p s' m' told'::fr)):=by
 obtain⟨_,adW,capW,rfl,_⟩:=id hrW;obtain⟨c,mo,a,cap,H⟩:=FT H;have hlen:told.length≤1000000:=by rw[R.len];omega
 obtain⟨_,_,hw,_,_⟩:=Vz H.swap;obtain⟨_,_,_,_,_,_,_,hmw,_⟩:=Zj (H.sel [2,0,0,0] 0);refine QQ Tryz.func89 rfl (by kernel_rfl) ?_;refine J7 H ?_;clear H;intro b3 w H;refine Y8 H ?_;refine Qk (fun ms σ w=>ms=[]∧∃ (b5:Nat) (i' g' o:Int),U4 told i' g' o∧σ 0=pp p∧σ 3=pp b3∧σ 5=pp b5∧σ 6 = .int .i64 o∧Q0 w (pts b5 (row 62 [.int .i64 i',.int .i64 g'])::pts b3 (row 103 [.int .i64 k,.int .i64 A,.int .i64 B,.int .i64 C,.int .u64 X,.slice adW ws.length capW,.bool raw,.int .i64 i,.int .i64 g])::Va p c mo (.slice a told.length cap)::QW c s::Qq mo m::VE (.slice a told.length cap) told::fr)) ?_ ?_
 ·replace H:=Js [1,3,0,0,0] 0 H;refine WI H ?_;refine ZW H ?_;refine CZ H ?_;refine Jc rfl rfl (Ou p c mo a cap told hlen A i g raw H) ?_;clear H;rintro v w ⟨i',g',o,rfl,hp,_,_,H⟩;refine Ve H ?_;clear H;intro b5 w H;refine J5 H ?_;clear H;intro w H;refine J0 H ?_;replace H:=Js [0,2,0,1,1,0] 0 H;exact⟨rfl,rfl,_,i',g',o,hp,rfl,rfl,rfl,rfl,H⟩
 clear H;rintro ms σ w ⟨rfl,b5,i',g',o,hPk,g0,g3,g5,g6,H⟩;rw[Q1 g0,Q1 g3,Q1 g5,Q1 g6];refine KE H ?_;refine J2 H ?_;refine RH H ?_;by_cases hk0:k=0
 ·subst hk0;refine VH H ?_;replace H:=Js [3,0,0,0,0,0] 0 H;refine J1 H ?_;clear H;intro w H;refine Xx H ?_;refine Jk rfl rfl (NH c s _ ws hws hrW.there.there.there.there.there H) ?_;clear H;rintro v w ⟨rfl,H⟩;obtain⟨hd,R'⟩:=OT R hmw ws;rw[hd];refine UJ H ?_;replace H:=Js [4,0,0,0,0,0] 0 H;refine J1 H ?_;clear H;intro w H;refine Xx H ?_;refine Jk rfl rfl (eo mo m _ ws hws hrW.there.there.there.there.there H) ?_;clear H;rintro v w ⟨rfl,H⟩;refine UJ H ?_;refine Vc H ?_;rw[Gm (((ZT m ws).2.1:Nat):Int)];refine Br H ?_;rw[Gm (((ZT m ws).2.2:Nat):Int)];refine J3 H ?_;replace H:=Js [4,1,0,2] 2 H;exact Q3 (Jy H rfl fun w' H'=>⟨rfl,_,_,_,R',⟨by rw[(PU m ws).2];omega,by rw[(PU m ws).1];omega,.inl ⟨rfl,gO s ws⟩,fun hI=>cF hw hI ws,fun hT=>by rw[(PR s ws).par];exact hT,(PR s ws).part⟩,YH H'⟩)
 rw[show (k == 0)=false by simpa using hk0];refine Zf H ?_;by_cases hk1:k=1
 ·subst hk1;refine VH H ?_;have hl:=R.last;have he:=fW R hw A;replace H:=Js [3,0,0,0,0,0] 0 H;refine J1 H ?_;clear H;intro w H;refine Xx H ?_;refine Jk rfl rfl (IU c s A (by omega) H) ?_;clear H;rintro v w (⟨h1,rfl,H⟩|⟨h1,b,b2,rfl,H⟩)
  ·rw[he] at h1 ⊢;have ho:Xa m A=(m,0,ZV m.P A):=by unfold Xa;rw[if_neg h1]
   refine UJ H ?_;replace H:=Js [4,0,0,0,0,0] 0 H;refine J1 H ?_;clear H;intro w H;refine Xx H ?_;refine Jk rfl rfl (OH mo m A hP H) ?_;clear H;rintro v w ⟨rfl,H⟩;rw[ho] at H ⊢;refine ES H ?_;refine XR H ?_;rw[Gm ((ZV m.P A:Nat):Int)];refine J3 H ?_;replace H:=Js [4,1,0,2] 2 H;exact Q3 (Jy H rfl fun w' H'=>⟨rfl,_,_,_,R,UB rfl rfl rfl,YH H'⟩)
  ·rw[he] at h1;have ho:Xa m A=({ m with P:=m.P++[A] },m.P.length,0):=by unfold Xa;rw[if_pos h1]
   refine UJ H ?_;replace H:=Js [4,0,0,0,0,0] 0 H;refine J1 H ?_;clear H;intro w H;refine Xx H ?_;refine Jk rfl rfl (OH mo m A hP H) ?_;clear H;rintro v w ⟨rfl,H⟩;rw[ho] at H ⊢;rw[hl];refine UJ H ?_;refine Vc H ?_;rw[Gm ((m.P.length:Nat):Int)];refine Br H ?_;refine J3 H ?_;replace H:=Js [4,1,0,2] 2 H;exact Q3 (Jy H rfl fun w' H'=>⟨rfl,_,_,_,Il R h1 b b2,⟨by show (m.P++[A]).length≤_;simp,by show m.objs.length≤_;omega,.inl ⟨rfl,rfl⟩,fun hI=>cH hI A b b2,fun hT=>eG hT (he.trans h1) hw.par.2.2,gd s A b b2⟩,YH H'⟩)
 rw[show (k == 1)=false by simpa using hk1];refine Zf H ?_;by_cases hk2:k=2
 ·subst hk2;refine VH H ?_;refine Gv H ?_;replace H:=Js [2,2,2,2,0,0] 0 H;refine Jc rfl rfl (gJ p c mo a cap s m told R hfew _ A B C _ i g .i64 _ raw rfl H) ?_;clear H;rintro v w ⟨rfl,s',m',told',a',cap',R',S',H⟩;refine J0 H ?_;replace H:=Js [0,0,0,0] 2 H;exact Q3 (Jy H rfl fun w' H'=>⟨rfl,s',m',told',R',S',YH H'⟩)
 rw[show (k == 2)=false by simpa using hk2];refine Zf H ?_;by_cases hk3:k=3
 ·subst hk3;refine VH H ?_;replace H:=Js [3,0,0,0,0,0] 0 H;refine J1 H ?_;clear H;intro w H;refine Ja 0 ?_;refine Ja 1 ?_;refine Jf 2 ?_;refine Jl 3 [7] H ?_;refine VB 4 [7] H rfl (Q7.none rfl) rfl (by repeat first|exact .nil _|apply Q9.cons rfl) (by kernel_rfl) ?_;refine Jf 5 ?_;refine Jl 6 [7] H ?_;refine Jo 7 H ?_;refine Jk rfl rfl (bF c s i' g' B H) ?_;clear H;rintro v w ⟨rfl,H⟩
  rcases f9 R hPk B with ⟨h0,h1⟩|⟨h0,n,j,x,rfl,rfl,hx,hj,h1⟩
  ·rw[h1];refine Ad H ?_;replace H:=Js [4,0,0,0,0,0] 0 H;refine J1 H ?_;clear H;intro w H;refine CG H ?_;refine Jk rfl rfl (Ru mo m o B false H) ?_;clear H;rintro v w ⟨rfl,H⟩;refine XH H ?_;refine J4 H ?_;rw[show (((VD m o B false:Nat):Int) != 0)=true by rw[bne_iff_ne];omega];refine EJ H ?_;rw[Gm ((VD m o B false:Nat):Int)];refine UQ H ?_;refine J3 H ?_;replace H:=Js [4,1,0,2] 2 H;exact Q3 (Jy H rfl fun w' H'=>⟨rfl,s,m,told,R,UB rfl rfl rfl,YH H'⟩)
  ·rw[h1];have hnl:=(List.getElem?_eq_some_iff.1 hx).1;have hjx:=getElem?_eq_getElem hj;have hjd:x.w.getD j 0=x.w[j]:=by rw[getD_eq_getElem?_getD,hjx];rfl
   have hsm:=Rt (w:=hmw) hx;rw[hjd];generalize x.w[j]=y at hjx;refine Ad H ?_;replace H:=Js [4,0,0,0,0,0] 0 H;refine J1 H ?_;clear H;intro w H;refine CG H ?_;refine Jk rfl rfl (Ru mo m n j false H) ?_;clear H;rintro v w ⟨rfl,H⟩;rw[h0];refine XH H ?_;refine Gw H ?_;obtain⟨t,lc,aL,cL,bO,cO,sO,ptrs,q,vw,vk,vt,rest,hm,h2,hp,H,hclose⟩:=Gi H hx;have hm':=Rs hx hm;obtain⟨aw,cw,rfl⟩:=QE H.drop (Z3 _) (by decide);obtain⟨bW,sW,rfl,H,hcw⟩:=V3 H.swap (by omega);refine J1 H ?_;clear H;intro w H;refine EL H ?_;refine E5 H ?_;refine Ja 8 ?_;refine Jf 9 ?_;refine Jl 10 [] H ?_;refine Ja 11 ?_;refine Ji 12 ?_;refine Vn 13 [] H rfl (Q7.of rfl rfl rfl) rfl hp (by kernel_rfl) ?_;refine Ja 14 ?_;refine Jf 15 ?_;refine Jl 16 [] H ?_;refine Jf 17 ?_;refine Jl 18 [] H ?_;refine Ji 19 ?_;refine Vn 20 [] H rfl (Q7.of rfl rfl rfl) rfl (HL hjx) (by kernel_rfl) ?_;refine Ja 21 ?_;rw[Gm (y:Int)];refine Ja 22 ?_;refine Ja 23 ?_;refine Jx H ?_;replace H:=UW hx (hclose _ _ _ hm' (hcw _ _ H).swap);replace H:=Js [4,1,0,2] 2 H;exact Q3 (Jy H rfl fun w' H'=>⟨rfl,s,m,told,R,UB rfl rfl rfl,YH H'⟩)
 rw[show (k == 3)=false by simpa using hk3];refine Zf H ?_;by_cases hk4:k=4
 ·subst hk4;refine VH H ?_;replace H:=Js [3,0,0,0,0,0] 0 H;refine J1 H ?_;clear H;intro w H;refine Yu H ?_;refine Jl 3 [9,17] H ?_;refine VB 4 [9,17] H rfl (Q7.none rfl) rfl (by repeat first|exact .nil _|apply Q9.cons rfl) (by kernel_rfl) ?_;refine Jf 5 ?_;refine Jl 6 [9,17] H ?_;refine Jf 7 ?_;refine Jl 8 [9,17] H ?_;refine EI H ?_;refine Jl 13 [17] H ?_;refine Ja 14 ?_;refine Jf 15 ?_;refine Jl 16 [17] H ?_;obtain⟨hd,R'⟩:=fQ R hPk B X;refine Jo 9 H ?_;refine Jk rfl rfl (bI c s i' g' B X hX H) ?_;clear H;rintro v w ⟨rfl,H⟩;rw[hd];replace H:=Js [4,0,0,0,0,0] 0 H;refine Jo 17 H ?_;refine Jk rfl rfl (Ru mo m o B false H) ?_;clear H;rintro v w ⟨rfl,H⟩;refine Ja 18 ?_;refine Ja 19 ?_;refine Jx H ?_;refine J4 H ?_;have hob:=gS m o B X;by_cases h0:VD m o B false=0
  ·obtain⟨n,x,hv⟩:∃ n x,V5 m o=some (n,x):=by
    cases hv:V5 m o with
    | none=>rw[XT hv] at h0;cases h0
    | some kx=>exact⟨kx.1,kx.2,rfl⟩
   have h0':=h0;rw[Uh hv] at h0';rw[Ij hv,if_pos h0'] at R' hob;obtain⟨rfl,hx,hh,hg⟩:=K7 hv;obtain⟨j,rfl,hj,hr⟩:=Zh h0';rw[Int.toNat_natCast] at R' hob;rw[h0];have hnl:=(List.getElem?_eq_some_iff.1 hx).1;have hsm:=Rt (w:=hmw) hx;refine VH H ?_;obtain⟨t,lc,aL,cL,bO,cO,sO,ptrs,q,vw,vk,vt,rest,hm,h2,hp,H,hclose⟩:=Gi H hx;obtain⟨aw,cw,rfl⟩:=QE H.drop (Z3 _) (by decide);obtain⟨bW,sW,rfl,H,_,_,hcw⟩:=Z2 H.swap (by omega);have hmx:=hm.objs x (mem_of_getElem? hx)
   have hm':V9 (Yq m n { x with w:=x.w.set j X }):=Wi hm (by
    obtain⟨a1,a2,a3,a4,a5⟩:=hmx;exact⟨by show ∃ l,_∧_∧VQ l _=((x.w.set j X).length,0);rw[length_set];exact a1,a2,by show _=(x.w.set j X).length;rw[length_set];exact a3,by show _=(x.w.set j X).length;rw[length_set];exact a4,a5⟩)
   refine J1 H ?_;clear H;intro w H;refine Yu H ?_;refine Jl 3 [18] H ?_;refine RU H ?_;refine Jl 6 [18] H ?_;refine Ja 7 ?_;refine Ji 8 ?_;refine Vn 9 [18] H rfl (Q7.none rfl) rfl hp (by kernel_rfl) ?_;refine Ja 10 ?_;refine Jf 11 ?_;refine Jl 12 [18] H ?_;refine Jf 13 ?_;refine Jl 14 [18] H ?_;refine Jf 15 ?_;refine Jl 16 [18] H ?_;refine Ji 17 ?_;refine Jo 18 H ?_;refine Yh H rfl rfl inferInstance rfl (by simp only[length_append,Z3];omega) rfl ?_;clear H;intro w H;rw[Int.toNat_natCast,Mg (by omega)] at H;refine Jx H ?_;refine WJ H ?_;replace H:=hcw _ _ (Qa (x.w.set j X)) (by simp[Qa]) H;replace H:=hclose _ _ { x with w:=x.w.set j X } hm' H.swap;replace H:=Js [4,1,0,2] 2 H;exact Q3 (Jy H rfl fun w' H'=>⟨rfl,_,_,_,R',UB hob.1 hob.2 (P6 s i' g' j X) (fun hI=>Nc hI i' g' j X) (PX s i' g' j X),YH H'⟩)
  ·rw[show (((VD m o B false:Nat):Int) == 0)=false by simpa using h0]
   have hsw:Ks m o B X=m:=by
    cases hv:V5 m o with
    | none=>rw[OJ hv]
    | some kx=>
     obtain⟨n,x⟩:=kx;rw[Uh hv] at h0;rw[Ij hv,if_neg h0]
   rw[hsw] at R';refine V4 H ?_;refine Vc H ?_;rw[Gm ((VD m o B false:Nat):Int)];refine J0 H ?_;replace H:=Js [4,1,0,2] 2 H;exact Q3 (Jy H rfl fun w' H'=>⟨rfl,_,_,_,R',UB rfl rfl (P6 s i' g' B X) (fun hI=>Nc hI i' g' B X) (PX s i' g' B X),YH H'⟩)
 rw[show (k == 4)=false by simpa using hk4];refine Zf H ?_;by_cases hk5:k=5
 ·subst hk5;refine VH H ?_;replace H:=Js [3,0,0,0,0,0] 0 H;obtain⟨hd,hln,hk2,hlt,R'⟩:=fX R hmw hPk B;obtain⟨l1,l2,l3,hlk⟩:=U1 (Y5 s i' g' B).1;have hRf:=fun (w:World) (fr:List Q2) (H:Q0 w (QW c s::fr))=>bd c s i' g' B H;rw[hlk,hd] at hRf;rw[hln] at hlk;refine J6 H ?_;refine Qk (fun ms σ w=>ms=[]∧∃ b20,σ 0=pp p∧σ 3=pp b3∧σ 6 = .int .i64 o∧σ 20=pp b20∧σ 21 = .int .i64 ((YF m o B).2.2.2:Nat)∧Q0 w (pts b20 (row 85 [.int .i64 l1,.int .i64 l2,.int .i64 l3])::pts b3 (row 103 [.int .i64 5,.int .i64 A,.int .i64 B,.int .i64 C,.int .u64 X,.slice adW ws.length capW,.bool raw,.int .i64 i,.int .i64 g])::Va p c mo (.slice a told.length cap)::QW c (ZM s i' g' B)::Qq mo m::VE (.slice a told.length cap) told::fr)) ?_ ?_
  ·refine J1 H ?_;clear H;intro w H;refine Yu H ?_;refine Jl 3 [7,12] H ?_;refine HJ H ?_;refine Jf 5 ?_;refine Jl 6 [7,12] H ?_;refine Jw 7 11 H rfl rfl (Qy (a:=[]) (b:=[]) rfl rfl (call (hRf _ _ H) ?_)) (VN H rfl ?_)
   ·clear H;rintro v w ⟨rfl,H⟩;refine RP H ?_;refine C2 H ?_;clear H;intro b20 w H;refine Xw H ?_;clear H;intro w H;refine Rb H ?_;replace H:=Js [0,2,2,0,1,1] 1 H;exact⟨rfl,rfl,b20,rfl,rfl,rfl,rfl,rfl,H⟩
   ·clear H;intro b20 w H;refine Jo 7 H ?_;refine Jk rfl rfl (hRf _ _ H.swap) ?_;clear H;rintro v w ⟨rfl,H⟩;refine RP H ?_;refine Xw H ?_;clear H;intro w H;refine Rb H ?_;replace H:=Js [1,2,2,0,1,1] 1 H;exact⟨rfl,rfl,b20,rfl,rfl,rfl,rfl,rfl,H⟩
  clear H;rintro ms σ w ⟨rfl,b20,g0,g3,g6,g20,g21,H⟩;rw[Q1 g0,Q1 g3,Q1 g6,Q1 g20,Q1 g21];replace H:=Js [4,0,0,0,0,0] 0 H;refine J1 H ?_;clear H;intro w H;refine CG H ?_;refine Jk rfl rfl (eb mo m o B H) ?_;clear H;rintro v w ⟨rfl,H⟩;refine Ja 8 ?_;refine Ja 9 ?_;refine Ja 10 ?_;refine Ja 11 ?_;refine RR H ?_;refine Jx H ?_;refine Vc H ?_;rw[Gm (((YF m o B).2.2.2:Nat):Int)];replace H:=Js [3,4,1,1,1,0] 0 H;refine A6 H ?_;refine BN H ?_;refine Zm H ?_;have hlink:=fun (w:World) (fr:List Q2) (H:Q0 w (Va p c mo (.slice a told.length cap)::VE (.slice a told.length cap) told::fr))=>P3 p c mo a cap told (YF m o B).2.1 (YF m o B).2.2.1 hk2 hlt H;rw[hlk] at hlink;refine QT rfl rfl rfl (Qy (a:=[]) (b:=[]) rfl rfl (call (hlink _ _ H) ?_));clear H;rintro v w ⟨rfl,H⟩;refine J3 H ?_;replace H:=Js [0,3,3,0] 2 H;exact Q3 (Jy H rfl fun w' H'=>⟨rfl,_,_,_,R',UB (PG m o B).1 (PG m o B).2 (gN s i' g' B) (fun hI=>cD hI i' g' B) (gc s i' g' B),YH H'⟩)
 rw[show (k == 5)=false by simpa using hk5];refine Zf H ?_;by_cases hk6:k=6
 ·subst hk6;refine VH H ?_;replace H:=Js [2,4,0,0,0,0] 0 H;refine WI H ?_;refine CZ H ?_;refine Jc rfl rfl (Ou p c mo a cap told hlen C i g false H) ?_;clear H;rintro v w ⟨u',v',q,rfl,hQ,_,_,H⟩;refine Ve H ?_;clear H;intro b25 w H;refine J5 H ?_;clear H;intro w H;refine J0 H ?_;replace H:=Js [5,0,0,0,0,0,0] 0 H;refine J1 H ?_;clear H;intro w H;refine Yu H ?_;refine Jl 3 [8,17] H ?_;refine VB 4 [8,17] H rfl (Q7.none rfl) rfl (by repeat first|exact .nil _|apply Q9.cons rfl) (by kernel_rfl) ?_;refine Jf 5 ?_;refine Jl 6 [8,17] H ?_;refine VB 7 [8,17] H rfl (Q7.none rfl) rfl (by repeat first|exact .nil _|apply Q9.cons rfl) (by kernel_rfl) ?_;refine Bi H ?_;refine Jl 12 [17] H ?_;refine Ja 13 ?_;refine Jf 14 ?_;refine Jl 15 [17] H ?_;refine Ja 16 ?_;obtain⟨hd,R'⟩:=OO R hw hmw hPk hQ B;refine Jo 8 H ?_;refine Jk rfl rfl (NF c s i' g' B u' v' H) ?_;clear H;rintro v w ⟨rfl,H⟩;rw[hd];replace H:=Js [6,0,0,0,0,0,0] 0 H;refine Jo 17 H ?_;refine Jk rfl rfl (eT mo m o B q H) ?_;clear H;rintro v w ⟨rfl,H⟩;refine Ja 18 ?_;rw[Gm (((Yg m o B q).2:Nat):Int)];refine Ja 19 ?_;refine Jx H ?_;replace H:=Js [3,1,0,1] 3 H;exact Q3 (Jy H rfl fun w' H'=>⟨rfl,_,_,_,R',UB (PQ m o B q).1 (PQ m o B q).2 (P8 s i' g' B u' v') (fun hI=>Nf hw hI i' g' B u' v') (gb s i' g' B u' v'),YH H'⟩)
 rw[show (k == 6)=false by simpa using hk6];refine Zf H ?_;by_cases hk7:k=7
 ·subst hk7;refine VH H ?_;replace H:=Js [3,0,0,0,0,0] 0 H;refine J1 H ?_;clear H;intro w H;refine Yu H ?_;refine Jl 3 [7,15] H ?_;refine VB 4 [7,15] H rfl (Q7.none rfl) rfl (by repeat first|exact .nil _|apply Q9.cons rfl) (by kernel_rfl) ?_;refine Jf 5 ?_;refine Jl 6 [7,15] H ?_;refine EH H ?_;refine Jl 11 [15] H ?_;refine Ja 12 ?_;refine Jf 13 ?_;refine Jl 14 [15] H ?_;obtain⟨hd,R'⟩:=fU R hmw hPk B;refine Jo 7 H ?_;refine Jk rfl rfl (bc c s i' g' B H) ?_;clear H;rintro v w ⟨rfl,H⟩;rw[hd];replace H:=Js [4,0,0,0,0,0] 0 H;refine Jo 15 H ?_;refine Jk rfl rfl (eS mo m o B H) ?_;clear H;rintro v w ⟨rfl,H⟩;refine Ja 16 ?_;rw[Gm (((Ui m o B).2:Nat):Int)];refine Ra H ?_;replace H:=Js [4,1,0,2] 2 H;exact Q3 (Jy H rfl fun w' H'=>⟨rfl,_,_,_,R',UB (P9 m o B).1 (P9 m o B).2 (P7 s i' g' B .none) (fun hI=>Nd hI i' g' B trivial fun a b h=>by cases h) (PK s i' g' B .none),YH H'⟩)
 rw[show (k == 7)=false by simpa using hk7];refine Zf H ?_;by_cases hk8:k=8
 ·subst hk8;refine VH H ?_;replace H:=Js [3,0,0,0,0,0] 0 H;refine J1 H ?_;clear H;intro w H;refine Yu H ?_;refine Jl 3 [5,11] H ?_;refine VB 4 [5,11] H rfl (Q7.none rfl) rfl (by repeat first|exact .nil _|apply Q9.cons rfl) (by kernel_rfl) ?_;refine AJ H ?_;refine Jl 9 [11] H ?_;refine Ja 10 ?_;obtain⟨hd,R'⟩:=fY R hPk;refine Jo 5 H ?_;refine Jk rfl rfl (bJ c s i' g' H) ?_;clear H;rintro v w ⟨rfl,H⟩;rw[hd];replace H:=Js [4,0,0,0,0,0] 0 H;refine Jo 11 H ?_;refine Jk rfl rfl (eO mo m o H) ?_;clear H;rintro v w ⟨rfl,H⟩;refine Ja 12 ?_;rw[Gm (((Gj m o).2:Nat):Int)];refine Rb H ?_;replace H:=Js [4,1,0,2] 2 H;exact Q3 (Jy H rfl fun w' H'=>⟨rfl,_,_,_,R',UB (PY m o).1 (PY m o).2 (gL s i' g') (fun hI=>cB hI i' g') (gT s i' g'),YH H'⟩)
 rw[show (k == 8)=false by simpa using hk8];refine Zf H ?_;by_cases hk9:k=9
 ·subst hk9;refine VH H ?_;replace H:=Js [3,0,0,0,0,0] 0 H;refine J1 H ?_;clear H;intro w H;refine Yu H ?_;refine Jl 3 [9,19] H ?_;refine VB 4 [9,19] H rfl (Q7.none rfl) rfl (by repeat first|exact .nil _|apply Q9.cons rfl) (by kernel_rfl) ?_;refine Jf 5 ?_;refine Jl 6 [9,19] H ?_;refine Ja 7 ?_;refine Ja 8 ?_;refine EI H ?_;refine Jl 13 [19] H ?_;refine Ja 14 ?_;refine Jf 15 ?_;refine Jl 16 [19] H ?_;refine Ja 17 ?_;refine Ja 18 ?_;generalize hon:(YM .and .u64 (X:Int) 1 == 1)=on;obtain⟨hd,R'⟩:=fZ R hPk on;refine Jo 9 H ?_;refine Jk rfl rfl (bM c s i' g' on H) ?_;clear H;rintro v w ⟨rfl,H⟩;rw[hd];replace H:=Js [4,0,0,0,0,0] 0 H;refine Jo 19 H ?_;refine Jk rfl rfl (eP mo m o on H) ?_;clear H;rintro v w ⟨rfl,H⟩;refine Ja 20 ?_;rw[Gm (((Gk m o on).2:Nat):Int)];refine Ja 21 ?_;refine Jx H ?_;replace H:=Js [4,1,0,2] 2 H;exact Q3 (Jy H rfl fun w' H'=>⟨rfl,_,_,_,R',UB (PZ m o on).1 (PZ m o on).2 (gM s i' g' on) (fun hI=>cC hI i' g' on) (ga s i' g' on),YH H'⟩)
 rw[show (k == 9)=false by simpa using hk9];refine Zf H ?_;by_cases hk10:k=10
 ·subst hk10;refine VH H ?_;refine Gv H ?_;refine Jv ?_;replace H:=Js [2,2,2,2,0,0] 0 H;refine Jc rfl rfl (gH p c mo _ s m told R.w i' g' o (K9 R hPk) H) ?_;clear H;rintro v w ⟨rfl,H⟩;refine J0 H ?_;replace H:=Js [0,0,0,0] 2 H;exact Q3 (Jy H rfl fun w' H'=>⟨rfl,s,m,told,R,UB rfl rfl rfl,YH H'⟩)
 rw[show (k == 10)=false by simpa using hk10];refine Zf H ?_;by_cases hk11:k=11
 ·subst hk11;refine VH H ?_;replace H:=Js [3,0,0,0,0,0] 0 H;have hLk:=fun (w:World) (fr:List Q2) (H:Q0 w (QW c s::fr))=>FQ c s i' g' B H
  rcases Ik R hPk B with ⟨h0,h1⟩|⟨h0,n,j,x,rfl,rfl,hx,hv,hj,hr,hk2,h1⟩
  ·rw[h1] at hLk;obtain⟨l1,l2,l3,hlk⟩:=U1 .none;rw[hlk] at hLk;refine J6 H ?_;refine Qk (fun ms σ w=>ms=[]∧∃ b27,σ 0=pp p∧σ 3=pp b3∧σ 6 = .int .i64 o∧σ 27=pp b27∧σ 28 = .int .i64 (VD m o B true:Nat)∧Q0 w (pts b27 (row 85 [.int .i64 l1,.int .i64 l2,.int .i64 l3])::pts b3 (row 103 [.int .i64 11,.int .i64 A,.int .i64 B,.int .i64 C,.int .u64 X,.slice adW ws.length capW,.bool raw,.int .i64 i,.int .i64 g])::Va p c mo (.slice a told.length cap)::QW c s::Qq mo m::VE (.slice a told.length cap) told::fr)) ?_ ?_
   ·refine J1 H ?_;clear H;intro w H;refine Yu H ?_;refine Jl 3 [7,12] H ?_;refine HJ H ?_;refine Jf 5 ?_;refine Jl 6 [7,12] H ?_;refine Jw 7 11 H rfl rfl (Qy (a:=[]) (b:=[]) rfl rfl (call (hLk _ _ H) ?_)) (VN H rfl ?_)
    ·clear H;rintro v w ⟨rfl,H⟩;refine RP H ?_;refine C2 H ?_;clear H;intro b27 w H;refine Xw H ?_;clear H;intro w H;refine Rb H ?_;replace H:=Js [0,2,2,0,1,1] 1 H;exact⟨rfl,rfl,b27,rfl,rfl,rfl,rfl,rfl,H⟩
    ·clear H;intro b27 w H;refine Jo 7 H ?_;refine Jk rfl rfl (hLk _ _ H.swap) ?_;clear H;rintro v w ⟨rfl,H⟩;refine RP H ?_;refine Xw H ?_;clear H;intro w H;refine Rb H ?_;replace H:=Js [1,2,2,0,1,1] 1 H;exact⟨rfl,rfl,b27,rfl,rfl,rfl,rfl,rfl,H⟩
   clear H;rintro ms σ w ⟨rfl,b27,g0,g3,g6,g27,g28,H⟩;rw[Q1 g0,Q1 g3,Q1 g6,Q1 g27,Q1 g28];replace H:=Js [4,0,0,0,0,0] 0 H;refine J1 H ?_;clear H;intro w H;refine CG H ?_;refine Jk rfl rfl (Ru mo m o B true H) ?_;clear H;rintro v w ⟨rfl,H⟩;refine XH H ?_;refine J4 H ?_;rw[show (((VD m o B true:Nat):Int) != 0)=true by rw[bne_iff_ne];omega];refine VH H ?_;cases hlk;refine Vc H ?_;rw[Gm ((VD m o B true:Nat):Int)];refine Jv ?_;refine CV H ?_;refine QT rfl rfl rfl (R9 rfl rfl rfl rfl (.inl rfl) rfl ?_);refine J3 H ?_;replace H:=Js [3,3,0,2] 2 H;exact Q3 (Jy H rfl fun w' H'=>⟨congrArg Value.bool ((Cx _ _).trans (JG 0 0 0)),s,m,told,R,UB rfl rfl rfl,YH H'⟩)
  ·have hnl:=(List.getElem?_eq_some_iff.1 hx).1;have hmx:=hmw.objs x (mem_of_getElem? hx);have hkn:=hmx.kind;have htn:=hmx.to;have hsm:=Rt (w:=hmw) hx;have hkj:=getElem?_eq_getElem (l:=x.kind) (i:=j) (by omega);have htj:=getElem?_eq_getElem (l:=x.to) (i:=j) (by omega);have hkd:x.kind.getD j 0=x.kind[j]:=by rw[getD_eq_getElem?_getD,hkj];rfl
   have htd:x.to.getD j 0=x.to[j]:=by rw[getD_eq_getElem?_getD,htj];rfl
   have hgo:=hmx.goes j;rw[htd] at hgo;rw[hkd] at hk2;rw[hkd,htd] at h1;generalize x.kind[j]=kd at *;generalize x.to[j]=td at *;have hlt:kd=2→td < told.length:=fun h=>by rw[R.len];exact hgo (by rw[hkj,h])
   rw[h1] at hLk;obtain⟨l1,l2,l3,hlk⟩:=U1 (ZZ told kd td);rw[hlk] at hLk;have hlink:=fun (w:World) (fr:List Q2) (H:Q0 w (Va p c mo (.slice a told.length cap)::VE (.slice a told.length cap) told::fr))=>P3 p c mo a cap told kd td hk2 hlt H;rw[hlk] at hlink;refine J6 H ?_;refine Qk (fun ms σ w=>ms=[]∧∃ b27,σ 0=pp p∧σ 3=pp b3∧σ 6 = .int .i64 n∧σ 27=pp b27∧σ 28 = .int .i64 (0:Nat)∧Q0 w (pts b27 (row 85 [.int .i64 l1,.int .i64 l2,.int .i64 l3])::pts b3 (row 103 [.int .i64 11,.int .i64 A,.int .i64 (j:Nat),.int .i64 C,.int .u64 X,.slice adW ws.length capW,.bool raw,.int .i64 i,.int .i64 g])::Va p c mo (.slice a told.length cap)::QW c s::Qq mo m::VE (.slice a told.length cap) told::fr)) ?_ ?_
   ·refine J1 H ?_;clear H;intro w H;refine Yu H ?_;refine Jl 3 [7,12] H ?_;refine HJ H ?_;refine Jf 5 ?_;refine Jl 6 [7,12] H ?_;refine Jw 7 11 H rfl rfl (Qy (a:=[]) (b:=[]) rfl rfl (call (hLk _ _ H) ?_)) (VN H rfl ?_)
    ·clear H;rintro v w ⟨rfl,H⟩;refine RP H ?_;refine C2 H ?_;clear H;intro b27 w H;refine Xw H ?_;clear H;intro w H;refine Rb H ?_;replace H:=Js [0,2,2,0,1,1] 1 H;exact⟨rfl,rfl,b27,rfl,rfl,rfl,rfl,rfl,H⟩
    ·clear H;intro b27 w H;refine Jo 7 H ?_;refine Jk rfl rfl (hLk _ _ H.swap) ?_;clear H;rintro v w ⟨rfl,H⟩;refine RP H ?_;refine Xw H ?_;clear H;intro w H;refine Rb H ?_;replace H:=Js [1,2,2,0,1,1] 1 H;exact⟨rfl,rfl,b27,rfl,rfl,rfl,rfl,rfl,H⟩
   clear H;rintro ms σ w ⟨rfl,b27,g0,g3,g6,g27,g28,H⟩;rw[Q1 g0,Q1 g3,Q1 g6,Q1 g27,Q1 g28];replace H:=Js [4,0,0,0,0,0] 0 H;refine J1 H ?_;clear H;intro w H;refine CG H ?_;refine Jk rfl rfl (Ru mo m n j true H) ?_;clear H;rintro v w ⟨rfl,H⟩;rw[h0];refine XH H ?_;refine Gw H ?_;obtain⟨t,lc,aL,cL,bO,cO,sO,ptrs,q,vw,vk,vt,rest,hm,h2,hp,H,hclose⟩:=Gi H hx;have hm':=Rs hx hm;obtain⟨ak,ck,rfl⟩:=QE H.drop.drop (QH _) (by decide);obtain⟨at',ct,rfl⟩:=QE H.drop.drop.drop (QH _) (by decide);replace H:=Js [2,0,0,0] 0 H;obtain⟨bk,sk,rfl,H,hck⟩:=V3 H (by omega);replace H:=Js [3,0,0,0] 0 H;obtain⟨bt,st,rfl,H,hct⟩:=V3 H (by omega);refine J1 H ?_;clear H;intro w H;refine EL H ?_;refine VB 4 [39] H rfl (Q7.of rfl rfl rfl) rfl (by repeat first|exact .nil _|apply Q9.cons rfl) (by kernel_rfl) ?_;refine De H ?_;refine Jl 8 [39] H ?_;refine Ja 9 ?_;refine Jf 10 ?_;refine Jl 11 [39] H ?_;refine Ja 12 ?_;refine Ji 13 ?_;refine Vn 14 [39] H rfl (Q7.of rfl rfl rfl) rfl hp (by kernel_rfl) ?_;refine Ja 15 ?_;refine Jf 16 ?_;refine Jl 17 [39] H ?_;refine Jf 18 ?_;refine Jl 19 [39] H ?_;refine Ji 20 ?_;refine Vn 21 [39] H rfl (Q7.of rfl rfl rfl) rfl (Gz hkj) (by kernel_rfl) ?_;refine Ja 22 ?_;refine Ja 23 ?_;refine Jf 24 ?_;refine Jl 25 [39] H ?_;refine Ja 26 ?_;refine Jf 27 ?_;refine Jl 28 [39] H ?_;refine Ja 29 ?_;refine Ji 30 ?_;refine Vn 31 [39] H rfl (Q7.of rfl rfl rfl) rfl hp (by kernel_rfl) ?_;refine Ja 32 ?_;refine Jf 33 ?_;refine Jl 34 [39] H ?_;refine Jf 35 ?_;refine Jl 36 [39] H ?_;refine Ji 37 ?_;refine Vn 38 [39] H rfl (Q7.of rfl rfl rfl) rfl (Gz htj) (by kernel_rfl) ?_;replace H:=Js [12,13,0,0,0,0,0,0,0,0,0,0,0,0,0] 0 H;refine Jo 39 H ?_;refine Jk rfl rfl (hlink _ _ H) ?_;clear H;rintro v w ⟨rfl,H⟩;refine Ja 40 ?_;refine Ja 41 ?_;refine Jx H ?_;replace H:=Js [3,2,2,2,2,2,2,2,2,2,2,2,2,0,0] 0 H;replace H:=hck _ _ H;replace H:=Js [1,0,0,0] 0 H;replace H:=hct _ _ H;replace H:=Js [2,2,1,0] 0 H;replace H:=UW hx (hclose _ _ x hm' H);replace H:=Js [4,3,0,2] 2 H;exact Q3 (Jy H rfl fun w' H'=>⟨rfl,s,m,told,R,UB rfl rfl rfl,YH H'⟩)
 rw[show (k == 11)=false by simpa using hk11];refine KS H ?_;replace H:=Js [2,2,2,2] 2 H;exact Q3 (Jy H rfl fun w' H'=>⟨rfl,s,m,told,R,UB rfl rfl rfl,YH H'⟩)
structure Ac where
 k:Int
 A:Int
 B:Int
 C:Int
 X:Nat
 vW:Value
 ws:List Nat
 raw:Bool
 i:Int
 g:Int
def Xc (x:Ac):List Value:=[.int .i64 x.k,.int .i64 x.A,.int .i64 x.B,.int .i64 x.C,.int .u64 x.X,x.vW,.bool x.raw,.int .i64 x.i,.int .i64 x.g]
def KY (l:List Ac):List Value:=l.flatMap Xc
def Fb (fr:List Q2) (x:Ac):Prop:=x.X < 18446744073709551616∧(∀ y∈x.ws,y < 18446744073709551616)∧Vt fr x.vW x.ws.length 1 (Qa x.ws)
theorem JX (l:List Ac):(KY l).length=l.length*9:=by
 induction l with
 | nil=>rfl
 | cons p L ih=>simp only[KY,Xc,flatMap_cons,length_append,length_cons,length_nil] at ih ⊢;omega
theorem gh {L:List Ac} {i:Nat} {x:Ac} (h:L[i]? = some x):∀ j v,(Xc x)[j]? = some v→(KY L)[i*9+j]? = some v:=by
 induction L generalizing i with
 | nil=>simp at h
 | cons y L ih=>
  intro j v hj;have hj9:j < 9:=(List.getElem?_eq_some_iff.1 hj).1;cases i with
  | zero=>
   simp at h;subst h;show (Xc y++L.flatMap Xc)[0*9+j]? = _;rw[Nat.zero_mul,Nat.zero_add,getElem?_append_left hj9];exact hj
  | succ i=>
   have:=ih (i:=i) (by simpa using h) j v hj;show (Xc y++L.flatMap Xc)[(i+1)*9+j]? = _;rw[getElem?_append_right (by show 9≤_;omega)];show (L.flatMap Xc)[(i+1)*9+j - 9]? = _;rw[show (i+1)*9+j - 9=i*9+j by omega];exact this
theorem gj {c:List Value} {o n:Nat} {L:List Ac} (h:Q9 c o n (KY L)) {i:Nat} {x:Ac} (hp:L[i]? = some x):Q9 c (o+i*9) 9 (Xc x):=
 h.part (es:=Xc x) fun j v hj=>gh hp j v hj
theorem gk [Q4] (v:Value) (l:List Ac) (hl:l.length≤9223372036854775807) {w:World} {fr:List Q2} (hr:Vt fr v l.length 9 (KY l)) (hok:∀ x∈l,Fb fr x) (H:Q0 w fr) :
  Calls Tryz.prog 87 #[v] w (ret fun r w'=>∃ b,r = .bool b∧(b=false→l.length≤60)∧Q0 w' fr):=by
 obtain⟨h0,ad,cap,rfl,hrd⟩:=hr;refine QQ Tryz.func87 rfl (by kernel_rfl) ?_;refine XC H ?_;refine Gx H ?_;by_cases h60:(l.length:Int) > 60
 ·rw[show decide ((l.length:Int) > 60)=true from decide_eq_true (by omega)];refine YC H ?_;exact Q3 (Jy H rfl fun w' H'=>⟨true,rfl,(fun h=>by cases h),H'⟩)
 rw[show decide ((l.length:Int) > 60)=false from decide_eq_false (by omega)];refine AU H ?_;refine KP H ?_;refine Ql (fun ms σ w n=>ms=[]∧∃ i:Nat,i≤l.length∧n=l.length - i∧σ 8 = .slice ad l.length cap∧σ 9 = .int .i64 l.length∧σ 10 = .int .i64 i∧Q0 w fr) (m:=l.length) ⟨rfl,0,by omega,rfl,rfl,rfl,rfl,H⟩ ?_;clear H;rintro ms σ w n ⟨rfl,i,hi,rfl,g8,g9,g10,H⟩;rw[Q1 g8,Q1 g9,Q1 g10];refine J8 H ?_;refine Qj rfl (fun h=>QD ?_) (fun h=>Qp ?_)
 ·have hlt:i < l.length:=by omega
  have hy:=getElem?_eq_getElem hlt;generalize l[i]=y at hy;have hym:=hok y (mem_of_getElem? hy)
  rcases hrd with hz|⟨b,o,E,fz,c,rfl,hA,hrd⟩
  ·omega
  haveI:=hA;obtain⟨k,A,B,C,X,vW,ws,raw,i1,g1⟩:=y;obtain⟨_,_,_,adW,capW,hvW,_⟩:=hym;replace hvW:vW = .slice adW ws.length capW:=hvW;subst hvW;refine YB H ?_;refine Jd ?_;refine Q5 rfl (VA H rfl (gj hrd hy) rfl ?_);refine VZ H ?_;clear H;intro b4 w H;refine J5 H ?_;clear H;intro w H;refine J2 H ?_;refine RY H ?_;by_cases hk:k=2
  ·subst hk;refine A4 H ?_;by_cases hC:C > 40
   ·rw[show decide (C > 40)=true from decide_eq_true (by omega)];refine Yj H ?_;refine KJ H ?_;refine Yj H ?_;refine Uy H ?_;refine UM H ?_;exact Q3 (Jy H.drop rfl fun w' H'=>⟨true,rfl,(fun h=>by cases h),H'⟩)
   ·rw[show decide (C > 40)=false from decide_eq_false (by omega)];refine Dq H ?_;by_cases hB:B > 64
    ·rw[show decide (B > 64)=true from decide_eq_true (by omega)];refine Yj H ?_;refine Uy H ?_;refine UM H ?_;exact Q3 (Jy H.drop rfl fun w' H'=>⟨true,rfl,(fun h=>by cases h),H'⟩)
    ·rw[show decide (B > 64)=false from decide_eq_false (by omega)];by_cases hw:(ws.length:Int) > 10
     ·first|refine VU rfl rfl rfl rfl ?_|refine Qw rfl rfl rfl ?_|refine Xm rfl rfl ?_
      refine ET H ?_;rw[show decide ((ws.length:Int) > 10)=true from decide_eq_true (by omega)];refine UM H ?_;exact Q3 (Jy H.drop rfl fun w' H'=>⟨true,rfl,(fun h=>by cases h),H'⟩)
     ·first|refine VU rfl rfl rfl rfl ?_|refine Qw rfl rfl rfl ?_|refine Xm rfl rfl ?_
      refine ET H ?_;rw[show decide ((ws.length:Int) > 10)=false from decide_eq_false (by omega)];refine Uv H ?_;exact⟨_,⟨rfl,i+1,hlt,rfl,rfl,rfl,Qc (by omega),H.drop⟩,by omega⟩
  ·rw[show (k == 2)=false by simpa using hk];by_cases hw:(ws.length:Int) > 10
   ·first|refine Jv ?_|refine Up rfl rfl ?_
    refine AR H ?_;refine Dm H ?_;refine ET H ?_;rw[show decide ((ws.length:Int) > 10)=true from decide_eq_true (by omega)];refine UM H ?_;exact Q3 (Jy H.drop rfl fun w' H'=>⟨true,rfl,(fun h=>by cases h),H'⟩)
   ·first|refine Jv ?_|refine Up rfl rfl ?_
    refine AR H ?_;refine Dm H ?_;refine ET H ?_;rw[show decide ((ws.length:Int) > 10)=false from decide_eq_false (by omega)];refine Uv H ?_;exact⟨_,⟨rfl,i+1,hlt,rfl,rfl,rfl,Qc (by omega),H.drop⟩,by omega⟩
 ·have hge:i=l.length:=by omega
  refine VF H ?_;exact Q3 (Jy H rfl fun w' H'=>⟨false,rfl,fun _=>by omega,H'⟩)
def Xd (n size slots:Nat):CS:=⟨size,List.replicate n 0,[],List.replicate slots ⟨0,none⟩,0,[],[],[],[]⟩
theorem PW (n size slots:Nat):Rel (Xd n size slots) GY []:=by
 have hno:∀ (k g:Nat) (e:Q8),(List.replicate slots (⟨0,none⟩:QK))[k]? ≠ some ⟨g,some e⟩:=by
  intro k g e h;rw[getElem?_replicate] at h;split at h <;> cases h
 refine⟨rfl,rfl,?_,nodup_nil,rfl,?_,?_,fun k g e h=>absurd h (hno k g e),?_,nodup_nil⟩
 ·intro r q;constructor
  ·intro h;cases h
  ·rintro⟨k,_,h1,h2,_⟩;have:k < 1:=(List.getElem?_eq_some_iff.1 h2).1;omega
 ·intro o x k g h;cases h
 ·intro o x k g h;cases h
 ·intro o k g h;cases h
structure W1 (s:CS) (told:List (Nat×Nat)):Prop where
 shape:∃ r,Vm s.tab=List.replicate told.length (1,true)++List.replicate r (0,false)
 told:told=(List.range told.length).map fun i=>(i,1)
 inv:Inv s
theorem gl (n size slots:Nat):W1 (Xd n size slots) []:=⟨⟨slots,by simp[Vm,Xd]⟩,rfl,Nh rfl Ni⟩
theorem B8 {ts:List QK} {n r k:Nat} {t:QK} (h:Vm ts=List.replicate n (1,true)++List.replicate r (0,false)) (hk:ts[k]? = some t):(k < n∧t.gen=1∧t.ent.isSome=true)∨(n≤k∧k < n+r∧t.gen=0∧t.ent=none):=by
 have h1:(Vm ts)[k]? = some (t.gen,t.ent.isSome):=by
  unfold Vm;rw[getElem?_map,hk];rfl
 rw[h] at h1;by_cases hkn:k < n
 ·rw[getElem?_append_left (by simpa using hkn),getElem?_replicate,if_pos hkn] at h1;injection h1 with h1
  injection h1 with h2 h3
  exact .inl ⟨hkn,h2.symm,h3.symm⟩
 ·rw[getElem?_append_right (by simp;omega),length_replicate,getElem?_replicate] at h1;split at h1
  ·injection h1 with h1
   injection h1 with h2 h3
   refine .inr ⟨by omega,by omega,h2.symm,?_⟩;cases he:t.ent with
   | none=>rfl
   | some e=>rw[he] at h3;cases h3
  ·cases h1
theorem W1.step {s s':CS} {m m':MS} {told told':List (Nat×Nat)} (h:W1 s told) (st:Cz s m told s' m' told'):W1 s' told':=by
 obtain⟨⟨r,hs⟩,ht,hI⟩:=h
 rcases st.tab with ⟨rfl,h1⟩|⟨k,g0,rfl,h1,h2,h3⟩
 ·exact⟨⟨r,by rw[h1];exact hs⟩,ht,st.inv hI⟩
 ·rcases B8 hs h1 with ⟨_,_,h4⟩|⟨h4,h5,h6,_⟩
  ·cases h4
  ·have h6:g0=0:=h6;subst h6
   have hl:s.tab.length=told.length+r:=by
    have:=congrArg List.length hs;simpa [Vm] using this
   have hk:k=told.length:=by
    refine Classical.byContradiction fun hne=>?_;have hlt:told.length < k:=by omega
    have hn:=getElem?_eq_getElem (l:=s.tab) (i:=told.length) (by omega);have hb:=h2 told.length _ hlt hn
    rcases B8 hs hn with ⟨h7,_⟩|⟨_,_,h7,h8⟩
    ·omega
    ·unfold busy at hb;rw[h7,h8] at hb;cases hb
   subst hk;refine⟨⟨r - 1,?_⟩,?_,st.inv hI⟩
   ·rw[h3,hs,length_append];obtain⟨r',rfl⟩:∃ r',r=r'+1:=⟨r - 1,by omega⟩;rw[set_append_right _ _ (by simp),length_replicate,Nat.sub_self,replicate_succ,set_cons_zero,Nat.add_sub_cancel];show _=List.replicate (told.length+1) (1,true)++_;rw[replicate_succ',append_assoc];rfl
   ·rw[length_append];show told++[(told.length,1)]=(List.range (told.length+1)).map _;rw[range_succ,map_append,← ht];rfl
theorem JK (x:Int):∃ X:Nat,(if x > 0 then x else 0)=(X:Int):=⟨x.toNat,by split <;> omega⟩
theorem gm [Q4] (z1 z2 z3:Int) {w:World} {fr:List Q2} (H:Q0 w fr) :
  Calls Tryz.prog 28 #[.agg #[.int .i64 z1,.int .i64 z2,.int .i64 z3]] w (ret fun v w'=>∃ p n size slots,v=pp p∧1≤n∧n≤20∧1≤size∧size≤16∧1≤slots∧slots≤16∧Q0 w' (Uk p (Xd n size slots) GY []::fr)):=by
 obtain⟨X1,h1⟩:=JK z1;obtain⟨X2,h2⟩:=JK z2;obtain⟨X3,h3⟩:=JK z3;refine QQ Tryz.func28 rfl (by kernel_rfl) ?_;refine J7 H ?_;clear H;intro b1 w H;refine WX H ?_;refine AZ H ?_;rw[h1]
 refine UD (v := .int .i64 ((X1 % 20:Nat):Int)) (by
  show some (Value.int IntKind.i64 (Int.tmod (X1:Int) 20))=_;rw[Int.tmod_eq_emod_of_nonneg (by omega)];rfl) rfl ?_
 refine Jv ?_;rw[show IntKind.i64.wrap (1+((X1 % 20:Nat):Int))=((X1 % 20+1:Nat):Int) by rw[Qb (by omega) (by omega)];omega];refine ZW H ?_;refine AZ H ?_;rw[h2]
 refine UD (v := .int .i64 ((X2 % 16:Nat):Int)) (by
  show some (Value.int IntKind.i64 (Int.tmod (X2:Int) 16))=_;rw[Int.tmod_eq_emod_of_nonneg (by omega)];rfl) rfl ?_
 refine Jv ?_;rw[show IntKind.i64.wrap (1+((X2 % 16:Nat):Int))=((X2 % 16+1:Nat):Int) by rw[Qb (by omega) (by omega)];omega];refine ZW H ?_;refine AZ H ?_;rw[h3]
 refine UD (v := .int .i64 ((X3 % 16:Nat):Int)) (by
  show some (Value.int IntKind.i64 (Int.tmod (X3:Int) 16))=_;rw[Int.tmod_eq_emod_of_nonneg (by omega)];rfl) rfl ?_
 refine Jv ?_;rw[show IntKind.i64.wrap (1+((X3 % 16:Nat):Int))=((X3 % 16+1:Nat):Int) by rw[Qb (by omega) (by omega)];omega]
 refine Jc rfl rfl (NI (X1 % 20+1) (X2 % 16+1) (X3 % 16+1) (by omega) (by omega) (by omega) (by omega) (by omega) (by omega) H) ?_;clear H;rintro v w ⟨c,rfl,H⟩;refine G3 H ?_;refine Vc H ?_;refine Yj H ?_;refine E8 H ?_;refine YZ H ?_;refine Jc rfl rfl (ef H) ?_;clear H;rintro v w ⟨mo,rfl,H⟩;refine XW H ?_;clear H;intro b33 w H;refine J0 H ?_;have H:=Yt (E:=62) (k:=2) H;replace H:=Js [1,2,1,0] 1 H;exact Q3 (Jy (YH (told:=[]) H) rfl fun w' H'=>⟨_,X1 % 20+1,X2 % 16+1,X3 % 16+1,rfl,by omega,by omega,by omega,by omega,by omega,by omega,H'⟩)
def L0:QL:=⟨2,[1],0,[]⟩
theorem gn:ZC [2,2,0]=some L0:=by rfl
theorem gp:Vh L0:=by decide
theorem gr:V9 GY:=⟨⟨by simp[GY],by simp[GY]⟩,⟨by simp[GY],fun l h=>by simp[GY] at h⟩,(fun x h=>by simp[GY] at h),by simp[GY]⟩
theorem PA {r1:Int} {s s':CS} {m:MS} {told:List (Nat×Nat)} {i g e:Nat} (R:Rel s m told) (hm:V9 m) (F:W1 s told) (hM:JU s r1 1 0 i g e s') (hmay:Vq m r1 1 0=(2,0)) (hsz:s.size=8) (hlen:told.length < s.tab.length) (hfree:∃ a,a < s.own.length∧s.own.getD a 0=0) :
  e=0∧i=told.length∧g=1∧Rel s' (Kq m r1 1 0) (told++[(told.length,1)])∧W1 s' (told++[(told.length,1)])∧s'.size=8∧FZ s.own s'.own 1∧s'.tab.length=s.tab.length:=by
 obtain⟨hm1,hm2⟩:=Io R r1 1 0;rw[hmay] at hm1;have hn:YE s 1 0=2:=by rw[hm2 (by rw[hmay]),hmay]
 have hk:YE s 1 0 / s.size+1=1:=by rw[hn,hsz]
 obtain⟨⟨r,hs⟩,ht,_⟩:=id F
 have hnb:∀ t,s.tab[told.length]? = some t→busy t=false:=by
  intro t h
  rcases B8 hs h with ⟨h7,_⟩|⟨_,_,h7,h8⟩
  ·omega
  ·unfold busy;rw[h7,h8];rfl
 have hat:=getElem?_eq_getElem (l:=s.tab) (i:=told.length) hlen
 rcases hM with ⟨h1,_⟩|⟨h1,h2,_⟩|⟨h1,h2,_⟩|⟨h1,rfl,g0,addr,h2,h3,h4,rfl,h5,h6,h7,h8,h9,h10,h11,h12P⟩
 ·exact absurd hm1 h1
 ·have h3:=h2 _ (mem_of_getElem? hat);rw[hnb _ hat] at h3;cases h3
 ·obtain⟨a,ha,hz⟩:=hfree;rw[hk] at h2;obtain⟨j,h3,h4,h5⟩:=h2 a (by omega);obtain rfl:j=a:=by omega
  exact absurd hz h5
 ·rw[hk] at h11
  have hi:i=told.length:=by
   rcases B8 hs h2 with ⟨_,_,h12⟩|⟨h12,_⟩
   ·cases h12
   ·refine Classical.byContradiction fun hne=>?_;have h13:=h4 told.length _ (by omega) hat;rw[hnb _ hat] at h13;cases h13
  subst hi
  have hg:g0=0:=by
   rcases B8 hs h2 with ⟨_,_,h12⟩|⟨_,_,h12,_⟩
   ·cases h12
   ·exact h12
  subst hg;obtain⟨_,R'⟩:=Oa R hm (by rw[hmay]) h2 h6 h7 h8 h10;refine⟨rfl,rfl,rfl,R',?_,by rw[h5,hsz],h11,by rw[h10,length_set]⟩;exact F.step (m:=m) (m':=Kq m r1 1 0) ⟨by show m.P.length≤_;omega,by show (m.objs++[_]).length≤_;simp,.inr ⟨told.length,0,rfl,h2,h4,by rw[h10];unfold Vm;rw[map_set];rfl⟩,fun hI=>Ng hI h2 h6 h9 h10 rfl,fun hT=>by rw[h8];exact hT,h12P⟩
end Go.Proofs.YtbnnnljagkjpiaaGreatDoor
namespace Go.Proofs.YtbnnnljagkjpiaaGreatDoor
open List
open Go.SL
structure Yb (s:CS) (m:MS) (told:List (Nat×Nat)) (n:Nat):Prop where
 R:Rel s m told
 I:Inv s
 T:Yo s.par
 P:Y0 s
 G:∀ (k:Nat) (t:QK),s.tab[k]? = some t→t.gen≤told.length
 O:m.objs.length≤n
 Q:m.P.length≤n+1
theorem Yb.start (n size slots:Nat):Yb (Xd n size slots) GY [] 0:=by
 refine⟨PW n size slots,(gl n size slots).inv,⟨nodup_nil,fun r q h=>(by cases h)⟩,fun k g e h=>?_,fun k t h=>?_,Nat.le_refl _,Nat.le_refl _⟩
 ·have h:(List.replicate slots (⟨0,none⟩:QK))[k]? = some ⟨g,some e⟩:=h;rw[getElem?_replicate] at h;split at h <;> cases h
 ·have h:(List.replicate slots (⟨0,none⟩:QK))[k]? = some t:=h;rw[getElem?_replicate] at h;split at h
  ·injection h with h
   subst h;exact Nat.le_refl _
  ·cases h
theorem gu {ts us:List QK} (h:Vm us=Vm ts) {k:Nat} {u:QK} (hk:us[k]? = some u):∃ t,ts[k]? = some t∧t.gen=u.gen:=by
 have h1:(Vm us)[k]? = some (u.gen,u.ent.isSome):=by
  unfold Vm;rw[getElem?_map,hk];rfl
 rw[h] at h1;unfold Vm at h1;rw[getElem?_map] at h1;cases ht:ts[k]? with
 | none=>rw[ht] at h1;cases h1
 | some t=>
  rw[ht] at h1;injection h1 with h1
  injection h1 with h1 _
  exact⟨t,rfl,h1⟩
theorem Yb.step {s s':CS} {m m':MS} {told told':List (Nat×Nat)} {n:Nat} (J:Yb s m told n) (R':Rel s' m' told') (S:Cz s m told s' m' told'):Yb s' m' told' (n+1):=by
 have h1:=S.objs;have h2:=S.P;have h3:=J.O;have h4:=J.Q;refine⟨R',S.inv J.I,S.tree J.T,S.part J.P,fun k t hk=>?_,by omega,by omega⟩
 rcases S.tab with ⟨e1,e2⟩|⟨k0,g0,e1,e2,_,e4⟩
 ·obtain⟨t0,a,b⟩:=gu e2 hk;rw[e1,← b];exact J.G k t0 a
 ·have hlen:told'.length=told.length+1:=by rw[e1,length_append];rfl
  rw[hlen]
  have hs:(Vm s'.tab)[k]? = some (t.gen,t.ent.isSome):=by
   unfold Vm;rw[getElem?_map,hk];rfl
  rw[e4,getElem?_set] at hs;split at hs
  ·split at hs
   ·injection hs with hs
    injection hs with hs _
    have:=J.G k0 _ e2;dsimp only at this;omega
   ·cases hs
  ·unfold Vm at hs;rw[getElem?_map] at hs;cases ht:s.tab[k]? with
   | none=>rw[ht] at hs;cases hs
   | some t0=>
    rw[ht] at hs;injection hs with hs
    injection hs with hs _
    have:=J.G k t0 ht;have hs:t0.gen=t.gen:=hs;omega
theorem Yb.free {s s':CS} {m:MS} {told:List (Nat×Nat)} {n:Nat} (J:Yb s m told n) (hm:V9 m) {id:Int} (hid:(QY s.par id).isSome=true) {L:List Int} (h1:L.Nodup) (h2:L.Pairwise (·≤·)) (h3:∀ c,c∈L↔ZO s.par id c) (hF:FN s L s'):L=(Zx m.P id).map (fun k:Nat=>(k:Int))∧Yb s' (KV m (Zx m.P id)) told (n+1):=by
 have hL:=fk J.R J.T hid h1 h2 h3;refine⟨hL,?_⟩;obtain⟨G,D,hT⟩:=hF.t;have hT':=hT;rw[hL] at hT';have h4:=J.O;have h5:=J.Q;refine⟨On J.R hm J.I hT',fh hT J.I,by rw[hT.par];exact fj J.T h3,hT.part J.P,fun k t hk=>?_,?_,?_⟩
 ·have hlt:k < s.tab.length:=by
   have:=(List.getElem?_eq_some_iff.1 hk).1;rw[hT.tabl] at this;exact this
  have ht:=getElem?_eq_getElem hlt;generalize s.tab[k]=t0 at ht;have:=hT.tab k t0 ht;rw[hk] at this;injection this with this
  have hg:=J.G k t0 ht;rw[this];split <;> exact hg
 ·show ((m.objs.map _).map _).length≤_;rw[length_map,length_map];omega
 ·show (Vu m.P _).length≤_;unfold Vu;rw[length_mapIdx];omega
theorem PB {s s':CS} {mv:Nat→Q8→Q8} (h:Uf s s' mv) {n:Nat} (hg:∀ (k:Nat) (t:QK),s.tab[k]? = some t→t.gen≤n):∀ (k:Nat) (t:QK),s'.tab[k]? = some t→t.gen≤n:=by
 intro k t hk
 have hlt:k < s.tab.length:=by
  have:=(List.getElem?_eq_some_iff.1 hk).1;rw[h.tabl] at this;exact this
 have ht:=getElem?_eq_getElem hlt;generalize s.tab[k]=t0 at ht;have:=h.tab k t0 ht;rw[hk] at this;injection this with this
 rw[this];exact hg k t0 ht
theorem Yb.merge {s s':CS} {m:MS} {told:List (Nat×Nat)} {n:Nat} (J:Yb s m told n) {id q:Nat} (hid:QY s.par (id:Int)=some (q:Int)) (hq:q≠0) (hM:Ay s id q s'):Yb s' (FI m id q) told (n+1):=by
 have h4:=J.O;have h5:=J.Q;obtain⟨u1,u2,u3⟩:=J.T.up _ _ hid;have hne:id≠q:=by omega
 refine⟨fS J.R (by omega) hne hM,dw hM (by omega) J.I,dv J.T hid (by omega) hM.par,hM.part J.P,PB hM.mv J.G,?_,?_⟩
 ·show (m.objs.map _).length≤_;rw[length_map];omega
 ·show (ZG m.P id q).length≤_;unfold ZG;rw[length_mapIdx];omega
theorem Yb.split {s s':CS} (hw:WF s) {m:MS} {told:List (Nat×Nat)} {n:Nat} (J:Yb s m told n) {r:Nat} (hr:(QY s.par (r:Int)).isSome=true) {Z:List Pl} {os:List Nat} (h:Az s r Z s') (hos:∀ (o k g:Nat) (x:QI),told[o]? = some (k,g)→m.objs[o]? = some x→x.gone=false→(o∈os↔k∈Z.map Pl.k)):Yb s' (Wm m r os) told (n+1):=by
 have h4:=J.O;have h5:=J.Q
 have hrl:((r:Nat):Int)≤s.last:=by
  cases hf:QY s.par (r:Int) with
  | none=>rw[hf] at hr;cases hr
  | some q=>exact(hw.par.2.2 _ _ ((Z1 J.T.nd).1 hf)).2
 refine⟨fa hw J.R h hos,eA hw hrl h J.I,?_,h.part,PB h.mv J.G,?_,?_⟩
 ·rw[h.par];exact OG J.T (.inr hr) (by omega) (fun x q hx=>(hw.par.2.2 x q hx).2) hrl
 ·show (m.objs.mapIdx _).length≤_;rw[length_mapIdx];omega
 ·show (m.P++[_]).length≤_;rw[length_append];show _+1≤_;omega
theorem gw {s:CS} {m:MS} {told:List (Nat×Nat)} (R:Rel s m told) {r:Nat} {ys:List ((Nat×Nat)×Int)} (hy:∀ y∈ys,Rz told y) (h0:ZU s.tab r [] (ys.map (·.1))=0) {Z:List Pl} (hZ:Z.map (fun z=>(z.k,z.g))=ys.map (·.1)) :
  (∀ o∈ys.map (fun y=>y.2.toNat),o < m.objs.length)∧ys.map (·.2)=(ys.map fun y=>y.2.toNat).map (fun o:Nat=>(o:Int))∧∀ (o k g:Nat) (x:QI),told[o]? = some (k,g)→m.objs[o]? = some x→x.gone=false→(o∈ys.map (fun y=>y.2.toNat)↔k∈Z.map Pl.k):=by
 obtain⟨c1,c2⟩:=FS h0
 have hat:∀ y∈ys,∃ n:Nat,y.2=n∧told[n]? = some y.1:=by
  intro y hyy
  rcases hy y hyy with h|⟨h1,h2⟩
  ·exact h
  ·exfalso;obtain⟨⟨e,he,_⟩,_⟩:=c1 y.1 (mem_map.2 ⟨y,hyy,rfl⟩);obtain⟨o,ho⟩:=R.used _ _ _ he;rw[h2] at ho;cases ho
 refine⟨fun o ho=>?_,?_,fun o k g x ht hx hg=>⟨fun ho=>?_,fun hk=>?_⟩⟩
 ·obtain⟨y,hyy,rfl⟩:=mem_map.1 ho;obtain⟨n,h1,h2⟩:=hat y hyy;rw[h1,Int.toNat_natCast,← R.len];exact(List.getElem?_eq_some_iff.1 h2).1
 ·rw[map_map];refine map_congr_left fun y hyy=>?_;obtain⟨n,h1,_⟩:=hat y hyy;show y.2=((y.2.toNat:Nat):Int);rw[h1,Int.toNat_natCast]
 ·obtain⟨y,hyy,rfl⟩:=mem_map.1 ho;obtain⟨n,h1,h2⟩:=hat y hyy;rw[h1,Int.toNat_natCast,h2] at ht;injection ht with ht
  have:(k,g)∈Z.map (fun z=>(z.k,z.g)):=by rw[hZ];exact mem_map.2 ⟨y,hyy,ht⟩
  obtain⟨z,z1,z2⟩:=mem_map.1 this;injection z2 with z2 _
  exact mem_map.2 ⟨z,z1,z2⟩
 ·obtain⟨z,z1,z2⟩:=mem_map.1 hk;have:(z.k,z.g)∈ys.map (·.1):=by rw[← hZ];exact mem_map.2 ⟨z,z1,rfl⟩
  obtain⟨y,hyy,hy1⟩:=mem_map.1 this;obtain⟨⟨e,he,_⟩,_⟩:=c1 y.1 (mem_map.2 ⟨y,hyy,rfl⟩);obtain⟨n,h1,h2⟩:=hat y hyy;rw[hy1] at he h2;dsimp only at he;obtain⟨e',he',_⟩:=R.obj o x k g hx ht hg;rw[z2,he'] at he;injection he with he
  injection he with hgg _
  have hon:=FF R.nodup ht (by rw[h2,← z2,hgg]);refine mem_map.2 ⟨y,hyy,?_⟩;rw[h1,Int.toNat_natCast,hon]
structure Sn where
 k:Nat
 g:Nat
 p:Nat
 l:VP
def D0 (s:CS) (y:Sn):Prop:=∃ e,s.tab[y.k]? = some ⟨y.g,some e⟩∧y.p < e.ws.length∧VV (QJ s e) y.p=true∧Qx e y.p=y.l
def JR (ts:List QK):VP→VP
 | .obj a b=>if (QS ts a b).isSome then .obj a b else .grave
 | l=>l
def JW (s:CS) (y:Sn):Prop:=∃ e,s.tab[y.k]? = some ⟨y.g,some e⟩∧y.p < e.ws.length∧VV (QJ s e) y.p=true∧Qx e y.p=JR s.tab y.l
theorem PC {ts:List QK} {k g:Nat} (h:∀ f,ts[k]? ≠ some ⟨g,some f⟩):QS ts k g=none:=by
 cases hl:QS ts k g with
 | none=>rfl
 | some q=>
  obtain⟨c,f⟩:=q;obtain⟨rfl,h1⟩:=Zt hl;exact absurd h1 (h f)
theorem gz {s:CS} (hI:Inv s) {y:Sn} (hy:D0 s y):JW s y:=by
 obtain⟨e,hk,hp,hr,hl⟩:=hy;refine⟨e,hk,hp,hr,?_⟩;rw[hl];cases hyl:y.l with
 | none=>rfl
 | grave=>rfl
 | obj a b=>
  rw[hyl] at hl;obtain⟨f,hf⟩:=hI.link _ _ _ _ a b hk hp hr hl;show _=if (QS s.tab a b).isSome then _ else _;rw[hf];rfl
theorem hY {s s':CS} {L:List Int} {G:List Nat} {D:List Rf} (h:XQ s L G D s') (hI:Inv s) {y:Sn} (hy:D0 s y):QS s'.tab y.k y.g=none∨JW s' y:=by
 obtain⟨e,hk,hp,hr,hl⟩:=hy;by_cases hG:y.k∈G
 ·left;refine PC fun f hf=>?_;rw[h.tab _ _ hk,if_pos hG] at hf;injection hf with hf
  injection hf with _ hf
  cases hf
 ·right;refine⟨_,h.at hk hG,by rw[Kl];exact hp,by rw[h.lay];exact hr,?_⟩
  have hgone:∀ (a b:Nat) (f:Q8),s.tab[a]? = some ⟨b,some f⟩→(QS s'.tab a b).isSome=decide (a∉G):=fun a b f ha=>by
   by_cases haG:a∈G
   ·rw[PC fun f' hf=>?_]
    ·simp[haG]
    ·rw[h.tab _ _ ha,if_pos haG] at hf;injection hf with hf
     injection hf with _ hf
     cases hf
   ·rw[Ku (h.at ha haG)];simp[haG]
  unfold Qx;rw[Cs hp];by_cases hD:(((y.k:Nat):Int),((y.p:Nat):Int))∈D
  ·rw[if_pos hD];obtain⟨_,a,b,f,h1,h2,h3⟩:=(h.cutIff hI hk hG hp).1 hD;rw[hl] at h1;rw[h1];show VP.grave=if (QS s'.tab a b).isSome then _ else _;rw[hgone a b f h2,decide_eq_false (show ¬ a∉G from fun h4=>h4 ((h.gone.2 a).2 ⟨b,f,h2,h3⟩))];rfl
  ·rw[if_neg hD];show Qx e y.p=_;rw[hl];cases hyl:y.l with
   | none=>rfl
   | grave=>rfl
   | obj a b=>
    rw[hyl] at hl;obtain⟨f,hf⟩:=hI.link _ _ _ _ a b hk hp hr hl;obtain⟨_,ha⟩:=Zt hf;show _=if (QS s'.tab a b).isSome then _ else _
    rw[hgone a b f ha,decide_eq_true (show a∉G from fun h4=>hD ((h.cutIff hI hk hG hp).2 ⟨hr,a,b,f,hl,ha,by
     obtain⟨g2,f2,h5,h6⟩:=(h.gone.2 a).1 h4;rw[ha] at h5;injection h5 with h5
     injection h5 with _ h5
     injection h5 with h5
     rw[h5];exact h6⟩))]
    rfl
end Go.Proofs.YtbnnnljagkjpiaaGreatDoor
namespace Go.Proofs.YtbnnnljagkjpiaaGreatDoor
open List
open Go.SL
def Gn:VP→Int
 | .none=>0
 | .grave=>1
 | .obj _ _=>2
def GX:VP→Int
 | .obj i _=>i
 | _=>0
def GK:VP→Int
 | .obj _ g=>g
 | _=>0
theorem JA (k:VP):ZA k = .agg #[.int .i64 (Gn k),.int .i64 (GX k),.int .i64 (GK k)]:=by cases k <;> rfl
@[reducible] def Gp (y:Sn):List Value:=[.int .i64 y.k,.int .i64 y.g,.int .i64 y.p,.int .i64 (Gn y.l),.int .i64 (GX y.l),.int .i64 (GK y.l)]
def YU (l:List Sn):List Value:=l.flatMap Gp
theorem PD (l:List Sn):(YU l).length=l.length*6:=by
 induction l with
 | nil=>rfl
 | cons p L ih=>simp only[YU,flatMap_cons,length_append,length_cons,length_nil] at ih ⊢;omega
theorem hU (l m:List Sn):YU (l++m)=YU l++YU m:=by
 unfold YU;rw[flatMap_append]
theorem i6 {L:List Sn} {i:Nat} {x:Sn} (h:L[i]? = some x):∀ j v,(Gp x)[j]? = some v→(YU L)[i*6+j]? = some v:=by
 induction L generalizing i with
 | nil=>simp at h
 | cons y L ih=>
  intro j v hj;have hj9:j < 6:=(List.getElem?_eq_some_iff.1 hj).1;cases i with
  | zero=>
   simp at h;subst h;show (Gp y++L.flatMap Gp)[0*6+j]? = _;rw[Nat.zero_mul,Nat.zero_add,getElem?_append_left hj9];exact hj
  | succ i=>
   have:=ih (i:=i) (by simpa using h) j v hj;show (Gp y++L.flatMap Gp)[(i+1)*6+j]? = _;rw[getElem?_append_right (by show 6≤_;omega)];show (L.flatMap Gp)[(i+1)*6+j - 6]? = _;rw[show (i+1)*6+j - 6=i*6+j by omega];exact this
theorem i7 {L:List Sn} {spare:List Value} {i:Nat} {x:Sn} (h:L[i]? = some x):Q9 (YU L++spare) (0+i*6) 6 (Gp x):=by
 refine Q9.part (c:=YU L++spare) (o:=0) (n:=(YU L).length) (cs:=YU L) (Q9.of_get fun j v hj=>?_) (es:=Gp x) fun j v hj=>i6 h j v hj;rw[Nat.zero_add,getElem?_append_left (List.getElem?_eq_some_iff.1 hj).1];exact hj
def Zy (k g:Nat) (e:Q8) (ps:List Nat):List Sn:=ps.map fun p=>⟨k,g,p,Qx e p⟩
def Yr (s:CS) (k:Nat):List Sn:=match s.tab[k]? with
 | some ⟨g,some e⟩=>Zy k g e (X6 (QJ s e) e.ws.length)
 | _=>[]
theorem PE {s:CS} {k g:Nat} {e:Q8} (h:s.tab[k]? = some ⟨g,some e⟩):Yr s k=Zy k g e (X6 (QJ s e) e.ws.length):=by
 unfold Yr;rw[h]
theorem i8 (k g:Nat) (e:Q8) (ps:List Nat) (p:Nat):Zy k g e (ps++[p])=Zy k g e ps++[⟨k,g,p,Qx e p⟩]:=by
 unfold Zy;rw[map_append];rfl
theorem i9 {s:CS} {ks:List Nat} {y:Sn} (h:y∈ks.flatMap (Yr s)):D0 s y:=by
 obtain⟨k,_,hy⟩:=mem_flatMap.1 h;unfold Yr at hy;split at hy
 ·rename_i g e hk;obtain⟨p,hp,rfl⟩:=mem_map.1 hy;obtain⟨a,t,hat⟩:=append_of_mem hp;obtain⟨h1,h2⟩:=IZ hat;exact⟨e,hk,h1,h2,rfl⟩
 ·cases hy
theorem PF {s:CS} (hw:WF s) (k:Nat):(Yr s k).length≤64512:=by
 unfold Yr;split
 ·rename_i g e hk;have h1:=(hw.obj k g e hk).2.1.1;have h2:=Nat.mul_le_mul hw.own.2 hw.size.2;unfold QN at h1;unfold Zy X6;rw[length_map];have h3:=length_filter_le (VV (QJ s e)) (List.range e.ws.length);rw[length_range] at h3;omega
 ·exact Nat.zero_le _
theorem PH {s:CS} (hw:WF s) (ks:List Nat):(ks.flatMap (Yr s)).length≤ks.length*64512:=by
 induction ks with
 | nil=>exact Nat.zero_le _
 | cons k ks ih=>
  have:=PF hw k;rw[flatMap_cons,length_append,length_cons,Nat.succ_mul];omega
theorem iQ {s:CS} (hw:WF s) {k g:Nat} {e:Q8} (hk:s.tab[k]? = some ⟨g,some e⟩) {ps t:List Nat} (hp:X6 (QJ s e) e.ws.length=ps++t):(Zy k g e ps).length≤64512:=by
 have h:=PF hw k;rw[PE hk,hp] at h;unfold Zy at h ⊢;rw[length_map,length_append] at h;rw[length_map];omega
theorem PI {ts:List QK} {ks t:List Nat} (h:XO ts=ks++t):ks.length≤ts.length:=by
 have h1:(XO ts).length≤ts.length:=by
  unfold XO;exact Nat.le_trans (length_filter_le _ _) (by rw[length_range];exact Nat.le_refl _)
 rw[h,length_append] at h1;omega
end Go.Proofs.YtbnnnljagkjpiaaGreatDoor
