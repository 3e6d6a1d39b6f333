/- Cells: what is proved on the way: every input of the statement; no condition. Texts joined: LawG LawH LawI LawJz LawK ActB EmpP StyP ModF ModG ModH ModI. -/
import Derived.Test.YtbnnnljagkjpiaaGreatDoorBhd
import Derived.Test.YtbnnnljagkjpiaaGreatDoorBho
import Derived.Test.YtbnnnljagkjpiaaGreatDoorBhn
set_option linter.unusedVariables false
set_option linter.unusedSimpArgs false
set_option linter.unusedSectionVars false
namespace Go.Proofs.YtbnnnljagkjpiaaGreatDoor
open List
open Go.SL
theorem Ga (x:Int):(x == x)=true:=beq_self_eq_true x
theorem gX [Q4] (p:Nat) (s:CS) (m:MS) (told:List (Nat×Nat)) (R:Rel s m told) (hfew:m.objs.length < 100000) (hP:m.P.length < 100000) (k A B C i g:Int) (X:Nat) (hX:X < 18446744073709551616) (vW:Value) (ws:List Nat) (hws:∀ x∈ws,x < 18446744073709551616) (raw:Bool)
  {w:World} {fr:List Q2} [hT:YX 0 Lib.deBruijn64tab fr] (hrW:Vh fr vW ws.length 1 (QP ws)) (H:Q0 w (Ua p s m told::fr)) :
  Calls Tryz.prog 89 #[pp p,.agg #[.int .i64 k,.int .i64 A,.int .i64 B,.int .i64 C,.int .u64 X,vW,.bool raw,.int .i64 i,.int .i64 g]] w (ret fun v w'=>v = .bool true∧∃ s' m' told',Rel s' m' told'∧Cs s m told s' m' told'∧Q0 w' (Ua p s' m' told'::fr)):=by
 obtain⟨_,adW,capW,rfl,_⟩:=id hrW;obtain⟨c,mo,a,cap,H⟩:=FH H;have hlen:told.length≤1000000:=by rw[R.len];omega
 obtain⟨_,_,hw,_,_⟩:=Vv H.swap;obtain⟨_,_,_,_,_,_,_,hmw,_⟩:=ZP (H.sel [2,0,0,0] 0);refine QV Tryz.func89 rfl (by kernel_rfl) ?_;refine J8 H ?_;clear H;intro b3 w H;refine YK H ?_;refine Qm (fun ms σ w=>ms=[]∧∃ (b5:Nat) (i' g' o:Int),Gl told i' g' o∧σ 0=pp p∧σ 3=pp b3∧σ 5=pp b5∧σ 6 = .int .i64 o∧Q0 w (pts b5 (row 62 [.int .i64 i',.int .i64 g'])::pts b3 (row 103 [.int .i64 k,.int .i64 A,.int .i64 B,.int .i64 C,.int .u64 X,.slice adW ws.length capW,.bool raw,.int .i64 i,.int .i64 g])::Vl p c mo (.slice a told.length cap)::QU c s::Qp mo m::Qz (.slice a told.length cap) told::fr)) ?_ ?_
 ·replace H:=Js [1,3,0,0,0] 0 H;refine R4 H ?_;refine Gg H ?_;refine EI H ?_;refine Jc rfl rfl (OO p c mo a cap told hlen A i g raw H) ?_;clear H;rintro v w ⟨i',g',o,rfl,hp,_,_,H⟩;refine Vj H ?_;clear H;intro b5 w H;refine J4 H ?_;clear H;intro w H;refine J0 H ?_;replace H:=Js [0,2,0,1,1,0] 0 H;exact⟨rfl,rfl,_,i',g',o,hp,rfl,rfl,rfl,rfl,H⟩
 clear H;rintro ms σ w ⟨rfl,b5,i',g',o,hPk,g0,g3,g5,g6,H⟩;rw[Q1 g0,Q1 g3,Q1 g5,Q1 g6];refine KG H ?_;refine Q6 ?_;refine R7 H ?_;by_cases hk0:k=0
 ·subst hk0;refine VR H ?_;replace H:=Js [3,0,0,0,0,0] 0 H;refine J1 H ?_;clear H;intro w H;refine Up H ?_;refine Jk rfl rfl (NZ c s _ ws hws hrW.there.there.there.there.there H) ?_;clear H;rintro v w ⟨rfl,H⟩;obtain⟨hd,R'⟩:=OG R hmw ws;rw[hd];refine UU H ?_;replace H:=Js [4,0,0,0,0,0] 0 H;refine J1 H ?_;clear H;intro w H;refine Up H ?_;refine Jk rfl rfl (eK mo m _ ws hws hrW.there.there.there.there.there H) ?_;clear H;rintro v w ⟨rfl,H⟩;refine UU H ?_;refine Vi H ?_;rw[Ga (((ZS m ws).2.1:Nat):Int)];refine Bk H ?_;rw[Ga (((ZS m ws).2.2:Nat):Int)];refine J2 H ?_;replace H:=Js [4,1,0,2] 2 H;exact Q3 (Jy H rfl fun w' H'=>⟨rfl,_,_,_,R',⟨by rw[(Ov m ws).2];omega,by rw[(Ov m ws).1];omega,.inl ⟨rfl,fu s ws⟩,fun hI=>cQ hw hI ws,fun hT=>by rw[(Oy s ws).par];exact hT,(Oy s ws).part⟩,YB H'⟩)
 rw[show (k == 0)=false by simpa using hk0];refine ZD H ?_;by_cases hk1:k=1
 ·subst hk1;refine VR H ?_;have hl:=R.last;have he:=eP R hw A;replace H:=Js [3,0,0,0,0,0] 0 H;refine J1 H ?_;clear H;intro w H;refine Up H ?_;refine Jk rfl rfl (I7 c s A (by omega) H) ?_;clear H;rintro v w (⟨h1,rfl,H⟩|⟨h1,b,b2,rfl,H⟩)
  ·rw[he] at h1 ⊢;have ho:XW m A=(m,0,Z7 m.P A):=by unfold XW;rw[if_neg h1]
   refine UU H ?_;replace H:=Js [4,0,0,0,0,0] 0 H;refine J1 H ?_;clear H;intro w H;refine Up H ?_;refine Jk rfl rfl (O7 mo m A hP H) ?_;clear H;rintro v w ⟨rfl,H⟩;rw[ho] at H ⊢;refine EJ H ?_;refine Gw H ?_;rw[Ga ((Z7 m.P A:Nat):Int)];refine J2 H ?_;replace H:=Js [4,1,0,2] 2 H;exact Q3 (Jy H rfl fun w' H'=>⟨rfl,_,_,_,R,U9 rfl rfl rfl,YB H'⟩)
  ·rw[he] at h1;have ho:XW m A=({ m with P:=m.P++[A] },m.P.length,0):=by unfold XW;rw[if_pos h1]
   refine UU H ?_;replace H:=Js [4,0,0,0,0,0] 0 H;refine J1 H ?_;clear H;intro w H;refine Up H ?_;refine Jk rfl rfl (O7 mo m A hP H) ?_;clear H;rintro v w ⟨rfl,H⟩;rw[ho] at H ⊢;rw[hl];refine UU H ?_;refine Vi H ?_;rw[Ga ((m.P.length:Nat):Int)];refine Bk H ?_;refine J2 H ?_;replace H:=Js [4,1,0,2] 2 H;exact Q3 (Jy H rfl fun w' H'=>⟨rfl,_,_,_,If R h1 b b2,⟨by show (m.P++[A]).length≤_;simp,by show m.objs.length≤_;omega,.inl ⟨rfl,rfl⟩,fun hI=>cV hI A b b2,fun hT=>dh hT (he.trans h1) hw.par.2.2,gU s A b b2⟩,YB H'⟩)
 rw[show (k == 1)=false by simpa using hk1];refine ZD H ?_;by_cases hk2:k=2
 ·subst hk2;refine VR H ?_;refine GZ H ?_;replace H:=Js [2,2,2,2,0,0] 0 H;refine Jc rfl rfl (fm p c mo a cap s m told R hfew _ A B C _ i g .i64 _ raw rfl H) ?_;clear H;rintro v w ⟨rfl,s',m',told',a',cap',R',S',H⟩;refine J0 H ?_;replace H:=Js [0,0,0,0] 2 H;exact Q3 (Jy H rfl fun w' H'=>⟨rfl,s',m',told',R',S',YB H'⟩)
 rw[show (k == 2)=false by simpa using hk2];refine ZD H ?_;by_cases hk3:k=3
 ·subst hk3;refine VR H ?_;replace H:=Js [3,0,0,0,0,0] 0 H;refine J1 H ?_;clear H;intro w H;refine Ja 0 ?_;refine Ja 1 ?_;refine Jf 2 ?_;refine Jl 3 [7] H ?_;refine VP 4 [7] H rfl (Q9.none rfl) rfl (by repeat first|exact .nil _|apply QZ.cons rfl) (by kernel_rfl) ?_;refine Jf 5 ?_;refine Jl 6 [7] H ?_;refine Jo 7 H ?_;refine Jk rfl rfl (aj c s i' g' B H) ?_;clear H;rintro v w ⟨rfl,H⟩
  rcases eD R hPk B with ⟨h0,h1⟩|⟨h0,n,j,x,rfl,rfl,hx,hj,h1⟩
  ·rw[h1];refine AH H ?_;replace H:=Js [4,0,0,0,0,0] 0 H;refine J1 H ?_;clear H;intro w H;refine C8 H ?_;refine Jk rfl rfl (RP mo m o B false H) ?_;clear H;rintro v w ⟨rfl,H⟩;refine Xi H ?_;refine J3 H ?_;rw[show (((VD m o B false:Nat):Int) != 0)=true by rw[bne_iff_ne];omega];refine EB H ?_;rw[Ga ((VD m o B false:Nat):Int)];refine XS H ?_;refine J2 H ?_;replace H:=Js [4,1,0,2] 2 H;exact Q3 (Jy H rfl fun w' H'=>⟨rfl,s,m,told,R,U9 rfl rfl rfl,YB H'⟩)
  ·rw[h1];have hnl:=(List.getElem?_eq_some_iff.1 hx).1;have hjx:=getElem?_eq_getElem hj;have hjd:x.w.getD j 0=x.w[j]:=by rw[getD_eq_getElem?_getD,hjx];rfl
   have hsm:=RN (w:=hmw) hx;rw[hjd];generalize x.w[j]=y at hjx;refine AH H ?_;replace H:=Js [4,0,0,0,0,0] 0 H;refine J1 H ?_;clear H;intro w H;refine C8 H ?_;refine Jk rfl rfl (RP mo m n j false H) ?_;clear H;rintro v w ⟨rfl,H⟩;rw[h0];refine Xi H ?_;refine Gf H ?_;obtain⟨t,lc,aL,cL,bO,cO,sO,ptrs,q,vw,vk,vt,rest,hm,h2,hp,H,hclose⟩:=GN H hx;have hm':=RM hx hm;obtain⟨aw,cw,rfl⟩:=QD H.drop (Yz _) (by decide);obtain⟨bW,sW,rfl,H,hcw⟩:=Qw H.swap (by omega);refine J1 H ?_;clear H;intro w H;refine EC H ?_;refine Dv H ?_;refine Ja 8 ?_;refine Jf 9 ?_;refine Jl 10 [] H ?_;refine Ja 11 ?_;refine Ji 12 ?_;refine Vg 13 [] H rfl (Q9.of rfl rfl rfl) rfl hp (by kernel_rfl) ?_;refine Ja 14 ?_;refine Jf 15 ?_;refine Jl 16 [] H ?_;refine Jf 17 ?_;refine Jl 18 [] H ?_;refine Ji 19 ?_;refine Vg 20 [] H rfl (Q9.of rfl rfl rfl) rfl (HC hjx) (by kernel_rfl) ?_;refine Ja 21 ?_;rw[Ga (y:Int)];refine Ja 22 ?_;refine Ja 23 ?_;refine Jx H ?_;replace H:=U7 hx (hclose _ _ _ hm' (hcw _ _ H).swap);replace H:=Js [4,1,0,2] 2 H;exact Q3 (Jy H rfl fun w' H'=>⟨rfl,s,m,told,R,U9 rfl rfl rfl,YB H'⟩)
 rw[show (k == 3)=false by simpa using hk3];refine ZD H ?_;by_cases hk4:k=4
 ·subst hk4;refine VR H ?_;replace H:=Js [3,0,0,0,0,0] 0 H;refine J1 H ?_;clear H;intro w H;refine Yo H ?_;refine Jl 3 [9,17] H ?_;refine VP 4 [9,17] H rfl (Q9.none rfl) rfl (by repeat first|exact .nil _|apply QZ.cons rfl) (by kernel_rfl) ?_;refine Jf 5 ?_;refine Jl 6 [9,17] H ?_;refine Jf 7 ?_;refine Jl 8 [9,17] H ?_;refine EA H ?_;refine Jl 13 [17] H ?_;refine Ja 14 ?_;refine Jf 15 ?_;refine Jl 16 [17] H ?_;obtain⟨hd,R'⟩:=eE R hPk B X;refine Jo 9 H ?_;refine Jk rfl rfl (ap c s i' g' B X hX H) ?_;clear H;rintro v w ⟨rfl,H⟩;rw[hd];replace H:=Js [4,0,0,0,0,0] 0 H;refine Jo 17 H ?_;refine Jk rfl rfl (RP mo m o B false H) ?_;clear H;rintro v w ⟨rfl,H⟩;refine Ja 18 ?_;refine Ja 19 ?_;refine DE H ?_;have hob:=gQ m o B X;by_cases h0:VD m o B false=0
  ·obtain⟨n,x,hv⟩:∃ n x,V1 m o=some (n,x):=by
    cases hv:V1 m o with
    | none=>rw[XR hv] at h0;cases h0
    | some kx=>exact⟨kx.1,kx.2,rfl⟩
   have h0':=h0;rw[UP hv] at h0';rw[Ib hv,if_pos h0'] at R' hob;obtain⟨rfl,hx,hh,hg⟩:=Xt hv;obtain⟨j,rfl,hj,hr⟩:=Zh h0';rw[Int.toNat_natCast] at R' hob;rw[h0];have hnl:=(List.getElem?_eq_some_iff.1 hx).1;have hsm:=RN (w:=hmw) hx;refine VR H ?_;obtain⟨t,lc,aL,cL,bO,cO,sO,ptrs,q,vw,vk,vt,rest,hm,h2,hp,H,hclose⟩:=GN H hx;obtain⟨aw,cw,rfl⟩:=QD H.drop (Yz _) (by decide);obtain⟨bW,sW,rfl,H,_,_,hcw⟩:=Yx H.swap (by omega);have hmx:=hm.objs x (mem_of_getElem? hx)
   have hm':V6 (Yl m n { x with w:=x.w.set j X }):=WP hm (by
    obtain⟨a1,a2,a3,a4,a5⟩:=hmx;exact⟨by show ∃ l,_∧_∧V9 l _=((x.w.set j X).length,0);rw[length_set];exact a1,a2,by show _=(x.w.set j X).length;rw[length_set];exact a3,by show _=(x.w.set j X).length;rw[length_set];exact a4,a5⟩)
   refine J1 H ?_;clear H;intro w H;refine Yo H ?_;refine Jl 3 [18] H ?_;refine Ja 4 ?_;refine Jf 5 ?_;refine Jl 6 [18] H ?_;refine Ja 7 ?_;refine Ji 8 ?_;refine Vg 9 [18] H rfl (Q9.none rfl) rfl hp (by kernel_rfl) ?_;refine Ja 10 ?_;refine Jf 11 ?_;refine Jl 12 [18] H ?_;refine Jf 13 ?_;refine Jl 14 [18] H ?_;refine Jf 15 ?_;refine Jl 16 [18] H ?_;refine Ji 17 ?_;refine Jo 18 H ?_;refine Yh H rfl rfl inferInstance rfl (by simp only[length_append,Yz];omega) rfl ?_;clear H;intro w H;rw[Int.toNat_natCast,MN (by omega)] at H;refine Jx H ?_;refine W9 H ?_;replace H:=hcw _ _ (QP (x.w.set j X)) (by simp[QP]) H;replace H:=hclose _ _ { x with w:=x.w.set j X } hm' H.swap;replace H:=Js [4,1,0,2] 2 H;exact Q3 (Jy H rfl fun w' H'=>⟨rfl,_,_,_,R',U9 hob.1 hob.2 (Oj s i' g' j X) (fun hI=>NE hI i' g' j X) (Ow s i' g' j X),YB H'⟩)
  ·rw[show (((VD m o B false:Nat):Int) == 0)=false by simpa using h0]
   have hsw:Kj m o B X=m:=by
    cases hv:V1 m o with
    | none=>rw[O9 hv]
    | some kx=>
     obtain⟨n,x⟩:=kx;rw[UP hv] at h0;rw[Ib hv,if_neg h0]
   rw[hsw] at R';refine V8 H ?_;refine Vi H ?_;rw[Ga ((VD m o B false:Nat):Int)];refine J0 H ?_;replace H:=Js [4,1,0,2] 2 H;exact Q3 (Jy H rfl fun w' H'=>⟨rfl,_,_,_,R',U9 rfl rfl (Oj s i' g' B X) (fun hI=>NE hI i' g' B X) (Ow s i' g' B X),YB H'⟩)
 rw[show (k == 4)=false by simpa using hk4];refine ZD H ?_;by_cases hk5:k=5
 ·subst hk5;refine VR H ?_;replace H:=Js [3,0,0,0,0,0] 0 H;obtain⟨hd,hln,hk2,hlt,R'⟩:=eM R hmw hPk B;obtain⟨l1,l2,l3,hlk⟩:=Gi (Y2 s i' g' B).1;have hRf:=fun (w:World) (fr:List Q2) (H:Q0 w (QU c s::fr))=>bG c s i' g' B H;rw[hlk,hd] at hRf;rw[hln] at hlk;refine J7 H ?_;refine Qm (fun ms σ w=>ms=[]∧∃ b20,σ 0=pp p∧σ 3=pp b3∧σ 6 = .int .i64 o∧σ 20=pp b20∧σ 21 = .int .i64 ((YA m o B).2.2.2:Nat)∧Q0 w (pts b20 (row 85 [.int .i64 l1,.int .i64 l2,.int .i64 l3])::pts b3 (row 103 [.int .i64 5,.int .i64 A,.int .i64 B,.int .i64 C,.int .u64 X,.slice adW ws.length capW,.bool raw,.int .i64 i,.int .i64 g])::Vl p c mo (.slice a told.length cap)::QU c (ZN s i' g' B)::Qp mo m::Qz (.slice a told.length cap) told::fr)) ?_ ?_
  ·refine J1 H ?_;clear H;intro w H;refine Yo H ?_;refine Jl 3 [7,12] H ?_;refine HB H ?_;refine Jf 5 ?_;refine Jl 6 [7,12] H ?_;refine Jw 7 11 H rfl rfl (V0 (a:=[]) (b:=[]) rfl rfl (call (hRf _ _ H) ?_)) (Vr H rfl ?_)
   ·clear H;rintro v w ⟨rfl,H⟩;refine R8 H ?_;refine By H ?_;clear H;intro b20 w H;refine Xg H ?_;clear H;intro w H;refine R9 H ?_;replace H:=Js [0,2,2,0,1,1] 1 H;exact⟨rfl,rfl,b20,rfl,rfl,rfl,rfl,rfl,H⟩
   ·clear H;intro b20 w H;refine Jo 7 H ?_;refine Jk rfl rfl (hRf _ _ H.swap) ?_;clear H;rintro v w ⟨rfl,H⟩;refine R8 H ?_;refine Xg H ?_;clear H;intro w H;refine R9 H ?_;replace H:=Js [1,2,2,0,1,1] 1 H;exact⟨rfl,rfl,b20,rfl,rfl,rfl,rfl,rfl,H⟩
  clear H;rintro ms σ w ⟨rfl,b20,g0,g3,g6,g20,g21,H⟩;rw[Q1 g0,Q1 g3,Q1 g6,Q1 g20,Q1 g21];replace H:=Js [4,0,0,0,0,0] 0 H;refine J1 H ?_;clear H;intro w H;refine C8 H ?_;refine Jk rfl rfl (eG mo m o B H) ?_;clear H;rintro v w ⟨rfl,H⟩;refine Ja 8 ?_;refine Ja 9 ?_;refine Ja 10 ?_;refine Ja 11 ?_;refine Be H ?_;refine Jx H ?_;refine Vi H ?_;rw[Ga (((YA m o B).2.2.2:Nat):Int)];replace H:=Js [3,4,1,1,1,0] 0 H;refine BB H ?_;refine K8 H ?_;refine Yy H ?_;have hlink:=fun (w:World) (fr:List Q2) (H:Q0 w (Vl p c mo (.slice a told.length cap)::Qz (.slice a told.length cap) told::fr))=>Og p c mo a cap told (YA m o B).2.1 (YA m o B).2.2.1 hk2 hlt H;rw[hlk] at hlink;refine QT rfl rfl rfl (V0 (a:=[]) (b:=[]) rfl rfl (call (hlink _ _ H) ?_));clear H;rintro v w ⟨rfl,H⟩;refine J2 H ?_;replace H:=Js [0,3,3,0] 2 H;exact Q3 (Jy H rfl fun w' H'=>⟨rfl,_,_,_,R',U9 (Ou m o B).1 (Ou m o B).2 (ft s i' g' B) (fun hI=>br hI i' g' B) (gG s i' g' B),YB H'⟩)
 rw[show (k == 5)=false by simpa using hk5];refine ZD H ?_;by_cases hk6:k=6
 ·subst hk6;refine VR H ?_;replace H:=Js [2,4,0,0,0,0] 0 H;refine R4 H ?_;refine EI H ?_;refine Jc rfl rfl (OO p c mo a cap told hlen C i g false H) ?_;clear H;rintro v w ⟨u',v',q,rfl,hQ,_,_,H⟩;refine Vj H ?_;clear H;intro b25 w H;refine J4 H ?_;clear H;intro w H;refine J0 H ?_;replace H:=Js [5,0,0,0,0,0,0] 0 H;refine J1 H ?_;clear H;intro w H;refine Yo H ?_;refine Jl 3 [8,17] H ?_;refine VP 4 [8,17] H rfl (Q9.none rfl) rfl (by repeat first|exact .nil _|apply QZ.cons rfl) (by kernel_rfl) ?_;refine Jf 5 ?_;refine Jl 6 [8,17] H ?_;refine VP 7 [8,17] H rfl (Q9.none rfl) rfl (by repeat first|exact .nil _|apply QZ.cons rfl) (by kernel_rfl) ?_;refine Bb H ?_;refine Jl 12 [17] H ?_;refine Ja 13 ?_;refine Jf 14 ?_;refine Jl 15 [17] H ?_;refine Ja 16 ?_;obtain⟨hd,R'⟩:=OY R hw hmw hPk hQ B;refine Jo 8 H ?_;refine Jk rfl rfl (NY c s i' g' B u' v' H) ?_;clear H;rintro v w ⟨rfl,H⟩;rw[hd];replace H:=Js [6,0,0,0,0,0,0] 0 H;refine Jo 17 H ?_;refine Jk rfl rfl (eZ mo m o B q H) ?_;clear H;rintro v w ⟨rfl,H⟩;refine Ja 18 ?_;rw[Ga (((Yg m o B q).2:Nat):Int)];refine Ja 19 ?_;refine Jx H ?_;replace H:=Js [3,1,0,1] 3 H;exact Q3 (Jy H rfl fun w' H'=>⟨rfl,_,_,_,R',U9 (Oo m o B q).1 (Oo m o B q).2 (Om s i' g' B u' v') (fun hI=>NH hw hI i' g' B u' v') (gZ s i' g' B u' v'),YB H'⟩)
 rw[show (k == 6)=false by simpa using hk6];refine ZD H ?_;by_cases hk7:k=7
 ·subst hk7;refine VR H ?_;replace H:=Js [3,0,0,0,0,0] 0 H;refine J1 H ?_;clear H;intro w H;refine Yo H ?_;refine Jl 3 [7,15] H ?_;refine VP 4 [7,15] H rfl (Q9.none rfl) rfl (by repeat first|exact .nil _|apply QZ.cons rfl) (by kernel_rfl) ?_;refine Jf 5 ?_;refine Jl 6 [7,15] H ?_;refine EW H ?_;refine Jl 11 [15] H ?_;refine Ja 12 ?_;refine Jf 13 ?_;refine Jl 14 [15] H ?_;obtain⟨hd,R'⟩:=eL R hmw hPk B;refine Jo 7 H ?_;refine Jk rfl rfl (bZ c s i' g' B H) ?_;clear H;rintro v w ⟨rfl,H⟩;rw[hd];replace H:=Js [4,0,0,0,0,0] 0 H;refine Jo 15 H ?_;refine Jk rfl rfl (eY mo m o B H) ?_;clear H;rintro v w ⟨rfl,H⟩;refine Ja 16 ?_;rw[Ga (((US m o B).2:Nat):Int)];refine Ja 17 ?_;refine Jx H ?_;replace H:=Js [4,1,0,2] 2 H;exact Q3 (Jy H rfl fun w' H'=>⟨rfl,_,_,_,R',U9 (On m o B).1 (On m o B).2 (Ol s i' g' B .none) (fun hI=>NF hI i' g' B trivial fun a b h=>by cases h) (Ox s i' g' B .none),YB H'⟩)
 rw[show (k == 7)=false by simpa using hk7];refine ZD H ?_;by_cases hk8:k=8
 ·subst hk8;refine VR H ?_;replace H:=Js [3,0,0,0,0,0] 0 H;refine J1 H ?_;clear H;intro w H;refine Yo H ?_;refine Jl 3 [5,11] H ?_;refine VP 4 [5,11] H rfl (Q9.none rfl) rfl (by repeat first|exact .nil _|apply QZ.cons rfl) (by kernel_rfl) ?_;refine AW H ?_;refine Jl 9 [11] H ?_;refine Ja 10 ?_;obtain⟨hd,R'⟩:=eH R hPk;refine Jo 5 H ?_;refine Jk rfl rfl (ax c s i' g' H) ?_;clear H;rintro v w ⟨rfl,H⟩;rw[hd];replace H:=Js [4,0,0,0,0,0] 0 H;refine Jo 11 H ?_;refine Jk rfl rfl (eQ mo m o H) ?_;clear H;rintro v w ⟨rfl,H⟩;refine Ja 12 ?_;rw[Ga (((GO m o).2:Nat):Int)];refine R9 H ?_;replace H:=Js [4,1,0,2] 2 H;exact Q3 (Jy H rfl fun w' H'=>⟨rfl,_,_,_,R',U9 (Oq m o).1 (Oq m o).2 (fp s i' g') (fun hI=>be hI i' g') (gV s i' g'),YB H'⟩)
 rw[show (k == 8)=false by simpa using hk8];refine ZD H ?_;by_cases hk9:k=9
 ·subst hk9;refine VR H ?_;replace H:=Js [3,0,0,0,0,0] 0 H;refine J1 H ?_;clear H;intro w H;refine Yo H ?_;refine Jl 3 [9,19] H ?_;refine VP 4 [9,19] H rfl (Q9.none rfl) rfl (by repeat first|exact .nil _|apply QZ.cons rfl) (by kernel_rfl) ?_;refine Jf 5 ?_;refine Jl 6 [9,19] H ?_;refine Ja 7 ?_;refine Ja 8 ?_;refine EA H ?_;refine Jl 13 [19] H ?_;refine Ja 14 ?_;refine Jf 15 ?_;refine Jl 16 [19] H ?_;refine Ja 17 ?_;refine Ja 18 ?_;generalize hon:(YG .and .u64 (X:Int) 1 == 1)=on;obtain⟨hd,R'⟩:=eI R hPk on;refine Jo 9 H ?_;refine Jk rfl rfl (ay c s i' g' on H) ?_;clear H;rintro v w ⟨rfl,H⟩;rw[hd];replace H:=Js [4,0,0,0,0,0] 0 H;refine Jo 19 H ?_;refine Jk rfl rfl (eV mo m o on H) ?_;clear H;rintro v w ⟨rfl,H⟩;refine Ja 20 ?_;rw[Ga (((GP m o on).2:Nat):Int)];refine Ja 21 ?_;refine Jx H ?_;replace H:=Js [4,1,0,2] 2 H;exact Q3 (Jy H rfl fun w' H'=>⟨rfl,_,_,_,R',U9 (Ot m o on).1 (Ot m o on).2 (fq s i' g' on) (fun hI=>bh hI i' g' on) (gY s i' g' on),YB H'⟩)
 rw[show (k == 9)=false by simpa using hk9];refine ZD H ?_;by_cases hk10:k=10
 ·subst hk10;refine VR H ?_;refine GZ H ?_;refine Jv ?_;replace H:=Js [2,2,2,2,0,0] 0 H;refine Jc rfl rfl (fk p c mo _ s m told R.w i' g' o (Xv R hPk) H) ?_;clear H;rintro v w ⟨rfl,H⟩;refine J0 H ?_;replace H:=Js [0,0,0,0] 2 H;exact Q3 (Jy H rfl fun w' H'=>⟨rfl,s,m,told,R,U9 rfl rfl rfl,YB H'⟩)
 rw[show (k == 10)=false by simpa using hk10];refine ZD H ?_;by_cases hk11:k=11
 ·subst hk11;refine VR H ?_;replace H:=Js [3,0,0,0,0,0] 0 H;have hLk:=fun (w:World) (fr:List Q2) (H:Q0 w (QU c s::fr))=>F2 c s i' g' B H
  rcases Ic R hPk B with ⟨h0,h1⟩|⟨h0,n,j,x,rfl,rfl,hx,hv,hj,hr,hk2,h1⟩
  ·rw[h1] at hLk;obtain⟨l1,l2,l3,hlk⟩:=Gi .none;rw[hlk] at hLk;refine J7 H ?_;refine Qm (fun ms σ w=>ms=[]∧∃ b27,σ 0=pp p∧σ 3=pp b3∧σ 6 = .int .i64 o∧σ 27=pp b27∧σ 28 = .int .i64 (VD m o B true:Nat)∧Q0 w (pts b27 (row 85 [.int .i64 l1,.int .i64 l2,.int .i64 l3])::pts b3 (row 103 [.int .i64 11,.int .i64 A,.int .i64 B,.int .i64 C,.int .u64 X,.slice adW ws.length capW,.bool raw,.int .i64 i,.int .i64 g])::Vl p c mo (.slice a told.length cap)::QU c s::Qp mo m::Qz (.slice a told.length cap) told::fr)) ?_ ?_
   ·refine J1 H ?_;clear H;intro w H;refine Yo H ?_;refine Jl 3 [7,12] H ?_;refine HB H ?_;refine Jf 5 ?_;refine Jl 6 [7,12] H ?_;refine Jw 7 11 H rfl rfl (V0 (a:=[]) (b:=[]) rfl rfl (call (hLk _ _ H) ?_)) (Vr H rfl ?_)
    ·clear H;rintro v w ⟨rfl,H⟩;refine R8 H ?_;refine By H ?_;clear H;intro b27 w H;refine Xg H ?_;clear H;intro w H;refine R9 H ?_;replace H:=Js [0,2,2,0,1,1] 1 H;exact⟨rfl,rfl,b27,rfl,rfl,rfl,rfl,rfl,H⟩
    ·clear H;intro b27 w H;refine Jo 7 H ?_;refine Jk rfl rfl (hLk _ _ H.swap) ?_;clear H;rintro v w ⟨rfl,H⟩;refine R8 H ?_;refine Xg H ?_;clear H;intro w H;refine R9 H ?_;replace H:=Js [1,2,2,0,1,1] 1 H;exact⟨rfl,rfl,b27,rfl,rfl,rfl,rfl,rfl,H⟩
   clear H;rintro ms σ w ⟨rfl,b27,g0,g3,g6,g27,g28,H⟩;rw[Q1 g0,Q1 g3,Q1 g6,Q1 g27,Q1 g28];replace H:=Js [4,0,0,0,0,0] 0 H;refine J1 H ?_;clear H;intro w H;refine C8 H ?_;refine Jk rfl rfl (RP mo m o B true H) ?_;clear H;rintro v w ⟨rfl,H⟩;refine Xi H ?_;refine J3 H ?_;rw[show (((VD m o B true:Nat):Int) != 0)=true by rw[bne_iff_ne];omega];refine VR H ?_;cases hlk;refine Vi H ?_;rw[Ga ((VD m o B true:Nat):Int)];refine Jv ?_;refine C6 H ?_;refine QT rfl rfl rfl (Wv rfl rfl rfl rfl (.inl rfl) rfl ?_);refine J2 H ?_;replace H:=Js [3,3,0,2] 2 H;exact Q3 (Jy H rfl fun w' H'=>⟨congrArg Value.bool ((Cq _ _).trans (Iy 0 0 0)),s,m,told,R,U9 rfl rfl rfl,YB H'⟩)
  ·have hnl:=(List.getElem?_eq_some_iff.1 hx).1;have hmx:=hmw.objs x (mem_of_getElem? hx);have hkn:=hmx.kind;have htn:=hmx.to;have hsm:=RN (w:=hmw) hx;have hkj:=getElem?_eq_getElem (l:=x.kind) (i:=j) (by omega);have htj:=getElem?_eq_getElem (l:=x.to) (i:=j) (by omega);have hkd:x.kind.getD j 0=x.kind[j]:=by rw[getD_eq_getElem?_getD,hkj];rfl
   have htd:x.to.getD j 0=x.to[j]:=by rw[getD_eq_getElem?_getD,htj];rfl
   have hgo:=hmx.goes j;rw[htd] at hgo;rw[hkd] at hk2;rw[hkd,htd] at h1;generalize x.kind[j]=kd at *;generalize x.to[j]=td at *;have hlt:kd=2→td < told.length:=fun h=>by rw[R.len];exact hgo (by rw[hkj,h])
   rw[h1] at hLk;obtain⟨l1,l2,l3,hlk⟩:=Gi (Z9 told kd td);rw[hlk] at hLk;have hlink:=fun (w:World) (fr:List Q2) (H:Q0 w (Vl p c mo (.slice a told.length cap)::Qz (.slice a told.length cap) told::fr))=>Og p c mo a cap told kd td hk2 hlt H;rw[hlk] at hlink;refine J7 H ?_;refine Qm (fun ms σ w=>ms=[]∧∃ b27,σ 0=pp p∧σ 3=pp b3∧σ 6 = .int .i64 n∧σ 27=pp b27∧σ 28 = .int .i64 (0:Nat)∧Q0 w (pts b27 (row 85 [.int .i64 l1,.int .i64 l2,.int .i64 l3])::pts b3 (row 103 [.int .i64 11,.int .i64 A,.int .i64 (j:Nat),.int .i64 C,.int .u64 X,.slice adW ws.length capW,.bool raw,.int .i64 i,.int .i64 g])::Vl p c mo (.slice a told.length cap)::QU c s::Qp mo m::Qz (.slice a told.length cap) told::fr)) ?_ ?_
   ·refine J1 H ?_;clear H;intro w H;refine Yo H ?_;refine Jl 3 [7,12] H ?_;refine HB H ?_;refine Jf 5 ?_;refine Jl 6 [7,12] H ?_;refine Jw 7 11 H rfl rfl (V0 (a:=[]) (b:=[]) rfl rfl (call (hLk _ _ H) ?_)) (Vr H rfl ?_)
    ·clear H;rintro v w ⟨rfl,H⟩;refine R8 H ?_;refine By H ?_;clear H;intro b27 w H;refine Xg H ?_;clear H;intro w H;refine R9 H ?_;replace H:=Js [0,2,2,0,1,1] 1 H;exact⟨rfl,rfl,b27,rfl,rfl,rfl,rfl,rfl,H⟩
    ·clear H;intro b27 w H;refine Jo 7 H ?_;refine Jk rfl rfl (hLk _ _ H.swap) ?_;clear H;rintro v w ⟨rfl,H⟩;refine R8 H ?_;refine Xg H ?_;clear H;intro w H;refine R9 H ?_;replace H:=Js [1,2,2,0,1,1] 1 H;exact⟨rfl,rfl,b27,rfl,rfl,rfl,rfl,rfl,H⟩
   clear H;rintro ms σ w ⟨rfl,b27,g0,g3,g6,g27,g28,H⟩;rw[Q1 g0,Q1 g3,Q1 g6,Q1 g27,Q1 g28];replace H:=Js [4,0,0,0,0,0] 0 H;refine J1 H ?_;clear H;intro w H;refine C8 H ?_;refine Jk rfl rfl (RP mo m n j true H) ?_;clear H;rintro v w ⟨rfl,H⟩;rw[h0];refine Xi H ?_;refine Gf H ?_;obtain⟨t,lc,aL,cL,bO,cO,sO,ptrs,q,vw,vk,vt,rest,hm,h2,hp,H,hclose⟩:=GN H hx;have hm':=RM hx hm;obtain⟨ak,ck,rfl⟩:=QD H.drop.drop (QE _) (by decide);obtain⟨at',ct,rfl⟩:=QD H.drop.drop.drop (QE _) (by decide);replace H:=Js [2,0,0,0] 0 H;obtain⟨bk,sk,rfl,H,hck⟩:=Qw H (by omega);replace H:=Js [3,0,0,0] 0 H;obtain⟨bt,st,rfl,H,hct⟩:=Qw H (by omega);refine J1 H ?_;clear H;intro w H;refine EC H ?_;refine VP 4 [39] H rfl (Q9.of rfl rfl rfl) rfl (by repeat first|exact .nil _|apply QZ.cons rfl) (by kernel_rfl) ?_;refine DS H ?_;refine Jl 8 [39] H ?_;refine Ja 9 ?_;refine Jf 10 ?_;refine Jl 11 [39] H ?_;refine Ja 12 ?_;refine Ji 13 ?_;refine Vg 14 [39] H rfl (Q9.of rfl rfl rfl) rfl hp (by kernel_rfl) ?_;refine Ja 15 ?_;refine Jf 16 ?_;refine Jl 17 [39] H ?_;refine Jf 18 ?_;refine Jl 19 [39] H ?_;refine Ji 20 ?_;refine Vg 21 [39] H rfl (Q9.of rfl rfl rfl) rfl (GW hkj) (by kernel_rfl) ?_;refine Ja 22 ?_;refine Ja 23 ?_;refine Jf 24 ?_;refine Jl 25 [39] H ?_;refine Ja 26 ?_;refine Jf 27 ?_;refine Jl 28 [39] H ?_;refine Ja 29 ?_;refine Ji 30 ?_;refine Vg 31 [39] H rfl (Q9.of rfl rfl rfl) rfl hp (by kernel_rfl) ?_;refine Ja 32 ?_;refine Jf 33 ?_;refine Jl 34 [39] H ?_;refine Jf 35 ?_;refine Jl 36 [39] H ?_;refine Ji 37 ?_;refine Vg 38 [39] H rfl (Q9.of rfl rfl rfl) rfl (GW htj) (by kernel_rfl) ?_;replace H:=Js [12,13,0,0,0,0,0,0,0,0,0,0,0,0,0] 0 H;refine Jo 39 H ?_;refine Jk rfl rfl (hlink _ _ H) ?_;clear H;rintro v w ⟨rfl,H⟩;refine Ja 40 ?_;refine Ja 41 ?_;refine Jx H ?_;replace H:=Js [3,2,2,2,2,2,2,2,2,2,2,2,2,0,0] 0 H;replace H:=hck _ _ H;replace H:=Js [1,0,0,0] 0 H;replace H:=hct _ _ H;replace H:=Js [2,2,1,0] 0 H;replace H:=U7 hx (hclose _ _ x hm' H);replace H:=Js [4,3,0,2] 2 H;exact Q3 (Jy H rfl fun w' H'=>⟨rfl,s,m,told,R,U9 rfl rfl rfl,YB H'⟩)
 rw[show (k == 11)=false by simpa using hk11];refine KB H ?_;replace H:=Js [2,2,2,2] 2 H;exact Q3 (Jy H rfl fun w' H'=>⟨rfl,s,m,told,R,U9 rfl rfl rfl,YB H'⟩)
structure Ac where
 k:Int
 A:Int
 B:Int
 C:Int
 X:Nat
 vW:Value
 ws:List Nat
 raw:Bool
 i:Int
 g:Int
def XB (x:Ac):List Value:=[.int .i64 x.k,.int .i64 x.A,.int .i64 x.B,.int .i64 x.C,.int .u64 x.X,x.vW,.bool x.raw,.int .i64 x.i,.int .i64 x.g]
def Xz (l:List Ac):List Value:=l.flatMap XB
def FJ (fr:List Q2) (x:Ac):Prop:=x.X < 18446744073709551616∧(∀ y∈x.ws,y < 18446744073709551616)∧Vh fr x.vW x.ws.length 1 (QP x.ws)
theorem JQ (l:List Ac):(Xz l).length=l.length*9:=by
 induction l with
 | nil=>rfl
 | cons p L ih=>simp only[Xz,XB,flatMap_cons,length_append,length_cons,length_nil] at ih ⊢;omega
theorem gK {L:List Ac} {i:Nat} {x:Ac} (h:L[i]? = some x):∀ j v,(XB x)[j]? = some v→(Xz L)[i*9+j]? = some v:=by
 induction L generalizing i with
 | nil=>simp at h
 | cons y L ih=>
  intro j v hj;have hj9:j < 9:=(List.getElem?_eq_some_iff.1 hj).1;cases i with
  | zero=>
   simp at h;subst h;show (XB y++L.flatMap XB)[0*9+j]? = _;rw[Nat.zero_mul,Nat.zero_add,getElem?_append_left hj9];exact hj
  | succ i=>
   have:=ih (i:=i) (by simpa using h) j v hj;show (XB y++L.flatMap XB)[(i+1)*9+j]? = _;rw[getElem?_append_right (by show 9≤_;omega)];show (L.flatMap XB)[(i+1)*9+j - 9]? = _;rw[show (i+1)*9+j - 9=i*9+j by omega];exact this
theorem gR {c:List Value} {o n:Nat} {L:List Ac} (h:QZ c o n (Xz L)) {i:Nat} {x:Ac} (hp:L[i]? = some x):QZ c (o+i*9) 9 (XB x):=
 h.part (es:=XB x) fun j v hj=>gK hp j v hj
theorem gW [Q4] (v:Value) (l:List Ac) (hl:l.length≤9223372036854775807) {w:World} {fr:List Q2} (hr:Vh fr v l.length 9 (Xz l)) (hok:∀ x∈l,FJ fr x) (H:Q0 w fr) :
  Calls Tryz.prog 87 #[v] w (ret fun r w'=>∃ b,r = .bool b∧(b=false→l.length≤60)∧Q0 w' fr):=by
 obtain⟨h0,ad,cap,rfl,hrd⟩:=hr;refine QV Tryz.func87 rfl (by kernel_rfl) ?_;refine E4 H ?_;by_cases h60:(l.length:Int) > 60
 ·rw[show decide ((l.length:Int) > 60)=true from decide_eq_true (by omega)];refine YR H ?_;exact Q3 (Jy H rfl fun w' H'=>⟨true,rfl,(fun h=>by cases h),H'⟩)
 rw[show decide ((l.length:Int) > 60)=false from decide_eq_false (by omega)];refine A5 H ?_;refine AR H ?_;refine Qi (fun ms σ w n=>ms=[]∧∃ i:Nat,i≤l.length∧n=l.length - i∧σ 8 = .slice ad l.length cap∧σ 9 = .int .i64 l.length∧σ 10 = .int .i64 i∧Q0 w fr) (m:=l.length) ⟨rfl,0,by omega,rfl,rfl,rfl,rfl,H⟩ ?_;clear H;rintro ms σ w n ⟨rfl,i,hi,rfl,g8,g9,g10,H⟩;rw[Q1 g8,Q1 g9,Q1 g10];refine J6 H ?_;refine Qh rfl (fun h=>QR ?_) (fun h=>Qj ?_)
 ·have hlt:i < l.length:=by omega
  have hy:=getElem?_eq_getElem hlt;generalize l[i]=y at hy;have hym:=hok y (mem_of_getElem? hy)
  rcases hrd with hz|⟨b,o,E,fz,c,rfl,hA,hrd⟩
  ·omega
  haveI:=hA;obtain⟨k,A,B,C,X,vW,ws,raw,i1,g1⟩:=y;obtain⟨_,_,_,adW,capW,hvW,_⟩:=hym;replace hvW:vW = .slice adW ws.length capW:=hvW;subst hvW;refine Y9 H ?_;refine Jd ?_;refine Q5 rfl (VH H rfl (gR hrd hy) rfl ?_);refine VQ H ?_;clear H;intro b4 w H;refine J4 H ?_;clear H;intro w H;refine Q6 ?_;refine Kv H ?_;by_cases hk:k=2
  ·subst hk;refine Wy H ?_;by_cases hC:C > 40
   ·rw[show decide (C > 40)=true from decide_eq_true (by omega)];refine YT H ?_;refine A8 H ?_;refine YT H ?_;refine Zk H ?_;refine UK H ?_;exact Q3 (Jy H.drop rfl fun w' H'=>⟨true,rfl,(fun h=>by cases h),H'⟩)
   ·rw[show decide (C > 40)=false from decide_eq_false (by omega)];refine W6 H ?_;by_cases hB:B > 64
    ·rw[show decide (B > 64)=true from decide_eq_true (by omega)];refine YT H ?_;refine Zk H ?_;refine UK H ?_;exact Q3 (Jy H.drop rfl fun w' H'=>⟨true,rfl,(fun h=>by cases h),H'⟩)
    ·rw[show decide (B > 64)=false from decide_eq_false (by omega)];by_cases hw:(ws.length:Int) > 10
     ·first|refine VZ rfl rfl rfl rfl ?_|refine Qu rfl rfl rfl ?_|refine UY rfl rfl ?_
      refine C9 H ?_;rw[show decide ((ws.length:Int) > 10)=true from decide_eq_true (by omega)];refine UK H ?_;exact Q3 (Jy H.drop rfl fun w' H'=>⟨true,rfl,(fun h=>by cases h),H'⟩)
     ·first|refine VZ rfl rfl rfl rfl ?_|refine Qu rfl rfl rfl ?_|refine UY rfl rfl ?_
      refine C9 H ?_;rw[show decide ((ws.length:Int) > 10)=false from decide_eq_false (by omega)];refine KK H ?_;exact⟨_,⟨rfl,i+1,hlt,rfl,rfl,rfl,Qa (by omega),H.drop⟩,by omega⟩
  ·rw[show (k == 2)=false by simpa using hk];by_cases hw:(ws.length:Int) > 10
   ·first|refine Jv ?_|refine X4 rfl rfl ?_
    refine W5 H ?_;refine W4 H ?_;refine C9 H ?_;rw[show decide ((ws.length:Int) > 10)=true from decide_eq_true (by omega)];refine UK H ?_;exact Q3 (Jy H.drop rfl fun w' H'=>⟨true,rfl,(fun h=>by cases h),H'⟩)
   ·first|refine Jv ?_|refine X4 rfl rfl ?_
    refine W5 H ?_;refine W4 H ?_;refine C9 H ?_;rw[show decide ((ws.length:Int) > 10)=false from decide_eq_false (by omega)];refine KK H ?_;exact⟨_,⟨rfl,i+1,hlt,rfl,rfl,rfl,Qa (by omega),H.drop⟩,by omega⟩
 ·have hge:i=l.length:=by omega
  refine VJ H ?_;exact Q3 (Jy H rfl fun w' H'=>⟨false,rfl,fun _=>by omega,H'⟩)
def XC (n size slots:Nat):CS:=⟨size,List.replicate n 0,[],List.replicate slots ⟨0,none⟩,0,[],[],[],[]⟩
theorem Oz (n size slots:Nat):Rel (XC n size slots) G3 []:=by
 have hno:∀ (k g:Nat) (e:QQ),(List.replicate slots (⟨0,none⟩:QF))[k]? ≠ some ⟨g,some e⟩:=by
  intro k g e h;rw[getElem?_replicate] at h;split at h <;> cases h
 refine⟨rfl,rfl,?_,nodup_nil,rfl,?_,?_,fun k g e h=>absurd h (hno k g e),?_,nodup_nil⟩
 ·intro r q;constructor
  ·intro h;cases h
  ·rintro⟨k,_,h1,h2,_⟩;have:k < 1:=(List.getElem?_eq_some_iff.1 h2).1;omega
 ·intro o x k g h;cases h
 ·intro o x k g h;cases h
 ·intro o k g h;cases h
structure Re (s:CS) (told:List (Nat×Nat)):Prop where
 shape:∃ r,Vf s.tab=List.replicate told.length (1,true)++List.replicate r (0,false)
 told:told=(List.range told.length).map fun i=>(i,1)
 inv:Inv s
theorem gA (n size slots:Nat):Re (XC n size slots) []:=⟨⟨slots,by simp[Vf,XC]⟩,rfl,NJ rfl NM⟩
theorem Ax {ts:List QF} {n r k:Nat} {t:QF} (h:Vf ts=List.replicate n (1,true)++List.replicate r (0,false)) (hk:ts[k]? = some t):(k < n∧t.gen=1∧t.ent.isSome=true)∨(n≤k∧k < n+r∧t.gen=0∧t.ent=none):=by
 have h1:(Vf ts)[k]? = some (t.gen,t.ent.isSome):=by
  unfold Vf;rw[getElem?_map,hk];rfl
 rw[h] at h1;by_cases hkn:k < n
 ·rw[getElem?_append_left (by simpa using hkn),getElem?_replicate,if_pos hkn] at h1;injection h1 with h1
  injection h1 with h2 h3
  exact .inl ⟨hkn,h2.symm,h3.symm⟩
 ·rw[getElem?_append_right (by simp;omega),length_replicate,getElem?_replicate] at h1;split at h1
  ·injection h1 with h1
   injection h1 with h2 h3
   refine .inr ⟨by omega,by omega,h2.symm,?_⟩;cases he:t.ent with
   | none=>rfl
   | some e=>rw[he] at h3;cases h3
  ·cases h1
theorem Re.step {s s':CS} {m m':MS} {told told':List (Nat×Nat)} (h:Re s told) (st:Cs s m told s' m' told'):Re s' told':=by
 obtain⟨⟨r,hs⟩,ht,hI⟩:=h
 rcases st.tab with ⟨rfl,h1⟩|⟨k,g0,rfl,h1,h2,h3⟩
 ·exact⟨⟨r,by rw[h1];exact hs⟩,ht,st.inv hI⟩
 ·rcases Ax hs h1 with ⟨_,_,h4⟩|⟨h4,h5,h6,_⟩
  ·cases h4
  ·have h6:g0=0:=h6;subst h6
   have hl:s.tab.length=told.length+r:=by
    have:=congrArg List.length hs;simpa [Vf] using this
   have hk:k=told.length:=by
    refine Classical.byContradiction fun hne=>?_;have hlt:told.length < k:=by omega
    have hn:=getElem?_eq_getElem (l:=s.tab) (i:=told.length) (by omega);have hb:=h2 told.length _ hlt hn
    rcases Ax hs hn with ⟨h7,_⟩|⟨_,_,h7,h8⟩
    ·omega
    ·unfold busy at hb;rw[h7,h8] at hb;cases hb
   subst hk;refine⟨⟨r - 1,?_⟩,?_,st.inv hI⟩
   ·rw[h3,hs,length_append];obtain⟨r',rfl⟩:∃ r',r=r'+1:=⟨r - 1,by omega⟩;rw[set_append_right _ _ (by simp),length_replicate,Nat.sub_self,replicate_succ,set_cons_zero,Nat.add_sub_cancel];show _=List.replicate (told.length+1) (1,true)++_;rw[replicate_succ',append_assoc];rfl
   ·rw[length_append];show told++[(told.length,1)]=(List.range (told.length+1)).map _;rw[range_succ,map_append,← ht];rfl
theorem JV (x:Int):∃ X:Nat,(if x > 0 then x else 0)=(X:Int):=⟨x.toNat,by split <;> omega⟩
theorem gB [Q4] (z1 z2 z3:Int) {w:World} {fr:List Q2} (H:Q0 w fr) :
  Calls Tryz.prog 28 #[.agg #[.int .i64 z1,.int .i64 z2,.int .i64 z3]] w (ret fun v w'=>∃ p n size slots,v=pp p∧1≤n∧n≤20∧1≤size∧size≤16∧1≤slots∧slots≤16∧Q0 w' (Ua p (XC n size slots) G3 []::fr)):=by
 obtain⟨X1,h1⟩:=JV z1;obtain⟨X2,h2⟩:=JV z2;obtain⟨X3,h3⟩:=JV z3;refine QV Tryz.func28 rfl (by kernel_rfl) ?_;refine J8 H ?_;clear H;intro b1 w H;refine Rv H ?_;refine A3 H ?_;rw[h1]
 refine UV (v := .int .i64 ((X1 % 20:Nat):Int)) (by
  show some (Value.int IntKind.i64 (Int.tmod (X1:Int) 20))=_;rw[Int.tmod_eq_emod_of_nonneg (by omega)];rfl) rfl ?_
 refine Jv ?_;rw[show IntKind.i64.wrap (1+((X1 % 20:Nat):Int))=((X1 % 20+1:Nat):Int) by rw[Qb (by omega) (by omega)];omega];refine Gg H ?_;refine A3 H ?_;rw[h2]
 refine UV (v := .int .i64 ((X2 % 16:Nat):Int)) (by
  show some (Value.int IntKind.i64 (Int.tmod (X2:Int) 16))=_;rw[Int.tmod_eq_emod_of_nonneg (by omega)];rfl) rfl ?_
 refine Jv ?_;rw[show IntKind.i64.wrap (1+((X2 % 16:Nat):Int))=((X2 % 16+1:Nat):Int) by rw[Qb (by omega) (by omega)];omega];refine Gg H ?_;refine A3 H ?_;rw[h3]
 refine UV (v := .int .i64 ((X3 % 16:Nat):Int)) (by
  show some (Value.int IntKind.i64 (Int.tmod (X3:Int) 16))=_;rw[Int.tmod_eq_emod_of_nonneg (by omega)];rfl) rfl ?_
 refine Jv ?_;rw[show IntKind.i64.wrap (1+((X3 % 16:Nat):Int))=((X3 % 16+1:Nat):Int) by rw[Qb (by omega) (by omega)];omega]
 refine Jc rfl rfl (NG (X1 % 20+1) (X2 % 16+1) (X3 % 16+1) (by omega) (by omega) (by omega) (by omega) (by omega) (by omega) H) ?_;clear H;rintro v w ⟨c,rfl,H⟩;refine ZE H ?_;refine Vi H ?_;refine YT H ?_;refine Dy H ?_;refine YQ H ?_;refine Jc rfl rfl (eU H) ?_;clear H;rintro v w ⟨mo,rfl,H⟩;refine X6 H ?_;clear H;intro b33 w H;refine J0 H ?_;have H:=Yn (E:=62) (k:=2) H;replace H:=Js [1,2,1,0] 1 H;exact Q3 (Jy (YB (told:=[]) H) rfl fun w' H'=>⟨_,X1 % 20+1,X2 % 16+1,X3 % 16+1,rfl,by omega,by omega,by omega,by omega,by omega,by omega,H'⟩)
def L0:QJ:=⟨2,[1],0,[]⟩
theorem gC:ZX [2,2,0]=some L0:=by rfl
theorem gD:VT L0:=by decide
theorem gE:V6 G3:=⟨⟨by simp[G3],by simp[G3]⟩,⟨by simp[G3],fun l h=>by simp[G3] at h⟩,(fun x h=>by simp[G3] at h),by simp[G3]⟩
theorem P2 {r1:Int} {s s':CS} {m:MS} {told:List (Nat×Nat)} {i g e:Nat} (R:Rel s m told) (hm:V6 m) (F:Re s told) (hM:Iz s r1 1 0 i g e s') (hmay:Vk m r1 1 0=(2,0)) (hsz:s.size=8) (hlen:told.length < s.tab.length) (hfree:∃ a,a < s.own.length∧s.own.getD a 0=0) :
  e=0∧i=told.length∧g=1∧Rel s' (Kh m r1 1 0) (told++[(told.length,1)])∧Re s' (told++[(told.length,1)])∧s'.size=8∧F6 s.own s'.own 1∧s'.tab.length=s.tab.length:=by
 obtain⟨hm1,hm2⟩:=Ih R r1 1 0;rw[hmay] at hm1;have hn:YW s 1 0=2:=by rw[hm2 (by rw[hmay]),hmay]
 have hk:YW s 1 0 / s.size+1=1:=by rw[hn,hsz]
 obtain⟨⟨r,hs⟩,ht,_⟩:=id F
 have hnb:∀ t,s.tab[told.length]? = some t→busy t=false:=by
  intro t h
  rcases Ax hs h with ⟨h7,_⟩|⟨_,_,h7,h8⟩
  ·omega
  ·unfold busy;rw[h7,h8];rfl
 have hat:=getElem?_eq_getElem (l:=s.tab) (i:=told.length) hlen
 rcases hM with ⟨h1,_⟩|⟨h1,h2,_⟩|⟨h1,h2,_⟩|⟨h1,rfl,g0,addr,h2,h3,h4,rfl,h5,h6,h7,h8,h9,h10,h11,h12P⟩
 ·exact absurd hm1 h1
 ·have h3:=h2 _ (mem_of_getElem? hat);rw[hnb _ hat] at h3;cases h3
 ·obtain⟨a,ha,hz⟩:=hfree;rw[hk] at h2;obtain⟨j,h3,h4,h5⟩:=h2 a (by omega);obtain rfl:j=a:=by omega
  exact absurd hz h5
 ·rw[hk] at h11
  have hi:i=told.length:=by
   rcases Ax hs h2 with ⟨_,_,h12⟩|⟨h12,_⟩
   ·cases h12
   ·refine Classical.byContradiction fun hne=>?_;have h13:=h4 told.length _ (by omega) hat;rw[hnb _ hat] at h13;cases h13
  subst hi
  have hg:g0=0:=by
   rcases Ax hs h2 with ⟨_,_,h12⟩|⟨_,_,h12,_⟩
   ·cases h12
   ·exact h12
  subst hg;obtain⟨_,R'⟩:=OU R hm (by rw[hmay]) h2 h6 h7 h8 h10;refine⟨rfl,rfl,rfl,R',?_,by rw[h5,hsz],h11,by rw[h10,length_set]⟩;exact F.step (m:=m) (m':=Kh m r1 1 0) ⟨by show m.P.length≤_;omega,by show (m.objs++[_]).length≤_;simp,.inr ⟨told.length,0,rfl,h2,h4,by rw[h10];unfold Vf;rw[map_set];rfl⟩,fun hI=>NI hI h2 h6 h9 h10 rfl,fun hT=>by rw[h8];exact hT,h12P⟩
end Go.Proofs.YtbnnnljagkjpiaaGreatDoor
namespace Go.Proofs.YtbnnnljagkjpiaaGreatDoor
open List
open Go.SL
structure Yb (s:CS) (m:MS) (told:List (Nat×Nat)) (n:Nat):Prop where
 R:Rel s m told
 I:Inv s
 T:Y3 s.par
 P:Vp s
 G:∀ (k:Nat) (t:QF),s.tab[k]? = some t→t.gen≤told.length
 O:m.objs.length≤n
 Q:m.P.length≤n+1
theorem Yb.start (n size slots:Nat):Yb (XC n size slots) G3 [] 0:=by
 refine⟨Oz n size slots,(gA n size slots).inv,⟨nodup_nil,fun r q h=>(by cases h)⟩,fun k g e h=>?_,fun k t h=>?_,Nat.le_refl _,Nat.le_refl _⟩
 ·have h:(List.replicate slots (⟨0,none⟩:QF))[k]? = some ⟨g,some e⟩:=h;rw[getElem?_replicate] at h;split at h <;> cases h
 ·have h:(List.replicate slots (⟨0,none⟩:QF))[k]? = some t:=h;rw[getElem?_replicate] at h;split at h
  ·injection h with h
   subst h;exact Nat.le_refl _
  ·cases h
theorem gF {ts us:List QF} (h:Vf us=Vf ts) {k:Nat} {u:QF} (hk:us[k]? = some u):∃ t,ts[k]? = some t∧t.gen=u.gen:=by
 have h1:(Vf us)[k]? = some (u.gen,u.ent.isSome):=by
  unfold Vf;rw[getElem?_map,hk];rfl
 rw[h] at h1;unfold Vf at h1;rw[getElem?_map] at h1;cases ht:ts[k]? with
 | none=>rw[ht] at h1;cases h1
 | some t=>
  rw[ht] at h1;injection h1 with h1
  injection h1 with h1 _
  exact⟨t,rfl,h1⟩
theorem Yb.step {s s':CS} {m m':MS} {told told':List (Nat×Nat)} {n:Nat} (J:Yb s m told n) (R':Rel s' m' told') (S:Cs s m told s' m' told'):Yb s' m' told' (n+1):=by
 have h1:=S.objs;have h2:=S.P;have h3:=J.O;have h4:=J.Q;refine⟨R',S.inv J.I,S.tree J.T,S.part J.P,fun k t hk=>?_,by omega,by omega⟩
 rcases S.tab with ⟨e1,e2⟩|⟨k0,g0,e1,e2,_,e4⟩
 ·obtain⟨t0,a,b⟩:=gF e2 hk;rw[e1,← b];exact J.G k t0 a
 ·have hlen:told'.length=told.length+1:=by rw[e1,length_append];rfl
  rw[hlen]
  have hs:(Vf s'.tab)[k]? = some (t.gen,t.ent.isSome):=by
   unfold Vf;rw[getElem?_map,hk];rfl
  rw[e4,getElem?_set] at hs;split at hs
  ·split at hs
   ·injection hs with hs
    injection hs with hs _
    have:=J.G k0 _ e2;dsimp only at this;omega
   ·cases hs
  ·unfold Vf at hs;rw[getElem?_map] at hs;cases ht:s.tab[k]? with
   | none=>rw[ht] at hs;cases hs
   | some t0=>
    rw[ht] at hs;injection hs with hs
    injection hs with hs _
    have:=J.G k t0 ht;have hs:t0.gen=t.gen:=hs;omega
theorem Yb.free {s s':CS} {m:MS} {told:List (Nat×Nat)} {n:Nat} (J:Yb s m told n) (hm:V6 m) {id:Int} (hid:(Q8 s.par id).isSome=true) {L:List Int} (h1:L.Nodup) (h2:L.Pairwise (·≤·)) (h3:∀ c,c∈L↔Z5 s.par id c) (hF:FW s L s'):L=(Zt m.P id).map (fun k:Nat=>(k:Int))∧Yb s' (Xx m (Zt m.P id)) told (n+1):=by
 have hL:=fC J.R J.T hid h1 h2 h3;refine⟨hL,?_⟩;obtain⟨G,D,hT⟩:=hF.t;have hT':=hT;rw[hL] at hT';have h4:=J.O;have h5:=J.Q;refine⟨OI J.R hm J.I hT',fA hT J.I,by rw[hT.par];exact fB J.T h3,hT.part J.P,fun k t hk=>?_,?_,?_⟩
 ·have hlt:k < s.tab.length:=by
   have:=(List.getElem?_eq_some_iff.1 hk).1;rw[hT.tabl] at this;exact this
  have ht:=getElem?_eq_getElem hlt;generalize s.tab[k]=t0 at ht;have:=hT.tab k t0 ht;rw[hk] at this;injection this with this
  have hg:=J.G k t0 ht;rw[this];split <;> exact hg
 ·show ((m.objs.map _).map _).length≤_;rw[length_map,length_map];omega
 ·show (Vs m.P _).length≤_;unfold Vs;rw[length_mapIdx];omega
theorem P3 {s s':CS} {mv:Nat→QQ→QQ} (h:UM s s' mv) {n:Nat} (hg:∀ (k:Nat) (t:QF),s.tab[k]? = some t→t.gen≤n):∀ (k:Nat) (t:QF),s'.tab[k]? = some t→t.gen≤n:=by
 intro k t hk
 have hlt:k < s.tab.length:=by
  have:=(List.getElem?_eq_some_iff.1 hk).1;rw[h.tabl] at this;exact this
 have ht:=getElem?_eq_getElem hlt;generalize s.tab[k]=t0 at ht;have:=h.tab k t0 ht;rw[hk] at this;injection this with this
 rw[this];exact hg k t0 ht
theorem Yb.merge {s s':CS} {m:MS} {told:List (Nat×Nat)} {n:Nat} (J:Yb s m told n) {id q:Nat} (hid:Q8 s.par (id:Int)=some (q:Int)) (hq:q≠0) (hM:WM s id q s'):Yb s' (FX m id q) told (n+1):=by
 have h4:=J.O;have h5:=J.Q;obtain⟨u1,u2,u3⟩:=J.T.up _ _ hid;have hne:id≠q:=by omega
 refine⟨fY J.R (by omega) hne hM,dO hM (by omega) J.I,dN J.T hid (by omega) hM.par,hM.part J.P,P3 hM.mv J.G,?_,?_⟩
 ·show (m.objs.map _).length≤_;rw[length_map];omega
 ·show (ZQ m.P id q).length≤_;unfold ZQ;rw[length_mapIdx];omega
theorem Yb.split {s s':CS} (hw:WF s) {m:MS} {told:List (Nat×Nat)} {n:Nat} (J:Yb s m told n) {r:Nat} (hr:(Q8 s.par (r:Int)).isSome=true) {Z:List Pl} {os:List Nat} (h:Kf s r Z s') (hos:∀ (o k g:Nat) (x:QI),told[o]? = some (k,g)→m.objs[o]? = some x→x.gone=false→(o∈os↔k∈Z.map Pl.k)):Yb s' (Wb m r os) told (n+1):=by
 have h4:=J.O;have h5:=J.Q
 have hrl:((r:Nat):Int)≤s.last:=by
  cases hf:Q8 s.par (r:Int) with
  | none=>rw[hf] at hr;cases hr
  | some q=>exact(hw.par.2.2 _ _ ((Y4 J.T.nd).1 hf)).2
 refine⟨fG hw J.R h hos,dp hw hrl h J.I,?_,h.part,P3 h.mv J.G,?_,?_⟩
 ·rw[h.par];exact IH J.T (.inr hr) (by omega) (fun x q hx=>(hw.par.2.2 x q hx).2) hrl
 ·show (m.objs.mapIdx _).length≤_;rw[length_mapIdx];omega
 ·show (m.P++[_]).length≤_;rw[length_append];show _+1≤_;omega
theorem gH {s:CS} {m:MS} {told:List (Nat×Nat)} (R:Rel s m told) {r:Nat} {ys:List ((Nat×Nat)×Int)} (hy:∀ y∈ys,Rd told y) (h0:Yw s.tab r [] (ys.map (·.1))=0) {Z:List Pl} (hZ:Z.map (fun z=>(z.k,z.g))=ys.map (·.1)) :
  (∀ o∈ys.map (fun y=>y.2.toNat),o < m.objs.length)∧ys.map (·.2)=(ys.map fun y=>y.2.toNat).map (fun o:Nat=>(o:Int))∧∀ (o k g:Nat) (x:QI),told[o]? = some (k,g)→m.objs[o]? = some x→x.gone=false→(o∈ys.map (fun y=>y.2.toNat)↔k∈Z.map Pl.k):=by
 obtain⟨c1,c2⟩:=FF h0
 have hat:∀ y∈ys,∃ n:Nat,y.2=n∧told[n]? = some y.1:=by
  intro y hyy
  rcases hy y hyy with h|⟨h1,h2⟩
  ·exact h
  ·exfalso;obtain⟨⟨e,he,_⟩,_⟩:=c1 y.1 (mem_map.2 ⟨y,hyy,rfl⟩);obtain⟨o,ho⟩:=R.used _ _ _ he;rw[h2] at ho;cases ho
 refine⟨fun o ho=>?_,?_,fun o k g x ht hx hg=>⟨fun ho=>?_,fun hk=>?_⟩⟩
 ·obtain⟨y,hyy,rfl⟩:=mem_map.1 ho;obtain⟨n,h1,h2⟩:=hat y hyy;rw[h1,Int.toNat_natCast,← R.len];exact(List.getElem?_eq_some_iff.1 h2).1
 ·rw[map_map];refine map_congr_left fun y hyy=>?_;obtain⟨n,h1,_⟩:=hat y hyy;show y.2=((y.2.toNat:Nat):Int);rw[h1,Int.toNat_natCast]
 ·obtain⟨y,hyy,rfl⟩:=mem_map.1 ho;obtain⟨n,h1,h2⟩:=hat y hyy;rw[h1,Int.toNat_natCast,h2] at ht;injection ht with ht
  have:(k,g)∈Z.map (fun z=>(z.k,z.g)):=by rw[hZ];exact mem_map.2 ⟨y,hyy,ht⟩
  obtain⟨z,z1,z2⟩:=mem_map.1 this;injection z2 with z2 _
  exact mem_map.2 ⟨z,z1,z2⟩
 ·obtain⟨z,z1,z2⟩:=mem_map.1 hk;have:(z.k,z.g)∈ys.map (·.1):=by rw[← hZ];exact mem_map.2 ⟨z,z1,rfl⟩
  obtain⟨y,hyy,hy1⟩:=mem_map.1 this;obtain⟨⟨e,he,_⟩,_⟩:=c1 y.1 (mem_map.2 ⟨y,hyy,rfl⟩);obtain⟨n,h1,h2⟩:=hat y hyy;rw[hy1] at he h2;dsimp only at he;obtain⟨e',he',_⟩:=R.obj o x k g hx ht hg;rw[z2,he'] at he;injection he with he
  injection he with hgg _
  have hon:=FG R.nodup ht (by rw[h2,← z2,hgg]);refine mem_map.2 ⟨y,hyy,?_⟩;rw[h1,Int.toNat_natCast,hon]
theorem gI {s:CS} (hw:WF s) (hT:Y3 s.par) {r:Int} (hr:(Q8 s.par r).isSome=true) {s':CS} {Z:List Pl} (h:Kf s r Z s') :
  Q8 s.par ((s.last+1:Nat):Int)=none∧r≠((s.last+1:Nat):Int)∧Q8 s'.par ((s.last+1:Nat):Int)=some r∧(∀ c,Q8 s'.par c≠some ((s.last+1:Nat):Int))∧Y3 s'.par∧∀ c,c≠((s.last+1:Nat):Int)→Q8 s'.par c=Q8 s.par c:=by
 have hup:∀ x q,Q8 s.par x=some q→x≤s.last:=fun x q hx=>(hw.par.2.2 x q ((Y4 hT.nd).1 hx)).2
 have hrl:r≤s.last:=by
  cases hf:Q8 s.par r with
  | none=>rw[hf] at hr;cases hr
  | some q=>exact hup _ _ hf
 have h0:Q8 s.par ((s.last+1:Nat):Int)=none:=by
  cases hf:Q8 s.par ((s.last+1:Nat):Int) with
  | none=>rfl
  | some q=>have:=hup _ _ hf;omega
 have hr0:0≤r:=by
  cases hf:Q8 s.par r with
  | none=>rw[hf] at hr;cases hr
  | some q=>have:=hT.up _ _ hf;omega
 have hT':Y3 s'.par:=by
  rw[h.par];exact IH hT (.inr hr) hr0 (fun x q hx=>(hw.par.2.2 x q hx).2) hrl
 have hid:Q8 s'.par ((s.last+1:Nat):Int)=some r:=(Y4 hT'.nd).2 (by rw[h.par];simp)
 have hother:∀ c,c≠((s.last+1:Nat):Int)→Q8 s'.par c=Q8 s.par c:=fun c hc=>by
  cases hf:Q8 s.par c with
  | some q=>exact(Y4 hT'.nd).2 (by rw[h.par];exact mem_append.2 (.inl ((Y4 hT.nd).1 hf)))
  | none=>
   cases hf':Q8 s'.par c with
   | none=>rfl
   | some q=>
    have h1:=(Y4 hT'.nd).1 hf';rw[h.par] at h1
    rcases mem_append.1 h1 with h1|h1
    ·rw[(Y4 hT.nd).2 h1] at hf;cases hf
    ·rw[mem_singleton] at h1;injection h1 with h1 _
     exact absurd h1 hc
 refine⟨h0,by omega,hid,fun c hc=>?_,hT',hother⟩;by_cases hcl:c=((s.last+1:Nat):Int)
 ·rw[hcl,hid] at hc;injection hc with hc
  omega
 ·rw[hother c hcl] at hc;obtain⟨_,_,h1⟩:=hT.up _ _ hc
  rcases h1 with h1|h1
  ·omega
  ·rw[h0] at h1;cases h1
structure Rg (s:CS) (U:List Int) (R:Int) (s':CS):Prop where
 tell:∀ (k g:Nat) (e:QQ),s.tab[k]? = some ⟨g,some e⟩→e.held=true→(Qg s'.tab k g=none∧e.region∈U)∨∃ e',Qg s'.tab k g=some (k,e')∧e'.lay=e.lay∧e'.count=e.count∧e'.ws.length=e.ws.length∧e'.pinned=e.pinned∧(e'.region=e.region∨e.region∈U)
 tree:∀ id p,Q8 s.par id=some p→Q8 s'.par id=none∨Q8 s'.par id=some p∨p=R
theorem FM {ts:List QF} {k g:Nat} {e:QQ} (h:ts[k]? = some ⟨g,some e⟩) (hh:e.held=true):Qg ts k g=some (k,e):=U0.2 ⟨Vz.2 ⟨g,rfl,rfl,h⟩,hh⟩
theorem gJ {ts:List QF} {k g:Nat} (h:∀ f,ts[k]? ≠ some ⟨g,some f⟩):Qg ts k g=none:=by
 cases hv:Qg ts (k:Int) (g:Int) with
 | none=>rfl
 | some q=>
  obtain⟨c,f⟩:=q;obtain⟨n,h1,h2,h3⟩:=Vz.1 (U0.1 hv).1;obtain rfl:c=k:=by omega
  obtain rfl:n=g:=by omega
  exact absurd h3 (h f)
theorem FN (s:CS) (U:List Int) (R:Int):Rg s U R s:=
 ⟨fun k g e hk hh => .inr ⟨e,FM hk hh,rfl,rfl,rfl,rfl,.inl rfl⟩,fun id p h => .inr (.inl h)⟩
theorem gL {s s':CS} {L:List Int} {G:List Nat} {D:List Rf} (h:Uv s L G D s') (hn:(s.par.map (·.1)).Nodup) {U:List Int} (hU:∀ x∈L,x∈U) (R:Int):Rg s U R s':=by
 refine⟨fun k g e hk hh=>?_,fun id p hp=>?_⟩
 ·by_cases hG:k∈G
  ·left;refine⟨gJ fun f hf=>?_,?_⟩
   ·rw[h.tab _ _ hk,if_pos hG] at hf;injection hf with hf
    injection hf with _ hf
    cases hf
   ·obtain⟨g2,f2,h1,h2⟩:=(h.gone.2 k).1 hG;rw[hk] at h1;injection h1 with h1
    injection h1 with _ h1
    injection h1 with h1
    rw[h1];exact hU _ h2
  ·exact .inr ⟨VC D k e,FM (h.at hk hG) hh,rfl,rfl,Kb D k e,rfl,.inl rfl⟩
 ·rw[h.par,Cm L hn];split
  ·exact .inl rfl
  ·exact .inr (.inl hp)
theorem gM {s s':CS} {id q:Int} (h:WM s id q s') {U:List Int} (hU:id∈U):Rg s U id s':=by
 refine⟨fun k g e hk hh => .inr ⟨Yf id q e,FM (h.mv.at hk) (by rw[(XX id q e).2.2.2.1];exact hh),(XX id q e).1,(XX id q e).2.1,by rw[(XX id q e).2.2.1],(XX id q e).2.2.2.2,?_⟩,fun x p hp=>?_⟩
 ·rw[UN];by_cases h1:e.region=id
  ·right;rw[h1];exact hU
  ·left;rw[if_neg h1]
 ·rw[h.par.2];split
  ·exact .inl rfl
  ·split
   ·rename_i h2;rw[hp] at h2;injection h2 with h2
    exact .inr (.inr h2)
   ·exact .inr (.inl hp)
theorem gN {s s':CS} (hw:WF s) (hT:Y3 s.par) {r:Int} (hr:(Q8 s.par r).isSome=true) {Z:List Pl} (h:Kf s r Z s') {U:List Int} (hU:r∈U) (R:Int):Rg s U R s':=by
 obtain⟨n1,_,_,_,_,n6⟩:=gI hw hT hr h;refine⟨fun k g e hk hh => .inr ⟨Ya ((s.last+1:Nat):Int) Z k e,FM (h.mv.at hk) (by rw[(WN _ Z k e).2.2.2.1];exact hh),(WN _ Z k e).1,(WN _ Z k e).2.1,by rw[(WN _ Z k e).2.2.1],(WN _ Z k e).2.2.2.2,?_⟩,fun x p hp=>?_⟩
 ·by_cases hkZ:k∈Z.map Pl.k
  ·right;obtain⟨z,z1,rfl⟩:=mem_map.1 hkZ;obtain⟨z3,z4⟩:=h.ents z z1;rw[hk] at z3;injection z3 with z3
   injection z3 with _ z3
   injection z3 with z3
   rw[z3,z4];exact hU
  ·left;rw[Ak hkZ]
 ·right;left;rw[n6 x (fun h1=>by rw[h1,n1] at hp;cases hp)];exact hp
theorem P4 [Q4] (a:Option Addr) (c n:Nat) (L:List Int) (x:Int) (hn:n≤L.length) (hl:L.length≤1000000) {w:World} {fr:List Q2} (H:Q0 w (IL (.slice a L.length c) L::fr)) :
  Calls Tryz.prog 167 #[.slice a n c,.int .i64 x] w (ret fun v w'=>v = .bool (decide (x∈L.take n))∧Q0 w' (IL (.slice a L.length c) L::fr)):=by
 refine QV Tryz.func167 rfl (by kernel_rfl) ?_;refine HG H ?_;refine Qi (fun ms σ w z=>ms=[]∧∃ i:Nat,i≤n∧z=n - i∧x∉L.take i∧σ 0 = .slice a n c∧σ 1 = .int .i64 x∧σ 5 = .int .i64 i∧Q0 w (IL (.slice a L.length c) L::fr)) (m:=n) ⟨rfl,0,by omega,by omega,by simp,rfl,rfl,rfl,H⟩ ?_;clear H;rintro ms σ w z ⟨rfl,i,hi,rfl,hno,g0,g1,g5,H⟩;rw[Q1 g0,Q1 g1,Q1 g5];refine KE H ?_;refine Qh rfl (fun h=>QR ?_) (fun h=>Qj ?_)
 ·have hlt:i < n:=by omega
  have hil:i < L.length:=by omega
  have hy:=getElem?_eq_getElem hil;have htk:L.take (i+1)=L.take i++[L[i]]:=by rw[take_add_one,hy];rfl
  generalize L[i]=y at hy htk;obtain⟨b,s,rfl,H,hcl⟩:=Qw H (by omega);refine KX H ?_;refine Jd ?_;refine Q5 rfl (QW H rfl (by simpa using U4 hy) rfl ?_);replace H:=hcl _ _ H;by_cases hxy:y=x
  ·first|refine Jv ?_|refine X4 rfl rfl ?_
   refine Jv ?_;rw[show (y == x)=true by rw[hxy];exact beq_self_eq_true x];refine Q6 ?_;refine YR H ?_;have hm:x∈L.take n:=mem_of_getElem? (i:=i) (by rw[getElem?_take_of_lt hlt,hy,hxy]);rw[decide_eq_true hm];exact Q3 (Jy H rfl fun w' H'=>⟨rfl,H'⟩)
  ·first|refine Jv ?_|refine X4 rfl rfl ?_
   refine Jv ?_;rw[show (y == x)=false by rw[beq_eq_false_iff_ne];exact hxy];refine AB H ?_;refine VG H ?_;refine⟨_,⟨rfl,i+1,hlt,rfl,?_,rfl,rfl,Qa (by omega),H⟩,by omega⟩;rw[htk,mem_append,mem_singleton];rintro(h1|h1)
   ·exact hno h1
   ·exact hxy h1.symm
 ·obtain rfl:i=n:=by omega
  rw[decide_eq_false hno];refine VJ H ?_;exact Q3 (Jy H rfl fun w' H'=>⟨rfl,H'⟩)
def Gb (id q:Nat) (os:List QI) (i:Nat):List QI:=os.mapIdx fun k x=>if k < i then G5 id q x else x
theorem Ay (id q:Nat) (os:List QI) (i k:Nat):(Gb id q os i)[k]? = (os[k]?).map fun x=>if k < i then G5 id q x else x:=getElem?_mapIdx
theorem JY (id q:Nat) (os:List QI) (i:Nat):(Gb id q os i).length=os.length:=length_mapIdx
theorem gO (id q:Nat) (os:List QI):Gb id q os 0=os:=by
 apply ext_getElem?;intro k;rw[Ay];cases os[k]? <;> simp
theorem gP {id q:Nat} {os:List QI} {i:Nat} {x:QI} (h:os[i]? = some x):(Gb id q os i).set i (G5 id q x)=Gb id q os (i+1):=by
 have hil:=(List.getElem?_eq_some_iff.1 h).1;apply ext_getElem?;intro k;rw[getElem?_set,Ay,Ay,JY];by_cases hk:i=k
 ·subst hk;rw[if_pos rfl,if_pos hil,h];simp only[Option.map_some];rw[if_pos (by omega)]
 ·rw[if_neg hk];have:k < i+1↔k < i:=by omega
  simp only[this]
theorem gS (id q:Nat) (os:List QI):Gb id q os os.length=os.map (G5 id q):=by
 apply ext_getElem?;intro k;rw[Ay,getElem?_map];cases h:os[k]? with
 | none=>rfl
 | some x=>
  have:=(List.getElem?_eq_some_iff.1 h).1;simp only[Option.map_some];rw[if_pos this]
theorem P5 {m:MS} (h:V6 m) (id q i:Nat):V6 { m with P:=ZQ m.P id q,objs:=Gb id q m.objs i }:=by
 refine OB h (.inl (by show (ZQ m.P id q).length=_;unfold ZQ;rw[length_mapIdx])) rfl (JY _ _ _ _) fun o x' hx'=>?_;have hx':(Gb id q m.objs i)[o]? = some x':=hx';rw[Ay] at hx';cases hx:m.objs[o]? with
 | none=>rw[hx] at hx';cases hx'
 | some x=>
  rw[hx] at hx';injection hx' with hx'
  refine⟨x,rfl,?_⟩;rw[← hx'];split
  ·exact OA id q x
  ·rfl
theorem P6 [Q4] (p:Nat) (m:MS) (id:Nat) (q:Int) (hid:1≤id) (hq:m.P[id]? = some q) (hq0:0≤q) {w:World} {fr:List Q2} (H:Q0 w (Qp p m::fr)) :
  Calls Tryz.prog 91 #[pp p,.int .i64 id] w (ret fun v w'=>(q=0∧v = .tuple #[.int .i64 0,.int .i64 16]∧Q0 w' (Qp p m::fr))∨(q≠0∧v = .tuple #[.int .i64 q,.int .i64 0]∧Q0 w' (Qp p (FX m id q.toNat)::fr))):=by
 obtain⟨t,lc,oc,aL,cL,aO,cO,hm,h2,h3,hl1,hl2,H⟩:=ZP H;have hidl:=(List.getElem?_eq_some_iff.1 hq).1;have hgd:m.P.getD id 0=q:=by rw[getD_eq_getElem?_getD,hq];rfl
 have hlv:Vw m.P (id:Int)=true:=decide_eq_true ⟨by omega,by omega,by rw[Int.toNat_natCast,hgd];exact hq0⟩;have hP:=hm.P;have hfew:=hm.few;refine QV Tryz.func91 rfl (by kernel_rfl) ?_;refine C5 H ?_;replace H:=Js [1,0] 0 H;refine Jc rfl rfl (WO t m.P id H) ?_;clear H;rintro v w ⟨rfl,H⟩;rw[hlv];refine Yp H ?_;refine J9 H ?_;refine Jc rfl rfl (fQ t m.P id q hid hq hq0 hP.1 (by omega) H) ?_;clear H;rintro w0 w (⟨hz,rfl,H⟩|⟨hz,rfl,H⟩)
 ·refine Bf H ?_;refine Dx H ?_;exact Q3 (Jy (Yv hm h2 h3 H.swap) rfl fun w' H' => .inl ⟨hz,rfl,H'⟩)
 obtain⟨qn,rfl⟩:∃ qn:Nat,q=qn:=⟨q.toNat,by omega⟩;rw[Int.toNat_natCast] at H ⊢;refine Zw H ?_;have hm1:=P5 hm id qn 0;replace H:=Yv (m:={ m with P:=ZQ m.P id qn,objs:=Gb id qn m.objs 0 }) hm1 h2 (by rw[gO];exact h3) H.swap;refine J6 H ?_;refine Qm (fun ms σ w=>ms=[]∧σ 7 = .int .i64 qn∧Q0 w (Qp p (FX m id qn)::fr)) ?_ ?_
 ·refine QS ?_;refine Qi (fun ms σ w z=>ms=[]∧∃ i:Nat,i≤m.objs.length∧z=m.objs.length - i∧σ 0=pp p∧σ 1 = .int .i64 id∧σ 7 = .int .i64 qn∧σ 9 = .int .i64 i∧Q0 w (Qp p { m with P:=ZQ m.P id qn,objs:=Gb id qn m.objs i }::fr)) (m:=m.objs.length) ⟨rfl,0,by omega,by omega,rfl,rfl,rfl,rfl,H⟩ ?_;clear H;rintro ms σ w z ⟨rfl,i,hi,rfl,g0,g1,g7,g9,H⟩;rw[Q1 g0,Q1 g1,Q1 g7,Q1 g9];have hml:=JY id qn m.objs i;by_cases hlt:i < m.objs.length
  ·have hx:=getElem?_eq_getElem hlt;generalize m.objs[i]=x at hx
   have hxi:({ m with P:=ZQ m.P id qn,objs:=Gb id qn m.objs i }:MS).objs[i]? = some x:=by
    show (Gb id qn m.objs i)[i]? = _;rw[Ay,hx];simp
   obtain⟨t,lc,aL,cL,bO,cO,s,ptrs,qq,vw,vk,vt,rest,hmm,h2,hp,H,hclose⟩:=GN H hxi;dsimp only at H hclose;rw[hml] at H hclose;refine KF H ?_;refine Qh rfl (fun h=>QR ?_) (fun h=>absurd (show ((i:Nat):Int) < ((m.objs.length:Nat):Int) by omega) h);refine A6 H ?_;refine Jd ?_;refine Q5 rfl (QW H rfl hp rfl ?_);refine Jv ?_;refine Dg H ?_;have hset:Gb id qn m.objs (i+1)=(Gb id qn m.objs i).set i (G5 id qn x):=(gP hx).symm;have hw':V6 { m with P:=ZQ m.P id qn,objs:=(Gb id qn m.objs i).set i (G5 id qn x) }:=by rw[← hset];exact P5 hm id qn (i+1)
   by_cases hr:x.region=id
   ·rw[show (((x.region:Nat):Int) == ((id:Nat):Int))=true by rw[hr];exact beq_self_eq_true _];refine Q6 ?_;refine VR H ?_;refine J9 H ?_;refine Jd ?_;refine Q5 rfl (QW H rfl hp rfl ?_);refine YP H ?_;refine Uk H ?_;clear H;intro w H;refine Q6 ?_;have hxx:G5 id qn x={ x with region:=qn }:=by unfold G5;rw[if_pos hr]
    rw[hxx] at hset hw';replace H:Q0 w (pts qq (Xs vw vk vt { x with region:=qn })::_):=H;replace H:=hclose _ _ _ hw' H;rw[← hset] at H;refine VG H ?_;exact⟨_,⟨rfl,i+1,hlt,rfl,rfl,rfl,rfl,Qa (by omega),H⟩,by omega⟩
   ·rw[show (((x.region:Nat):Int) == ((id:Nat):Int))=false by rw[beq_eq_false_iff_ne];omega];refine AB H ?_;have hxx:G5 id qn x=x:=by unfold G5;rw[if_neg hr]
    rw[hxx] at hset hw';replace H:=hclose _ _ _ hw' H;rw[← hset] at H;refine VG H ?_;exact⟨_,⟨rfl,i+1,hlt,rfl,rfl,rfl,rfl,Qa (by omega),H⟩,by omega⟩
  ·obtain rfl:i=m.objs.length:=by omega
   obtain⟨t,lc,oc,aL,cL,aO,cO,hmm,h2,h3,hl1,hl2,H⟩:=ZP H;dsimp only at H;rw[hml] at H;refine KF H ?_;refine Qh rfl (fun h=>absurd (show ((m.objs.length:Nat):Int) < ((m.objs.length:Nat):Int) from h) (by omega)) (fun h=>Qj ?_);rw[← hml] at H;replace H:=Yv (m:={ m with P:=ZQ m.P id qn,objs:=Gb id qn m.objs m.objs.length }) hmm h2 h3 H;rw[gS] at H;exact⟨rfl,rfl,rfl,H⟩
 clear H;rintro ms σ w ⟨rfl,g7,H⟩;rw[Q1 g7];refine VG H ?_;exact Q3 (Jy H rfl fun w' H' => .inr ⟨hz,rfl,H'⟩)
def Uc (n:Nat) (os:List Nat) (objs:List QI):List QI:=objs.mapIdx fun o x=>if o∈os then { x with region:=n } else x
theorem Ct (n:Nat) (os:List Nat) (objs:List QI) (k:Nat):(Uc n os objs)[k]? = (objs[k]?).map fun x=>if k∈os then { x with region:=n } else x:=getElem?_mapIdx
theorem gT (n:Nat) (os:List Nat) (objs:List QI):(Uc n os objs).length=objs.length:=length_mapIdx
theorem ga (n:Nat) (objs:List QI):Uc n [] objs=objs:=by
 apply ext_getElem?;intro k;rw[Ct];cases objs[k]? <;> simp
theorem gb {n:Nat} {os:List Nat} {objs:List QI} {o:Nat} {x:QI} (h:(Uc n os objs)[o]? = some x):(Uc n os objs).set o { x with region:=n }=Uc n (os++[o]) objs:=by
 apply ext_getElem?;intro k;have hol:=(List.getElem?_eq_some_iff.1 h).1;rw[getElem?_set];by_cases hk:o=k
 ·subst hk;rw[if_pos rfl,if_pos hol,Ct];rw[Ct] at h;cases hx:objs[o]? with
  | none=>rw[hx] at h;cases h
  | some y=>
   rw[hx] at h;injection h with h
   subst h;show some _=some (if o∈os++[o] then { y with region:=n } else y);rw[if_pos (show o∈os++[o] by simp)];congr 1;show ({ (if o∈os then { y with region:=n } else y:QI) with region:=n }:QI)=_;split <;> rfl
 ·rw[if_neg hk,Ct,Ct]
  have:k∈os++[o]↔k∈os:=by
   rw[mem_append,mem_singleton];exact⟨fun h=>h.elim id fun h=>absurd h.symm hk,.inl⟩
  simp only[this]
theorem P7 {m:MS} (h:V6 m) (hP:m.P.length < 100000) (r:Nat) (os:List Nat):V6 { m with P:=m.P++[(r:Int)],objs:=Uc m.P.length os m.objs }:=fZ h hP r os
theorem gc [Q4] (p:Nat) (m:MS) (r:Nat) (os:List Nat) (al:Option Addr) (cl:Nat) (hd:Z7 m.P (r:Int)=0) (hPl:m.P.length < 100000) (hos:∀ o∈os,o < m.objs.length) (hl:os.length≤64) {w:World} {fr:List Q2} (H:Q0 w (Qp p m::NL (.slice al os.length cl) os::fr)) :
  Calls Tryz.prog 94 #[pp p,.int .i64 r,.slice al os.length cl] w (ret fun v w'=>v = .int .i64 m.P.length∧Q0 w' (Qp p (Wb m r os)::NL (.slice al os.length cl) os::fr)):=by
 obtain⟨t,lc,oc,aL,cL,aO,cO,hm,h2,h3,hl1,hl2,H⟩:=ZP H;have hP:=hm.P;have hfew:=hm.few;refine QV Tryz.func94 rfl (by kernel_rfl) ?_;refine VJ H ?_;refine J9 H ?_;replace H:=Js [1,0] 0 H;refine Jc rfl rfl (O4 t m.P (r:Int) hP.2 hP.1 H) ?_;clear H;rintro w0 w (⟨hz,rfl,H⟩|⟨hz,rfl,H⟩)
 ·exact absurd hd hz
 refine ZE H ?_;have hm1:=P7 hm hPl r [];replace H:=Yv (m:={ m with P:=m.P++[(r:Int)],objs:=Uc m.P.length [] m.objs }) hm1 h2 (by rw[ga];exact h3) H.swap;refine J6 H ?_;refine Qm (fun ms σ w=>ms=[]∧σ 7 = .int .i64 m.P.length∧Q0 w (Qp p (Wb m r os)::NL (.slice al os.length cl) os::fr)) ?_ ?_
 ·refine QS ?_;refine Qi (fun ms σ w z=>ms=[]∧∃ i:Nat,i≤os.length∧z=os.length - i∧σ 0=pp p∧σ 2 = .slice al os.length cl∧σ 7 = .int .i64 m.P.length∧σ 9 = .int .i64 i∧Q0 w (Qp p { m with P:=m.P++[(r:Int)],objs:=Uc m.P.length (os.take i) m.objs }::NL (.slice al os.length cl) os::fr)) (m:=os.length) ⟨rfl,0,by omega,by omega,rfl,rfl,rfl,rfl,H⟩ ?_;clear H;rintro ms σ w z ⟨rfl,i,hi,rfl,g0,g2,g7,g9,H⟩;rw[Q1 g0,Q1 g2,Q1 g7,Q1 g9];refine KE H ?_;refine Qh rfl (fun h=>QR ?_) (fun h=>Qj ?_)
  ·have hlt:i < os.length:=by omega
   have hy:=getElem?_eq_getElem hlt;have hyo:=hos _ (mem_of_getElem? hy);have htk:os.take (i+1)=os.take i++[os[i]]:=by rw[take_add_one,hy];rfl
   generalize os[i]=o at hy htk hyo;obtain⟨bl,sl,rfl,H,hcl⟩:=Qw H.swap (by omega);have hml:=gT m.P.length (os.take i) m.objs;have hx:=getElem?_eq_getElem (show o < (Uc m.P.length (os.take i) m.objs).length by omega);generalize (Uc m.P.length (os.take i) m.objs)[o]=x at hx;have hset:=gb hx;rw[← htk] at hset;have hxi:({ m with P:=m.P++[(r:Int)],objs:=Uc m.P.length (os.take i) m.objs }:MS).objs[o]? = some x:=hx;obtain⟨t,lc,aL,cL,bO,cO,s,ptrs,qq,vw,vk,vt,rest,hmm,h2,hp,H,hclose⟩:=GN H.swap hxi;dsimp only at H hclose;rw[hml] at H hclose;have hw':V6 { m with P:=m.P++[(r:Int)],objs:=(Uc m.P.length (os.take i) m.objs).set o { x with region:=m.P.length } }:=by rw[hset];exact P7 hm hPl r _
   refine C2 H ?_;clear H;intro w H;refine Yo H ?_;refine Jl 3 [13] H ?_;refine Ui H ?_;refine Ji 6 ?_;refine Vg 7 [13] H rfl (Q9.none rfl) rfl (by simpa using GW hy) (by kernel_rfl) ?_
   refine Ji 8 ?_;refine Vg 9 [13] H rfl (Q9.none rfl) rfl (by simpa using hp) (by kernel_rfl) ?_;refine EA H ?_;refine Jo 13 H ?_;refine Uj H ?_;clear H;intro w H;refine Jx H ?_;replace H:Q0 w (pts qq (Xs vw vk vt { x with region:=m.P.length })::_):=H;replace H:=hclose _ _ _ hw' H;rw[hset] at H;replace H:=hcl _ _ H.swap;refine VG H ?_;exact⟨_,⟨rfl,i+1,hlt,rfl,rfl,rfl,rfl,Qa (by omega),H.swap⟩,by omega⟩
  ·obtain rfl:i=os.length:=by omega
   rw[take_length] at H;exact⟨rfl,rfl,rfl,H⟩
 clear H;rintro ms σ w ⟨rfl,g7,H⟩;rw[Q1 g7];refine J3 H ?_;exact Q3 (Jy H rfl fun w' H'=>⟨rfl,H'⟩)
end Go.Proofs.YtbnnnljagkjpiaaGreatDoor
namespace Go.SL
open List
section
variable {P:Program} {n:Nat} {r:Option Nat} {ops:Array Oper} {Q:Y6} {ms:List Nat} {σ:QX} {w:World} {rest:List Oper} {o:Oper} {K:QX→World→Prop} {l l':List Q2}
variable {ivs:List (List Nat×(World→Prop))} {T:QX→World→Prop} {f:Nat} {L:Array Bool}
variable {u t s:TypeId} {p:String} {af:Array Edge} {g:Option (Nat×Bool)} {d:Option Tmp} {x y z:Operand}
theorem gd {e size bytes b o2 len cap i:Nat} {q:IntKind} (hT:VB P t e size bytes) (h1:i≤cap) :
  (Instr.sliceAt t (.slice (some ⟨b,o2,none⟩) len cap) none (some (.int q (i:Int))) none).run P w = .ok (.slice (some ⟨b,o2,none⟩) i cap) w:=by
 have hs:(sizeOf e).run P w = .ok size w:=by
  obtain⟨k,hk,e2⟩:=Option.map_eq_some_iff.1 hT.info;simp only[Prod.mk.injEq] at e2;exact Zu (by rw[hk];simp[e2.1])
 have b1:(0:Int)≤i∧(i:Int)≤cap:=by omega
 simp[Instr.sliceAt,Instr.slice,Vn hT.und,Instr.sliceBounds,Instr.sliceBound,asIntOf,h1,hs,ZV]
theorem gf {e size bytes b o2 len cap i:Nat} {q:IntKind} (m:Nat) (hm:ops[m]? = some ⟨d,.slice t x none (some y) none,u,p,af,g⟩) (hg:Q9 ops σ ⟨d,.slice t x none (some y) none,u,p,af,g⟩ true) [hT:VB P t e size bytes] (hx:ev σ x = .slice (some ⟨b,o2,none⟩) len cap) (hy:ev σ y = .int q (i:Int)) (h1:i≤cap)
  (hb:YU n ops (ivs.map (·.1)) L m []=true) (k:Any P n r ops ivs T f (L.setIfInBounds m true) (put σ d (.slice (some ⟨b,o2,none⟩) i cap)) w):Any P n r ops ivs T (f+1) L σ w:=
 Gp m hm hg (fun c e=>by cases e) (fun w=>by simp only[execOp,hx,hy,Option.map_some,Option.map_none,Sem.run_bind,gd hT h1,Result.andThen_ok,Sem.run_pure]) hb k
end
end Go.SL
namespace Go.Proofs.YtbnnnljagkjpiaaGreatDoor
open List
open Go.SL
theorem FO {m:MS} {r:Int} {os:List Int} {e:Nat} (h1:Vw m.P r=true) (h2:os.length≤64) (h3:G6 m r [] os=e) (h4:e≠0):GS m r os=e:=by
 unfold GS;rw[h1,if_neg (by decide),if_neg (by omega),h3,if_pos h4]
theorem FP [Q4] (p:Nat) (m:MS) (r:Int) (os:List Int) (al:Option Addr) (cl:Nat) (hl:os.length≤1000000) {w:World} {fr:List Q2} (H:Q0 w (Qp p m::IL (.slice al os.length cl) os::fr)) :
  Calls Tryz.prog 92 #[pp p,.int .i64 r,.slice al os.length cl] w (ret fun v w'=>v = .int .i64 (GS m r os)∧Q0 w' (Qp p m::IL (.slice al os.length cl) os::fr)):=by
 obtain⟨t,lc,oc,aL,cL,aO,cO,hm,h2,h3,hl1,hl2,H⟩:=ZP H;have hP:=hm.P;have hfew:=hm.few;refine QV Tryz.func92 rfl (by kernel_rfl) ?_;refine VJ H ?_;refine J9 H ?_;replace H:=Js [1,0] 0 H;refine Jc rfl rfl (WO t m.P r H) ?_;clear H;rintro v w ⟨rfl,H⟩;replace H:=Yv hm h2 h3 H.swap;clear h2 h3 hl1 hl2 lc oc aL cL aO cO;refine J0 H ?_;cases hlv:Vw m.P r with
 | false=>
  have he:GS m r os=15:=by unfold GS;rw[if_pos hlv]
  rw[he];refine AC H ?_;exact Q3 (Jy H rfl fun w' H'=>⟨rfl,H'⟩)
 | true=>
 refine Gf H ?_;refine Xa H ?_;by_cases h64:((os.length:Nat):Int) > 64
 ·have he:GS m r os=18:=by unfold GS;rw[hlv,if_neg (by decide),if_pos (by omega)]
  rw[show decide (((os.length:Nat):Int) > 64)=true from decide_eq_true h64];refine YR H ?_;rw[he];exact Q3 (Jy H rfl fun w' H'=>⟨rfl,H'⟩)
 rw[show decide (((os.length:Nat):Int) > 64)=false from decide_eq_false h64];have h64:os.length≤64:=by omega
 refine V8 H ?_;refine A1 H ?_;refine Qi (fun ms σ w z=>ms=[]∧∃ i:Nat,i≤os.length∧z=os.length - i∧G6 m r (os.take i) (os.drop i)=G6 m r [] os∧σ 0=pp p∧σ 1 = .int .i64 r∧σ 2 = .slice al os.length cl∧σ 8 = .int .i64 i∧Q0 w (Qp p m::IL (.slice al os.length cl) os::fr)) (m:=os.length) ⟨rfl,0,by omega,by omega,rfl,rfl,rfl,rfl,rfl,H⟩ ?_;clear H;rintro ms σ w z ⟨rfl,i,hi,rfl,hmay,g0,g1,g2,g8,H⟩;rw[Q1 g0,Q1 g1,Q1 g2,Q1 g8];refine KE H ?_;refine Qh rfl (fun h=>QR ?_) (fun h=>Qj ?_)
 ·have hlt:i < os.length:=by omega
  have hy:=getElem?_eq_getElem hlt;have htk:os.take (i+1)=os.take i++[os[i]]:=by rw[take_add_one,hy];rfl
  have hdr:os.drop i=os[i]::os.drop (i+1):=drop_eq_getElem_cons hlt;generalize os[i]=y at hy htk hdr;rw[hdr] at hmay;obtain⟨bl,sl,rfl,H,hlc,_,hcl⟩:=Yx H.swap (by omega);refine Ry H ?_;refine Jd ?_;refine Q5 rfl (QW H rfl (by simpa using U4 hy) rfl ?_);refine Jc rfl rfl (Am p m y H.swap) ?_;clear H;rintro v w ⟨rfl,H⟩;refine J0 H ?_;cases hv:V1 m y with
  | none=>
   have he:=FO hlv h64 (hmay.symm.trans (OJ hv)) (by decide);rw[he];refine AC H ?_;replace H:=(hcl _ _ _ rfl H.swap).swap;exact Q3 (Jy H rfl fun w' H'=>⟨rfl,H'⟩)
  | some kx=>
   obtain⟨k,x⟩:=kx;obtain⟨rfl,hx,hh,hg⟩:=Xt hv;rw[OM hv] at hmay;refine Gf H ?_;have hkl:=(List.getElem?_eq_some_iff.1 hx).1;obtain⟨t,lc,aL,cL,bO,cO,s,ptrs,qq,vw,vk,vt,rest,hmm,h2,hp,H,hclose⟩:=GN H hx;refine J1 H ?_;clear H;intro w H;refine X7 H ?_;refine Ui H ?_;refine Ji 6 ?_;refine Vg 7 [] H rfl (Q9.none rfl) rfl (by simpa using U4 hy) (by kernel_rfl) ?_
   refine Ji 8 ?_;refine Vg 9 [] H rfl (Q9.none rfl) rfl (by simpa using hp) (by kernel_rfl) ?_;refine Ja 10 ?_;refine Jf 11 ?_;refine Jl 12 [] H ?_;refine AA H ?_;have hm':V6 { m with objs:=m.objs.set k x }:=RM hx hm;by_cases c1:(x.region:Int)≠r
   ·rw[if_pos c1] at hmay;have he:=FO hlv h64 hmay.symm (by decide);rw[he,show (((x.region:Nat):Int) != r)=true by rw[bne_iff_ne];exact c1];refine YR H ?_;replace H:=(hcl _ _ _ rfl (U7 hx (hclose _ _ _ hm' H)).swap).swap;exact Q3 (Jy H rfl fun w' H'=>⟨rfl,H'⟩)
   rw[if_neg c1] at hmay;rw[show (((x.region:Nat):Int) != r)=false by rw[bne_eq_false_iff_eq];exact Classical.not_not.1 c1];refine Bw H ?_;clear H;intro w H;refine X7 H ?_;refine Ui H ?_;refine Ji 6 ?_;refine Vg 7 [] H rfl (Q9.none rfl) rfl (by simpa using U4 hy) (by kernel_rfl) ?_
   refine Ji 8 ?_;refine Vg 9 [] H rfl (Q9.none rfl) rfl (by simpa using hp) (by kernel_rfl) ?_;refine Ja 10 ?_;refine Jf 11 ?_;refine Jl 12 [] H ?_;refine Jx H ?_;cases c2:x.pinned with
   | true=>
    rw[if_pos c2] at hmay;have he:=FO hlv h64 hmay.symm (by decide);rw[he];refine YR H ?_;replace H:=(hcl _ _ _ rfl (U7 hx (hclose _ _ _ hm' H)).swap).swap;exact Q3 (Jy H rfl fun w' H'=>⟨rfl,H'⟩)
   | false=>
   rw[if_neg (by rw[c2];decide)] at hmay;refine V8 H ?_;replace H:=(U7 hx (hclose _ _ _ hm' H)).swap;refine J1 H ?_;clear H;intro w H;refine Ja 0 ?_;refine Ja 1 ?_;refine gf 2 rfl (Q9.none rfl) rfl rfl (by omega) (by kernel_rfl) ?_;refine Ja 3 ?_;refine Ja 4 ?_;refine Ji 5 ?_;refine Vg 6 [7] H rfl (Q9.none rfl) rfl (by simpa using U4 hy) (by kernel_rfl) ?_;have Hc:=hcl _ _ _ rfl H;refine Jo 7 H ?_;refine Jk rfl rfl (P4 _ cl i os (k:Int) hi hl Hc) ?_;clear H;rintro v w ⟨rfl,H⟩;refine Xi H ?_;by_cases c3:(k:Int)∈os.take i
   ·rw[if_pos c3] at hmay;have he:=FO hlv h64 hmay.symm (by decide);rw[he,decide_eq_true c3];refine J6 H ?_;refine VE rfl ?_;refine VJ H ?_;exact Q3 (Jy H.swap rfl fun w' H'=>⟨rfl,H'⟩)
   rw[if_neg c3,← htk] at hmay;rw[decide_eq_false c3];refine J6 H ?_;refine VY rfl (QR ?_);refine VG H ?_;exact⟨_,⟨rfl,i+1,hlt,rfl,hmay,rfl,rfl,rfl,Qa (by omega),H.swap⟩,by omega⟩
 ·obtain rfl:i=os.length:=by omega
  rw[take_length,drop_length] at hmay;have hmay:0=G6 m r [] os:=hmay;obtain⟨t,lc,oc,aL,cL,aO,cO,hmm,h2,h3,hl1,hl2,H⟩:=ZP H;refine ZU H ?_;replace H:=Js [1,0] 0 H;refine Jc rfl rfl (IP t m.P (by omega) H) ?_;clear H;intro v w H;obtain⟨aA,cA,rfl⟩:=QD H (QE _) (by decide);replace H:=Js [0,1,0] 0 H;replace H:=H.drop;replace H:=Yv hm h2 h3 H;refine Dh H ?_
  have he:GS m r os=if 64≤(Yu m.P).length then 5 else 0:=by
   unfold GS;rw[hlv,if_neg (by decide),if_neg (by omega),← hmay,if_neg (by decide)]
  rw[he];by_cases c4:(((Yu m.P).length:Nat):Int)≥64
  ·rw[show decide ((((Yu m.P).length:Nat):Int)≥64)=true from decide_eq_true c4,if_pos (by omega)];refine YR H ?_;exact Q3 (Jy H rfl fun w' H'=>⟨rfl,H'⟩)
  ·rw[show decide ((((Yu m.P).length:Nat):Int)≥64)=false from decide_eq_false c4,if_neg (by omega)];refine KB H ?_;exact Q3 (Jy H rfl fun w' H'=>⟨rfl,H'⟩)
def YC {A:Type} (f:A→A) (i:Nat) (l:List A):List A:=l.mapIdx fun k x=>if k < i then f x else x
theorem We {A:Type} (f:A→A) (i:Nat) (l:List A) (k:Nat):(YC f i l)[k]? = (l[k]?).map fun x=>if k < i then f x else x:=getElem?_mapIdx
theorem Wf {A:Type} (f:A→A) (i:Nat) (l:List A):(YC f i l).length=l.length:=length_mapIdx
theorem FS {A:Type} (f:A→A) (l:List A):YC f 0 l=l:=by
 apply ext_getElem?;intro k;rw[We];cases l[k]? <;> simp
theorem P8 {A:Type} {f:A→A} {l:List A} {i:Nat} {x:A} (h:l[i]? = some x):(YC f i l).set i (f x)=YC f (i+1) l:=by
 have hil:=(List.getElem?_eq_some_iff.1 h).1;apply ext_getElem?;intro k;rw[getElem?_set,We,We,Wf];by_cases hk:i=k
 ·subst hk;rw[if_pos rfl,if_pos hil,h];simp only[Option.map_some];rw[if_pos (by omega)]
 ·rw[if_neg hk];have:k < i+1↔k < i:=by omega
  simp only[this]
theorem JZ {A:Type} (f:A→A) (l:List A):YC f l.length l=l.map f:=by
 apply ext_getElem?;intro k;rw[We,getElem?_map];cases h:l[k]? with
 | none=>rfl
 | some x=>
  have:=(List.getElem?_eq_some_iff.1 h).1;simp only[Option.map_some];rw[if_pos this]
theorem P9 {A:Type} {f:A→A} {l:List A} {i:Nat} {x:A} (h:l[i]? = some x):(YC f i l)[i]? = some x:=by
 rw[We,h];simp only[Option.map_some];rw[if_neg (by omega)]
theorem gh {lays:List QJ} {n:Nat} {x:QI} (h:Gj lays n x) (L:List Nat):Gj lays n (Qd L x):=by
 obtain⟨a,b,c,d,e⟩:=h;unfold Qd;split
 ·exact⟨a,b,c,d,e⟩
 ·exact⟨a,b,c,d,e⟩
theorem JG {m:MS} (h:V6 m) (L K:List Nat) (i:Nat):V6 { m with P:=Vs m.P K,objs:=YC (Qd L) i m.objs }:=by
 refine⟨?_,h.lays,fun x' hx'=>?_,?_⟩
 ·show 1≤(Vs m.P K).length∧(Vs m.P K).length≤_;unfold Vs;rw[length_mapIdx];exact h.P
 ·show Gj m.lays (YC (Qd L) i m.objs).length x';rw[Wf];obtain⟨o,ho⟩:=getElem?_of_mem hx';have ho:(YC (Qd L) i m.objs)[o]? = some x':=ho;rw[We] at ho;cases hx:m.objs[o]? with
  | none=>rw[hx] at ho;cases ho
  | some x=>
   rw[hx] at ho;injection ho with ho
   have hk:=h.objs x (mem_of_getElem? hx);subst ho;show Gj m.lays m.objs.length (if o < i then Qd L x else x);split
   ·exact gh hk L
   ·exact hk
 ·show (YC (Qd L) i m.objs).length≤_;rw[Wf];exact h.few
def G7 (G:List QI) (p:Nat) (l:List (Nat×Nat)):List Nat:=l.mapIdx fun k y=>if k < p∧YV G y.1 y.2=true then 1 else y.1
def G8 (G:List QI) (p:Nat) (l:List (Nat×Nat)):List Nat:=l.mapIdx fun k y=>if k < p∧YV G y.1 y.2=true then 0 else y.2
def YD (G:List QI) (p:Nat) (x:QI):QI:={ x with kind:=G7 G p (x.kind.zip x.to),to:=G8 G p (x.kind.zip x.to) }
theorem gj (G:List QI) (p:Nat) {x:QI} (h:x.kind.length=x.to.length):(YD G p x).kind.length=x.kind.length∧(YD G p x).to.length=x.kind.length:=by
 constructor
 ·show (G7 G p _).length=_;unfold G7;rw[length_mapIdx,length_zip];omega
 ·show (G8 G p _).length=_;unfold G8;rw[length_mapIdx,length_zip];omega
theorem Cu {k t:List Nat} {p a b:Nat} (ha:k[p]? = some a) (hb:t[p]? = some b):(k.zip t)[p]? = some (a,b):=getElem?_zip_eq_some.2 ⟨ha,hb⟩
theorem gk {G:List QI} {x:QI} {p a b:Nat} (ha:x.kind[p]? = some a) (hb:x.to[p]? = some b):(YD G p x).kind[p]? = some a∧(YD G p x).to[p]? = some b:=by
 have hz:=Cu ha hb;constructor
 ·show (G7 G p _)[p]? = _;unfold G7;rw[getElem?_mapIdx,hz];show some (if p < p∧YV G a b=true then 1 else a)=_;rw[if_neg (by omega)]
 ·show (G8 G p _)[p]? = _;unfold G8;rw[getElem?_mapIdx,hz];show some (if p < p∧YV G a b=true then 0 else b)=_;rw[if_neg (by omega)]
theorem gl {G:List QI} {x:QI} {p a b:Nat} (ha:x.kind[p]? = some a) (hb:x.to[p]? = some b) (hh:YV G a b=true):({ YD G p x with kind:=(YD G p x).kind.set p 1,to:=(YD G p x).to.set p 0 }:QI)=YD G (p+1) x:=by
 have hz:=Cu ha hb;have hl:=(List.getElem?_eq_some_iff.1 hz).1
 have h1:(G7 G p (x.kind.zip x.to)).set p 1=G7 G (p+1) (x.kind.zip x.to):=by
  unfold G7;apply ext_getElem?;intro k;rw[getElem?_set,length_mapIdx,getElem?_mapIdx,getElem?_mapIdx];by_cases hk:p=k
  ·subst hk;rw[if_pos rfl,if_pos hl,hz];show _=some (if p < p+1∧YV G a b=true then 1 else a);rw[if_pos ⟨by omega,hh⟩]
  ·rw[if_neg hk];have:k < p+1↔k < p:=by omega
   simp only[this]
 have h2:(G8 G p (x.kind.zip x.to)).set p 0=G8 G (p+1) (x.kind.zip x.to):=by
  unfold G8;apply ext_getElem?;intro k;rw[getElem?_set,length_mapIdx,getElem?_mapIdx,getElem?_mapIdx];by_cases hk:p=k
  ·subst hk;rw[if_pos rfl,if_pos hl,hz];show _=some (if p < p+1∧YV G a b=true then 0 else b);rw[if_pos ⟨by omega,hh⟩]
  ·rw[if_neg hk];have:k < p+1↔k < p:=by omega
   simp only[this]
 show ({ x with kind:=(G7 G p (x.kind.zip x.to)).set p 1,to:=(G8 G p (x.kind.zip x.to)).set p 0 }:QI)={ x with kind:=G7 G (p+1) (x.kind.zip x.to),to:=G8 G (p+1) (x.kind.zip x.to) };rw[h1,h2]
theorem PQ {G:List QI} {x:QI} {p a b:Nat} (ha:x.kind[p]? = some a) (hb:x.to[p]? = some b) (hh:¬ YV G a b=true):YD G p x=YD G (p+1) x:=by
 have hz:=Cu ha hb
 have h1:G7 G p (x.kind.zip x.to)=G7 G (p+1) (x.kind.zip x.to):=by
  unfold G7;apply ext_getElem?;intro k;rw[getElem?_mapIdx,getElem?_mapIdx];by_cases hk:p=k
  ·subst hk;rw[hz];show some (if p < p∧YV G a b=true then 1 else a)=some (if p < p+1∧YV G a b=true then 1 else a);rw[if_neg (by omega),if_neg (fun h=>hh h.2)]
  ·have:k < p+1↔k < p:=by omega
   simp only[this]
 have h2:G8 G p (x.kind.zip x.to)=G8 G (p+1) (x.kind.zip x.to):=by
  unfold G8;apply ext_getElem?;intro k;rw[getElem?_mapIdx,getElem?_mapIdx];by_cases hk:p=k
  ·subst hk;rw[hz];show some (if p < p∧YV G a b=true then 0 else b)=some (if p < p+1∧YV G a b=true then 0 else b);rw[if_neg (by omega),if_neg (fun h=>hh h.2)]
  ·have:k < p+1↔k < p:=by omega
   simp only[this]
 unfold YD;rw[h1,h2]
theorem gm {G:List QI} {x:QI} (h:x.kind.length=x.to.length):YD G 0 x=x:=by
 have h1:G7 G 0 (x.kind.zip x.to)=x.kind:=by
  unfold G7;apply ext_getElem?;intro k;rw[getElem?_mapIdx];cases ha:x.kind[k]? with
  | none=>
   rw[List.getElem?_eq_none_iff] at ha;rw[getElem?_eq_none (by rw[length_zip];omega)];rfl
  | some a=>
   have hl:=(List.getElem?_eq_some_iff.1 ha).1;rw[Cu ha (getElem?_eq_getElem (show k < x.to.length by omega))];show some (if k < 0∧_ then 1 else a)=_;rw[if_neg (by omega)]
 have h2:G8 G 0 (x.kind.zip x.to)=x.to:=by
  unfold G8;apply ext_getElem?;intro k;rw[getElem?_mapIdx];cases ha:x.to[k]? with
  | none=>
   rw[List.getElem?_eq_none_iff] at ha;rw[getElem?_eq_none (by rw[length_zip];omega)];rfl
  | some a=>
   have hl:=(List.getElem?_eq_some_iff.1 ha).1;rw[Cu (getElem?_eq_getElem (show k < x.kind.length by omega)) ha];show some (if k < 0∧_ then 0 else a)=_;rw[if_neg (by omega)]
 unfold YD;rw[h1,h2]
theorem gn (G:List QI) {x:QI} (h:x.kind.length=x.to.length):YD G x.kind.length x=ZT G x:=by
 have h1:G7 G x.kind.length (x.kind.zip x.to)=(x.kind.zip x.to).map (fun y=>if YV G y.1 y.2=true then 1 else y.1):=by
  unfold G7;apply ext_getElem?;intro k;rw[getElem?_mapIdx,getElem?_map];cases hz:(x.kind.zip x.to)[k]? with
  | none=>rfl
  | some y=>
   have hl:=(List.getElem?_eq_some_iff.1 hz).1;rw[length_zip] at hl;have hk:k < x.kind.length:=by omega
   show some (if k < x.kind.length∧YV G y.1 y.2=true then 1 else y.1)=some (if YV G y.1 y.2=true then 1 else y.1);simp only[hk,true_and]
 have h2:G8 G x.kind.length (x.kind.zip x.to)=(x.kind.zip x.to).map (fun y=>if YV G y.1 y.2=true then 0 else y.2):=by
  unfold G8;apply ext_getElem?;intro k;rw[getElem?_mapIdx,getElem?_map];cases hz:(x.kind.zip x.to)[k]? with
  | none=>rfl
  | some y=>
   have hl:=(List.getElem?_eq_some_iff.1 hz).1;rw[length_zip] at hl;have hk:k < x.kind.length:=by omega
   show some (if k < x.kind.length∧YV G y.1 y.2=true then 0 else y.2)=some (if YV G y.1 y.2=true then 0 else y.2);simp only[hk,true_and]
 unfold YD ZT;rw[h1,h2]
theorem JU [Q4] {w:World} {oc:List OC} {l:List Q2} {i:Nat} {y:OC} (hy:oc[i]? = some y) (H:Q0 w (star (oc.map Z8)::l)):∃ rest:List Q2,
  Q0 w (pts y.ptr (Xs y.vw y.vk y.vt y.ob)::UL y.vw y.ob.w::NL y.vk y.ob.kind::NL y.vt y.ob.to::star rest::l) ∧
  ∀ (w':World) (l':List Q2) (x':QI),Q0 w' (pts y.ptr (Xs y.vw y.vk y.vt x')::UL y.vw x'.w::NL y.vk x'.kind::NL y.vt x'.to::star rest::l')→Q0 w' (star ((oc.set i { y with ob:=x' }).map Z8)::l'):=by
 have hsp:oc=oc.take i++y::oc.drop (i+1):=by
  have h1:=List.getElem?_eq_some_iff.1 hy;rw[← h1.2];simp
 refine⟨(oc.take i++oc.drop (i+1)).map Z8,Q0.star.1 ((Q0.pick hsp).1 H),fun w' l' x' H'=>?_⟩;have H':=(Q0.pick (R:=Z8) (x:={ y with ob:=x' }) (g1:=oc.take i) (g2:=oc.drop (i+1)) rfl).2 (Q0.star.2 H');rw[← SL.set_split hy] at H';exact H'
theorem Cv (v:Value) (l:List Nat):NL v l=IL v (l.map fun x:Nat=>(x:Int)):=by
 show QC _ 1 v (QA l)=QC _ 1 v (Qc _);unfold QA Qc;rw[map_map];rfl
end Go.Proofs.YtbnnnljagkjpiaaGreatDoor
