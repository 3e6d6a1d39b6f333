/- Cells: what is proved on the way: every input of the statement; no condition. Texts joined: ModJ ActA ChkQ SplT JoiE JoiF JoiG JoiH BumH StoE ImgE. -/
import Derived.Test.YtmjdnljneifpcaaGreatDoorBfe
import Derived.Test.YtmjdnljneifpcaaGreatDoorBfp
import Derived.Test.YtmjdnljneifpcaaGreatDoorBfm
import Derived.Test.YtmjdnljneifpcaaGreatDoorBfo
import Derived.Test.YtmjdnljneifpcaaGreatDoorBfk
import Derived.Test.YtmjdnljneifpcaaGreatDoorBfd
import Derived.Test.YtmjdnljneifpcaaGreatDoorBfn
import Derived.Test.YtmjdnljneifpcaaGreatDoorBfj
import Derived.Test.YtmjdnljneifpcaaGreatDoorBff
import Derived.Test.YtmjdnljneifpcaaGreatDoorBfh
set_option linter.unusedVariables false
set_option linter.unusedSimpArgs false
set_option linter.unusedSectionVars false
namespace Go.Proofs.YtmjdnljneifpcaaGreatDoor
open List
open Go.SL
theorem xQ [Q4] (a:Option Addr) (c:Nat) (L:List Nat) (x:Nat) (hl:L.length≤1000000) {w:World} {fr:List Q2} (H:Q0 w (NL (.slice a L.length c) L::fr)) :
  Calls Tryz.prog 176 #[.slice a L.length c,.int .i64 x] w (ret fun v w'=>v = .bool (decide (x∈L))∧Q0 w' (NL (.slice a L.length c) L::fr)):=by
 have hm:(L.map fun x:Nat=>(x:Int)).length=L.length:=length_map _;have h:=lQ a c L.length (L.map fun x:Nat=>(x:Int)) (x:Int) (by omega) (by omega) (w:=w) (fr:=fr) (by rw[hm,← Hg];exact H)
 have hd:decide ((x:Int)∈(L.map fun x:Nat=>(x:Int)).take L.length)=decide (x∈L):=by
  rw[← hm,take_length];refine decide_eq_decide.2 ⟨fun h=>?_,fun h=>mem_map.2 ⟨x,h,rfl⟩⟩;obtain⟨y,h1,h2⟩:=mem_map.1 h;obtain rfl:y=x:=by omega
  exact h1
 rw[hd,hm,← Hg] at h;exact h
theorem lR [Q4] (p:Nat) (m:MS) (r:Int) (hO:EW m.P) {w:World} {fr:List Q2} (H:Q0 w (Qy p m::fr)) :
  Calls Tryz.prog 101 #[pp p,.int .i64 r] w (ret fun v w'=>(Yj m.P r=false∧v = .tuple #[.slice none 0 0,.int .i64 15]∧Q0 w' (Qy p m::fr))∨(Yj m.P r=true∧∃ vl,v = .tuple #[vl,.int .i64 0]∧Q0 w' (NL vl (Ux m.P r)::Qy p (Aa m (Ux m.P r))::fr))):=by
 obtain⟨t,lc,oc,aL,cL,aO,cO,hm,h2,h3,Ys,Vu,H⟩:=GI H;have hP:=hm.P;have Cm:=hm.few;refine QQ Tryz.func101 rfl (by kernel_rfl) ?_;refine Iq H ?_;replace H:=Js [1,0] 0 H;refine Jc rfl rfl (Dw t m.P r H) ?_;clear H;rintro v w ⟨rfl,H⟩;refine J0 H ?_;cases ZE:Yj m.P r with
 | false=>
  refine J3 H ?_;refine G7 H ?_;exact Q3 (Jy (Zv hm h2 h3 H.swap) rfl fun w' H' => .inl ⟨rfl,rfl,H'⟩)
 | true=>
 refine KL H ?_;refine Vb H ?_;refine Jc rfl rfl (wA t m.P hO r hP.1 (by omega) H) ?_;clear H;intro v w H;obtain⟨aU,cU,rfl⟩:=QI H (QM _) (by decide);have lW:(Ux m.P r).length≤1000000:=by have:=am m.P r m.P.length;unfold Ux;omega
 generalize hL:Ux m.P r=L at H lW ⊢;refine J0 H ?_;have ZQ:=bd hm L L 0;replace H:=Js [2,1,1,1,1,1,0] 0 H;replace H:=Zv (m:={ m with P:=Ye m.P L,objs:=ZL (Qn L) 0 m.objs }) ZQ h2 (by rw[P8];exact h3) H;clear h2 h3 Ys Vu lc oc aL cL aO cO;refine J7 H ?_;refine Qt (fun ms σ w=>ms=[]∧σ 0=pp p∧σ 7 = .slice aU L.length cU∧Q0 w (Qy p { m with P:=Ye m.P L,objs:=m.objs.map (Qn L) }::NL (.slice aU L.length cU) L::fr)) ?_ ?_
 ·refine Qd ?_;refine Qp (fun ms σ w z=>ms=[]∧∃ i:Nat,i≤m.objs.length∧z=m.objs.length - i∧σ 0=pp p∧σ 7 = .slice aU L.length cU∧σ 8 = .int .i64 i∧Q0 w (Qy p { m with P:=Ye m.P L,objs:=ZL (Qn L) i m.objs }::NL (.slice aU L.length cU) L::fr)) (m:=m.objs.length) ⟨rfl,0,by omega,by omega,rfl,rfl,rfl,H⟩ ?_;clear H;rintro ms σ w z ⟨rfl,i,hi,rfl,g0,g7,g8,H⟩;rw[Q1 g0,Q1 g7,Q1 g8];have Zb:=EL (Qn L) i m.objs;by_cases Q6:i < m.objs.length
  ·have hx:=getElem?_eq_getElem Q6;generalize m.objs[i]=x at hx;have Xt:({ m with P:=Ye m.P L,objs:=ZL (Qn L) i m.objs }:MS).objs[i]? = some x:=lX hx;obtain⟨t,lc,aL,cL,bO,cO,s,ptrs,qq,vw,vk,vt,rest,Gy,h2,hp,H,QU⟩:=UT H Xt;dsimp only at H QU;rw[Zb] at H QU;have Zo:ZL (Qn L) (i+1) m.objs=(ZL (Qn L) i m.objs).set i (Qn L x):=(lU hx).symm;have VB:VF { m with P:=Ye m.P L,objs:=(ZL (Qn L) i m.objs).set i (Qn L x) }:=by rw[← Zo];exact bd hm L L (i+1)
   refine A6 H ?_;refine Qk rfl (fun h=>QE ?_) (fun h=>absurd (show ((i:Nat):Int) < ((m.objs.length:Nat):Int) by omega) h);refine DI H ?_;refine NY H ?_;refine Jd ?_;refine Q5 rfl (QC H rfl hp rfl ?_);refine Jv ?_;refine Gs H ?_;replace H:=Js [10,0,0,0,0,0,0,0,0,0,0] 0 H;refine Jc rfl rfl (xQ aU cU L x.region lW H) ?_;clear H;rintro v w ⟨rfl,H⟩;replace H:=Js [1,1,1,1,1,1,1,1,1,1,0] 0 H;by_cases VQ:x.region∈L
   ·rw[decide_eq_true VQ];refine Mh H ?_;refine YU rfl ?_;refine Vb H ?_;refine Jd ?_;refine Q5 rfl (QC H rfl hp rfl ?_);refine XO H ?_;clear H;intro w H;refine J2 H ?_;have EH:Qn L x={ x with gone:=true }:=by unfold Qn;rw[if_pos VQ]
    rw[EH] at Zo VB;replace H:Q0 w (pts qq (K7 vw vk vt { x with gone:=true })::_):=H;replace H:=QU _ _ _ VB H;rw[← Zo] at H;refine Vj H ?_;exact⟨_,⟨rfl,i+1,Q6,rfl,rfl,rfl,Qg (by omega),H⟩,by omega⟩
   ·rw[decide_eq_false VQ];refine J0 H ?_;refine fC H ?_;have EH:Qn L x=x:=by unfold Qn;rw[if_neg VQ]
    rw[EH] at Zo VB;replace H:=QU _ _ _ VB H;rw[← Zo] at H;refine Vj H ?_;exact⟨_,⟨rfl,i+1,Q6,rfl,rfl,rfl,Qg (by omega),H⟩,by omega⟩
  ·obtain rfl:i=m.objs.length:=by omega
   obtain⟨t,lc,oc,aL,cL,aO,cO,Gy,h2,h3,Ys,Vu,H⟩:=GI H;dsimp only at H;rw[Zb] at H;refine A6 H ?_;refine Qk rfl (fun h=>absurd (show ((m.objs.length:Nat):Int) < ((m.objs.length:Nat):Int) from h) (by omega)) (fun h=>Qu ?_);rw[← Zb] at H;replace H:=Zv (m:={ m with P:=Ye m.P L,objs:=ZL (Qn L) m.objs.length m.objs }) Gy h2 h3 H;rw[bc] at H;exact⟨rfl,rfl,rfl,rfl,H⟩
 clear H;rintro ms σ w ⟨rfl,g0,g7,H⟩;rw[Q1 g0,Q1 g7];have bh:=bd hm L L m.objs.length;rw[bc] at bh;obtain⟨t,lc,oc,aL,cL,aO,cO,_,h2,h3,Ys,Vu,H⟩:=GI H;dsimp only at H h2 h3 Vu;have Lm:(m.objs.map (Qn L)).length=m.objs.length:=length_map _;have lA:(Aa m L).objs=(m.objs.map (Qn L)).map (UA (m.objs.map (Qn L))):=rfl
 have lB:∀ x∈m.objs.map (Qn L),K6 m.lays m.objs.length x:=fun x hx=>by
  have:=bh.objs x hx
  rwa [show ({ m with P:=Ye m.P L,objs:=m.objs.map (Qn L) }:MS).objs.length=m.objs.length from Lm] at this
 have Va:∀ x∈m.objs.map (Qn L),x.w.length < 8192:=fun x hx=>by
  obtain⟨o,ho⟩:=getElem?_of_mem hx;exact BL (w:=bh) ho
 rw[Lm] at H Vu;generalize m.objs.map (Qn L)=G at H h3 Lm lA lB Va
 let F:OC→OC:=fun y=>{ y with ob:=UA G y.ob }
 have hF:∀ y,F y={ y with ob:=UA G y.ob }:=fun _=>rfl;clear_value F;replace H:=Js [5,4,0,0,0,0] 0 H;rw[← P8 F oc] at H;rw[P8] at H;refine J7 H ?_;refine Qt (fun ms σ w=>ms=[]∧σ 7 = .slice aU L.length cU∧Q0 w (star ((oc.map F).map Zm)::QF 77 1 (.slice aO m.objs.length cO) (oc.map fun x=>pp x.ptr)::pts p (row 58 [pp t,.slice aL m.lays.length cL,.slice aO m.objs.length cO])::Vi t (Ye m.P L)::QF 102 4 (.slice aL m.lays.length cL) (Vf lc)::star (lc.map Yq)::NL (.slice aU L.length cU) L::fr)) ?_ ?_
 ·refine Qd ?_;refine Qp (fun ms σ w z=>ms=[]∧∃ i:Nat,i≤m.objs.length∧z=m.objs.length - i∧σ 0=pp p∧σ 7 = .slice aU L.length cU∧σ 10 = .int .i64 i∧Q0 w (star ((ZL F i oc).map Zm)::QF 77 1 (.slice aO m.objs.length cO) (oc.map fun x=>pp x.ptr)::pts p (row 58 [pp t,.slice aL m.lays.length cL,.slice aO m.objs.length cO])::Vi t (Ye m.P L)::QF 102 4 (.slice aL m.lays.length cL) (Vf lc)::star (lc.map Yq)::NL (.slice aU L.length cU) L::fr)) (m:=m.objs.length) ⟨rfl,0,by omega,by omega,rfl,rfl,rfl,by rw[P8];exact H⟩ ?_;clear H;rintro ms σ w z ⟨rfl,i,hi,rfl,g0,g7,g10,H⟩;rw[Q1 g0,Q1 g7,Q1 g10];refine A6 H ?_;refine Qk rfl (fun h=>QE ?_) (fun h=>Qu ?_)
  ·have Q6:i < m.objs.length:=by omega
   have hy:=getElem?_eq_getElem (show i < oc.length by omega);generalize oc[i]=y at hy;obtain⟨qq,vw,vk,vt,x⟩:=y;have lC:G[i]? = some x:=by rw[← h3,getElem?_map,hy];rfl
   obtain⟨_,_,hkw,htw,KQ⟩:=lB x (mem_of_getElem? lC);have HN:x.kind.length=x.to.length:=by omega
   have hsx:=Va x (mem_of_getElem? lC);have lD:=lX (f:=F) hy;obtain⟨rest,Hv,VK⟩:=be lD H;dsimp only at Hv;obtain⟨ak,ck,rfl⟩:=QI (m:=x.kind.length) Hv.drop.drop (QM _) (by decide);obtain⟨at',ct,rfl⟩:=QI (m:=x.kind.length) Hv.drop.drop.drop (by rw[QM,HN]) (by decide);clear Hv VK rest;obtain⟨bO,sO,rfl,H,xV⟩:=VY H.swap (by omega)
   have lE:∀ (k:Nat) (y:OC),oc[k]? = some y→((oc.map fun x=>pp x.ptr)++sO)[0+k*1]? = some (pp y.ptr):=fun k y hk=>by
    have:=(List.getElem?_eq_some_iff.1 hk).1;rw[Nat.zero_add,Nat.mul_one,getElem?_append_left (by rw[length_map];exact this),getElem?_map,hk];rfl
   refine DM H ?_;refine Jd ?_;refine Q5 rfl (QC H rfl (lE i _ hy) rfl ?_);refine J0 H ?_;refine Vg H ?_
   have xY:(ZL F i oc).set i ⟨qq,vw,.slice ak x.kind.length ck,.slice at' x.kind.length ct,ZM G 0 x⟩=ZL F i oc:=by
    rw[x8 HN];apply ext_getElem?;intro k;rw[getElem?_set];split
    ·rename_i hk;subst hk;rw[if_pos (by rw[EL];omega),lD]
    ·rfl
   have xZ:F ⟨qq,vw,.slice ak x.kind.length ck,.slice at' x.kind.length ct,x⟩=⟨qq,vw,.slice ak x.kind.length ck,.slice at' x.kind.length ct,ZM G x.kind.length x⟩:=by rw[hF,x9 G HN]
   have Bt:=lU (f:=F) hy;rw[xZ] at Bt;rw[← xY] at H;refine J6 H ?_;refine Qt (fun ms σ w=>ms=[]∧σ 0=pp p∧σ 7 = .slice aU L.length cU∧σ 10 = .int .i64 i∧Q0 w (star (((ZL F i oc).set i ⟨qq,vw,.slice ak x.kind.length ck,.slice at' x.kind.length ct,ZM G x.kind.length x⟩).map Zm)::pts bO (row 77 ((oc.map fun x=>pp x.ptr)++sO))::pts p (row 58 [pp t,.slice aL m.lays.length cL,.slice (some ⟨bO,0,none⟩) m.objs.length cO])::Vi t (Ye m.P L)::QF 102 4 (.slice aL m.lays.length cL) (Vf lc)::star (lc.map Yq)::NL (.slice aU L.length cU) L::fr)) ?_ ?_
   ·refine Qd ?_;refine Qp (fun ms σ w z=>ms=[]∧∃ j:Nat,j≤x.kind.length∧z=x.kind.length - j∧σ 0=pp p∧σ 7 = .slice aU L.length cU∧σ 10 = .int .i64 i∧σ 11=pp qq∧σ 12 = .int .i64 j∧Q0 w (pts bO (row 77 ((oc.map fun x=>pp x.ptr)++sO))::star (((ZL F i oc).set i ⟨qq,vw,.slice ak x.kind.length ck,.slice at' x.kind.length ct,ZM G j x⟩).map Zm)::pts p (row 58 [pp t,.slice aL m.lays.length cL,.slice (some ⟨bO,0,none⟩) m.objs.length cO])::Vi t (Ye m.P L)::QF 102 4 (.slice aL m.lays.length cL) (Vf lc)::star (lc.map Yq)::NL (.slice aU L.length cU) L::fr)) (m:=x.kind.length) ⟨rfl,0,by omega,by omega,rfl,rfl,rfl,rfl,rfl,H⟩ ?_;clear H;rintro ms σ w z ⟨rfl,j,hj,rfl,g0,g7,g10,g11,g12,H⟩;rw[Q1 g0,Q1 g7,Q1 g10,Q1 g11,Q1 g12];have Hc:=H.swap
    have xG:((ZL F i oc).set i ⟨qq,vw,.slice ak x.kind.length ck,.slice at' x.kind.length ct,ZM G j x⟩)[i]? = some ⟨qq,vw,.slice ak x.kind.length ck,.slice at' x.kind.length ct,ZM G j x⟩:=by
     rw[getElem?_set_self (by rw[EL];omega)]
    obtain⟨rest,H,bj⟩:=be xG Hc;dsimp only at H bj;obtain⟨P9,E5⟩:=wz G j HN;refine A6 H ?_;refine Qk rfl (fun h=>QE ?_) (fun h=>Qu ?_)
    ·have ZS:j < x.kind.length:=by omega
     have ha:=getElem?_eq_getElem ZS;have hb:=getElem?_eq_getElem (show j < x.to.length by omega);generalize x.kind[j]=a at ha;generalize x.to[j]=b at hb;obtain⟨xU,hY⟩:=x6 (G:=G) ha hb;replace H:=Js [2,0,0,0] 0 H;obtain⟨bk,sk,rfl,H,_,_,UV⟩:=GP H (by omega);replace H:=Js [3,0,0,0] 0 H;obtain⟨bt,st,rfl,H,_,_,R9⟩:=GP H (by omega)
     have Cy:∀ (w':World) (l':List Q2) (k' t':List Nat),k'.length=x.kind.length→t'.length=x.kind.length→Q0 w' (pts bt (row 3 (QH t'++st))::pts bk (row 3 (QH k'++sk))::pts qq (K7 vw (.slice (some ⟨bk,0,none⟩) x.kind.length ck) (.slice (some ⟨bt,0,none⟩) x.kind.length ct) (ZM G j x))::UL vw (ZM G j x).w::star rest::l')→Q0 w' (star (((ZL F i oc).set i ⟨qq,vw,.slice (some ⟨bk,0,none⟩) x.kind.length ck,.slice (some ⟨bt,0,none⟩) x.kind.length ct,{ ZM G j x with kind:=k',to:=t' }⟩).map Zm)::l'):=by
      intro w' l' k' t' e1 e2 H;replace H:=R9 _ _ (QH t') (by rw[QM,QM];omega) H;replace H:=Js [1,0,0,0] 0 H;replace H:=UV _ _ (QH k') (by rw[QM,QM];omega) H;replace H:=Js [2,2,0,0] 0 H;have H:=bj w' l' { ZM G j x with kind:=k',to:=t' } H;rw[set_set] at H;exact H
     clear R9 UV bj Hc;refine Ip H ?_;clear H;intro w H;refine WX H ?_;refine Ja 4 ?_;refine Ji 5 ?_;refine Y2 6 [] H rfl (Q8.none rfl) rfl (Gb xU) (by kernel_rfl) ?_;refine Df H ?_;by_cases VP:a=2
     ·rw[show (((a:Nat):Int) == 2)=true by rw[VP];rfl]
      have CI:b < m.objs.length:=by
       have:=KQ j (by rw[ha,VP]);rw[getD_eq_getElem?_getD,hb] at this;exact this
      have WA:=getElem?_eq_getElem (show b < oc.length by omega);generalize oc[b]=yb at WA
      obtain⟨zb,xX,xK,xR⟩:∃ zb:OC,((ZL F i oc).set i ⟨qq,vw,.slice (some ⟨bk,0,none⟩) x.kind.length ck,.slice (some ⟨bt,0,none⟩) x.kind.length ct,ZM G j x⟩)[b]? = some zb∧zb.ptr=yb.ptr∧zb.ob.gone=yb.ob.gone:=by
       rw[getElem?_set];by_cases S4:i=b
       ·subst S4;rw[if_pos rfl,if_pos (by rw[EL];omega)];rw[hy] at WA;injection WA with WA
        subst WA;exact⟨_,rfl,rfl,rfl⟩
       ·rw[if_neg S4,EJ,WA];refine⟨_,rfl,?_,?_⟩ <;> dsimp only <;> split
        ·rw[hF]
        ·rfl
        ·rw[hF];rfl
        ·rfl
      have xW:G[b]? = some yb.ob:=by rw[← h3,getElem?_map,WA];rfl
      have EM:ZV G a b=yb.ob.gone:=by
       unfold ZV;rw[xW,VP];rfl
      have Hc:=Cy _ _ _ _ P9 E5 H;obtain⟨restb,Hb,_⟩:=be xX Hc;have lF:=lE b yb WA;rw[← xK] at lF;rw[← xR] at EM;refine IH H ?_;refine Jl 12 [] H ?_;refine Mq H ?_;refine Jl 16 [] H ?_;refine Ja 17 ?_;refine Ji 18 ?_;refine Y2 19 [] H rfl (Q8.of rfl rfl rfl) rfl (Gb hY) (by kernel_rfl) ?_;refine Ji 20 ?_;refine Y2 21 [] H rfl (Q8.of rfl rfl rfl) rfl lF (by kernel_rfl) ?_;refine Ja 22 ?_;refine Jf 23 ?_;refine Y2 24 [] Hb rfl (Q8.of rfl rfl rfl) rfl rfl (by kernel_rfl) ?_;refine Ja 25 ?_;refine Pb (by kernel_rfl) (YA.cons (.inr (Q0.at Hb)) (by repeat first|exact .nil|refine .cons (.inr H.at) ?_|refine .cons (.inr H.mp) ?_|refine .cons (.inl (by kernel_rfl)) ?_)) ?_;clear Hb Hc;cases hgn:zb.ob.gone with
      | true=>
       rw[hgn] at EM
       repeat refine Q7 ?_
       refine YU rfl ?_
       repeat refine Q7 ?_
       refine QG ?_;refine Jv ?_;refine Jv ?_;refine Q5 rfl (VJ rfl rfl ?_);refine Q5 rfl (QC H rfl rfl rfl ?_);refine Jv ?_;refine Jd ?_;refine Q5 rfl (G1 H rfl rfl inferInstance rfl (by simp only[length_append,QM];omega) rfl ?_);clear H;intro w H;rw[Int.toNat_natCast,HQ (v:=1) (x:=1) (by omega) rfl] at H;refine NX H ?_;refine Jd ?_;refine Q5 rfl (G1 H rfl rfl inferInstance rfl (by simp only[length_append,QM];omega) rfl ?_);clear H;intro w H;rw[Int.toNat_natCast,HQ (v:=0) (x:=0) (by omega) rfl] at H;refine J2 H ?_;replace H:=Cy _ _ _ _ (by rw[length_set];exact P9) (by rw[length_set];exact E5) H;rw[x7 ha hb EM] at H;refine Vj H ?_;exact⟨_,⟨rfl,j+1,ZS,rfl,rfl,rfl,rfl,rfl,Qg (by omega),H.swap⟩,by omega⟩
      | false=>
       rw[hgn] at EM;refine Vk H ?_;replace H:=Cy _ _ _ _ P9 E5 H;replace H:Q0 w (star (((ZL F i oc).set i ⟨qq,vw,.slice (some ⟨bk,0,none⟩) x.kind.length ck,.slice (some ⟨bt,0,none⟩) x.kind.length ct,ZM G j x⟩).map Zm)::_):=H;rw[lK ha hb (by rw[EM];decide)] at H;refine Vj H ?_;exact⟨_,⟨rfl,j+1,ZS,rfl,rfl,rfl,rfl,rfl,Qg (by omega),H.swap⟩,by omega⟩
     ·rw[show (((a:Nat):Int) == 2)=false by rw[beq_eq_false_iff_ne];omega]
      have EM:¬ ZV G a b=true:=by
       unfold ZV;rw[show (a == 2)=false by rw[beq_eq_false_iff_ne];exact VP];simp
      refine Jn 9 ?_;refine Jn 10 ?_;refine Jn 11 ?_;refine Jn 12 ?_;refine Jn 13 ?_;refine NW H ?_;refine Jn 24 ?_;refine Ja 25 ?_;refine Ax H ?_;replace H:=Cy _ _ _ _ P9 E5 H;replace H:Q0 w (star (((ZL F i oc).set i ⟨qq,vw,.slice (some ⟨bk,0,none⟩) x.kind.length ck,.slice (some ⟨bt,0,none⟩) x.kind.length ct,ZM G j x⟩).map Zm)::_):=H;rw[lK ha hb EM] at H;refine Vj H ?_;exact⟨_,⟨rfl,j+1,ZS,rfl,rfl,rfl,rfl,rfl,Qg (by omega),H.swap⟩,by omega⟩
    ·obtain rfl:j=x.kind.length:=by omega
     exact⟨rfl,rfl,rfl,rfl,rfl,Hc⟩
   clear H;rintro ms σ w ⟨rfl,g0,g7,g10,H⟩;rw[Q1 g0,Q1 g7,Q1 g10];rw[Bt] at H;replace H:=(xV _ _ H.swap).swap;refine Vj H ?_;exact⟨_,⟨rfl,i+1,Q6,rfl,rfl,rfl,Qg (by omega),H⟩,by omega⟩
  ·obtain rfl:i=oc.length:=by omega
   rw[bc] at H;exact⟨rfl,rfl,rfl,H⟩
 clear H;rintro ms σ w ⟨rfl,g7,H⟩;rw[Q1 g7];replace H:=Js [2,2,2,2,1,0] 0 H
 have xA:(oc.map fun x=>pp x.ptr)=((oc.map F).map fun x=>pp x.ptr):=by
  rw[map_map];congr 1
  funext y
  show pp y.ptr=pp (F y).ptr;rw[hF]
 rw[xA] at H
 have Uq:(oc.map F).map (·.ob)=G.map (UA G):=by
  have e1:(oc.map F).map (·.ob)=oc.map (fun y=>UA G y.ob):=by
   rw[map_map];congr 1
   funext y
   show (F y).ob=_;rw[hF]
  have e2:(oc.map (·.ob)).map (UA G)=oc.map (fun y=>UA G y.ob):=by
   rw[map_map];rfl
  rw[e1,← e2,h3]
 have H:=Zv (m:=Aa m L) (wk hm L) h2 (by rw[lA];exact Uq) H;refine Vj H ?_;exact Q3 (Jy H.swap rfl fun w' H' => .inr ⟨rfl,_,rfl,H'⟩)
theorem xB {c:List Value} {o n:Nat} {L:List Int} (h:QY c o n (Qm L)) {i:Nat} {x:Int} (hi:L[i]? = some x):c[o+i*1]? = some (.int .i64 x):=by
 rw[Nat.mul_one];refine h.get i _ ?_;unfold Qm;rw[getElem?_map,hi];rfl
theorem lH [Q4] (p c mo:Nat) (a:Option Addr) (cap:Nat) (told:List (Nat×Nat)) (Qw:told.length≤1000000) (vL:Value) (L:List Int) (hL:L.length≤1000000) {w:World} {fr:List Q2} (hr:YM fr vL L.length 1 (Qm L)) (H:Q0 w (Y8 p c mo (.slice a told.length cap)::V8 (.slice a told.length cap) told::fr)) :
  Calls Tryz.prog 25 #[pp p,vL] w (ret fun v w'=>∃ (ys:List ((Nat×Nat)×Int)) (vt vo:Value),v = .tuple #[vt,vo]∧ys.length=L.length∧(∀ y∈ys,Bp told y)∧Q0 w' (V8 vt (ys.map (·.1))::IL vo (ys.map (·.2))::Y8 p c mo (.slice a told.length cap)::V8 (.slice a told.length cap) told::fr)):=by
 obtain⟨h0,adL,capL,rfl,Qv⟩:=hr;refine QQ Tryz.func25 rfl (by kernel_rfl) ?_;refine J3 H ?_;refine Vg H ?_;refine Ey H ?_;refine Qp (fun ms σ w z=>ms=[]∧∃ (i:Nat) (ys:List ((Nat×Nat)×Int)) (vt vo:Value),i≤L.length∧z=L.length - i∧ys.length=i∧(∀ y∈ys,Bp told y)∧σ 0=pp p∧σ 6=vt∧σ 7=vo∧σ 11 = .slice adL L.length capL∧σ 12 = .int .i64 L.length∧σ 13 = .int .i64 i∧Q0 w (V8 vt (ys.map (·.1))::IL vo (ys.map (·.2))::Y8 p c mo (.slice a told.length cap)::V8 (.slice a told.length cap) told::fr)) (m:=L.length) ⟨rfl,0,[],_,_,by omega,by omega,rfl,fun y hy=>(by cases hy),rfl,rfl,rfl,rfl,rfl,rfl,GK (GK H)⟩ ?_;rintro ms σ w z ⟨rfl,i,ys,vt,vo,hi,rfl,Lt,YV,g0,g6,g7,g11,g12,g13,H⟩;obtain⟨at',mt,ct,rfl⟩:=VZ H;obtain⟨ao,mo',co,rfl⟩:=VZ H.drop;rw[Q1 g0,Q1 g6,Q1 g7,Q1 g11,Q1 g12,Q1 g13];refine J7 H ?_;refine Qk rfl (fun h=>QE ?_) (fun h=>Qu ?_)
 ·have Q6:i < L.length:=by omega
  have hy:=getElem?_eq_getElem Q6;generalize L[i]=x at hy
  rcases Qv with hz|⟨b,o,E,fz,cc,rfl,hA,Qv⟩
  ·omega
  haveI:=hA;have hx:=xB Qv hy;refine Z8 H ?_;refine Jd ?_;refine Q5 rfl (QC H rfl hx rfl ?_);refine J0 H ?_;refine NK H ?_;by_cases ht:told=[]
  ·subst ht;rw[show ((([]:List (Nat×Nat)).length:Int) == 0)=true from rfl];refine Vt H ?_;refine Z6 H ?_;refine IR H ?_;intro b25 w H;replace H:=Js [1,0] 0 H;refine Q5 rfl (ZY H rfl rfl (by repeat first|exact .nil _|apply QY.cons rfl) rfl (by decide) (by rw[Bf,length_map];simp only[length_cons,length_nil];omega) rfl rfl ?_);intro v26 w H;obtain⟨a26,m26,c26,rfl⟩:=VZ H;refine Jv ?_;refine X7 H ?_;intro b28 w H;replace H:=Js [3,0,0,0] 0 H;refine Q5 rfl (ZY H rfl rfl (by repeat first|exact .nil _|apply QY.cons rfl) rfl (by decide) (by rw[YZ,length_map];simp only[length_cons,length_nil];omega) rfl rfl ?_);intro v29 w H;obtain⟨a29,m29,c29,rfl⟩:=VZ H;refine J4 H ?_;replace H:=Js [1,2,1,0] 0 H;replace H:=H.drop.drop;have e1:U3 (ys.map (·.1))++[.int .i64 1,.int .i64 1]=U3 ((ys++[(((1,1),-1):(Nat×Nat)×Int)]).map (·.1)):=by rw[map_append,Tk];rfl
   have e2:Qm (ys.map (·.2))++[.int .i64 (-1)]=Qm ((ys++[(((1,1),-1):(Nat×Nat)×Int)]).map (·.2)):=by rw[map_append,Fx];rfl
   rw[e1,e2] at H;refine Qu ?_;refine J3 H ?_;refine⟨_,⟨rfl,i+1,ys++[((1,1),-1)],_,_,Q6,rfl,by simp[Lt],fun y hy=>?_,rfl,rfl,rfl,rfl,rfl,Qg (by omega),H⟩,by omega⟩
   rcases mem_append.1 hy with hy|hy
   ·exact YV y hy
   ·rw[mem_singleton] at hy;subst hy;exact .inr ⟨rfl,rfl⟩
  ·have LD:0 < told.length:=length_pos_iff.2 ht;rw[show ((told.length:Int) == 0)=false by rw[beq_eq_false_iff_ne];omega];refine F8 H ?_;refine Q5 rfl (Pq rfl rfl ?_);refine ZT H ?_;refine Gs H ?_;refine Q5 rfl (Gm rfl rfl ?_);refine Q5 rfl (Pq rfl rfl ?_)
   obtain⟨K,hK⟩:∃ K:Nat,IntKind.u64.wrap x=K:=⟨(IntKind.u64.wrap x).toNat,by
    have:0≤IntKind.u64.wrap x:=Int.emod_nonneg _ (by decide);omega⟩
   have e1:IntKind.u64.wrap (told.length:Int)=(told.length:Int):=Int.emod_eq_of_lt (by omega) (by show (told.length:Int) < 18446744073709551616;omega);rw[hK,e1];have DW:=Nat.mod_lt K LD
   refine Kn (v := .int .u64 ((K % told.length:Nat):Int)) (by
    show (if IntKind.u64=IntKind.u64 then (if (told.length:Int)=0 then none else some (Value.int IntKind.u64 (Int.tmod (K:Int) (told.length:Int)))) else none)=_;rw[if_pos rfl,if_neg (by omega),Int.tmod_eq_emod_of_nonneg (by omega),Int.natCast_emod]) rfl ?_
   refine Q5 rfl (Pq rfl rfl ?_);rw[Qh (x:=((K % told.length:Nat):Int)) (by omega) (by omega)];refine J0 H ?_;generalize K % told.length=n at DW;have hn:=getElem?_eq_getElem DW;generalize told[n]=xy at hn;obtain⟨tx,ty⟩:=xy;replace H:=Js [3,0,0,0] 0 H;obtain⟨bT,sT,rfl,H,QJ⟩:=VY H LD;refine FI H ?_;refine Jd ?_;refine Q5 rfl (Vy H rfl (Wa hn) rfl ?_);refine X7 H ?_;intro b48 w H;replace H:=Js [2,0,0] 0 H;refine Q5 rfl (ZY H rfl rfl (by repeat first|exact .nil _|apply QY.cons rfl) rfl (by decide) (by rw[Bf,length_map];simp only[length_cons,length_nil];omega) rfl rfl ?_);intro v49 w H;obtain⟨a49,m49,c49,rfl⟩:=VZ H;refine ZT H ?_;refine X7 H ?_;intro b52 w H;replace H:=Js [4,0,0,0,0] 0 H;refine Q5 rfl (ZY H rfl rfl (by repeat first|exact .nil _|apply QY.cons rfl) rfl (by decide) (by rw[YZ,length_map];simp only[length_cons,length_nil];omega) rfl rfl ?_);intro v53 w H;obtain⟨a53,m53,c53,rfl⟩:=VZ H;refine J4 H ?_;replace H:=Js [4,2,0,2,0,0] 0 H;replace H:=QJ _ _ H;replace H:=Js [4,4,1,1,1,0] 0 H;replace H:=H.drop.drop;have e2:U3 (ys.map (·.1))++[.int .i64 ((tx:Nat):Int),.int .i64 ((ty:Nat):Int)]=U3 ((ys++[(((tx,ty),(n:Int)):(Nat×Nat)×Int)]).map (·.1)):=by rw[map_append,Tk];rfl
   have e3:Qm (ys.map (·.2))++[.int .i64 (n:Int)]=Qm ((ys++[(((tx,ty),(n:Int)):(Nat×Nat)×Int)]).map (·.2)):=by rw[map_append,Fx];rfl
   rw[e2,e3] at H;refine J3 H ?_;refine⟨_,⟨rfl,i+1,ys++[((tx,ty),(n:Int))],_,_,Q6,rfl,by simp[Lt],fun y hy=>?_,rfl,rfl,rfl,rfl,rfl,Qg (by omega),H⟩,by omega⟩
   rcases mem_append.1 hy with hy|hy
   ·exact YV y hy
   ·rw[mem_singleton] at hy;subst hy;exact .inl ⟨n,rfl,hn⟩
 ·obtain rfl:i=L.length:=by omega
  refine Db H ?_;exact Q3 (Jy H rfl fun w' H'=>⟨ys,_,_,rfl,Lt,YV,H'⟩)
set_option maxRecDepth 10000 in
theorem xC [Q4] (p:Nat) (u:Xk) (s:CS) (r:Int) (v:Value) (l:List (Nat×Nat)) (hl:l.length≤1000) {w:World} {fr:List Q2} (H:Q0 w (Qr u.tp s.tab::VU p u::Qo u.trp s.last s.par::V8 v l::fr)) :
  Calls Tryz.prog 66 #[pp p,.int .i64 r,v] w (ret fun x w'=>x = .int .i64 (UW s r l:Nat)∧Q0 w' (Qr u.tp s.tab::VU p u::Qo u.trp s.last s.par::V8 v l::fr)):=by
 obtain⟨a,c,rfl⟩:=QI (H.pull 3) (Bf l) (by decide);refine QQ Tryz.func66 rfl (by kernel_rfl) ?_;refine Vg H ?_;refine ox ?_;refine XN H ?_;by_cases Y3:64 < l.length
 ·rw[show decide (((l.length:Nat):Int) > 64)=true from decide_eq_true (by omega)];refine ZB H ?_;exact Q3 (Jy H rfl fun w' H'=>⟨by unfold UW;rw[if_pos Y3];rfl,H'⟩)
 have Lu:∀ x:Nat,x≠0→Zz s.tab r [] l=x→UW s r l=x:=fun x h1 h2=>by
  unfold UW;rw[if_neg Y3,h2,if_pos h1]
 rw[show decide (((l.length:Nat):Int) > 64)=false from decide_eq_false (by omega)];refine Vk H ?_;refine J7 H ?_;refine nX ?_;refine XN H ?_;replace H:=Js [3,0,0,0] 0 H;refine J6 H ?_;refine Z0 (fun ms σ w=>ms=[]∧∃ again:Bool,((again=true∧Zz s.tab r [] l=14)∨(again=false∧Zz s.tab r [] l=0))∧σ 0=pp p∧σ 7 = .bool again∧Q0 w (V8 (.slice a l.length c) l::Qr u.tp s.tab::VU p u::Qo u.trp s.last s.par::fr)) ?_ ?_
 ·refine Qd ?_;refine Qp (fun ms σ w z=>ms=[]∧∃ i:Nat,i≤l.length∧z=l.length - i∧Zz s.tab r (l.take i) (l.drop i)=Zz s.tab r [] l∧σ 0=pp p∧σ 1 = .int .i64 r∧σ 2 = .slice a l.length c∧σ 7 = .bool false∧σ 17 = .slice a l.length c∧σ 18 = .int .i64 l.length∧σ 19 = .int .i64 i∧Q0 w (V8 (.slice a l.length c) l::Qr u.tp s.tab::VU p u::Qo u.trp s.last s.par::fr)) (m:=l.length) ⟨rfl,0,by omega,by omega,rfl,rfl,rfl,rfl,rfl,rfl,rfl,rfl,H⟩ ?_;rintro ms σ w z ⟨rfl,i,hi,rfl,YV,g0,g1,g2,g7,g17,g18,g19,H⟩;rw[Q1 g0,Q1 g1,Q1 g2,Q1 g7,Q1 g17,Q1 g18,Q1 g19];refine J7 H ?_;refine Qk rfl (fun h=>QE ?_) (fun h=>Qu ?_)
  ·have Q6:i < l.length:=by omega
   have hx:=getElem?_eq_getElem Q6;have Qi:l.take (i+1)=l.take i++[l[i]]:=by rw[take_add_one,hx];rfl
   rw[drop_eq_getElem_cons Q6] at YV;generalize l[i]=t at hx Qi YV;obtain⟨k,n⟩:=t;obtain⟨bT,sT,rfl,H,Dk,_,QJ⟩:=GP H (by omega);refine DD H ?_;refine Jd ?_;refine Q5 rfl (Vy H rfl (Wa hx) rfl ?_);refine VO H ?_;intro b9 w H;refine F0 H ?_;intro w H;refine J2 H ?_;replace H:Q0 w (pts b9 (row 69 [.int .i64 k,.int .i64 n])::pts bT (row 69 (U3 l++sT))::Qr u.tp s.tab::VU p u::Qo u.trp s.last s.par::fr):=H;obtain⟨e1,e2,h1,h2,e4,Y4⟩:=JT (Ql s.tab k n);refine J6 H ?_
   refine Qt (fun ms σ w=>ms=[]∧∃ b10,σ 0=pp p∧σ 1 = .int .i64 r∧σ 2 = .slice (some ⟨bT,0,none⟩) l.length c∧σ 7 = .bool false∧σ 8 = .int .i64 i∧σ 9=pp b9∧σ 10=pp b10∧σ 11 = .int .i64 e4∧σ 17 = .slice (some ⟨bT,0,none⟩) l.length c∧σ 18 = .int .i64 l.length∧σ 19 = .int .i64 i ∧
    Q0 w (Qr u.tp s.tab::pts b10 (row 113 [.int .i64 e1,.int .i64 e2,.bool h1,.bool h2])::pts b9 (row 69 [.int .i64 k,.int .i64 n])::pts bT (row 69 (U3 l++sT))::VU p u::Qo u.trp s.last s.par::fr)) ?_ ?_
   ·replace H:=Js [2,0,0,0,0] 0 H;refine J1 H ?_;intro w H;refine B8 H ?_;refine Jw 5 9 H rfl rfl (V3 (a:=[]) (b:=[]) rfl rfl (call (UZ u.tp s.tab k n H) ?_)) (YW H rfl ?_)
    ·rintro v w ⟨rfl,H⟩;rw[Y4];refine B9 H ?_;intro b10 w H;refine A7 H ?_;intro w H;refine Uj H ?_;replace H:=Js [1,0,0,0,0,0] 0 H;exact⟨rfl,rfl,b10,rfl,rfl,rfl,rfl,rfl,rfl,rfl,rfl,rfl,rfl,rfl,H⟩
    ·intro b10 w H;refine Jo 5 H ?_;refine Jk rfl rfl (UZ u.tp s.tab k n H.swap) ?_;rintro v w ⟨rfl,H⟩;rw[Y4];refine CC H ?_;intro w H;refine Uj H ?_;exact⟨rfl,rfl,b10,rfl,rfl,rfl,rfl,rfl,rfl,rfl,rfl,rfl,rfl,rfl,H⟩
   rintro ms σ w ⟨rfl,b10,g0,g1,g2,g7,g8,g9,g10,g11,g17,g18,g19,H⟩;rw[Q1 g0,Q1 g1,Q1 g2,Q1 g7,Q1 g8,Q1 g9,Q1 g10,Q1 g11,Q1 g17,Q1 g18,Q1 g19];cases hL:Ql s.tab k n with
   | none=>
    have hv:V4 s.tab k n=none:=by unfold V4;rw[hL]
    rw[Ov hv] at YV;rw[hL] at Y4;cases Y4;refine DI H ?_;refine B1 H ?_;refine N5 H ?_;replace H:=Js [3,0,2,2] 2 H;replace H:=QJ _ _ _ rfl H;replace H:=Js [1,1,1,0] 0 H;exact Q3 (.inr ⟨by simp,Jy H rfl fun w' H'=>⟨by rw[Lu 8 (by decide) YV.symm];rfl,H'⟩⟩)
   | some q=>
    obtain⟨k',e⟩:=q;obtain⟨n',K3,Gv,hk⟩:=Z1.1 hL;obtain rfl:k=k':=by omega
    obtain rfl:n=n':=by omega
    rw[hL] at Y4;cases Y4;cases hh:e.held with
    | false=>
     have hv:V4 s.tab k n=none:=by unfold V4;rw[hL];show (if e.held=true then some (k,e) else none)=none;rw[hh];rfl
     rw[Ov hv] at YV;rw[hh] at H;refine DI H ?_;refine Ug H ?_;refine N5 H ?_;replace H:=Js [3,0,2,2] 2 H;replace H:=QJ _ _ _ rfl H;replace H:=Js [1,1,1,0] 0 H;exact Q3 (.inr ⟨by simp,Jy H rfl fun w' H'=>⟨by rw[Lu 8 (by decide) YV.symm];rfl,H'⟩⟩)
    | true=>
     have hv:V4 s.tab k n=some (k,e):=Rq.2 ⟨hL,hh⟩;rw[bQ hv] at YV;rw[hh] at H;refine DI H ?_;refine Ug H ?_;refine Aw H ?_;refine Mg H ?_;refine J0 H ?_;by_cases hr:e.region=r
     ·rw[show (e.region != r)=false by rw[hr];simp];rw[if_neg (by simpa using hr)] at YV;refine FF H ?_;refine Fb H ?_;cases hp:e.pinned with
      | true=>
       rw[hp,if_pos rfl] at YV;refine ZB H ?_;replace H:=Js [3,0,2,2] 2 H;replace H:=QJ _ _ _ rfl H;replace H:=Js [1,1,1,0] 0 H;exact Q3 (.inr ⟨by simp,Jy H rfl fun w' H'=>⟨by rw[Lu 13 (by decide) YV.symm];rfl,H'⟩⟩)
      | false=>
       rw[hp,if_neg (by decide)] at YV;refine FK H ?_;refine Q5 rfl (oW rfl rfl (by omega) (by omega) rfl ?_);rw[Int.toNat_natCast];refine WU H ?_;replace H:=Js [3,0,1,1,1] 1 H;refine Uh H ?_
       refine Qp (fun ms σ w z=>ms=[]∧∃ j:Nat,j≤i∧z=i - j∧(∀ x∈l.take j,x≠(k,n))∧σ 0=pp p∧σ 1 = .int .i64 r∧σ 2 = .slice (some ⟨bT,0,none⟩) l.length c∧σ 7 = .bool false∧σ 9=pp b9∧σ 17 = .slice (some ⟨bT,0,none⟩) l.length c∧σ 18 = .int .i64 l.length∧σ 19 = .int .i64 i∧σ 51 = .slice (some ⟨bT,0,none⟩) i c∧σ 52 = .int .i64 i∧σ 53 = .int .i64 j ∧
        Q0 w (pts bT (row 69 (U3 l++sT))::Qr u.tp s.tab::pts b9 (row 69 [.int .i64 k,.int .i64 n])::VU p u::Qo u.trp s.last s.par::fr)) (m:=i) ⟨rfl,0,by omega,by omega,(fun x hx=>by simp at hx),rfl,rfl,rfl,rfl,rfl,rfl,rfl,rfl,rfl,rfl,rfl,H⟩ ?_
       rintro ms σ w z ⟨rfl,j,hj,rfl,VK,g0,g1,g2,g7,g9,g17,g18,g19,g51,g52,g53,H⟩;rw[Q1 g0,Q1 g1,Q1 g2,Q1 g7,Q1 g9,Q1 g17,Q1 g18,Q1 g19,Q1 g51,Q1 g52,Q1 g53];refine J7 H ?_;refine Qk rfl (fun h=>QE ?_) (fun h=>Qu ?_)
       ·have ZS:j < i:=by omega
        have hy:=getElem?_eq_getElem (l:=l) (i:=j) (by omega);have WO:l.take (j+1)=l.take j++[l[j]]:=by rw[take_add_one,hy];rfl
        generalize l[j]=y at hy WO;obtain⟨k2,n2⟩:=y;refine Z8 H ?_;refine Jd ?_;refine Q5 rfl (Vy H rfl (Wa hy) rfl ?_);refine VO H ?_;intro b13 w H;refine J5 H ?_;intro w H;refine NH H ?_;refine CV H ?_;refine Qk (p:=(((k2:Nat):Int),((n2:Nat):Int))=(((k:Nat):Int),((n:Nat):Int))) rfl (fun he=>?_) (fun he=>QE ?_)
        ·have U0:(k2,n2)=(k,n):=by
          injection he with e1 e2
          exact Prod.ext (by show k2=k;omega) (by show n2=n;omega)
         rw[U0] at hy;rw[if_pos (mem_of_getElem? (i:=j) (by rw[getElem?_take_of_lt ZS];exact hy))] at YV;refine Vg H ?_;refine Qu ?_;replace H:=Js [1,1,2,2] 2 H;replace H:=QJ _ _ _ rfl H;exact .inl ⟨rfl,rfl,true,.inl ⟨rfl,YV.symm⟩,rfl,rfl,H⟩
        ·refine J3 H ?_;refine⟨_,⟨rfl,j+1,ZS,rfl,(fun x hx=>?_),rfl,rfl,rfl,rfl,rfl,rfl,rfl,rfl,rfl,rfl,Qg (by omega),H.drop⟩,by omega⟩;rw[WO] at hx
         rcases mem_append.1 hx with hx|hx
         ·exact VK x hx
         ·rw[mem_singleton] at hx;subst hx;intro h;injection h with e1 e2
          exact he (by rw[e1,e2])
       ·obtain rfl:j=i:=by omega
        rw[if_neg (fun h=>VK _ h rfl),← Qi] at YV;refine J3 H ?_;replace H:=Js [0,0,1,1] 1 H;replace H:=QJ _ _ _ rfl H;exact⟨_,⟨rfl,j+1,Q6,rfl,YV,rfl,rfl,rfl,rfl,rfl,rfl,Qg (by omega),H⟩,by omega⟩
     ·rw[show (e.region != r)=true by simpa using hr];rw[if_pos hr] at YV;refine ZB H ?_;replace H:=Js [3,0,2,2] 2 H;replace H:=QJ _ _ _ rfl H;replace H:=Js [1,1,1,0] 0 H;exact Q3 (.inr ⟨by simp,Jy H rfl fun w' H'=>⟨by rw[Lu 15 (by decide) YV.symm];rfl,H'⟩⟩)
  ·obtain rfl:i=l.length:=by omega
   rw[drop_length] at YV;exact .inl ⟨rfl,rfl,false,.inr ⟨rfl,YV.symm⟩,rfl,rfl,H⟩
 rintro ms σ w ⟨rfl,again,xD,g0,g7,H⟩;rw[Q1 g0,Q1 g7];refine J6 H ?_;refine Z0 (fun ms σ w=>ms=[]∧UW s r l=0∧Q0 w (Qr u.tp s.tab::VU p u::Qo u.trp s.last s.par::V8 (.slice a l.length c) l::fr)) ?_ ?_
 ·refine Qd ?_;refine J3 H ?_
  rcases xD with ⟨rfl,YV⟩|⟨rfl,YV⟩
  ·refine ZB H ?_;replace H:=Js [1,1,1,0] 0 H;exact Q3 (.inr ⟨by simp,Jy H rfl fun w' H'=>⟨by rw[Lu 14 (by decide) YV];rfl,H'⟩⟩)
  ·refine FF H ?_;replace H:=Js [3,1,1,0] 0 H;refine G6 H ?_;refine Jc rfl rfl (JD u.trp s.last s.par H) ?_;rintro v w ⟨rfl,H⟩;refine Jv ?_;by_cases hf:s.par.length=64
   ·rw[show (((s.par.length:Nat):Int) == (64:Int))=true by rw[hf];rfl];refine Kw H ?_;replace H:=Js [1,1,0,0] 0 H;exact Q3 (.inr ⟨by simp,Jy H rfl fun w' H'=>⟨by unfold UW;rw[if_neg Y3,YV,if_neg (by decide),if_pos hf];rfl,H'⟩⟩)
   ·rw[show (((s.par.length:Nat):Int) == (64:Int))=false by rw[beq_eq_false_iff_ne];omega];refine YT H ?_;replace H:=Js [1,1,0,0] 0 H;exact .inl ⟨rfl,rfl,by unfold UW;rw[if_neg Y3,YV,if_neg (by decide),if_neg hf],H⟩
 rintro ms σ w ⟨rfl,hE,H⟩;refine Vg H ?_;exact Q3 (Jy H rfl fun w' H'=>⟨by rw[hE];rfl,H'⟩)
theorem lI:∀ {l:List (Nat×Nat)},(∀ p∈l,p.2=1)→QR l=l.map (·.1)
 | [],_=>rfl
 | (c,n)::l,h=>by
  have hn:n=1:=h (c,n) mem_cons_self;subst hn;rw[aD,lI fun p hp=>h p (mem_cons_of_mem _ hp)];rfl
theorem lJ:∀ own:List Nat,((List.range own.length).filter fun c=>own.getD c 0 == 0).length+(own.filter (· != 0)).length=own.length
 | []=>rfl
 | a::t=>by
  have ih:=lJ t;rw[length_cons,range_succ_eq_map,filter_cons,filter_map,filter_cons];have e1:((fun c=>(a::t).getD c 0 == 0)∘Nat.succ)=fun c=>t.getD c 0 == 0:=rfl;rw[e1];by_cases h:a=0
  ·subst h;rw[if_pos (by rfl),if_neg (by decide),length_cons,length_map];omega
  ·rw[if_neg (by simpa using h),if_pos (by simpa using h),length_cons,length_map];omega
theorem Ze.bnd {s:CS} (hw:WF s) {r:Nat} {S T:QP} {Z:List Pl} {mem own' mem':List Nat} (h:Ze s r S Z mem own' mem' T):T.parts.length≤63∧(QR T.parts).length=T.parts.length∧T.fin≤1000000∧∀ c∈QR T.parts,c < s.own.length∧s.own.getD c 0=0:=by
 have ho:=hw.own.2;have Ep:QR T.parts=T.parts.map (·.1):=lI fun p hp=>(h.parts p hp).1
 have VQ:∀ c∈QR T.parts,c < s.own.length∧s.own.getD c 0=0:=fun c hc=>by
  rw[Ep] at hc;obtain⟨p,h1,h2⟩:=mem_map.1 hc;have h3:=(h.parts p h1).2;rw[h2] at h3;exact⟨(List.getElem?_eq_some_iff.1 h3).1,by rw[getD_eq_getElem?_getD,h3];rfl⟩
 have h3:=UQ h.nd (l₂:=List.range s.own.length) (fun c hc=>mem_range.2 (VQ c hc).1);rw[length_range] at h3;have h4:(QR T.parts).length=T.parts.length:=by rw[Ep,length_map]
 refine⟨by omega,h4,?_,VQ⟩;by_cases hf:T.fin=0
 ·omega
 ·obtain⟨c,h5,_,h6⟩:=h.fin hf;have h7:=(List.getElem?_eq_some_iff.1 (h.parts _ h6).2).1;have h7:c < s.own.length:=h7;have:=Nat.mul_le_mul (show c+1≤63 by omega) hw.size.2;omega
theorem xE {a b:List Nat} (h:a.length=b.length) (hg:∀ j,a.getD j 0=b.getD j 0):a=b:=by
 apply ext_getElem h;intro i h1 h2;have:=hg i;rw[getD_eq_getElem?_getD,getD_eq_getElem?_getD,getElem?_eq_getElem h1,getElem?_eq_getElem h2] at this;exact this
theorem Ze.undo {s:CS} (hw:WF s) {r:Nat} {S T:QP} {Z:List Pl} {mem own' mem':List Nat} (h:Ze s r S Z mem own' mem' T) {own2:List Nat} (h1:own2.length=own'.length) (h2:∀ j,own2.getD j 0=if j∈QR T.parts then 0 else own'.getD j 0):own2=s.own:=by
 obtain⟨_,_,_,VQ⟩:=h.bnd hw;refine xE (h1.trans h.ol) fun j=>?_;rw[h2,h.og];by_cases hj:j∈QR T.parts
 ·rw[if_pos hj,(VQ j hj).2]
 ·rw[if_neg hj,if_neg hj]
theorem Ze.full {s:CS} (hw:WF s) {r:Nat} {S T:QP} {Z:List Pl} {mem own' mem':List Nat} (h:Ze s r S Z mem own' mem' T) (hf:∀ a,a+1≤own'.length→own'.getD a 0≠0):s.own.length - (s.own.filter (· != 0)).length≤Z.length:=by
 obtain⟨_,hl,_,VQ⟩:=h.bnd hw;have hz:=lJ s.own
 have h1:=UQ (l₁:=(List.range s.own.length).filter fun c=>s.own.getD c 0 == 0) (l₂:=QR T.parts) (List.Pairwise.filter _ nodup_range) (fun c hc=>by
  rw[mem_filter,mem_range] at hc;obtain⟨h2,h3⟩:=hc;have h3:s.own.getD c 0=0:=by simpa using h3
  have h4:=hf c (by rw[h.ol];omega);rw[h.og] at h4;by_cases h5:c∈QR T.parts
  ·exact h5
  ·rw[if_neg h5] at h4;exact absurd h3 h4)
 have:=h.few;omega
theorem Ze.own0 {s:CS} (hw:WF s) {r:Nat} (hr:1≤r) {S T:QP} {Z:List Pl} {mem own' mem':List Nat} (h:Ze s r S Z mem own' mem' T) {d:Nat} (hd:s.own.getD d 0≠0):own'.getD d 0≠0:=by
 rw[h.og];split
 ·omega
 ·exact hd
theorem Ze.img {s:CS} (hw:WF s) {r:Nat} (hr:1≤r) {S T:QP} {Z:List Pl} {mem own' mem':List Nat} (h:Ze s r S Z mem own' mem' T) (m:YY s mem) {k g:Nat} {e:Q9} (hk:s.tab[k]? = some ⟨g,some e⟩):WI s.lays s.size mem' own' e.addr e.lay e.count k e.ws.length (Qc s e):=by
 obtain⟨a1,a2,a3,a4,a5,a6,a7⟩:=WS hw m hk;refine⟨a1,a2,a3,a4,?_,by rw[h.ml];exact a6,fun d d1 d2=>h.own0 hw hr (a7 d d1 d2)⟩;obtain⟨x,x1,_,x3⟩:=(hw.obj k g e hk).2.1.2 (e.addr / s.size) (Nat.le_refl _) (Nat.div_le_div_right (by omega));rw[getD_eq_getElem?_getD,h.mg _ x x1 (by omega),← getD_eq_getElem?_getD];exact a5
theorem xF [Q4] (p:Nat) (q:Xk) (s:CS) (k n:Nat) (e:Q9) (hk:s.tab[k]? = some ⟨n,some e⟩) (place:Int) (l:Yo) {w:World} {fr:List Q2} (H:Q0 w (RS q.rp s.rem::Qr q.tp s.tab::VU p q::fr)) :
  Calls Tryz.prog 156 #[pp p,.int .i64 k,.int .i64 place,GS l] w (ret fun v w'=>Q0 w' (RS q.rp (Zx s k e place l)::Qr q.tp s.tab::VU p q::fr)):=by
 obtain⟨a1,a2,a3,Y7⟩:=Xf l;rw[Y7];have QN:=HZ H;have TJ:=QN;refine QQ Tryz.func156 rfl (by kernel_rfl) ?_;refine J8 H ?_;intro b7 w H;refine DT H ?_;refine WV H ?_;refine VO H ?_;intro b8 w H;refine J5 H ?_;intro w H;refine J2 H ?_;replace H:=Js [2,0,0,0,0] 0 H;refine J1 H ?_;intro w H;refine N3 H ?_;refine Jk rfl rfl (JB q.rp s.rem QN ((k:Int),place) H) ?_;rintro v w ⟨rfl,H⟩;refine Jx H ?_;replace H:=Js [0,2,2,0,0] 0 H;refine Fb H ?_
 have E0:(a1≠2∧Zx s k e place l=QO s.rem ((k:Int),place))∨∃ a b:Nat,l = .obj a b∧a1=2∧a2=a∧a3=b:=by
  cases l with
  | none=>injection Y7 with h;simp at h;exact .inl ⟨by omega,rfl⟩
  | grave=>injection Y7 with h;simp at h;exact .inl ⟨by omega,rfl⟩
  | obj a b=>injection Y7 with h;simp at h;exact .inr ⟨a,b,rfl,by omega,by omega,by omega⟩
 rcases E0 with ⟨h2,hn⟩|⟨a,b,rfl,rfl,rfl,rfl⟩
 ·rw[show (a1 != 2)=true by simpa using h2];refine Vt H ?_;rw[hn];replace H:=Js [0,0,0] 2 H;exact Q3 (Jy H rfl fun w' H'=>H')
 ·refine FK H ?_;replace H:=Js [1,1,0] 0 H;refine Jc rfl rfl (jj p q s.tab k n e hk H) ?_;rintro v w ⟨rfl,H⟩;refine YC H ?_;intro b9 w H;refine J5 H ?_;intro w H;refine J0 H ?_;obtain⟨e1,e2,h1,h2,e4,Y4⟩:=JT (Ql s.tab a b);refine J6 H ?_
  refine Qt (fun ms σ w=>ms=[]∧∃ b11,σ 0=pp p∧σ 7=pp b7∧σ 8=pp b8∧σ 9=pp b9∧σ 11=pp b11∧σ 12 = .int .i64 e4 ∧
    Q0 w (RS q.rp (QO s.rem ((k:Int),place))::Qr q.tp s.tab::VU p q::pts b11 (row 113 [.int .i64 e1,.int .i64 e2,.bool h1,.bool h2])::pts b9 (row 113 (YR e))::pts b8 (row 133 [.int .i64 k,.int .i64 place])::pts b7 (row 88 [.int .i64 2,.int .i64 a,.int .i64 b])::fr)) ?_ ?_
  ·replace H:=Js [1,0] 0 H;refine J1 H ?_;intro w H;refine YI H ?_;refine Fc H ?_;refine Jw 6 10 H rfl rfl (V3 (a:=[]) (b:=[]) rfl rfl (call (UZ q.tp s.tab a b H) ?_)) (YW H rfl ?_)
   ·rintro v w ⟨rfl,H⟩;rw[Y4];refine CR H ?_;intro b11 w H;refine Kv H ?_;intro w H;refine KN H ?_;replace H:=Js [4,1,2,0,0,0,0] 0 H;exact⟨rfl,rfl,b11,rfl,rfl,rfl,rfl,rfl,rfl,H⟩
   ·intro b11 w H;refine Jo 6 H ?_;refine Jk rfl rfl (UZ q.tp s.tab a b H.swap) ?_;rintro v w ⟨rfl,H⟩;rw[Y4];refine Il H ?_;intro w H;refine KN H ?_;replace H:=Js [4,0,2,0,0,0,0] 0 H;exact⟨rfl,rfl,b11,rfl,rfl,rfl,rfl,rfl,rfl,H⟩
  ·rintro ms σ w ⟨rfl,b11,g0,g7,g8,g9,g11,g12,H⟩;rw[Q1 g0,Q1 g7,Q1 g8,Q1 g9,Q1 g11,Q1 g12];cases hL:Ql s.tab a b with
   | none=>
    have hn:Zx s k e place (.obj a b)=QO s.rem ((k:Int),place):=TI hL;rw[hL] at Y4;cases Y4;rw[hn];refine YJ H ?_;refine IP H ?_;refine YT H ?_;replace H:=Js [0,0,0] 4 H;exact Z2 _ (.inl rfl) H rfl fun w' H'=>H'
   | some x=>
    obtain⟨kk,f⟩:=x;rw[hL] at Y4;cases Y4;refine YJ H ?_;refine SV H ?_;by_cases hr:f.region=e.region
    ·have hn:Zx s k e place (.obj a b)=QO s.rem ((k:Int),place):=by rw[LV hL];exact if_neg (by simpa using hr)
     rw[hn,show (f.region != e.region)=false by simpa using hr];refine YT H ?_;replace H:=Js [0,0,0] 4 H;exact Z2 _ (.inl rfl) H rfl fun w' H'=>H'
    ·have hn:Zx s k e place (.obj a b)=Yh (QO s.rem ((k:Int),place)) ((k:Int),place) (a:Int):=by rw[LV hL];exact if_pos hr
     rw[hn,show (f.region != e.region)=true by simpa using hr];refine Rm H ?_;have QN:=HZ H;refine J1 H ?_;intro w H;refine YI H ?_;refine Jl 3 [8] H ?_;refine Vz 4 [8] H rfl (Q8.none rfl) rfl (by repeat first|exact .nil _|apply QY.cons rfl) (by kernel_rfl) ?_;refine Jf 5 ?_;refine Jf 6 ?_;refine Jl 7 [8] H ?_;refine Jo 8 H ?_;refine Jk rfl rfl (gW q.rp _ QN ((k:Int),place) a H) ?_;rintro v w ⟨rfl,H⟩;refine Jx H ?_
     have he:QO (QO s.rem ((k:Int),place)) ((k:Int),place)=QO s.rem ((k:Int),place):=by
      refine Hw ?_;intro VR;exact absurd rfl ((Hx TJ).1 VR).1
     rw[he] at H;replace H:=Js [0,0,0] 4 H;exact Z2 _ (.inl rfl) H rfl fun w' H'=>H'
set_option maxRecDepth 10000 in
theorem xH [Q4] (p:Nat) (s:CS) (R0 R:List (Rf×Int)) (D:List Rf) (hD:U6 s R0 D R) (k g:Nat) (e:Q9) (hk:s.tab[k]? = some ⟨g,some e⟩) {w:World} {fr:List Q2} (H:Q0 w (QD p { s with rem:=R }::fr)) :
  Calls Tryz.prog 141 #[pp p,.int .i64 k] w (ret fun v w'=>v = .tuple #[]∧∃ R',U6 s R0 (D++EU s k e) R'∧Q0 w' (QD p { s with rem:=R' }::fr)):=by
 refine QQ Tryz.func141 rfl (by kernel_rfl) ?_;refine GW H ?_;intro b2 w H;refine BQ H ?_;intro b3 w H;refine J2 H ?_;replace H:=Js [2,0,0] 0 H;refine Ix H ?_;refine Jc rfl rfl (iG p { s with rem:=R } k g e hk H) ?_;rintro v w ⟨rfl,H⟩;refine YC H ?_;intro b4 w H;refine J5 H ?_;intro w H;refine Za H ?_;replace H:=Js [1,0] 0 H;obtain⟨q,mem,hw,hm,H⟩:=YQ H;dsimp only at H;have Yr:WF s:=Fw hw s.rem;have xI:YY s mem:=O3 hm s.rem;refine J1 H ?_;intro w H;refine NF H ?_;refine Jf 4 ?_;refine Jl 5 [6] H ?_;refine Jo 6 H ?_;refine Jk rfl rfl (iv q.ip e.addr H) ?_;rintro v w ⟨bm,ba,rfl,H⟩;refine Jx H ?_;refine J6 H ?_;refine Qd (W9 (a:=[]) (b:=[pp bm,pp ba]) H rfl (fun yl D2 w H=>?_));generalize hL:LR _ yl _ _ _ _ D2 .ready=L at H ⊢;obtain⟨J,hJ⟩:∃ J:List Nat→Q2,J=fun ks=>ex fun R1:List (Rf×Int)=>star [prop (U6 s R0 (D++ks.map fun x:Nat=>((k:Int),(x:Int))) R1),L,VU p q,Qr q.tp s.tab,Qo q.trp s.last s.par,RS q.rp R1,mp (ki .i64) V2 q.sm (s.sps.map Vv),star (s.sps.map (Y0 q.sp)),mp (ki .i64) V2 q.mm (s.mns.map VX),star (s.mns.map VG),pts b2 (row 44 [pp p]),pts b3 (row 3 [.int .i64 k])]:=⟨_,rfl⟩
 have VQ:∀ (ks:List Nat) (R1:List (Rf×Int)) (w:World) (l':List Q2),U6 s R0 (D++ks.map fun x:Nat=>((k:Int),(x:Int))) R1→Q0 w (L::VU p q::Qr q.tp s.tab::Qo q.trp s.last s.par::RS q.rp R1::mp (ki .i64) V2 q.sm (s.sps.map Vv)::star (s.sps.map (Y0 q.sp))::mp (ki .i64) V2 q.mm (s.mns.map VX)::star (s.mns.map VG)::pts b2 (row 44 [pp p])::pts b3 (row 3 [.int .i64 k])::l')→Q0 w (J ks::l'):=by
  intro ks R1 w l' h H;rw[hJ];exact Q0.ex.2 ⟨R1,Q0.star.2 (Q0.prop.2 ⟨h,H⟩)⟩
 have YB:∀ (ks:List Nat) (w:World) (l':List Q2),Q0 w (J ks::l')→∃ R1,U6 s R0 (D++ks.map fun x:Nat=>((k:Int),(x:Int))) R1∧Q0 w (L::VU p q::Qr q.tp s.tab::Qo q.trp s.last s.par::RS q.rp R1::mp (ki .i64) V2 q.sm (s.sps.map Vv)::star (s.sps.map (Y0 q.sp))::mp (ki .i64) V2 q.mm (s.mns.map VX)::star (s.mns.map VG)::pts b2 (row 44 [pp p])::pts b3 (row 3 [.int .i64 k])::l'):=by
  intro ks w l' H;rw[hJ] at H;obtain⟨R1,H⟩:=Q0.ex.1 H;exact⟨R1,Q0.prop.1 (Q0.star.1 H)⟩
 replace H:=Js [0,3,6,6,6,6,6,6,6,8,7,1,1,1,1,1,0] 1 H;replace H:=VQ [] R _ _ (by rw[map_nil,append_nil];exact hD) H;refine call (iw yl bm ba q.ip q.sp q.bp s.size s.lays s.own e.addr e.lay e.count k e.ws.length (Qc s e) (YG e) (YY s) (fun _ h=>iy Yr h hk) J ?_ xI H) ?_
 ·intro ks z mem' rest w V7 Yd H;obtain⟨R1,Y5,H⟩:=YB _ _ _ H;obtain⟨t,Yd⟩:=Yd;obtain⟨BF,JI⟩:=Tq Yd;have Bt:=Y5.step hk BF JI;rw[append_assoc,show [((k:Int),(z:Int))]=[z].map (fun x:Nat=>((k:Int),(x:Int))) from rfl,← map_append] at Bt;have lL:=fun (w:World) (fr:List Q2) (H:Q0 w (RS q.rp R1::Qr q.tp s.tab::VU p q::fr))=>xF p q { s with rem:=R1 } k g e hk (z:Int) (YG e z) H;obtain⟨a1,a2,a3,Y7⟩:=Xf (YG e z);rw[Y7] at lL;rw[Y7];subst hL;refine Kp (args:=[.int .i64 z,.agg #[.int .i64 a1,.int .i64 a2,.int .i64 a3]]) H rfl rfl ?_;refine Vg H ?_;refine YN H ?_;intro b7 w H;refine J5 H ?_;intro w H;refine J2 H ?_;replace H:=Js [1,0] 0 H;refine⟨rfl,_,H,fun w H=>Qd ?_⟩;generalize hLB:LR _ yl _ _ _ _ D2 .busy=LB at H ⊢;replace H:=Js [5,3,2,0,0,0,0,0,0,0,0,0] 0 H;refine Ix H ?_;refine Jv ?_;refine CK H ?_;refine Jc rfl rfl (lL _ _ H) ?_;rintro v w H;refine J2 H ?_;subst hLB;replace H:=Js [3,2,1,2,0,1,1,1,1,1,1] 1 H;refine⟨rfl,_,H,fun w H=>⟨rfl,mem',V7,VQ _ _ _ _ Bt H⟩⟩
 ·rintro v w ⟨mem',V7,H⟩;obtain⟨R1,Y5,H⟩:=YB _ _ _ H;subst hL;refine⟨_,H,fun w H=>?_⟩;replace H:=Js [15,0,11,11,11,0,0,0,0,0,0,0] 4 H;exact Bx (ms:=[D2]) _ (.inl rfl) ((Q0.star (k:=[pts D2 (.deferred (some []))])).2 H) rfl fun w' H'=>⟨rfl,R1,Y5,VM (s:={ s with rem:=R1 }) (Fw Yr R1) (O3 V7 R1) H'⟩
theorem lM [Q4] (p:Nat) (q:Xk) (ts:List QW) (mk:List (Int×Nat)) (k n:Nat) (e:Q9) (hk:ts[k]? = some ⟨n,some e⟩) (region:Int) (addr b1 b2:Nat) (M1 M2:List Nat) (h1:QV mk e.region=some b1) (h2:QV mk region=some b2)
  (Vn:M1.Pairwise (· < ·)) (Ys:M1.length≤1000) (Yp:M2.Pairwise (· < ·)) (Vu:M2.length≤1000) (ZX:k∉M2) {w:World} {fr:List Q2} (H:Q0 w (Qr q.tp ts::VU p q::mp (ki .i64) V2 q.mm mk::VV b1 M1::VV b2 M2::fr)) :
  Calls Tryz.prog 75 #[pp p,.int .i64 k,.int .i64 region,.int .i64 addr] w (ret fun v w'=>v = .tuple #[]∧Q0 w' (Qr q.tp (ts.set k ⟨n,some { e with region:=region,addr:=addr }⟩)::VU p q::mp (ki .i64) V2 q.mm mk::VV b1 (M1.filter (·≠k))::VV b2 (Zc M2 k)::fr)):=by
 have hL:Ql ts k n=some (k,e):=Z1.2 ⟨n,rfl,rfl,hk⟩;refine QQ Tryz.func75 rfl (by kernel_rfl) ?_;refine J9 H ?_;refine Jc rfl rfl (aX p q ts k n e hk H) ?_;rintro v w ⟨rfl,H⟩;refine YC H ?_;intro b8 w H;refine VO H ?_;intro b9 w H;refine J5 H ?_;intro w H;refine J5 H ?_;intro w H;refine J2 H ?_;replace H:=Js [5,0,0,0,0,0,0] 0 H;refine J1 H ?_;intro w H;refine YI H ?_;refine Jl 3 [8] H ?_;refine Jf 4 ?_;refine Jl 5 [8] H ?_;refine Rc 6 [8] (key:=e.region) H rfl (Q8.none rfl) rfl rfl Vp (by kernel_rfl) ?_;rw[h1];refine Ja 7 ?_;refine Jo 8 H ?_;refine Jk rfl rfl (jk b1 M1 k Vn (by omega) H) ?_;rintro v w ⟨rfl,H⟩;refine Jx H ?_;refine J9 H ?_;refine Rh H ?_;intro w H;refine Rh H ?_;intro w H;refine J2 H ?_;replace H:Q0 w (VV b1 (M1.filter (·≠k))::pts b9 (row 113 (YR { e with region:=region,addr:=addr }))::pts b8 (row 69 [.int .i64 k,.int .i64 n])::Qr q.tp ts::VU p q::mp (ki .i64) V2 q.mm mk::VV b2 M2::fr):=H;replace H:=Js [3,0,0,0,0,0,0] 0 H;refine J1 H ?_;intro w H;refine FA H ?_;refine Ij H ?_;refine Ii H ?_;refine Jk rfl rfl (JS q.tp ts k n { e with region:=region,addr:=addr } H) ?_;clear H;intro v w hS
 obtain⟨rfl,H⟩:v = .int .i64 0∧Q0 w (Qr q.tp (ts.set k ⟨n,some { e with region:=region,addr:=addr }⟩)::VV b1 (M1.filter (·≠k))::pts b9 (row 113 (YR { e with region:=region,addr:=addr }))::pts b8 (row 69 [.int .i64 k,.int .i64 n])::VU p q::mp (ki .i64) V2 q.mm mk::VV b2 M2::fr):=by
  rcases hS with ⟨k2,e2,Uy,hv,H⟩|⟨Uy,_,_⟩
  ·rw[hL] at Uy;injection Uy with Uy
   injection Uy with Uy _
   subst Uy;exact⟨hv,H⟩
  ·rw[hL] at Uy;cases Uy
 refine Jx H ?_;replace H:=Js [6,0,3,3,0,0,0] 0 H;refine Vb H ?_;refine Q5 rfl (GO (key:=region) H rfl rfl Vp rfl ?_);rw[h2];refine Jv ?_;refine Jc rfl rfl (iD b2 M2 k Yp (by omega) ZX H) ?_;rintro v w ⟨rfl,H⟩;refine J2 H ?_;replace H:=Js [1,1,1,1,0] 2 H;exact Z2 _ (.inl rfl) H rfl fun w' H'=>⟨rfl,H'⟩
theorem mk_nil [Q4] {w:World} {l:List Q2} (H:Q0 w l):Q0 w (mk []::l):=(Q0.star (k:=[])).2 H
theorem xJ [Q4] {w:World} {D:Nat} {Ds:List Nat} {l:List Q2} (H:Q0 w (pts D (.deferred (some []))::mk Ds::l)):Q0 w (mk (D::Ds)::l):=
 (Q0.pick (R:=fun D=>pts D (.deferred (some []))) (x:=D) (gs:=D::Ds) (g1:=[]) (g2:=Ds) rfl).2 H
def EN (s:CS) (k:Nat):List Rf:=match s.tab[k]? with
 | some ⟨_,some e⟩=>EU s k e
 | _=>[]
theorem br {s:CS} {k g:Nat} {e:Q9} (hk:s.tab[k]? = some ⟨g,some e⟩):EN s k=EU s k e:=by
 unfold EN;rw[hk]
def Hh (s:CS) (ids:List Int) (D:List Rf):Prop:=∀ r,r∈D↔∃ (k g:Nat) (e:Q9),s.tab[k]? = some ⟨g,some e⟩∧e.region∈ids∧r∈EU s k e
theorem Hh.step {s:CS} {ids:List Int} {D:List Rf} (h:Hh s ids D) {x:Int} {M:List Nat} (hM:∀ i,i∈M↔∃ g e,s.tab[i]? = some ⟨g,some e⟩∧e.region=x):Hh s (ids++[x]) (D++M.flatMap (EN s)):=by
 intro r;rw[mem_append,h r,mem_flatMap];constructor
 ·rintro(⟨k,g,e,h1,h2,h3⟩|⟨k,h1,h2⟩)
  ·exact⟨k,g,e,h1,mem_append.2 (.inl h2),h3⟩
  ·obtain⟨g,e,h3,h4⟩:=(hM k).1 h1;rw[br h3] at h2;exact⟨k,g,e,h3,mem_append.2 (.inr (mem_singleton.2 h4)),h2⟩
 ·rintro⟨k,g,e,h1,h2,h3⟩
  rcases mem_append.1 h2 with h2|h2
  ·exact .inl ⟨k,g,e,h1,h2,h3⟩
  ·rw[mem_singleton] at h2;exact .inr ⟨k,(hM k).2 ⟨g,e,h1,h2⟩,by rw[br h1];exact h3⟩
set_option maxRecDepth 10000 in
theorem lN [Q4] (p:Nat) (s:CS) (R0:List (Rf×Int)) (xL:(R0.map (·.1)).Nodup) (v:Value) (ids:List Int) (xM:∀ x∈ids,x∈s.mns.map (·.1)) (hl:ids.length≤1000) {w:World} {fr:List Q2} (H:Q0 w (IL v ids::QD p { s with rem:=R0 }::fr)) :
  Calls Tryz.prog 76 #[pp p,v] w (ret fun x w'=>x = .tuple #[]∧∃ D R',Hh s ids D∧U6 s R0 D R'∧Q0 w' (QD p { s with rem:=R' }::fr)):=by
 obtain⟨a,c,rfl⟩:=QI H (YZ ids) (by decide);refine QQ Tryz.func76 rfl (by kernel_rfl) ?_;refine GW H ?_;intro b2 w H;refine J2 H ?_;refine XN H ?_;replace H:=Js [1,1,0] 0 H;replace H:=mk_nil H;replace H:=Js [1,1,1,0] 0 H;refine Qt (fun ms σ w=>∃ D R',Hh s ids D∧U6 s R0 D R'∧Q0 w (mk ms::QD p { s with rem:=R' }::fr)) ?_ ?_
 ·refine Qd ?_;refine Qp (fun ms σ w z=>∃ (i:Nat) (D:List Rf) (R':List (Rf×Int)),i≤ids.length∧z=ids.length - i∧Hh s (ids.take i) D∧U6 s R0 D R'∧σ 2=pp b2∧σ 7 = .slice a ids.length c∧σ 8 = .int .i64 ids.length∧σ 9 = .int .i64 i∧Q0 w (IL (.slice a ids.length c) ids::QD p { s with rem:=R' }::pts b2 (row 44 [pp p])::mk ms::fr)) (m:=ids.length) ⟨0,[],R0,by omega,by omega,(fun r=>⟨fun h=>(by cases h),fun ⟨k,g,e,_,h,_⟩=>(by cases h)⟩),U6.start xL,rfl,rfl,rfl,rfl,H⟩ ?_;rintro ms σ w z ⟨i,D,R',hi,rfl,hD,hN,g2,g7,g8,g9,H⟩;rw[Q1 g2,Q1 g7,Q1 g8,Q1 g9];refine J7 H ?_;refine Qk rfl (fun h=>QE ?_) (fun h=>Qu ?_)
  ·have Q6:i < ids.length:=by omega
   have hx:=getElem?_eq_getElem Q6;have Qi:ids.take (i+1)=ids.take i++[ids[i]]:=by rw[take_add_one,hx];rfl
   have Xt:=xM _ (getElem_mem Q6);generalize ids[i]=x at hx Qi Xt;obtain⟨bT,sT,rfl,H,QJ⟩:=VY H (by omega);refine Z8 H ?_;refine Jd ?_;refine Q5 rfl (QC H rfl (by simpa using RJ hx) rfl ?_);refine J0 H ?_;replace H:=QJ _ _ H;replace H:=Js [1,0] 0 H;obtain⟨q,mem,hw,hm,H⟩:=YQ H;dsimp only at H;have Yr:WF s:=Fw hw s.rem;obtain⟨b1,ZX⟩:=RK (l:=s.mns) (f:=fun x=>x.1) (g:=fun x=>x.2.1) (k:=x) Xt;obtain⟨⟨r2,b1',M⟩,m1,m2,Vl,ED,EE⟩:=RX ZX;obtain rfl:r2=x:=ED;obtain rfl:b1'=b1:=EE;have Xm:QV (s.mns.map VX) r2=some b1':=ZX;have KK:=Yr.mine (r2,b1',M) (by rw[Vl];simp)
   have wO:M.length≤64:=by
    have:=BK M 0 64 (fun y hy=>⟨Nat.zero_le _,by
     obtain⟨g,f,h3,_⟩:=(KK.2 y).1 hy;have h4:=(List.getElem?_eq_some_iff.1 h3).1;have:=Yr.slots.2;omega⟩) KK.1
    omega
   refine Ky H ?_;refine Q5 rfl (GO (key:=r2) H rfl rfl Vp rfl ?_);rw[Xm];replace H:=Js [10,0,0,0,0,0,0,0,0,0,0] 0 H;replace H:Q0 w (VV b1' M::star ((m1++m2).map VG)::_):=(Q0.pick (R:=VG) (x:=(r2,b1',M)) Vl).1 H;refine Jc rfl rfl (OT b1' M (by omega) H) ?_;rintro v w ⟨bv,av,cv,rfl,H⟩;replace H:=Js [2,2,0,0] 0 H;replace H:=(Q0.pick (R:=VG) (x:=(r2,b1',M)) Vl).2 H;replace H:=Js [3,3,3,3,3,3,3,3,3,3,0,0,0] 0 H;replace H:=VM (s:={ s with rem:=R' }) hw hm H;refine J2 H ?_;replace H:=Js [0,3,0,0,0,0] 0 H;refine J6 H ?_;refine Qt (fun ms' σ w=>∃ (D2:Nat) (R2:List (Rf×Int)),ms'=D2::ms∧U6 s R0 (D++M.flatMap (EN s)) R2∧σ 2=pp b2∧σ 7 = .slice (some ⟨bT,0,none⟩) ids.length c∧σ 8 = .int .i64 ids.length∧σ 9 = .int .i64 i∧Q0 w (QD p { s with rem:=R2 }::pts b2 (row 44 [pp p])::pts D2 (.deferred (some []))::IL (.slice (some ⟨bT,0,none⟩) ids.length c) ids::mk ms::fr)) ?_ ?_
   ·refine Qd (W9 (a:=[]) (b:=[pp bv]) H rfl (fun yl D2 w H=>?_));generalize hL:LR _ yl _ _ _ _ D2 .ready=LRR at H ⊢;obtain⟨J,hJ⟩:∃ J:List Nat→Q2,J=fun ks=>ex fun R1:List (Rf×Int)=>star [prop (U6 s R0 (D++ks.flatMap (EN s)) R1),LRR,QD p { s with rem:=R1 },pts b2 (row 44 [pp p])]:=⟨_,rfl⟩
    have VQ:∀ (ks:List Nat) (R1:List (Rf×Int)) (w:World) (l':List Q2),U6 s R0 (D++ks.flatMap (EN s)) R1→Q0 w (LRR::QD p { s with rem:=R1 }::pts b2 (row 44 [pp p])::l')→Q0 w (J ks::l'):=by
     intro ks R1 w l' h H;rw[hJ];exact Q0.ex.2 ⟨R1,Q0.star.2 (Q0.prop.2 ⟨h,H⟩)⟩
    have YB:∀ (ks:List Nat) (w:World) (l':List Q2),Q0 w (J ks::l')→∃ R1,U6 s R0 (D++ks.flatMap (EN s)) R1∧Q0 w (LRR::QD p { s with rem:=R1 }::pts b2 (row 44 [pp p])::l'):=by
     intro ks w l' H;rw[hJ] at H;obtain⟨R1,H⟩:=Q0.ex.1 H;exact⟨R1,Q0.prop.1 (Q0.star.1 H)⟩
    replace H:=Js [0,1,1,1,1,0,0,0] 0 H;replace H:=VQ [] R' _ _ (by rw[flatMap_nil,append_nil];exact hN) H;refine call (Oa yl bv av cv M (by omega) J ?_ H) ?_
    ·intro ks k tt rest w Yd H;obtain⟨R1,Re,H⟩:=YB _ _ _ H;obtain⟨g,e,hk,_⟩:=(KK.2 k).1 (by rw[Yd];simp);subst hL;refine Kp (args:=[.int .i64 k]) H rfl rfl ?_;refine Vg H ?_;refine⟨rfl,_,H,fun w H=>Qd ?_⟩;generalize hLB:LR _ yl _ _ _ _ D2 .busy=LB at H ⊢;replace H:=Js [1,0] 0 H;refine XP H ?_;refine Jc rfl rfl (xH p s R0 R1 _ Re k g e hk H) ?_;rintro v w ⟨rfl,R2,Wm,H⟩;refine J2 H ?_;subst hLB;replace H:=Js [1,0,0] 0 H;refine⟨rfl,_,H,fun w H=>⟨rfl,VQ _ _ _ _ ?_ H⟩⟩;rw[flatMap_append,flatMap_cons,flatMap_nil,append_nil,br hk,← append_assoc];exact Wm
    ·rintro v w H;obtain⟨R1,Re,H⟩:=YB _ _ _ H;subst hL;refine⟨_,H,fun w H=>?_⟩;replace H:=Js [0,0,2,2,2] 2 H;exact⟨rfl,D2,R1,rfl,Re,rfl,rfl,rfl,rfl,H⟩
   rintro ms' σ w ⟨D2,R2,rfl,Wm,g2,g7,g8,g9,H⟩;rw[Q1 g2,Q1 g7,Q1 g8,Q1 g9];refine J3 H ?_;replace H:=Js [2,3,2,0,0] 0 H;replace H:=xJ H;replace H:=Js [1,1,1,0] 0 H;exact⟨_,⟨i+1,_,R2,Q6,rfl,by rw[Qi];exact hD.step KK.2,Wm,rfl,rfl,rfl,Qg (by omega),H⟩,by omega⟩
  ·have V0:i=ids.length:=by omega
   subst V0;rw[take_length] at hD;replace H:=Js [3,1] 2 H;exact⟨rfl,D,R',hD,hN,H⟩
 rintro ms σ w ⟨D,R',hD,hN,H⟩;exact Bx (ms:=ms) _ (.inl rfl) H rfl fun w' H'=>⟨rfl,D,R',hD,hN,H'⟩
theorem lO {V:Type} {l:List (Int×Nat×V)} (QN:(l.map fun z=>z.1).Nodup) {x y:Int} (hx:x∈l.map fun z=>z.1) (hy:y∈l.map fun z=>z.1) (QA:y≠x) :
  ∃ (bx:Nat) (X:V) (a1 a2:List (Int×Nat×V)) (bY:Nat) (Y:V) (c1 c2:List (Int×Nat×V)),l=a1++(x,bx,X)::a2∧a1++a2=c1++(y,bY,Y)::c2∧QV (l.map fun z=>(z.1,z.2.1)) x=some bx∧QV (l.map fun z=>(z.1,z.2.1)) y=some bY:=by
 obtain⟨⟨x',bx,X⟩,h1,h2⟩:=mem_map.1 hx;have h2:x'=x:=h2;subst h2;obtain⟨a1,a2,h3⟩:=append_of_mem h1;obtain⟨⟨y',bY,Y⟩,h4,h5⟩:=mem_map.1 hy;have h5:y'=y:=h5;subst h5
 have h6:(y',bY,Y)∈a1++a2:=by
  rw[h3] at h4
  rcases XQ h4 with h7|h7
  ·injection h7 with h7 _
   exact absurd h7 QA
  ·exact h7
 obtain⟨c1,c2,h7⟩:=append_of_mem h6;have WL:((l.map fun z=>(z.1,z.2.1)).map (·.1)).Nodup:=by rw[map_map];exact QN
 exact⟨bx,X,a1,a2,bY,Y,c1,c2,h3,h7,(YP WL).2 (mem_map.2 ⟨_,h1,rfl⟩),(YP WL).2 (mem_map.2 ⟨_,h4,rfl⟩)⟩
def RP (id q:Int) (ts:List QW) (ks:List Nat):List QW:=ts.mapIdx fun k t=>if k∈ks then Uu id q t else t
theorem Lv (id q:Int) (ts:List QW) (ks:List Nat) (k:Nat):(RP id q ts ks)[k]? = (ts[k]?).map fun t=>if k∈ks then Uu id q t else t:=getElem?_mapIdx
theorem xN (id q:Int) (ts:List QW):RP id q ts []=ts:=by
 apply ext_getElem?;intro i;rw[Lv];cases ts[i]? <;> simp
theorem xO {id q:Int} {ts:List QW} {ks:List Nat} {k g:Nat} {e:Q9} (hk:ts[k]? = some ⟨g,some e⟩) (hr:e.region=id):(RP id q ts ks).set k ⟨g,some { e with region:=q,addr:=e.addr }⟩=RP id q ts (ks++[k]):=by
 have VC:=(List.getElem?_eq_some_iff.1 hk).1;apply ext_getElem?;intro i;rw[getElem?_set,Lv,Lv];by_cases h:k=i
 ·subst h;rw[if_pos rfl,if_pos (by unfold RP;rw[length_mapIdx];exact VC),hk];simp only[Option.map_some];rw[if_pos (mem_append.2 (.inr (by simp)))];unfold Uu GG;simp only[Option.map_some];rw[if_pos hr]
 ·rw[if_neg h];cases ts[i]? with
  | none=>rfl
  | some t=>
   have h2:i∈ks++[k]↔i∈ks:=by
    rw[mem_append,mem_singleton];exact⟨fun h4=>h4.elim (fun h=>h) fun h5=>absurd h5.symm h,.inl⟩
   simp only[Option.map_some,h2]
theorem xP {id q:Int} {ts:List QW} {M:List Nat} (hM:∀ i,i∈M↔∃ g e,ts[i]? = some ⟨g,some e⟩∧e.region=id):RP id q ts M=ts.map (Uu id q):=by
 apply ext_getElem?;intro i;rw[Lv,getElem?_map];cases ht:ts[i]? with
 | none=>rfl
 | some t=>
  simp only[Option.map_some];by_cases h:i∈M
  ·rw[if_pos h]
  ·rw[if_neg h];obtain⟨g,e0⟩:=t;cases e0 with
   | none=>rfl
   | some e=>
    have QA:e.region≠id:=fun h1=>h ((hM i).2 ⟨g,e,ht,h1⟩);unfold Uu GG;simp only[Option.map_some];rw[if_neg QA]
set_option maxRecDepth 10000 in
theorem lP [Q4] (p:Nat) (s:CS) (region q:Int) (Qx:QV s.par region=some q) (hT:ZK s.par) {w:World} {fr:List Q2} (H:Q0 w (QD p s::fr)) :
  Calls Tryz.prog 27 #[pp p,.int .i64 region] w (ret fun v w'=>(q=0∧v = .tuple #[.int .i64 0,.int .i64 16]∧Q0 w' (QD p s::fr))∨(q≠0∧v = .tuple #[.int .i64 q,.int .i64 0]∧∃ s',EK s region q s'∧Q0 w' (QD p s'::fr))):=by
 obtain⟨u,mem,hw,hm,H⟩:=YQ H;obtain⟨JJ,OM,xS⟩:=hT.up _ _ Qx;refine QQ Tryz.func27 rfl (by kernel_rfl) ?_;refine GW H ?_;intro b2 w H;refine J4 H ?_;replace H:=Js [6,1,0,0,0,0,0] 0 H;refine XP H ?_;refine Jc rfl rfl (Ow p u s.last s.par region H) ?_;rintro v w ⟨rfl,H⟩;rw[Qx];refine Za H ?_;refine Ky H ?_;refine Jc rfl rfl (vX u.trp s.last s.par region hT.nd (by have:=hw.par.1;omega) H) ?_;rintro v w (⟨h1,_,_⟩|⟨h1,rfl,H⟩|⟨q',par',h1,Kj,hP,rfl,H⟩)
 ·rw[Qx] at h1;cases h1
 ·rw[Qx] at h1;injection h1 with h1
  refine YC H ?_;intro b7 w H;refine BY H ?_;intro w H;refine Fe H ?_;replace H:=Js [2,3,3,3,3,1,2,2,2,2,2] 2 H;exact Q3 (Jy H rfl fun w' H' => .inl ⟨h1,rfl,VM hw hm H'⟩)
 rw[Qx] at h1;injection h1 with h1
 subst h1;refine YC H ?_;intro b7 w H;refine BY H ?_;intro w H;refine Za H ?_;replace H:Q0 w (pts b7 (row 3 [.int .i64 q])::_):=H;have KY:region∈s.par.map (·.1):=Du (by rw[Qx];rfl);have HI:q∈s.par.map (·.1):=Du (xS.resolve_left Kj);have QA:q≠region:=by omega
 obtain⟨bi,T,a1,a2,bq,S,c1,c2,Vn,Yp,xT,xa⟩:=lO (l:=s.sps) (by rw[hw.skeys];exact hT.nd) (x:=region) (y:=q) (by rw[hw.skeys];exact KY) (by rw[hw.skeys];exact HI) QA;obtain⟨gi,M,d1,d2,gq,N,e1,e2,ZQ,Zu,xb,xd⟩:=lO (l:=s.mns) (by rw[hw.mkeys];exact hT.nd) (x:=region) (y:=q) (by rw[hw.mkeys];exact KY) (by rw[hw.mkeys];exact HI) QA;have xe:QV (s.sps.map Vv) region=some bi:=xT;have xf:QV (s.sps.map Vv) q=some bq:=xa;have lS:QV (s.mns.map VX) region=some gi:=xb;have xi:QV (s.mns.map VX) q=some gq:=xd
 have Yx:(q,bq,S)∈s.sps:=by
  have h1:(q,bq,S)∈a1++a2:=by rw[Yp];simp
  rw[Vn];exact Rt h1
 have Lf:(q,gq,N)∈s.mns:=by
  have h1:(q,gq,N)∈d1++d2:=by rw[Zu];simp
  rw[ZQ];exact Rt h1
 obtain⟨t1,t2,t3,t4,t5,t6⟩:=HE hw (x:=(region,bi,T)) (by rw[Vn];simp);obtain⟨s1,_,_,_,_,_⟩:=HE hw Yx;have t1:T.parts.length≤63:=t1;have s1:S.parts.length≤63:=s1;have KK:=hw.mine (region,gi,M) (by rw[ZQ];simp);have bw:=hw.mine _ Lf
 have CI:∀ L:List Nat,L.Pairwise (· < ·)→(∀ y∈L,y < s.tab.length)→L.length≤64:=fun L h1 h2=>by
  have:=BK L 0 64 (fun y hy=>⟨Nat.zero_le _,by have:=h2 y hy;have:=hw.slots.2;omega⟩) h1;omega
 have lT:∀ y∈M,y < s.tab.length:=fun y hy=>by
  obtain⟨g,f,h3,_⟩:=(KK.2 y).1 hy;exact(List.getElem?_eq_some_iff.1 h3).1
 have xj:∀ y∈N,y < s.tab.length:=fun y hy=>by
  obtain⟨g,f,h3,_⟩:=(bw.2 y).1 hy;exact(List.getElem?_eq_some_iff.1 h3).1
 replace H:=Js [10,6,0,1,1,1,1,1,1,1,1,1,0] 0 H;replace H:Q0 w (V1 bi u.sp region.toNat T::star ((a1++a2).map (Y0 u.sp))::_):=(Q0.pick (R:=Y0 u.sp) (x:=(region,bi,T)) Vn).1 H;replace H:=Js [1,0] 0 H;replace H:Q0 w (V1 bq u.sp q.toNat S::star ((c1++c2).map (Y0 u.sp))::_):=(Q0.pick (R:=Y0 u.sp) (x:=(q,bq,S)) Yp).1 H;replace H:=Js [0,1,1,0] 0 H;refine J1 H ?_;intro w H;refine Jl 0 [12] H ?_;refine WW H ?_;refine Jl 3 [12] H ?_;refine Jl 4 [12] H ?_;refine Rc 5 [12] (key:=q) H rfl (Q8.none rfl) rfl rfl Vp (by kernel_rfl) ?_;rw[xf];refine Jl 6 [12] H ?_;refine Ja 7 ?_;refine Jf 8 ?_;refine Jl 9 [12] H ?_;refine Ja 10 ?_;refine Rc 11 [12] (key:=region) H rfl (Q8.none rfl) rfl rfl Vp (by kernel_rfl) ?_;rw[xe];have hJ:=jy bq bi u.sp q.toNat region.toNat S T s.size mem s.own (by omega) (by omega) (by omega) hw.own.2 t2 t5 H;refine Jo 12 H ?_;refine Jk rfl rfl (hJ) ?_;clear H hJ;rintro v w ⟨rfl,own',VH,hog,H⟩;refine Jx H ?_;replace H:=Js [13,0,0,0,0,0,0,0,0,0,0,0,0,0] 0 H;replace H:Q0 w (VV gi M::star ((d1++d2).map VG)::_):=(Q0.pick (R:=VG) (x:=(region,gi,M)) ZQ).1 H;replace H:=Js [1,0] 0 H;replace H:Q0 w (VV gq N::star ((e1++e2).map VG)::_):=(Q0.pick (R:=VG) (x:=(q,gq,N)) Zu).1 H;replace H:=Js [2,0,0] 0 H;have Q2c:=CI M KK.1 lT;refine Ky H ?_;refine Q5 rfl (GO (key:=region) H rfl rfl Vp rfl ?_);rw[lS];refine Jc rfl rfl (OT gi M (by omega) H) ?_;rintro v w ⟨bv,av,cv,rfl,H⟩;refine CV H ?_
 refine Qt (fun ms σ w=>∃ (D2:Nat) (N':List Nat),ms=[D2]∧N'.Pairwise (· < ·)∧(∀ j,j∈N'↔j∈M∨j∈N)∧σ 1 = .int .i64 region∧σ 2=pp b2∧σ 7=pp b7 ∧
  Q0 w (Qr u.tp (RP region q s.tab M)::VU p u::mp (ki .i64) V2 u.mm (s.mns.map VX)::VV gq N'::pts b2 (row 44 [pp p])::pts b7 (row 3 [.int .i64 q])::star ((e1++e2).map VG)::V1 bq u.sp q.toNat (Gj S T)::ST u.sp s.size mem own'::star ((c1++c2).map (Y0 u.sp))::V6 u.ip u.sp u.bp::Qq u.bp s.lays::RS u.rp s.rem::mp (ki .i64) V2 u.sm (s.sps.map Vv)::Qo u.trp s.last par'::pts D2 (.deferred (some []))::fr)) ?_ ?_
 ·refine Qd (W9 (a:=[]) (b:=[pp bv]) H rfl (fun yl D2 w H=>?_));generalize hL:LR _ yl _ _ _ _ D2 .ready=LRR at H ⊢;obtain⟨J,hJ⟩:∃ J:List Nat→Q2,J=fun ks=>ex fun y:List Nat×List Nat=>star [prop (y.1.Pairwise (· < ·)∧y.1.length≤1000∧y.2.Pairwise (· < ·)∧∀ j,j∈y.2↔j∈ks∨j∈N),LRR,Qr u.tp (RP region q s.tab ks),VU p u,mp (ki .i64) V2 u.mm (s.mns.map VX),VV gi y.1,VV gq y.2,pts b2 (row 44 [pp p]),pts b7 (row 3 [.int .i64 q])]:=⟨_,rfl⟩
  have VQ:∀ (ks M1 N1:List Nat) (w:World) (l':List Q2),(M1.Pairwise (· < ·)∧M1.length≤1000∧N1.Pairwise (· < ·)∧∀ j,j∈N1↔j∈ks∨j∈N)→Q0 w (LRR::Qr u.tp (RP region q s.tab ks)::VU p u::mp (ki .i64) V2 u.mm (s.mns.map VX)::VV gi M1::VV gq N1::pts b2 (row 44 [pp p])::pts b7 (row 3 [.int .i64 q])::l')→Q0 w (J ks::l'):=by
   intro ks M1 N1 w l' h H;rw[hJ];exact Q0.ex.2 ⟨(M1,N1),Q0.star.2 (Q0.prop.2 ⟨h,H⟩)⟩
  have YB:∀ (ks:List Nat) (w:World) (l':List Q2),Q0 w (J ks::l')→∃ M1 N1,(M1.Pairwise (· < ·)∧M1.length≤1000∧N1.Pairwise (· < ·)∧∀ j,j∈N1↔j∈ks∨j∈N)∧Q0 w (LRR::Qr u.tp (RP region q s.tab ks)::VU p u::mp (ki .i64) V2 u.mm (s.mns.map VX)::VV gi M1::VV gq N1::pts b2 (row 44 [pp p])::pts b7 (row 3 [.int .i64 q])::l'):=by
   intro ks w l' H;rw[hJ] at H;obtain⟨⟨M1,N1⟩,H⟩:=Q0.ex.1 H;exact⟨M1,N1,Q0.prop.1 (Q0.star.1 H)⟩
  replace H:=Js [0,15,11,16,3,3,9,8,1,1,1,1,1,1,1,1,1,1,1,1,0] 0 H;rw[← xN region q s.tab] at H;replace H:=VQ [] M N _ _ ⟨KK.1,by omega,bw.1,fun j=>by simp⟩ H;refine call (Oa yl bv av cv M (by omega) J ?_ H) ?_
  ·intro ks k tt rest w Yd H;obtain⟨M1,N1,⟨Br,Lw,Re,Wm⟩,H⟩:=YB _ _ _ H;subst hL;have ZX:k∈M:=by rw[Yd];simp
   have U0:k∉ks:=fun h=>by
    have h1:=KK.1;rw[Yd,pairwise_append] at h1;have:=h1.2.2 k h k mem_cons_self;omega
   obtain⟨g,e,hk,HP⟩:=(KK.2 k).1 ZX;have HP:e.region=region:=HP
   have Yb:(RP region q s.tab ks)[k]? = some ⟨g,some e⟩:=by
    rw[Lv,hk];simp only[Option.map_some];rw[if_neg U0]
   have ER:k∉N1:=fun h=>by
    rcases (Wm k).1 h with h|h
    ·exact U0 h
    ·obtain⟨g',e',h1,h2⟩:=(bw.2 k).1 h;rw[hk] at h1;injection h1 with h1
     injection h1 with _ h1
     injection h1 with h1
     subst h1;have h2:e.region=q:=h2;omega
   have Q2d:N1.length≤64:=CI N1 Re fun y hy=>by
    rcases (Wm y).1 hy with h|h
    ·exact lT y (by rw[Yd];exact mem_append.2 (.inl h))
    ·exact xj y h
   refine Kp (args:=[.int .i64 k]) H rfl rfl ?_;refine Vg H ?_;refine⟨rfl,_,H,fun w H=>Qd ?_⟩;generalize hLB:LR _ yl _ _ _ _ D2 .busy=LB at H ⊢;replace H:=Js [1,1,0] 0 H;refine XP H ?_;refine Jc rfl rfl (aX p u (RP region q s.tab ks) k g e Yb H) ?_;rintro v w ⟨rfl,H⟩;refine YC H ?_;intro b10 w H;refine VO H ?_;intro b11 w H;refine J5 H ?_;intro w H;refine J5 H ?_;intro w H;refine J2 H ?_;refine XP H ?_;refine WY H ?_;refine Gs H ?_;replace H:=Js [2,2,3,3,3,2,2,2,0,0] 0 H;refine Jc rfl rfl (lM p u (RP region q s.tab ks) (s.mns.map VX) k g e Yb q e.addr gi gq M1 N1 (by rw[HP];exact lS) xi Br Lw Re (by omega) ER H) ?_;rintro v w ⟨rfl,H⟩;rw[xO hk HP] at H;refine J2 H ?_;subst hLB;replace H:=Js [5,0,0,0,0,0,0,0] 2 H;refine⟨rfl,_,H,fun w H=>⟨rfl,VQ _ _ _ _ _ ⟨Br.filter _,Nat.le_trans (length_filter_le _ _) Lw,OH Re ER,fun j=>?_⟩ H⟩⟩;rw[OF,Wm,mem_append,mem_singleton];constructor
   ·rintro(h|h|h)
    ·exact .inl (.inr h)
    ·exact .inl (.inl h)
    ·exact .inr h
   ·rintro((h|h)|h)
    ·exact .inr (.inl h)
    ·exact .inl h
    ·exact .inr (.inr h)
  ·rintro v w H;obtain⟨M1,N1,⟨Br,Lw,Re,Wm⟩,H⟩:=YB _ _ _ H;subst hL;refine⟨_,H,fun w H=>?_⟩;replace H:=Js [0,0,0,1,1,1,3,3,4,4,4,4,4,4,4,4] 4 H;exact⟨rfl,D2,N1,rfl,Re,Wm,rfl,rfl,rfl,H⟩
 rintro ms σ w ⟨D2,N',rfl,Re,Wm,g1,g2,g7,H⟩;rw[Q1 g1,Q1 g2,Q1 g7];rw[xP KK.2] at H;refine Ky H ?_;refine Q5 rfl (Ws (key:=region) H rfl rfl Vp rfl ?_);intro w H;refine J2 H ?_;refine Ky H ?_;refine Q5 rfl (Ws (key:=region) H rfl rfl Vp rfl ?_);intro w H;refine J2 H ?_
 have LK:QO (s.sps.map Vv) region=(c1++(q,bq,Gj S T)::c2).map Vv:=by
  have h1:((s.sps.map Vv).map (·.1)).Nodup:=by rw[map_map];show (s.sps.map fun z=>z.1).Nodup;rw[hw.skeys];exact hT.nd
  rw[Vn,map_append,map_cons] at h1 ⊢;rw[Dn (p:=(region,bi)) h1,← map_append,Yp,map_append,map_append,map_cons,map_cons]
 have E4:QO (s.mns.map VX) region=(e1++(q,gq,N')::e2).map VX:=by
  have h1:((s.mns.map VX).map (·.1)).Nodup:=by rw[map_map];show (s.mns.map fun z=>z.1).Nodup;rw[hw.mkeys];exact hT.nd
  rw[ZQ,map_append,map_cons] at h1 ⊢;rw[Dn (p:=(region,gi)) h1,← map_append,Zu,map_append,map_append,map_cons,map_cons]
 rw[LK,E4] at H;replace H:=Js [7,8,0,0,0,0,0,0,0,0,0,0,0,0,0,0] 0 H;replace H:=(Q0.pick (R:=Y0 u.sp) (x:=(q,bq,Gj S T)) (gs:=c1++(q,bq,Gj S T)::c2) (g1:=c1) (g2:=c2) rfl).2 H;replace H:=Js [4,6,0,0,0,0,0,0,0,0,0,0,0,0,0] 0 H;replace H:=(Q0.pick (R:=VG) (x:=(q,gq,N')) (gs:=e1++(q,gq,N')::e2) (g1:=e1) (g2:=e2) rfl).2 H;have E3:=vK hw hT.nd QA.symm hP Vn Yp ZQ Zu VH hog Re Wm s.rem;have VR:YY { s with own:=own',tab:=s.tab.map (Uu region q),par:=par',rem:=s.rem,sps:=c1++(q,bq,Gj S T)::c2,mns:=e1++(q,gq,N')::e2 } mem:=vB hm VH rfl rfl;have xm:Yc s→Yc { s with own:=own',tab:=s.tab.map (Uu region q),par:=par',rem:=s.rem,sps:=c1++(q,bq,Gj S T)::c2,mns:=e1++(q,gq,N')::e2 }:=fun h=>vC h (by rw[hw.skeys];exact hT.nd) Vn Yp rfl rfl rfl;have QN:=HZ (H.pull 10);replace H:=Js [3,7,7,6,2,7,5,5,1,1,0,0,0,0] 0 H;replace H:=VM E3 VR H;refine Ix H ?_;refine X7 H ?_;intro bS w H;replace H:Q0 w (pts bS (row 3 (Qm [q]++[]))::_):=H;replace H:=Gn (E:=3) (k:=1) (len:=1) (cap:=1) (c:=Qm [q]) (spare:=[]) rfl ⟨by decide,by decide⟩ (by decide) H;have Fu:=lN p { s with own:=own',tab:=s.tab.map (Uu region q),par:=par',rem:=s.rem,sps:=c1++(q,bq,Gj S T)::c2,mns:=e1++(q,gq,N')::e2 } s.rem QN _ [q] (fun x hx=>by rw[mem_singleton] at hx;subst hx;simp) (by simp) H;refine Jc rfl rfl (Fu) ?_;clear H Fu;rintro v w ⟨rfl,D,R',hD,hN,H⟩;refine J2 H ?_;refine UJ H ?_;refine J4 H ?_;replace H:=Js [3,0] 2 H;refine Q3 (Bx (ms:=[D2]) _ (.inr rfl) ((Q0.star (k:=[pts D2 (.deferred (some []))])).2 H) rfl fun w' H' => .inr ⟨Kj,rfl,{ s with own:=own',tab:=s.tab.map (Uu region q),par:=par',rem:=R',sps:=c1++(q,bq,Gj S T)::c2,mns:=e1++(q,gq,N')::e2 },⟨rfl,VH,rfl,rfl,hP,rfl,⟨D,fun r=>?_,⟨hN.nd,hN.on,hN.off⟩⟩,xm⟩,H'⟩);rw[hD r];constructor
 ·rintro⟨k,g,e,h1,h2,h3⟩;exact⟨k,g,e,⟨g,e,h1,mem_singleton.1 h2⟩,h1,h3⟩
 ·rintro⟨k,g,e,⟨g',e',h1,h2⟩,h3,h4⟩;refine⟨k,g,e,h3,?_,h4⟩;have h1:=h1.symm.trans h3;injection h1 with h1
  injection h1 with _ h1
  injection h1 with h1
  rw[← h1,h2];exact mem_singleton.2 rfl
theorem xn [Q4] (p o sp owner owner2:Nat) (S T:QP) (size:Nat) (mem own:List Nat) {A B:List (Nat×Nat)} {c n:Nat} (PQ:S.parts=A++(c,n)::B) (hA:∀ y∈A,y.1≠c) (Gv:2≤n) (ho:1≤owner2) (hS:S.parts.length≤1000) (hT:T.parts.length≤1000) (Xa:own.length≤63)
  (RM:c+n≤own.length) (ZC:∀ d,c≤d→d < c+n→own.getD d 0≠0) {w:World} {fr:List Q2} (H:Q0 w (V1 p sp owner S::V1 o sp owner2 T::ST sp size mem own::fr)) :
  Calls Tryz.prog 73 #[pp p,pp o,.int .i64 c] w (ret fun v w'=>v = .int .i64 0∧Q0 w' (V1 p sp owner { S with parts:=A++B }::V1 o sp owner2 { T with parts:=T.parts++[(c,n)] }::ST sp size mem (Vc own c n owner2)::fr)):=by
 have hf:AL S.parts c=some (c,n):=by
  unfold AL;rw[PQ,find?_append,find?_eq_none.2 (fun y hy=>by simpa using hA y hy),find?_cons_of_pos (by simp)];rfl
 have hk:S.parts[A.length]? = some (c,n):=by rw[PQ,getElem?_append_right (Nat.le_refl _),Nat.sub_self];rfl
 have Qi:S.parts.take A.length=A:=by rw[PQ,take_left'];rfl
 have G5:S.parts.drop (A.length+1)=B:=by
  rw[PQ,show A++(c,n)::B=(A++[(c,n)])++B by simp,drop_left'];simp
 refine QQ Tryz.func73 rfl (by kernel_rfl) ?_;refine Rn H ?_;refine Jc rfl rfl (jx p o sp owner owner2 S T H) ?_;rintro v w ⟨rfl,H⟩;refine Za H ?_;refine J9 H ?_;refine Jc rfl rfl (aC p sp owner S c (by omega) H) ?_;rintro v w ⟨rfl,H⟩;rw[hf];refine YC H ?_;intro b8 w H;refine J5 H ?_;intro w H;refine N9 H ?_;refine Ug H ?_;rw[show (((n:Nat):Int) == (1:Int))=false by rw[beq_eq_false_iff_ne];omega];refine YT H ?_;refine Xy H ?_;replace H:=Js [1,0] 0 H;refine Jc rfl rfl (jq p sp owner S A.length c n hk (by rw[Qi];exact fun y hy h=>hA y hy (by rw[h])) (by omega) H) ?_;rintro v w ⟨rfl,H⟩;rw[Qi,G5] at H;refine J2 H ?_;refine Xy H ?_;replace H:=Js [2,2,0,0] 0 H;refine Jc rfl rfl (jv o sp owner2 T size mem own c n ho (by omega) Xa (fun j hj=>⟨by omega,ZC _ (by omega) (by omega)⟩) (by omega) (by omega) H) ?_;rintro v w ⟨rfl,H⟩;refine DH H ?_;replace H:=Js [2,0,0] 1 H;exact Q3 (Jy H rfl fun w' H'=>⟨rfl,H'⟩)
def Lx (S:QP) (d:Nat):Bool:=S.parts.any fun x=>decide (1 < x.2∧x.1≤d∧d < x.1+x.2)
theorem xo [Q4] (p sp owner:Nat) (S:QP) (d:Nat) (hp:S.parts.length≤1000) (hb:∀ x∈S.parts,x.1+x.2≤1000) {w:World} {fr:List Q2} (H:Q0 w (V1 p sp owner S::fr)) :
  Calls Tryz.prog 69 #[pp p,.int .i64 d] w (ret fun v w'=>v = .bool (Lx S d)∧Q0 w' (V1 p sp owner S::fr)):=by
 obtain⟨a,c,H⟩:=XY H;refine QQ Tryz.func69 rfl (by kernel_rfl) ?_;refine A1 H ?_;refine B7 H ?_;replace H:=Js [1,0] 0 H;refine Qp (fun ms σ w z=>ms=[]∧∃ i:Nat,i≤S.parts.length∧z=S.parts.length - i∧(∀ y∈S.parts.take i,¬ (1 < y.2∧y.1≤d∧d < y.1+y.2))∧σ 1 = .int .i64 d∧σ 12 = .slice a S.parts.length c∧σ 13 = .int .i64 S.parts.length∧σ 14 = .int .i64 i∧Q0 w (QF 208 2 (.slice a S.parts.length c) (S.parts.flatMap YD)::pts p (row 206 [pp sp,.int .i64 owner,.slice a S.parts.length c,.int .i64 S.at',.int .i64 S.fin])::fr)) (m:=S.parts.length) ⟨rfl,0,by omega,by omega,(fun y hy=>by simp at hy),rfl,rfl,rfl,rfl,H⟩ ?_;rintro ms σ w z ⟨rfl,i,hi,rfl,VK,g1,g12,g13,g14,H⟩;rw[Q1 g1,Q1 g12,Q1 g13,Q1 g14];refine J7 H ?_;refine Qk rfl (fun h=>QE ?_) (fun h=>Qu ?_)
 ·have Q6:i < S.parts.length:=by omega
  have hn:=getElem?_eq_getElem Q6;have Qi:S.parts.take (i+1)=S.parts.take i++[S.parts[i]]:=by rw[take_add_one,hn];rfl
  have VR:=getElem_mem Q6;generalize S.parts[i]=x at hn Qi VR;obtain⟨x1,x2⟩:=x;have fR:x1+x2≤1000:=hb _ VR;obtain⟨bT,sT,rfl,H,QJ⟩:=VY H (by omega);have Qv:QY (S.parts.flatMap YD++sT) (i*2+0) 2 (YD (x1,x2)):=C7 (vs:=YD (x1,x2)) WH hn (by repeat first|exact .nil _|apply QY.cons rfl);have ei:0+((i:Nat):Int).toNat*2=i*2:=by simp
  refine Z8 H ?_;refine Jd ?_;rw[ei];refine Q5 rfl (Vy H rfl Qv rfl ?_);refine VO H ?_;intro b6 w H;refine J5 H ?_;intro w H;refine J2 H ?_;have AR:∀ {w:World} {l:List Q2},Q0 w l→(1 < x2∧x1≤d∧d < x1+x2)→Lx S d=true:=fun _ h=>any_eq_true.2 ⟨_,VR,decide_eq_true h⟩
  have Bt:¬ (1 < x2∧x1≤d∧d < x1+x2)→∀ y∈S.parts.take (i+1),¬ (1 < y.2∧y.1≤d∧d < y.1+y.2):=fun h y hy=>by
   rw[Qi] at hy
   rcases mem_append.1 hy with hy|hy
   ·exact VK y hy
   ·rw[mem_singleton] at hy;subst hy;exact h
  replace H:=Js [1,0] 0 H;replace H:=QJ _ _ H;replace H:=Js [1,0] 0 H;refine Wy H ?_;by_cases h1:1 < x2
  ·rw[show decide (((x2:Nat):Int) > (1:Int))=true from decide_eq_true (by omega)];refine Ez H ?_;refine Ug H ?_;by_cases h2:x1≤d
   ·rw[show decide (((d:Nat):Int)≥((x1:Nat):Int))=true from decide_eq_true (by omega)];refine Wz H ?_;refine SV H ?_;rw[Qh (x:=(x1:Int)+(x2:Int)) (by omega) (by omega)];refine Zq H ?_;by_cases h3:d < x1+x2
    ·rw[show decide (((d:Nat):Int) < (x1:Int)+(x2:Int))=true from decide_eq_true (by omega)];refine Kw H ?_;rw[AR H ⟨h1,h2,h3⟩];exact Q3 (Jy H rfl fun w' H'=>⟨rfl,Gg H'.drop.swap⟩)
    ·rw[show decide (((d:Nat):Int) < (x1:Int)+(x2:Int))=false from decide_eq_false (by omega)];refine BV H ?_;exact⟨_,⟨rfl,i+1,Q6,rfl,Bt (fun h=>h3 h.2.2),rfl,rfl,rfl,Qg (by omega),H.drop⟩,by omega⟩
   ·rw[show decide (((d:Nat):Int)≥((x1:Nat):Int))=false from decide_eq_false (by omega)];refine WK H ?_;refine B1 H ?_;refine BV H ?_;exact⟨_,⟨rfl,i+1,Q6,rfl,Bt (fun h=>h2 h.2.1),rfl,rfl,rfl,Qg (by omega),H.drop⟩,by omega⟩
  ·rw[show decide (((x2:Nat):Int) > (1:Int))=false from decide_eq_false (by omega)];refine Mz H ?_;refine WK H ?_;refine B1 H ?_;refine BV H ?_;exact⟨_,⟨rfl,i+1,Q6,rfl,Bt (fun h=>h1 h.1),rfl,rfl,rfl,Qg (by omega),H.drop⟩,by omega⟩
 ·have V0:i=S.parts.length:=by omega
  subst V0;rw[take_length] at VK;have hf:Lx S d=false:=any_eq_false.2 (fun y hy=>by simpa using VK y hy);rw[hf];refine Vg H ?_;exact Q3 (Jy H rfl fun w' H'=>⟨rfl,Gg H'.swap⟩)
end Go.Proofs.YtmjdnljneifpcaaGreatDoor
namespace Go.SL
open List
open Go.Op
section
variable {P:Program} {n:Nat} {r:Option Nat} {σ:QB} {w:World} {l:List Q2}
variable {t u:TypeId} {p:String} {af:Array Edge} {g:Option (Nat×Bool)} {d:Option Tmp} {x y z:Operand} {K:QB→World→Prop}
theorem xq [Q4] {e size bytes b o1 o2 m cap cap' E:Nat} {c vs:List Value} [hT:Vx P t e size bytes] (H:Q0 w (pts b (row E c)::l)) (hx:ev σ x = .slice (some ⟨b,o1,none⟩) m cap) (hy:ev σ y = .slice (some ⟨b,o2,none⟩) m cap') (Qv:QY c o2 (m*size) vs) (hl:o1+m*size≤c.length) (h1:vs.all (·.oneCell')=true) (hd:Qs n d=true)
  (k:∀ w',Q0 w' (pts b (row E (wr c o1 vs))::l)→K (put σ d (.int .i64 m)) w'):St P n r ⟨d,.call { callee := .builtin .copy,args:=#[x,y],argTypes:=#[t,t] },u,p,af,g⟩ σ w K:=by
 have hs:(sizeOf e).run P w = .ok size w:=by
  obtain⟨k,hk,e2⟩:=Option.map_eq_some_iff.1 hT.info;simp only[Prod.mk.injEq] at e2;exact Uz (by rw[hk];simp[e2.1])
 have ev1:=Qv.len;have GR:w.heap[b]? = some (.cells c.toArray E (0,0)):=H.pts
 have Es:(Builtin.firstCells size m (.slice (some ⟨b,o2,none⟩) m cap')).run P w = .ok vs.toArray w:=by
  unfold Builtin.firstCells
  have:=run_loadCells_list (P:=P) (w:=w) ⟨b,o2,none⟩ vs (fun j v hj=>by
   rw[Gl];exact Ud GR (Qv.get j v hj))
  rwa [ev1] at this
 obtain⟨w',hr,h2,h3,h4⟩:=Ho (P:=P) vs w b o1 E c 0 H.pts (by omega) (all_eq_true.1 h1);rw[Nat.add_zero] at h2;have H':=H.set (o':=row E (wr c o1 vs)) h2 h3 h4;refine VT (v := .int .i64 m) (w':=w') hd (fun c e=>by cases e) ?_ (k w' H');have Hn:Nat.min m m=m:=Nat.min_self m;simp[execOp,resolve,invoke,builtin,hx,hy,Builtin.copy_,YS hT.und,Builtin.lenOf,Hn,hs,Es,hr,goInt]
end
end Go.SL
namespace Go.Proofs.YtmjdnljneifpcaaGreatDoor
open List
open Go.SL
def W1 (l:List Nat) (a b n:Nat):List Nat:=l.take a++(l.drop b).take n++l.drop (a+n)
theorem ld {l:List Nat} {a b n:Nat} (h1:a+n≤l.length) (h2:b+n≤l.length):(W1 l a b n).length=l.length:=by simp[W1];omega
theorem xv {l:List Nat} {a b n:Nat} (h1:a+n≤l.length) (h2:b+n≤l.length) {i:Nat} (hi:i < n):(W1 l a b n)[a+i]? = l[b+i]?:=by
 unfold W1;rw[append_assoc,getElem?_append_right (by simp;omega),getElem?_append_left (by simp;omega)];have e1:(l.take a).length=a:=by simp;omega
 rw[e1,Nat.add_sub_cancel_left,getElem?_take_of_lt hi,getElem?_drop]
theorem xx {l:List Nat} {a b n:Nat} (h1:a+n≤l.length) (h2:b+n≤l.length) {j:Nat} (hj:j < a∨a+n≤j):(W1 l a b n)[j]? = l[j]?:=by
 unfold W1;rw[append_assoc]
 rcases hj with hj|hj
 ·rw[getElem?_append_left (by simp;omega),getElem?_take_of_lt hj]
 ·rw[getElem?_append_right (by simp;omega),getElem?_append_right (by simp;omega),getElem?_drop];congr 1;simp;omega
theorem xz [Q4] (p size:Nat) (mem own:List Nat) (a b n:Nat) (h1:1≤n) (h2:a+n≤mem.length) (h3:K1 size own a n) (h4:b+n≤mem.length) (h5:K1 size own b n) {w:World} {fr:List Q2} (H:Q0 w (ST p size mem own::fr)) :
  Calls Tryz.prog 139 #[pp p,.int .i64 a,.int .i64 b,.int .i64 n] w (ret fun v w'=>v = .int .i64 0∧Q0 w' (ST p size (W1 mem a b n) own::fr)):=by
 refine QQ Tryz.func139 rfl (by kernel_rfl) ?_;refine fB H ?_;refine YJ H ?_;refine Jc rfl rfl (Fk p size mem own a n h1 h2 h3 H) ?_;rintro v w ⟨rfl,H⟩;refine FV H ?_;refine Jc rfl rfl (Fk p size mem own b n h1 h4 h5 H) ?_;rintro v w ⟨rfl,H⟩;refine Av H ?_;refine Z0 (fun ms σ w=>ms=[]∧σ 0=pp p∧σ 1 = .int .i64 a∧σ 2 = .int .i64 b∧σ 3 = .int .i64 n∧Q0 w (ST p size mem own::fr)) ?_ ?_
 ·refine Qd ?_;refine CY H ?_;refine Aw H ?_;refine CY H ?_;refine DN H ?_;exact .inl ⟨rfl,rfl,rfl,rfl,rfl,rfl,H⟩
 ·rintro ms σ w ⟨rfl,g0,g1,g2,g3,H⟩;rw[Q1 g0,Q1 g1,Q1 g2,Q1 g3];obtain⟨v,v2,u,ws,many,QK,H⟩:=KP H;have H:=H.swap;have VR:mem.length≤1048576:=by rw[QK.len];exact Nat.mul_le_mul QK.c2 QK.s2
  obtain⟨a1,c1,rfl⟩:=QI H (GA mem) (by decide)
  rcases XI H with ⟨h,_⟩|⟨bb,len,cap',s,h,e3,e4,e5,H⟩
  ·injection h with h4 h5 h6;omega
  injection h with h6 h7 h8
  subst h6 h7 h8;have bz:(Qj ((mem.drop b).take n)).length=n:=by simp[Qj];omega
  have Qv:QY (Qj mem++s) (0+b*1) ((b+n - b)*1) (Qj ((mem.drop b).take n)):=by
   have e:(Qj ((mem.drop b).take n)).length=(b+n - b)*1:=by rw[bz];omega
   rw[← e];refine QY.of_get fun j v hj=>?_;have G4:j < n:=by have:=(List.getElem?_eq_some_iff.1 hj).1;omega
   rw[getElem?_append_left (by simp[Qj];omega)];simp only[Qj,getElem?_map,getElem?_take_of_lt G4,getElem?_drop] at hj;simp only[Qj,getElem?_map,Nat.zero_add,Nat.mul_one];exact hj
  have Qv:QY (Qj mem++s) (0+b*1) ((a+n - a)*1) (Qj ((mem.drop b).take n)):=by
   rw[show a+n - a=b+n - b by omega];exact Qv
  have Vn:(Qj ((mem.drop b).take n)).all (·.oneCell')=true:=all_eq_true.2 fun v hv=>by
   simp only[Qj,mem_map] at hv;obtain⟨x,_,rfl⟩:=hv;rfl
  refine J1 H ?_;intro w H;refine YI H ?_;refine Jl 3 [18] H ?_;refine Ku H ?_;refine Ja 6 ?_;refine Ja 7 ?_;rw[Qh (x:=(a:Int)+(n:Int)) (by omega) (by omega),show (a:Int)+(n:Int)=((a+n:Nat):Int) by omega];refine IG 8 rfl (Q8.none rfl) rfl rfl rfl (by omega) (by omega) (by omega) (by kernel_rfl) ?_;refine IH H ?_;refine Jl 12 [18] H ?_;refine Ja 13 ?_;refine Ja 14 ?_;refine Ja 15 ?_;refine Ja 16 ?_;rw[Qh (x:=(b:Int)+(n:Int)) (by omega) (by omega),show (b:Int)+(n:Int)=((b+n:Nat):Int) by omega];refine IG 17 rfl (Q8.none rfl) rfl rfl rfl (by omega) (by omega) (by omega) (by kernel_rfl) ?_;rw[show b+n - b=a+n - a by omega];refine Jo 18 H ?_;refine xq H rfl rfl Qv (by simp only[length_append,GA];omega) Vn rfl ?_;intro w H;refine II H ?_;have QJ:(W1 mem a b n).length=mem.length:=ld h2 h4
  have y8:wr (Qj mem++s) (0+a*1) (Qj ((mem.drop b).take n))=Qj (W1 mem a b n)++s:=by
   rw[MO _ _ _ (by rw[bz,length_append,GA];omega),bz];unfold W1 Qj;rw[Nat.zero_add,Nat.mul_one,take_append_of_le_length (by simp;omega),drop_append_of_le_length (by simp;omega)];simp[map_take,map_drop]
  rw[y8] at H;exact Q3 (Jy (XT (QK.mem QJ) (Gn (by rw[GA,QJ]) e4 e5 H).swap) rfl fun w' H'=>⟨rfl,H'⟩)
theorem y9 [Q4] (ip sp bp size:Nat) (ls:List Qa) (mem own:List Nat) (to addr i c s n:Nat) (l:Qa) (h:WI ls size mem own addr i c s n l) (Km:to+(n+1)≤mem.length) (ho:K1 size own to (n+1)) {w:World} {fr:List Q2} (H:Q0 w (V6 ip sp bp::Qq bp ls::ST sp size mem own::fr)) :
  Calls Tryz.prog 74 #[pp ip,.int .i64 to,.int .i64 addr] w (ret fun v w'=>v = .tuple #[.int .i64 ((n+1:Nat):Int),.int .i64 0]∧Q0 w' (V6 ip sp bp::Qq bp ls::ST sp size (W1 mem to addr (n+1)) own::fr)):=by
 have hf:=h.fit;refine QQ Tryz.func74 rfl (by kernel_rfl) ?_;refine WR H ?_;refine Jc rfl rfl (Dr ip sp bp size ls mem own addr i c s n l h H) ?_;rintro v w ⟨rfl,H⟩;refine FH H ?_;refine VO H ?_;intro b8 w H;refine J5 H ?_;intro w H;refine Im H ?_;refine G6 H ?_;refine FV H ?_;replace H:=Js [3,0,0,0] 0 H;refine Jc rfl rfl (xz sp size mem own to addr (n+1) (by omega) Km ho (by omega) h.owned H) ?_;rintro v w ⟨rfl,H⟩;refine Za H ?_;refine Vj H ?_;replace H:=Js [2,2,0] 1 H;exact Q3 (Jy H rfl fun w' H'=>⟨rfl,H'⟩)
end Go.Proofs.YtmjdnljneifpcaaGreatDoor
