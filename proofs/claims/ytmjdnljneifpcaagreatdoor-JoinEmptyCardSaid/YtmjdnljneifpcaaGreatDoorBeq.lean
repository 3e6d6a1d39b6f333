/- Cells: what is proved on the way: every input of the statement; no condition. Texts joined: ModJ ActA ChkQ SplT JoiE JoiF JoiG JoiH BumH StoE ImgE. -/
import Derived.Test.YtmjdnljneifpcaaGreatDoorBee
import Derived.Test.YtmjdnljneifpcaaGreatDoorBep
import Derived.Test.YtmjdnljneifpcaaGreatDoorBem
import Derived.Test.YtmjdnljneifpcaaGreatDoorBeo
import Derived.Test.YtmjdnljneifpcaaGreatDoorBek
import Derived.Test.YtmjdnljneifpcaaGreatDoorBed
import Derived.Test.YtmjdnljneifpcaaGreatDoorBen
import Derived.Test.YtmjdnljneifpcaaGreatDoorBej
import Derived.Test.YtmjdnljneifpcaaGreatDoorBef
import Derived.Test.YtmjdnljneifpcaaGreatDoorBeh
set_option linter.unusedVariables false
set_option linter.unusedSimpArgs false
set_option linter.unusedSectionVars false
namespace Go.Proofs.YtmjdnljneifpcaaGreatDoor
open List
open Go.SL
theorem wh [Q4] (a:Option Addr) (c:Nat) (L:List Nat) (x:Nat) (hl:L.length≤1000000) {w:World} {fr:List Q2} (H:Q0 w (NL (.slice a L.length c) L::fr)) :
  Calls Tryz.prog 176 #[.slice a L.length c,.int .i64 x] w (ret fun v w'=>v = .bool (decide (x∈L))∧Q0 w' (NL (.slice a L.length c) L::fr)):=by
 have hm:(L.map fun x:Nat=>(x:Int)).length=L.length:=length_map _;have h:=kf a c L.length (L.map fun x:Nat=>(x:Int)) (x:Int) (by omega) (by omega) (w:=w) (fr:=fr) (by rw[hm,← Le];exact H)
 have hd:decide ((x:Int)∈(L.map fun x:Nat=>(x:Int)).take L.length)=decide (x∈L):=by
  rw[← hm,take_length];refine decide_eq_decide.2 ⟨fun h=>?_,fun h=>mem_map.2 ⟨x,h,rfl⟩⟩;obtain⟨y,h1,h2⟩:=mem_map.1 h;obtain rfl:y=x:=by omega
  exact h1
 rw[hd,hm,← Le] at h;exact h
theorem kw [Q4] (p:Nat) (m:MS) (r:Int) (hO:E6 m.P) {w:World} {fr:List Q2} (H:Q0 w (V0 p m::fr)) :
  Calls Tryz.prog 101 #[pp p,.int .i64 r] w (ret fun v w'=>(Yb m.P r=false∧v = .tuple #[.slice none 0 0,.int .i64 15]∧Q0 w' (V0 p m::fr))∨(Yb m.P r=true∧∃ vl,v = .tuple #[vl,.int .i64 0]∧Q0 w' (NL vl (Uq m.P r)::V0 p (AE m (Uq m.P r))::fr))):=by
 obtain⟨t,lc,oc,aL,cL,aO,cO,hm,h2,h3,Z0,Y5,H⟩:=GA H;have hP:=hm.P;have Ce:=hm.few;refine QQ Tryz.func101 rfl (by kernel_rfl) ?_;refine IM H ?_;replace H:=Js [1,0] 0 H;refine Jc rfl rfl (CN t m.P r H) ?_;clear H;rintro v w ⟨rfl,H⟩;refine J0 H ?_;cases ZQ:Yb m.P r with
 | false=>
  refine J3 H ?_;refine G2 H ?_;exact Q3 (Jy (Zq hm h2 h3 H.swap) rfl fun w' H' => .inl ⟨rfl,rfl,H'⟩)
 | true=>
 refine KC H ?_;refine VM H ?_;refine Jc rfl rfl (vN t m.P hO r hP.1 (by omega) H) ?_;clear H;intro v w H;obtain⟨aU,cU,rfl⟩:=QI H (QJ _) (by decide);have ky:(Uq m.P r).length≤1000000:=by have:=aH m.P r m.P.length;unfold Uq;omega
 generalize hL:Uq m.P r=L at H ky ⊢;refine J0 H ?_;have ZY:=bG hm L L 0;replace H:=Js [2,1,1,1,1,1,0] 0 H;replace H:=Zq (m:={ m with P:=Yd m.P L,objs:=ZL (Ql L) 0 m.objs }) ZY h2 (by rw[Ov];exact h3) H;clear h2 h3 Z0 Y5 lc oc aL cL aO cO;refine J7 H ?_;refine Qt (fun ms σ w=>ms=[]∧σ 0=pp p∧σ 7 = .slice aU L.length cU∧Q0 w (V0 p { m with P:=Yd m.P L,objs:=m.objs.map (Ql L) }::NL (.slice aU L.length cU) L::fr)) ?_ ?_
 ·refine Qe ?_;refine Qq (fun ms σ w z=>ms=[]∧∃ i:Nat,i≤m.objs.length∧z=m.objs.length - i∧σ 0=pp p∧σ 7 = .slice aU L.length cU∧σ 8 = .int .i64 i∧Q0 w (V0 p { m with P:=Yd m.P L,objs:=ZL (Ql L) i m.objs }::NL (.slice aU L.length cU) L::fr)) (m:=m.objs.length) ⟨rfl,0,by omega,by omega,rfl,rfl,rfl,H⟩ ?_;clear H;rintro ms σ w z ⟨rfl,i,hi,rfl,g0,g7,g8,H⟩;rw[Q1 g0,Q1 g7,Q1 g8];have GW:=EG (Ql L) i m.objs;by_cases Q6:i < m.objs.length
  ·have hx:=getElem?_eq_getElem Q6;generalize m.objs[i]=x at hx;have Rp:({ m with P:=Yd m.P L,objs:=ZL (Ql L) i m.objs }:MS).objs[i]? = some x:=kr hx;obtain⟨t,lc,aL,cL,bO,cO,s,ptrs,qq,vw,vk,vt,rest,UJ,h2,hp,H,QK⟩:=X5 H Rp;dsimp only at H QK;rw[GW] at H QK;have Uu:ZL (Ql L) (i+1) m.objs=(ZL (Ql L) i m.objs).set i (Ql L x):=(ko hx).symm;have VI:Vc { m with P:=Yd m.P L,objs:=(ZL (Ql L) i m.objs).set i (Ql L x) }:=by rw[← Uu];exact bG hm L L (i+1)
   refine Wv H ?_;refine Qm rfl (fun h=>QF ?_) (fun h=>absurd (show ((i:Nat):Int) < ((m.objs.length:Nat):Int) by omega) h);refine DC H ?_;refine N0 H ?_;refine Jd ?_;refine Q5 rfl (QA H rfl hp rfl ?_);refine Jv ?_;refine Gm H ?_;replace H:=Js [10,0,0,0,0,0,0,0,0,0,0] 0 H;refine Jc rfl rfl (wh aU cU L x.region ky H) ?_;clear H;rintro v w ⟨rfl,H⟩;replace H:=Js [1,1,1,1,1,1,1,1,1,1,0] 0 H;by_cases V9:x.region∈L
   ·rw[decide_eq_true V9];refine ML H ?_;refine YY rfl ?_;refine VM H ?_;refine Jd ?_;refine Q5 rfl (QA H rfl hp rfl ?_);refine XH H ?_;clear H;intro w H;refine J2 H ?_;have EY:Ql L x={ x with gone:=true }:=by unfold Ql;rw[if_pos V9]
    rw[EY] at Uu VI;replace H:Q0 w (pts qq (Kw vw vk vt { x with gone:=true })::_):=H;replace H:=QK _ _ _ VI H;rw[← Uu] at H;refine Vj H ?_;exact⟨_,⟨rfl,i+1,Q6,rfl,rfl,rfl,Qh (by omega),H⟩,by omega⟩
   ·rw[decide_eq_false V9];refine J0 H ?_;refine ey H ?_;have EY:Ql L x=x:=by unfold Ql;rw[if_neg V9]
    rw[EY] at Uu VI;replace H:=QK _ _ _ VI H;rw[← Uu] at H;refine Vj H ?_;exact⟨_,⟨rfl,i+1,Q6,rfl,rfl,rfl,Qh (by omega),H⟩,by omega⟩
  ·obtain rfl:i=m.objs.length:=by omega
   obtain⟨t,lc,oc,aL,cL,aO,cO,UJ,h2,h3,Z0,Y5,H⟩:=GA H;dsimp only at H;rw[GW] at H;refine Wv H ?_;refine Qm rfl (fun h=>absurd (show ((m.objs.length:Nat):Int) < ((m.objs.length:Nat):Int) from h) (by omega)) (fun h=>Qv ?_);rw[← GW] at H;replace H:=Zq (m:={ m with P:=Yd m.P L,objs:=ZL (Ql L) m.objs.length m.objs }) UJ h2 h3 H;rw[bZ] at H;exact⟨rfl,rfl,rfl,rfl,H⟩
 clear H;rintro ms σ w ⟨rfl,g0,g7,H⟩;rw[Q1 g0,Q1 g7];have bR:=bG hm L L m.objs.length;rw[bZ] at bR;obtain⟨t,lc,oc,aL,cL,aO,cO,_,h2,h3,Z0,Y5,H⟩:=GA H;dsimp only at H h2 h3 Y5;have LO:(m.objs.map (Ql L)).length=m.objs.length:=length_map _;have kz:(AE m L).objs=(m.objs.map (Ql L)).map (UZ (m.objs.map (Ql L))):=rfl
 have l4:∀ x∈m.objs.map (Ql L),K1 m.lays m.objs.length x:=fun x hx=>by
  have:=bR.objs x hx
  rwa [show ({ m with P:=Yd m.P L,objs:=m.objs.map (Ql L) }:MS).objs.length=m.objs.length from LO] at this
 have Ve:∀ x∈m.objs.map (Ql L),x.w.length < 8192:=fun x hx=>by
  obtain⟨o,ho⟩:=getElem?_of_mem hx;exact BR (w:=bR) ho
 rw[LO] at H Y5;generalize m.objs.map (Ql L)=G at H h3 LO kz l4 Ve
 let F:OC→OC:=fun y=>{ y with ob:=UZ G y.ob }
 have hF:∀ y,F y={ y with ob:=UZ G y.ob }:=fun _=>rfl;clear_value F;replace H:=Js [5,4,0,0,0,0] 0 H;rw[← Ov F oc] at H;rw[Ov] at H;refine J7 H ?_;refine Qt (fun ms σ w=>ms=[]∧σ 7 = .slice aU L.length cU∧Q0 w (star ((oc.map F).map Zk)::QE 77 1 (.slice aO m.objs.length cO) (oc.map fun x=>pp x.ptr)::pts p (row 58 [pp t,.slice aL m.lays.length cL,.slice aO m.objs.length cO])::Vh t (Yd m.P L)::QE 102 4 (.slice aL m.lays.length cL) (Vb lc)::star (lc.map Yp)::NL (.slice aU L.length cU) L::fr)) ?_ ?_
 ·refine Qe ?_;refine Qq (fun ms σ w z=>ms=[]∧∃ i:Nat,i≤m.objs.length∧z=m.objs.length - i∧σ 0=pp p∧σ 7 = .slice aU L.length cU∧σ 10 = .int .i64 i∧Q0 w (star ((ZL F i oc).map Zk)::QE 77 1 (.slice aO m.objs.length cO) (oc.map fun x=>pp x.ptr)::pts p (row 58 [pp t,.slice aL m.lays.length cL,.slice aO m.objs.length cO])::Vh t (Yd m.P L)::QE 102 4 (.slice aL m.lays.length cL) (Vb lc)::star (lc.map Yp)::NL (.slice aU L.length cU) L::fr)) (m:=m.objs.length) ⟨rfl,0,by omega,by omega,rfl,rfl,rfl,by rw[Ov];exact H⟩ ?_;clear H;rintro ms σ w z ⟨rfl,i,hi,rfl,g0,g7,g10,H⟩;rw[Q1 g0,Q1 g7,Q1 g10];refine Wv H ?_;refine Qm rfl (fun h=>QF ?_) (fun h=>Qv ?_)
  ·have Q6:i < m.objs.length:=by omega
   have hy:=getElem?_eq_getElem (show i < oc.length by omega);generalize oc[i]=y at hy;obtain⟨qq,vw,vk,vt,x⟩:=y;have l5:G[i]? = some x:=by rw[← h3,getElem?_map,hy];rfl
   obtain⟨_,_,hkw,htw,K4⟩:=l4 x (mem_of_getElem? l5);have HU:x.kind.length=x.to.length:=by omega
   have hsx:=Ve x (mem_of_getElem? l5);have l6:=kr (f:=F) hy;obtain⟨rest,Hv,VZ⟩:=bX l6 H;dsimp only at Hv;obtain⟨ak,ck,rfl⟩:=QI (m:=x.kind.length) Hv.drop.drop (QJ _) (by decide);obtain⟨at',ct,rfl⟩:=QI (m:=x.kind.length) Hv.drop.drop.drop (by rw[QJ,HU]) (by decide);clear Hv VZ rest;obtain⟨bO,sO,rfl,H,wi⟩:=VX H.swap (by omega)
   have l7:∀ (k:Nat) (y:OC),oc[k]? = some y→((oc.map fun x=>pp x.ptr)++sO)[0+k*1]? = some (pp y.ptr):=fun k y hk=>by
    have:=(List.getElem?_eq_some_iff.1 hk).1;rw[Nat.zero_add,Nat.mul_one,getElem?_append_left (by rw[length_map];exact this),getElem?_map,hk];rfl
   refine DH H ?_;refine Jd ?_;refine Q5 rfl (QA H rfl (l7 i _ hy) rfl ?_);refine J0 H ?_;refine Vl H ?_
   have wj:(ZL F i oc).set i ⟨qq,vw,.slice ak x.kind.length ck,.slice at' x.kind.length ct,ZM G 0 x⟩=ZL F i oc:=by
    rw[we HU];apply ext_getElem?;intro k;rw[getElem?_set];split
    ·rename_i hk;subst hk;rw[if_pos (by rw[EG];omega),l6]
    ·rfl
   have wk:F ⟨qq,vw,.slice ak x.kind.length ck,.slice at' x.kind.length ct,x⟩=⟨qq,vw,.slice ak x.kind.length ck,.slice at' x.kind.length ct,ZM G x.kind.length x⟩:=by rw[hF,wg G HU]
   have Bf:=ko (f:=F) hy;rw[wk] at Bf;rw[← wj] at H;refine J6 H ?_;refine Qt (fun ms σ w=>ms=[]∧σ 0=pp p∧σ 7 = .slice aU L.length cU∧σ 10 = .int .i64 i∧Q0 w (star (((ZL F i oc).set i ⟨qq,vw,.slice ak x.kind.length ck,.slice at' x.kind.length ct,ZM G x.kind.length x⟩).map Zk)::pts bO (row 77 ((oc.map fun x=>pp x.ptr)++sO))::pts p (row 58 [pp t,.slice aL m.lays.length cL,.slice (some ⟨bO,0,none⟩) m.objs.length cO])::Vh t (Yd m.P L)::QE 102 4 (.slice aL m.lays.length cL) (Vb lc)::star (lc.map Yp)::NL (.slice aU L.length cU) L::fr)) ?_ ?_
   ·refine Qe ?_;refine Qq (fun ms σ w z=>ms=[]∧∃ j:Nat,j≤x.kind.length∧z=x.kind.length - j∧σ 0=pp p∧σ 7 = .slice aU L.length cU∧σ 10 = .int .i64 i∧σ 11=pp qq∧σ 12 = .int .i64 j∧Q0 w (pts bO (row 77 ((oc.map fun x=>pp x.ptr)++sO))::star (((ZL F i oc).set i ⟨qq,vw,.slice ak x.kind.length ck,.slice at' x.kind.length ct,ZM G j x⟩).map Zk)::pts p (row 58 [pp t,.slice aL m.lays.length cL,.slice (some ⟨bO,0,none⟩) m.objs.length cO])::Vh t (Yd m.P L)::QE 102 4 (.slice aL m.lays.length cL) (Vb lc)::star (lc.map Yp)::NL (.slice aU L.length cU) L::fr)) (m:=x.kind.length) ⟨rfl,0,by omega,by omega,rfl,rfl,rfl,rfl,rfl,H⟩ ?_;clear H;rintro ms σ w z ⟨rfl,j,hj,rfl,g0,g7,g10,g11,g12,H⟩;rw[Q1 g0,Q1 g7,Q1 g10,Q1 g11,Q1 g12];have Hc:=H.swap
    have wl:((ZL F i oc).set i ⟨qq,vw,.slice ak x.kind.length ck,.slice at' x.kind.length ct,ZM G j x⟩)[i]? = some ⟨qq,vw,.slice ak x.kind.length ck,.slice at' x.kind.length ct,ZM G j x⟩:=by
     rw[getElem?_set_self (by rw[EG];omega)]
    obtain⟨rest,H,bB⟩:=bX wl Hc;dsimp only at H bB;obtain⟨Ow,Dv⟩:=wa G j HU;refine Wv H ?_;refine Qm rfl (fun h=>QF ?_) (fun h=>Qv ?_)
    ·have ZP:j < x.kind.length:=by omega
     have ha:=getElem?_eq_getElem ZP;have hb:=getElem?_eq_getElem (show j < x.to.length by omega);generalize x.kind[j]=a at ha;generalize x.to[j]=b at hb;obtain⟨wm,gT⟩:=wb (G:=G) ha hb;replace H:=Js [2,0,0,0] 0 H;obtain⟨bk,sk,rfl,H,_,_,U6⟩:=GJ H (by omega);replace H:=Js [3,0,0,0] 0 H;obtain⟨bt,st,rfl,H,_,_,Ky⟩:=GJ H (by omega)
     have Cp:∀ (w':World) (l':List Q2) (k' t':List Nat),k'.length=x.kind.length→t'.length=x.kind.length→Q0 w' (pts bt (row 3 (QH t'++st))::pts bk (row 3 (QH k'++sk))::pts qq (Kw vw (.slice (some ⟨bk,0,none⟩) x.kind.length ck) (.slice (some ⟨bt,0,none⟩) x.kind.length ct) (ZM G j x))::UL vw (ZM G j x).w::star rest::l')→Q0 w' (star (((ZL F i oc).set i ⟨qq,vw,.slice (some ⟨bk,0,none⟩) x.kind.length ck,.slice (some ⟨bt,0,none⟩) x.kind.length ct,{ ZM G j x with kind:=k',to:=t' }⟩).map Zk)::l'):=by
      intro w' l' k' t' e1 e2 H;replace H:=Ky _ _ (QH t') (by rw[QJ,QJ];omega) H;replace H:=Js [1,0,0,0] 0 H;replace H:=U6 _ _ (QH k') (by rw[QJ,QJ];omega) H;replace H:=Js [2,2,0,0] 0 H;have H:=bB w' l' { ZM G j x with kind:=k',to:=t' } H;rw[set_set] at H;exact H
     clear Ky U6 bB Hc;refine IJ H ?_;clear H;intro w H;refine W8 H ?_;refine Ja 4 ?_;refine Ji 5 ?_;refine YZ 6 [] H rfl (Q9.none rfl) rfl (U4 wm) (by kernel_rfl) ?_;refine Ja 7 ?_;refine Ja 8 ?_;by_cases VN:a=2
     ·rw[show (((a:Nat):Int) == 2)=true by rw[VN];rfl]
      have CU:b < m.objs.length:=by
       have:=K4 j (by rw[ha,VN]);rw[getD_eq_getElem?_getD,hb] at this;exact this
      have WG:=getElem?_eq_getElem (show b < oc.length by omega);generalize oc[b]=yb at WG
      obtain⟨zb,wn,wo,wp⟩:∃ zb:OC,((ZL F i oc).set i ⟨qq,vw,.slice (some ⟨bk,0,none⟩) x.kind.length ck,.slice (some ⟨bt,0,none⟩) x.kind.length ct,ZM G j x⟩)[b]? = some zb∧zb.ptr=yb.ptr∧zb.ob.gone=yb.ob.gone:=by
       rw[getElem?_set];by_cases Pu:i=b
       ·subst Pu;rw[if_pos rfl,if_pos (by rw[EG];omega)];rw[hy] at WG;injection WG with WG
        subst WG;exact⟨_,rfl,rfl,rfl⟩
       ·rw[if_neg Pu,EZ,WG];refine⟨_,rfl,?_,?_⟩ <;> dsimp only <;> split
        ·rw[hF]
        ·rfl
        ·rw[hF];rfl
        ·rfl
      have wq:G[b]? = some yb.ob:=by rw[← h3,getElem?_map,WG];rfl
      have EU:ZZ G a b=yb.ob.gone:=by
       unfold ZZ;rw[wq,VN];rfl
      have Hc:=Cp _ _ _ _ Ow Dv H;obtain⟨restb,Hb,_⟩:=bX wn Hc;have l8:=l7 b yb WG;rw[← wo] at l8;rw[← wp] at EU;refine I6 H ?_;refine Jl 12 [] H ?_;refine Ja 13 ?_;refine Ja 14 ?_;refine Jf 15 ?_;refine Jl 16 [] H ?_;refine Ja 17 ?_;refine Ji 18 ?_;refine YZ 19 [] H rfl (Q9.of rfl rfl rfl) rfl (U4 gT) (by kernel_rfl) ?_;refine Ji 20 ?_;refine YZ 21 [] H rfl (Q9.of rfl rfl rfl) rfl l8 (by kernel_rfl) ?_;refine Ja 22 ?_;refine Jf 23 ?_;refine YZ 24 [] Hb rfl (Q9.of rfl rfl rfl) rfl rfl (by kernel_rfl) ?_;refine Ja 25 ?_;refine PL (by kernel_rfl) (YR.cons (.inr (Q0.at Hb)) (by repeat first|exact .nil|refine .cons (.inr H.at) ?_|refine .cons (.inr H.mp) ?_|refine .cons (.inl (by kernel_rfl)) ?_)) ?_;clear Hb Hc;cases hgn:zb.ob.gone with
      | true=>
       rw[hgn] at EU
       repeat refine Q7 ?_
       refine YY rfl ?_
       repeat refine Q7 ?_
       refine QG ?_;refine Jv ?_;refine Jv ?_;refine Q5 rfl (VW rfl rfl ?_);refine Q5 rfl (QA H rfl rfl rfl ?_);refine Jv ?_;refine Jd ?_;refine Q5 rfl (Zv H rfl rfl inferInstance rfl (by simp only[length_append,QJ];omega) rfl ?_);clear H;intro w H;rw[Int.toNat_natCast,Fm (v:=1) (x:=1) (by omega) rfl] at H;refine N4 H ?_;refine Jd ?_;refine Q5 rfl (Zv H rfl rfl inferInstance rfl (by simp only[length_append,QJ];omega) rfl ?_);clear H;intro w H;rw[Int.toNat_natCast,Fm (v:=0) (x:=0) (by omega) rfl] at H;refine J2 H ?_;replace H:=Cp _ _ _ _ (by rw[length_set];exact Ow) (by rw[length_set];exact Dv) H;rw[wc ha hb EU] at H;refine Vj H ?_;exact⟨_,⟨rfl,j+1,ZP,rfl,rfl,rfl,rfl,rfl,Qh (by omega),H.swap⟩,by omega⟩
      | false=>
       rw[hgn] at EU;refine Vf H ?_;replace H:=Cp _ _ _ _ Ow Dv H;replace H:Q0 w (star (((ZL F i oc).set i ⟨qq,vw,.slice (some ⟨bk,0,none⟩) x.kind.length ck,.slice (some ⟨bt,0,none⟩) x.kind.length ct,ZM G j x⟩).map Zk)::_):=H;rw[kv ha hb (by rw[EU];decide)] at H;refine Vj H ?_;exact⟨_,⟨rfl,j+1,ZP,rfl,rfl,rfl,rfl,rfl,Qh (by omega),H.swap⟩,by omega⟩
     ·rw[show (((a:Nat):Int) == 2)=false by rw[beq_eq_false_iff_ne];omega]
      have EU:¬ ZZ G a b=true:=by
       unfold ZZ;rw[show (a == 2)=false by rw[beq_eq_false_iff_ne];exact VN];simp
      refine Jn 9 ?_;refine Jn 10 ?_;refine Jn 11 ?_;refine Jn 12 ?_;refine Jn 13 ?_;refine N7 H ?_;refine Jn 24 ?_;refine Ja 25 ?_;refine ME H ?_;replace H:=Cp _ _ _ _ Ow Dv H;replace H:Q0 w (star (((ZL F i oc).set i ⟨qq,vw,.slice (some ⟨bk,0,none⟩) x.kind.length ck,.slice (some ⟨bt,0,none⟩) x.kind.length ct,ZM G j x⟩).map Zk)::_):=H;rw[kv ha hb EU] at H;refine Vj H ?_;exact⟨_,⟨rfl,j+1,ZP,rfl,rfl,rfl,rfl,rfl,Qh (by omega),H.swap⟩,by omega⟩
    ·obtain rfl:j=x.kind.length:=by omega
     exact⟨rfl,rfl,rfl,rfl,rfl,Hc⟩
   clear H;rintro ms σ w ⟨rfl,g0,g7,g10,H⟩;rw[Q1 g0,Q1 g7,Q1 g10];rw[Bf] at H;replace H:=(wi _ _ H.swap).swap;refine Vj H ?_;exact⟨_,⟨rfl,i+1,Q6,rfl,rfl,rfl,Qh (by omega),H⟩,by omega⟩
  ·obtain rfl:i=oc.length:=by omega
   rw[bZ] at H;exact⟨rfl,rfl,rfl,H⟩
 clear H;rintro ms σ w ⟨rfl,g7,H⟩;rw[Q1 g7];replace H:=Js [2,2,2,2,1,0] 0 H
 have wt:(oc.map fun x=>pp x.ptr)=((oc.map F).map fun x=>pp x.ptr):=by
  rw[map_map];congr 1
  funext y
  show pp y.ptr=pp (F y).ptr;rw[hF]
 rw[wt] at H
 have Uj:(oc.map F).map (·.ob)=G.map (UZ G):=by
  have e1:(oc.map F).map (·.ob)=oc.map (fun y=>UZ G y.ob):=by
   rw[map_map];congr 1
   funext y
   show (F y).ob=_;rw[hF]
  have e2:(oc.map (·.ob)).map (UZ G)=oc.map (fun y=>UZ G y.ob):=by
   rw[map_map];rfl
  rw[e1,← e2,h3]
 have H:=Zq (m:=AE m L) (wA hm L) h2 (by rw[kz];exact Uj) H;refine Vj H ?_;exact Q3 (Jy H.swap rfl fun w' H' => .inr ⟨rfl,_,rfl,H'⟩)
theorem wu {c:List Value} {o n:Nat} {L:List Int} (h:QY c o n (Qn L)) {i:Nat} {x:Int} (hi:L[i]? = some x):c[o+i*1]? = some (.int .i64 x):=by
 rw[Nat.mul_one];refine h.get i _ ?_;unfold Qn;rw[getElem?_map,hi];rfl
theorem wv [Q4] (p c mo:Nat) (a:Option Addr) (cap:Nat) (told:List (Nat×Nat)) (Qw:told.length≤1000000) (vL:Value) (L:List Int) (hL:L.length≤1000000) {w:World} {fr:List Q2} (hr:Ya fr vL L.length 1 (Qn L)) (H:Q0 w (YK p c mo (.slice a told.length cap)::VD (.slice a told.length cap) told::fr)) :
  Calls Tryz.prog 25 #[pp p,vL] w (ret fun v w'=>∃ (ys:List ((Nat×Nat)×Int)) (vt vo:Value),v = .tuple #[vt,vo]∧ys.length=L.length∧(∀ y∈ys,Ct told y)∧Q0 w' (VD vt (ys.map (·.1))::IL vo (ys.map (·.2))::YK p c mo (.slice a told.length cap)::VD (.slice a told.length cap) told::fr)):=by
 obtain⟨h0,adL,capL,rfl,Qu⟩:=hr;refine QQ Tryz.func25 rfl (by kernel_rfl) ?_;refine J3 H ?_;refine Vl H ?_;refine Ei H ?_;refine Qq (fun ms σ w z=>ms=[]∧∃ (i:Nat) (ys:List ((Nat×Nat)×Int)) (vt vo:Value),i≤L.length∧z=L.length - i∧ys.length=i∧(∀ y∈ys,Ct told y)∧σ 0=pp p∧σ 6=vt∧σ 7=vo∧σ 11 = .slice adL L.length capL∧σ 12 = .int .i64 L.length∧σ 13 = .int .i64 i∧Q0 w (VD vt (ys.map (·.1))::IL vo (ys.map (·.2))::YK p c mo (.slice a told.length cap)::VD (.slice a told.length cap) told::fr)) (m:=L.length) ⟨rfl,0,[],_,_,by omega,by omega,rfl,fun y hy=>(by cases hy),rfl,rfl,rfl,rfl,rfl,rfl,Zy (Zy H)⟩ ?_;clear H;rintro ms σ w z ⟨rfl,i,ys,vt,vo,hi,rfl,Ox,YJ,g0,g6,g7,g11,g12,g13,H⟩;obtain⟨at',mt,ct,rfl⟩:=V8 H;obtain⟨ao,mo',co,rfl⟩:=V8 H.drop;rw[Q1 g0,Q1 g6,Q1 g7,Q1 g11,Q1 g12,Q1 g13];refine J7 H ?_;refine Qm rfl (fun h=>QF ?_) (fun h=>Qv ?_)
 ·have Q6:i < L.length:=by omega
  have hy:=getElem?_eq_getElem Q6;generalize L[i]=x at hy
  rcases Qu with hz|⟨b,o,E,fz,cc,rfl,hA,Qu⟩
  ·omega
  haveI:=hA;have hx:=wu Qu hy;refine Z7 H ?_;refine Jd ?_;refine Q5 rfl (QA H rfl hx rfl ?_);refine J0 H ?_;refine N5 H ?_;by_cases ht:told=[]
  ·subst ht;rw[show ((([]:List (Nat×Nat)).length:Int) == 0)=true from rfl];refine Vr H ?_;refine Z4 H ?_;refine Hz H ?_;clear H;intro b25 w H;replace H:=Js [1,0] 0 H;refine Q5 rfl (ZU H rfl rfl (by repeat first|exact .nil _|apply QY.cons rfl) rfl (by decide) (by rw[Cc,length_map];simp only[length_cons,length_nil];omega) rfl rfl ?_);clear H;intro v26 w H;obtain⟨a26,m26,c26,rfl⟩:=V8 H;refine Jv ?_;refine Uw H ?_;clear H;intro b28 w H;replace H:=Js [3,0,0,0] 0 H;refine Q5 rfl (ZU H rfl rfl (by repeat first|exact .nil _|apply QY.cons rfl) rfl (by decide) (by rw[YC,length_map];simp only[length_cons,length_nil];omega) rfl rfl ?_);clear H;intro v29 w H;obtain⟨a29,m29,c29,rfl⟩:=V8 H;refine J4 H ?_;replace H:=Js [1,2,1,0] 0 H;replace H:=H.drop.drop;have e1:Gw (ys.map (·.1))++[.int .i64 1,.int .i64 1]=Gw ((ys++[(((1,1),-1):(Nat×Nat)×Int)]).map (·.1)):=by rw[map_append,Ta];rfl
   have e2:Qn (ys.map (·.2))++[.int .i64 (-1)]=Qn ((ys++[(((1,1),-1):(Nat×Nat)×Int)]).map (·.2)):=by rw[map_append,Ff];rfl
   rw[e1,e2] at H;refine Qv ?_;refine J3 H ?_;refine⟨_,⟨rfl,i+1,ys++[((1,1),-1)],_,_,Q6,rfl,by simp[Ox],fun y hy=>?_,rfl,rfl,rfl,rfl,rfl,Qh (by omega),H⟩,by omega⟩
   rcases mem_append.1 hy with hy|hy
   ·exact YJ y hy
   ·rw[mem_singleton] at hy;subst hy;exact .inr ⟨rfl,rfl⟩
  ·have L6:0 < told.length:=length_pos_iff.2 ht;rw[show ((told.length:Int) == 0)=false by rw[beq_eq_false_iff_ne];omega];refine Et H ?_;refine Q5 rfl (Pg rfl rfl ?_);refine ZS H ?_;refine Gm H ?_;refine Q5 rfl (Gk rfl rfl ?_);refine Q5 rfl (Pg rfl rfl ?_)
   obtain⟨K,hK⟩:∃ K:Nat,IntKind.u64.wrap x=K:=⟨(IntKind.u64.wrap x).toNat,by
    have:0≤IntKind.u64.wrap x:=Int.emod_nonneg _ (by decide);omega⟩
   have e1:IntKind.u64.wrap (told.length:Int)=(told.length:Int):=Int.emod_eq_of_lt (by omega) (by show (told.length:Int) < 18446744073709551616;omega);rw[hK,e1];have DY:=Nat.mod_lt K L6
   refine Kh (v := .int .u64 ((K % told.length:Nat):Int)) (by
    show (if IntKind.u64=IntKind.u64 then (if (told.length:Int)=0 then none else some (Value.int IntKind.u64 (Int.tmod (K:Int) (told.length:Int)))) else none)=_;rw[if_pos rfl,if_neg (by omega),Int.tmod_eq_emod_of_nonneg (by omega),Int.natCast_emod]) rfl ?_
   refine Q5 rfl (Pg rfl rfl ?_);rw[Qg (x:=((K % told.length:Nat):Int)) (by omega) (by omega)];refine J0 H ?_;generalize K % told.length=n at DY;have hn:=getElem?_eq_getElem DY;generalize told[n]=xy at hn;obtain⟨tx,ty⟩:=xy;replace H:=Js [3,0,0,0] 0 H;obtain⟨bT,sT,rfl,H,QM⟩:=VX H L6;refine F7 H ?_;refine Jd ?_;refine Q5 rfl (Vz H rfl (AG hn) rfl ?_);refine Uw H ?_;clear H;intro b48 w H;replace H:=Js [2,0,0] 0 H;refine Q5 rfl (ZU H rfl rfl (by repeat first|exact .nil _|apply QY.cons rfl) rfl (by decide) (by rw[Cc,length_map];simp only[length_cons,length_nil];omega) rfl rfl ?_);clear H;intro v49 w H;obtain⟨a49,m49,c49,rfl⟩:=V8 H;refine ZS H ?_;refine Uw H ?_;clear H;intro b52 w H;replace H:=Js [4,0,0,0,0] 0 H;refine Q5 rfl (ZU H rfl rfl (by repeat first|exact .nil _|apply QY.cons rfl) rfl (by decide) (by rw[YC,length_map];simp only[length_cons,length_nil];omega) rfl rfl ?_);clear H;intro v53 w H;obtain⟨a53,m53,c53,rfl⟩:=V8 H;refine J4 H ?_;replace H:=Js [4,2,0,2,0,0] 0 H;replace H:=QM _ _ H;replace H:=Js [4,4,1,1,1,0] 0 H;replace H:=H.drop.drop;have e2:Gw (ys.map (·.1))++[.int .i64 ((tx:Nat):Int),.int .i64 ((ty:Nat):Int)]=Gw ((ys++[(((tx,ty),(n:Int)):(Nat×Nat)×Int)]).map (·.1)):=by rw[map_append,Ta];rfl
   have e3:Qn (ys.map (·.2))++[.int .i64 (n:Int)]=Qn ((ys++[(((tx,ty),(n:Int)):(Nat×Nat)×Int)]).map (·.2)):=by rw[map_append,Ff];rfl
   rw[e2,e3] at H;refine J3 H ?_;refine⟨_,⟨rfl,i+1,ys++[((tx,ty),(n:Int))],_,_,Q6,rfl,by simp[Ox],fun y hy=>?_,rfl,rfl,rfl,rfl,rfl,Qh (by omega),H⟩,by omega⟩
   rcases mem_append.1 hy with hy|hy
   ·exact YJ y hy
   ·rw[mem_singleton] at hy;subst hy;exact .inl ⟨n,rfl,hn⟩
 ·obtain rfl:i=L.length:=by omega
  refine DN H ?_;exact Q3 (Jy H rfl fun w' H'=>⟨ys,_,_,rfl,Ox,YJ,H'⟩)
set_option maxRecDepth 10000 in
theorem ww [Q4] (p:Nat) (u:Xf) (s:CS) (r:Int) (v:Value) (l:List (Nat×Nat)) (hl:l.length≤1000) {w:World} {fr:List Q2} (H:Q0 w (Qr u.tp s.tab::VY p u::Qo u.trp s.last s.par::VD v l::fr)) :
  Calls Tryz.prog 66 #[pp p,.int .i64 r,v] w (ret fun x w'=>x = .int .i64 (Gi s r l:Nat)∧Q0 w' (Qr u.tp s.tab::VY p u::Qo u.trp s.last s.par::VD v l::fr)):=by
 obtain⟨a,c,rfl⟩:=QI (H.pull 3) (Cc l) (by decide);refine QQ Tryz.func66 rfl (by kernel_rfl) ?_;refine Vl H ?_;refine oB ?_;refine KF H ?_;by_cases Y0:64 < l.length
 ·rw[show decide (((l.length:Nat):Int) > 64)=true from decide_eq_true (by omega)];refine ZD H ?_;exact Q3 (Jy H rfl fun w' H'=>⟨by unfold Gi;rw[if_pos Y0];rfl,H'⟩)
 have Lf:∀ x:Nat,x≠0→Gh s.tab r [] l=x→Gi s r l=x:=fun x h1 h2=>by
  unfold Gi;rw[if_neg Y0,h2,if_pos h1]
 rw[show decide (((l.length:Nat):Int) > 64)=false from decide_eq_false (by omega)];refine Vf H ?_;refine J7 H ?_;refine mN ?_;refine KF H ?_;replace H:=Js [3,0,0,0] 0 H;refine J6 H ?_;refine Yx (fun ms σ w=>ms=[]∧∃ again:Bool,((again=true∧Gh s.tab r [] l=14)∨(again=false∧Gh s.tab r [] l=0))∧σ 0=pp p∧σ 7 = .bool again∧Q0 w (VD (.slice a l.length c) l::Qr u.tp s.tab::VY p u::Qo u.trp s.last s.par::fr)) ?_ ?_
 ·refine Qe ?_;refine Qq (fun ms σ w z=>ms=[]∧∃ i:Nat,i≤l.length∧z=l.length - i∧Gh s.tab r (l.take i) (l.drop i)=Gh s.tab r [] l∧σ 0=pp p∧σ 1 = .int .i64 r∧σ 2 = .slice a l.length c∧σ 7 = .bool false∧σ 17 = .slice a l.length c∧σ 18 = .int .i64 l.length∧σ 19 = .int .i64 i∧Q0 w (VD (.slice a l.length c) l::Qr u.tp s.tab::VY p u::Qo u.trp s.last s.par::fr)) (m:=l.length) ⟨rfl,0,by omega,by omega,rfl,rfl,rfl,rfl,rfl,rfl,rfl,rfl,H⟩ ?_;clear H;rintro ms σ w z ⟨rfl,i,hi,rfl,YJ,g0,g1,g2,g7,g17,g18,g19,H⟩;rw[Q1 g0,Q1 g1,Q1 g2,Q1 g7,Q1 g17,Q1 g18,Q1 g19];refine J7 H ?_;refine Qm rfl (fun h=>QF ?_) (fun h=>Qv ?_)
  ·have Q6:i < l.length:=by omega
   have hx:=getElem?_eq_getElem Q6;have Qj:l.take (i+1)=l.take i++[l[i]]:=by rw[take_add_one,hx];rfl
   rw[drop_eq_getElem_cons Q6] at YJ;generalize l[i]=t at hx Qj YJ;obtain⟨k,n⟩:=t;obtain⟨bT,sT,rfl,H,Dc,_,QM⟩:=GJ H (by omega);refine Ek H ?_;refine Jd ?_;refine Q5 rfl (Vz H rfl (AG hx) rfl ?_);refine VS H ?_;clear H;intro b9 w H;refine Hy H ?_;clear H;intro w H;refine J2 H ?_;replace H:Q0 w (pts b9 (row 69 [.int .i64 k,.int .i64 n])::pts bT (row 69 (Gw l++sT))::Qr u.tp s.tab::VY p u::Qo u.trp s.last s.par::fr):=H;obtain⟨e1,e2,h1,h2,e4,Y1⟩:=JW (Qk s.tab k n);refine J6 H ?_
   refine Qt (fun ms σ w=>ms=[]∧∃ b10,σ 0=pp p∧σ 1 = .int .i64 r∧σ 2 = .slice (some ⟨bT,0,none⟩) l.length c∧σ 7 = .bool false∧σ 8 = .int .i64 i∧σ 9=pp b9∧σ 10=pp b10∧σ 11 = .int .i64 e4∧σ 17 = .slice (some ⟨bT,0,none⟩) l.length c∧σ 18 = .int .i64 l.length∧σ 19 = .int .i64 i ∧
    Q0 w (Qr u.tp s.tab::pts b10 (row 113 [.int .i64 e1,.int .i64 e2,.bool h1,.bool h2])::pts b9 (row 69 [.int .i64 k,.int .i64 n])::pts bT (row 69 (Gw l++sT))::VY p u::Qo u.trp s.last s.par::fr)) ?_ ?_
   ·replace H:=Js [2,0,0,0,0] 0 H;refine J1 H ?_;clear H;intro w H;refine C6 H ?_;refine Jw 5 9 H rfl rfl (V1 (a:=[]) (b:=[]) rfl rfl (call (U9 u.tp s.tab k n H) ?_)) (YH H rfl ?_)
    ·clear H;rintro v w ⟨rfl,H⟩;rw[Y1];refine C7 H ?_;clear H;intro b10 w H;refine C8 H ?_;clear H;intro w H;refine XI H ?_;replace H:=Js [1,0,0,0,0,0] 0 H;exact⟨rfl,rfl,b10,rfl,rfl,rfl,rfl,rfl,rfl,rfl,rfl,rfl,rfl,rfl,H⟩
    ·clear H;intro b10 w H;refine Jo 5 H ?_;refine Jk rfl rfl (U9 u.tp s.tab k n H.swap) ?_;clear H;rintro v w ⟨rfl,H⟩;rw[Y1];refine C9 H ?_;clear H;intro w H;refine XI H ?_;exact⟨rfl,rfl,b10,rfl,rfl,rfl,rfl,rfl,rfl,rfl,rfl,rfl,rfl,rfl,H⟩
   clear H;rintro ms σ w ⟨rfl,b10,g0,g1,g2,g7,g8,g9,g10,g11,g17,g18,g19,H⟩;rw[Q1 g0,Q1 g1,Q1 g2,Q1 g7,Q1 g8,Q1 g9,Q1 g10,Q1 g11,Q1 g17,Q1 g18,Q1 g19];cases hL:Qk s.tab k n with
   | none=>
    have hv:V3 s.tab k n=none:=by unfold V3;rw[hL]
    rw[Oe hv] at YJ;rw[hL] at Y1;cases Y1;refine DC H ?_;refine Ap H ?_;refine Mt H ?_;replace H:=Js [3,0,2,2] 2 H;replace H:=QM _ _ _ rfl H;replace H:=Js [1,1,1,0] 0 H;exact Q3 (.inr ⟨by simp,Jy H rfl fun w' H'=>⟨by rw[Lf 8 (by decide) YJ.symm];rfl,H'⟩⟩)
   | some q=>
    obtain⟨k',e⟩:=q;obtain⟨n',Xy,Gp,hk⟩:=Yz.1 hL;obtain rfl:k=k':=by omega
    obtain rfl:n=n':=by omega
    rw[hL] at Y1;cases Y1;cases hh:e.held with
    | false=>
     have hv:V3 s.tab k n=none:=by unfold V3;rw[hL];show (if e.held=true then some (k,e) else none)=none;rw[hh];rfl
     rw[Oe hv] at YJ;rw[hh] at H;refine DC H ?_;refine Xu H ?_;refine Mt H ?_;replace H:=Js [3,0,2,2] 2 H;replace H:=QM _ _ _ rfl H;replace H:=Js [1,1,1,0] 0 H;exact Q3 (.inr ⟨by simp,Jy H rfl fun w' H'=>⟨by rw[Lf 8 (by decide) YJ.symm];rfl,H'⟩⟩)
    | true=>
     have hv:V3 s.tab k n=some (k,e):=WK.2 ⟨hL,hh⟩;rw[aM hv] at YJ;rw[hh] at H;refine DC H ?_;refine Xu H ?_;refine Aj H ?_;refine MJ H ?_;refine J0 H ?_;by_cases hr:e.region=r
     ·rw[show (e.region != r)=false by rw[hr];simp];rw[if_neg (by simpa using hr)] at YJ;refine F5 H ?_;refine FR H ?_;cases hp:e.pinned with
      | true=>
       rw[hp,if_pos rfl] at YJ;refine ZD H ?_;replace H:=Js [3,0,2,2] 2 H;replace H:=QM _ _ _ rfl H;replace H:=Js [1,1,1,0] 0 H;exact Q3 (.inr ⟨by simp,Jy H rfl fun w' H'=>⟨by rw[Lf 13 (by decide) YJ.symm];rfl,H'⟩⟩)
      | false=>
       rw[hp,if_neg (by decide)] at YJ;refine F0 H ?_;refine Q5 rfl (np rfl rfl (by omega) (by omega) rfl ?_);rw[Int.toNat_natCast];refine W7 H ?_;replace H:=Js [3,0,1,1,1] 1 H;refine XE H ?_
       refine Qq (fun ms σ w z=>ms=[]∧∃ j:Nat,j≤i∧z=i - j∧(∀ x∈l.take j,x≠(k,n))∧σ 0=pp p∧σ 1 = .int .i64 r∧σ 2 = .slice (some ⟨bT,0,none⟩) l.length c∧σ 7 = .bool false∧σ 9=pp b9∧σ 17 = .slice (some ⟨bT,0,none⟩) l.length c∧σ 18 = .int .i64 l.length∧σ 19 = .int .i64 i∧σ 51 = .slice (some ⟨bT,0,none⟩) i c∧σ 52 = .int .i64 i∧σ 53 = .int .i64 j ∧
        Q0 w (pts bT (row 69 (Gw l++sT))::Qr u.tp s.tab::pts b9 (row 69 [.int .i64 k,.int .i64 n])::VY p u::Qo u.trp s.last s.par::fr)) (m:=i) ⟨rfl,0,by omega,by omega,(fun x hx=>by simp at hx),rfl,rfl,rfl,rfl,rfl,rfl,rfl,rfl,rfl,rfl,rfl,H⟩ ?_
       clear H;rintro ms σ w z ⟨rfl,j,hj,rfl,VZ,g0,g1,g2,g7,g9,g17,g18,g19,g51,g52,g53,H⟩;rw[Q1 g0,Q1 g1,Q1 g2,Q1 g7,Q1 g9,Q1 g17,Q1 g18,Q1 g19,Q1 g51,Q1 g52,Q1 g53];refine J7 H ?_;refine Qm rfl (fun h=>QF ?_) (fun h=>Qv ?_)
       ·have ZP:j < i:=by omega
        have hy:=getElem?_eq_getElem (l:=l) (i:=j) (by omega);have WH:l.take (j+1)=l.take j++[l[j]]:=by rw[take_add_one,hy];rfl
        generalize l[j]=y at hy WH;obtain⟨k2,n2⟩:=y;refine Z7 H ?_;refine Jd ?_;refine Q5 rfl (Vz H rfl (AG hy) rfl ?_);refine VS H ?_;clear H;intro b13 w H;refine J5 H ?_;clear H;intro w H;refine NG H ?_;refine Bw H ?_;refine Qm (p:=(((k2:Nat):Int),((n2:Nat):Int))=(((k:Nat):Int),((n:Nat):Int))) rfl (fun he=>?_) (fun he=>QF ?_)
        ·have Gt:(k2,n2)=(k,n):=by
          injection he with e1 e2
          exact Prod.ext (by show k2=k;omega) (by show n2=n;omega)
         rw[Gt] at hy;rw[if_pos (mem_of_getElem? (i:=j) (by rw[getElem?_take_of_lt ZP];exact hy))] at YJ;refine Vl H ?_;refine Qv ?_;replace H:=Js [1,1,2,2] 2 H;replace H:=QM _ _ _ rfl H;exact .inl ⟨rfl,rfl,true,.inl ⟨rfl,YJ.symm⟩,rfl,rfl,H⟩
        ·refine J3 H ?_;refine⟨_,⟨rfl,j+1,ZP,rfl,(fun x hx=>?_),rfl,rfl,rfl,rfl,rfl,rfl,rfl,rfl,rfl,rfl,Qh (by omega),H.drop⟩,by omega⟩;rw[WH] at hx
         rcases mem_append.1 hx with hx|hx
         ·exact VZ x hx
         ·rw[mem_singleton] at hx;subst hx;intro h;injection h with e1 e2
          exact he (by rw[e1,e2])
       ·obtain rfl:j=i:=by omega
        rw[if_neg (fun h=>VZ _ h rfl),← Qj] at YJ;refine J3 H ?_;replace H:=Js [0,0,1,1] 1 H;replace H:=QM _ _ _ rfl H;exact⟨_,⟨rfl,j+1,Q6,rfl,YJ,rfl,rfl,rfl,rfl,rfl,rfl,Qh (by omega),H⟩,by omega⟩
     ·rw[show (e.region != r)=true by simpa using hr];rw[if_pos hr] at YJ;refine ZD H ?_;replace H:=Js [3,0,2,2] 2 H;replace H:=QM _ _ _ rfl H;replace H:=Js [1,1,1,0] 0 H;exact Q3 (.inr ⟨by simp,Jy H rfl fun w' H'=>⟨by rw[Lf 15 (by decide) YJ.symm];rfl,H'⟩⟩)
  ·obtain rfl:i=l.length:=by omega
   rw[drop_length] at YJ;exact .inl ⟨rfl,rfl,false,.inr ⟨rfl,YJ.symm⟩,rfl,rfl,H⟩
 clear H;rintro ms σ w ⟨rfl,again,wx,g0,g7,H⟩;rw[Q1 g0,Q1 g7];refine J6 H ?_;refine Yx (fun ms σ w=>ms=[]∧Gi s r l=0∧Q0 w (Qr u.tp s.tab::VY p u::Qo u.trp s.last s.par::VD (.slice a l.length c) l::fr)) ?_ ?_
 ·refine Qe ?_;refine J3 H ?_
  rcases wx with ⟨rfl,YJ⟩|⟨rfl,YJ⟩
  ·refine ZD H ?_;replace H:=Js [1,1,1,0] 0 H;exact Q3 (.inr ⟨by simp,Jy H rfl fun w' H'=>⟨by rw[Lf 14 (by decide) YJ];rfl,H'⟩⟩)
  ·refine F5 H ?_;replace H:=Js [3,1,1,0] 0 H;refine G1 H ?_;refine Jc rfl rfl (fj u.trp s.last s.par H) ?_;clear H;rintro v w ⟨rfl,H⟩;refine Jv ?_;by_cases hf:s.par.length=64
   ·rw[show (((s.par.length:Nat):Int) == (64:Int))=true by rw[hf];rfl];refine Kn H ?_;replace H:=Js [1,1,0,0] 0 H;exact Q3 (.inr ⟨by simp,Jy H rfl fun w' H'=>⟨by unfold Gi;rw[if_neg Y0,YJ,if_neg (by decide),if_pos hf];rfl,H'⟩⟩)
   ·rw[show (((s.par.length:Nat):Int) == (64:Int))=false by rw[beq_eq_false_iff_ne];omega];refine YS H ?_;replace H:=Js [1,1,0,0] 0 H;exact .inl ⟨rfl,rfl,by unfold Gi;rw[if_neg Y0,YJ,if_neg (by decide),if_neg hf],H⟩
 clear H;rintro ms σ w ⟨rfl,hE,H⟩;refine Vl H ?_;exact Q3 (Jy H rfl fun w' H'=>⟨by rw[hE];rfl,H'⟩)
theorem l9:∀ {l:List (Nat×Nat)},(∀ p∈l,p.2=1)→QR l=l.map (·.1)
 | [],_=>rfl
 | (c,n)::l,h=>by
  have hn:n=1:=h (c,n) mem_cons_self;subst hn;rw[aQ,l9 fun p hp=>h p (mem_cons_of_mem _ hp)];rfl
theorem lQ:∀ own:List Nat,((List.range own.length).filter fun c=>own.getD c 0 == 0).length+(own.filter (· != 0)).length=own.length
 | []=>rfl
 | a::t=>by
  have ih:=lQ t;rw[length_cons,range_succ_eq_map,filter_cons,filter_map,filter_cons];have e1:((fun c=>(a::t).getD c 0 == 0)∘Nat.succ)=fun c=>t.getD c 0 == 0:=rfl;rw[e1];by_cases h:a=0
  ·subst h;rw[if_pos (by rfl),if_neg (by decide),length_cons,length_map];omega
  ·rw[if_neg (by simpa using h),if_pos (by simpa using h),length_cons,length_map];omega
theorem Zb.bnd {s:CS} (hw:WF s) {r:Nat} {S T:QO} {Z:List Pl} {mem own' mem':List Nat} (h:Zb s r S Z mem own' mem' T):T.parts.length≤63∧(QR T.parts).length=T.parts.length∧T.fin≤1000000∧∀ c∈QR T.parts,c < s.own.length∧s.own.getD c 0=0:=by
 have ho:=hw.own.2;have Ea:QR T.parts=T.parts.map (·.1):=l9 fun p hp=>(h.parts p hp).1
 have V9:∀ c∈QR T.parts,c < s.own.length∧s.own.getD c 0=0:=fun c hc=>by
  rw[Ea] at hc;obtain⟨p,h1,h2⟩:=mem_map.1 hc;have h3:=(h.parts p h1).2;rw[h2] at h3;exact⟨(List.getElem?_eq_some_iff.1 h3).1,by rw[getD_eq_getElem?_getD,h3];rfl⟩
 have h3:=U5 h.nd (l₂:=List.range s.own.length) (fun c hc=>mem_range.2 (V9 c hc).1);rw[length_range] at h3;have h4:(QR T.parts).length=T.parts.length:=by rw[Ea,length_map]
 refine⟨by omega,h4,?_,V9⟩;by_cases hf:T.fin=0
 ·omega
 ·obtain⟨c,h5,_,h6⟩:=h.fin hf;have h7:=(List.getElem?_eq_some_iff.1 (h.parts _ h6).2).1;have h7:c < s.own.length:=h7;have:=Nat.mul_le_mul (show c+1≤63 by omega) hw.size.2;omega
theorem wy {a b:List Nat} (h:a.length=b.length) (hg:∀ j,a.getD j 0=b.getD j 0):a=b:=by
 apply ext_getElem h;intro i h1 h2;have:=hg i;rw[getD_eq_getElem?_getD,getD_eq_getElem?_getD,getElem?_eq_getElem h1,getElem?_eq_getElem h2] at this;exact this
theorem Zb.undo {s:CS} (hw:WF s) {r:Nat} {S T:QO} {Z:List Pl} {mem own' mem':List Nat} (h:Zb s r S Z mem own' mem' T) {own2:List Nat} (h1:own2.length=own'.length) (h2:∀ j,own2.getD j 0=if j∈QR T.parts then 0 else own'.getD j 0):own2=s.own:=by
 obtain⟨_,_,_,V9⟩:=h.bnd hw;refine wy (h1.trans h.ol) fun j=>?_;rw[h2,h.og];by_cases hj:j∈QR T.parts
 ·rw[if_pos hj,(V9 j hj).2]
 ·rw[if_neg hj,if_neg hj]
theorem Zb.full {s:CS} (hw:WF s) {r:Nat} {S T:QO} {Z:List Pl} {mem own' mem':List Nat} (h:Zb s r S Z mem own' mem' T) (hf:∀ a,a+1≤own'.length→own'.getD a 0≠0):s.own.length - (s.own.filter (· != 0)).length≤Z.length:=by
 obtain⟨_,hl,_,V9⟩:=h.bnd hw;have hz:=lQ s.own
 have h1:=U5 (l₁:=(List.range s.own.length).filter fun c=>s.own.getD c 0 == 0) (l₂:=QR T.parts) (List.Pairwise.filter _ nodup_range) (fun c hc=>by
  rw[mem_filter,mem_range] at hc;obtain⟨h2,h3⟩:=hc;have h3:s.own.getD c 0=0:=by simpa using h3
  have h4:=hf c (by rw[h.ol];omega);rw[h.og] at h4;by_cases h5:c∈QR T.parts
  ·exact h5
  ·rw[if_neg h5] at h4;exact absurd h3 h4)
 have:=h.few;omega
theorem Zb.own0 {s:CS} (hw:WF s) {r:Nat} (hr:1≤r) {S T:QO} {Z:List Pl} {mem own' mem':List Nat} (h:Zb s r S Z mem own' mem' T) {d:Nat} (hd:s.own.getD d 0≠0):own'.getD d 0≠0:=by
 rw[h.og];split
 ·omega
 ·exact hd
theorem Zb.img {s:CS} (hw:WF s) {r:Nat} (hr:1≤r) {S T:QO} {Z:List Pl} {mem own' mem':List Nat} (h:Zb s r S Z mem own' mem' T) (m:Y8 s mem) {k g:Nat} {e:Q8} (hk:s.tab[k]? = some ⟨g,some e⟩):WA s.lays s.size mem' own' e.addr e.lay e.count k e.ws.length (Qd s e):=by
 obtain⟨a1,a2,a3,a4,a5,a6,a7⟩:=WJ hw m hk;refine⟨a1,a2,a3,a4,?_,by rw[h.ml];exact a6,fun d d1 d2=>h.own0 hw hr (a7 d d1 d2)⟩;obtain⟨x,x1,_,x3⟩:=(hw.obj k g e hk).2.1.2 (e.addr / s.size) (Nat.le_refl _) (Nat.div_le_div_right (by omega));rw[getD_eq_getElem?_getD,h.mg _ x x1 (by omega),← getD_eq_getElem?_getD];exact a5
theorem wz [Q4] (p:Nat) (q:Xf) (s:CS) (k n:Nat) (e:Q8) (hk:s.tab[k]? = some ⟨n,some e⟩) (place:Int) (l:Yn) {w:World} {fr:List Q2} (H:Q0 w (RS q.rp s.rem::Qr q.tp s.tab::VY p q::fr)) :
  Calls Tryz.prog 156 #[pp p,.int .i64 k,.int .i64 place,GN l] w (ret fun v w'=>Q0 w' (RS q.rp (Zs s k e place l)::Qr q.tp s.tab::VY p q::fr)):=by
 obtain⟨a1,a2,a3,Y4⟩:=Xa l;rw[Y4];have QP:=Fq H;have TR:=QP;refine QQ Tryz.func156 rfl (by kernel_rfl) ?_;refine J8 H ?_;clear H;intro b7 w H;refine DM H ?_;refine W3 H ?_;refine VS H ?_;clear H;intro b8 w H;refine J5 H ?_;clear H;intro w H;refine J2 H ?_;replace H:=Js [2,0,0,0,0] 0 H;refine J1 H ?_;clear H;intro w H;refine Mr H ?_;refine Jk rfl rfl (Iv q.rp s.rem QP ((k:Int),place) H) ?_;clear H;rintro v w ⟨rfl,H⟩;refine Jx H ?_;replace H:=Js [0,2,2,0,0] 0 H;refine FR H ?_
 have Dp:(a1≠2∧Zs s k e place l=QN s.rem ((k:Int),place))∨∃ a b:Nat,l = .obj a b∧a1=2∧a2=a∧a3=b:=by
  cases l with
  | none=>injection Y4 with h;simp at h;exact .inl ⟨by omega,rfl⟩
  | grave=>injection Y4 with h;simp at h;exact .inl ⟨by omega,rfl⟩
  | obj a b=>injection Y4 with h;simp at h;exact .inr ⟨a,b,rfl,by omega,by omega,by omega⟩
 rcases Dp with ⟨h2,hn⟩|⟨a,b,rfl,rfl,rfl,rfl⟩
 ·rw[show (a1 != 2)=true by simpa using h2];refine Vr H ?_;rw[hn];replace H:=Js [0,0,0] 2 H;exact Q3 (Jy H rfl fun w' H'=>H')
 ·refine F0 H ?_;replace H:=Js [1,1,0] 0 H;refine Jc rfl rfl (jJ p q s.tab k n e hk H) ?_;clear H;rintro v w ⟨rfl,H⟩;refine YA H ?_;clear H;intro b9 w H;refine J5 H ?_;clear H;intro w H;refine J0 H ?_;obtain⟨e1,e2,h1,h2,e4,Y1⟩:=JW (Qk s.tab a b);refine J6 H ?_
  refine Qt (fun ms σ w=>ms=[]∧∃ b11,σ 0=pp p∧σ 7=pp b7∧σ 8=pp b8∧σ 9=pp b9∧σ 11=pp b11∧σ 12 = .int .i64 e4 ∧
    Q0 w (RS q.rp (QN s.rem ((k:Int),place))::Qr q.tp s.tab::VY p q::pts b11 (row 113 [.int .i64 e1,.int .i64 e2,.bool h1,.bool h2])::pts b9 (row 113 (YX e))::pts b8 (row 133 [.int .i64 k,.int .i64 place])::pts b7 (row 88 [.int .i64 2,.int .i64 a,.int .i64 b])::fr)) ?_ ?_
  ·replace H:=Js [1,0] 0 H;refine J1 H ?_;clear H;intro w H;refine YN H ?_;refine FW H ?_;refine Jw 6 10 H rfl rfl (V1 (a:=[]) (b:=[]) rfl rfl (call (U9 q.tp s.tab a b H) ?_)) (YH H rfl ?_)
   ·clear H;rintro v w ⟨rfl,H⟩;rw[Y1];refine C3 H ?_;clear H;intro b11 w H;refine Km H ?_;clear H;intro w H;refine KH H ?_;replace H:=Js [4,1,2,0,0,0,0] 0 H;exact⟨rfl,rfl,b11,rfl,rfl,rfl,rfl,rfl,rfl,H⟩
   ·clear H;intro b11 w H;refine Jo 6 H ?_;refine Jk rfl rfl (U9 q.tp s.tab a b H.swap) ?_;clear H;rintro v w ⟨rfl,H⟩;rw[Y1];refine IF H ?_;clear H;intro w H;refine KH H ?_;replace H:=Js [4,0,2,0,0,0,0] 0 H;exact⟨rfl,rfl,b11,rfl,rfl,rfl,rfl,rfl,rfl,H⟩
  ·clear H;rintro ms σ w ⟨rfl,b11,g0,g7,g8,g9,g11,g12,H⟩;rw[Q1 g0,Q1 g7,Q1 g8,Q1 g9,Q1 g11,Q1 g12];cases hL:Qk s.tab a b with
   | none=>
    have hn:Zs s k e place (.obj a b)=QN s.rem ((k:Int),place):=TX hL;rw[hL] at Y1;cases Y1;rw[hn];refine Y7 H ?_;refine IV H ?_;refine YS H ?_;replace H:=Js [0,0,0] 4 H;exact Z2 _ (.inl rfl) H rfl fun w' H'=>H'
   | some x=>
    obtain⟨kk,f⟩:=x;rw[hL] at Y1;cases Y1;refine Y7 H ?_;refine S4 H ?_;by_cases hr:f.region=e.region
    ·have hn:Zs s k e place (.obj a b)=QN s.rem ((k:Int),place):=by rw[JL hL];exact if_neg (by simpa using hr)
     rw[hn,show (f.region != e.region)=false by simpa using hr];refine YS H ?_;replace H:=Js [0,0,0] 4 H;exact Z2 _ (.inl rfl) H rfl fun w' H'=>H'
    ·have hn:Zs s k e place (.obj a b)=Yg (QN s.rem ((k:Int),place)) ((k:Int),place) (a:Int):=by rw[JL hL];exact if_pos hr
     rw[hn,show (f.region != e.region)=true by simpa using hr];refine WQ H ?_;have QP:=Fq H;refine J1 H ?_;clear H;intro w H;refine YN H ?_;refine Jl 3 [8] H ?_;refine Vw 4 [8] H rfl (Q9.none rfl) rfl (by repeat first|exact .nil _|apply QY.cons rfl) (by kernel_rfl) ?_;refine Jf 5 ?_;refine Jf 6 ?_;refine Jl 7 [8] H ?_;refine Jo 8 H ?_;refine Jk rfl rfl (fh q.rp _ QP ((k:Int),place) a H) ?_;clear H;rintro v w ⟨rfl,H⟩;refine Jx H ?_
     have he:QN (QN s.rem ((k:Int),place)) ((k:Int),place)=QN s.rem ((k:Int),place):=by
      refine HT ?_;intro VR;exact absurd rfl ((Ha TR).1 VR).1
     rw[he] at H;replace H:=Js [0,0,0] 4 H;exact Z2 _ (.inl rfl) H rfl fun w' H'=>H'
set_option maxRecDepth 10000 in
theorem x6 [Q4] (p:Nat) (s:CS) (R0 R:List (Rf×Int)) (D:List Rf) (hD:Gy s R0 D R) (k g:Nat) (e:Q8) (hk:s.tab[k]? = some ⟨g,some e⟩) {w:World} {fr:List Q2} (H:Q0 w (QD p { s with rem:=R }::fr)) :
  Calls Tryz.prog 141 #[pp p,.int .i64 k] w (ret fun v w'=>v = .tuple #[]∧∃ R',Gy s R0 (D++E4 s k e) R'∧Q0 w' (QD p { s with rem:=R' }::fr)):=by
 refine QQ Tryz.func141 rfl (by kernel_rfl) ?_;refine GV H ?_;clear H;intro b2 w H;refine Az H ?_;clear H;intro b3 w H;refine J2 H ?_;replace H:=Js [2,0,0] 0 H;refine If H ?_;refine Jc rfl rfl (gm p { s with rem:=R } k g e hk H) ?_;clear H;rintro v w ⟨rfl,H⟩;refine YA H ?_;clear H;intro b4 w H;refine J5 H ?_;clear H;intro w H;refine ZT H ?_;replace H:=Js [1,0] 0 H;obtain⟨q,mem,hw,hm,H⟩:=Y9 H;dsimp only at H;have Yq:WF s:=Fe hw s.rem;have x7:Y8 s mem:=Nq hm s.rem;refine J1 H ?_;clear H;intro w H;refine NZ H ?_;refine Jf 4 ?_;refine Jl 5 [6] H ?_;refine Jo 6 H ?_;refine Jk rfl rfl (iS q.ip e.addr H) ?_;clear H;rintro v w ⟨bm,ba,rfl,H⟩;refine Jx H ?_;refine J6 H ?_;refine Qe (W0 (a:=[]) (b:=[pp bm,pp ba]) H rfl (fun yl D2 w H=>?_));generalize hL:LR _ yl _ _ _ _ D2 .ready=L at H ⊢;obtain⟨J,hJ⟩:∃ J:List Nat→Q2,J=fun ks=>ex fun R1:List (Rf×Int)=>star [prop (Gy s R0 (D++ks.map fun x:Nat=>((k:Int),(x:Int))) R1),L,VY p q,Qr q.tp s.tab,Qo q.trp s.last s.par,RS q.rp R1,mp (ki .i64) Qz q.sm (s.sps.map Vt),star (s.sps.map (Vx q.sp)),mp (ki .i64) Qz q.mm (s.mns.map VU),star (s.mns.map VV),pts b2 (row 44 [pp p]),pts b3 (row 3 [.int .i64 k])]:=⟨_,rfl⟩
 have V9:∀ (ks:List Nat) (R1:List (Rf×Int)) (w:World) (l':List Q2),Gy s R0 (D++ks.map fun x:Nat=>((k:Int),(x:Int))) R1→Q0 w (L::VY p q::Qr q.tp s.tab::Qo q.trp s.last s.par::RS q.rp R1::mp (ki .i64) Qz q.sm (s.sps.map Vt)::star (s.sps.map (Vx q.sp))::mp (ki .i64) Qz q.mm (s.mns.map VU)::star (s.mns.map VV)::pts b2 (row 44 [pp p])::pts b3 (row 3 [.int .i64 k])::l')→Q0 w (J ks::l'):=by
  intro ks R1 w l' h H;rw[hJ];exact Q0.ex.2 ⟨R1,Q0.star.2 (Q0.prop.2 ⟨h,H⟩)⟩
 have YW:∀ (ks:List Nat) (w:World) (l':List Q2),Q0 w (J ks::l')→∃ R1,Gy s R0 (D++ks.map fun x:Nat=>((k:Int),(x:Int))) R1∧Q0 w (L::VY p q::Qr q.tp s.tab::Qo q.trp s.last s.par::RS q.rp R1::mp (ki .i64) Qz q.sm (s.sps.map Vt)::star (s.sps.map (Vx q.sp))::mp (ki .i64) Qz q.mm (s.mns.map VU)::star (s.mns.map VV)::pts b2 (row 44 [pp p])::pts b3 (row 3 [.int .i64 k])::l'):=by
  intro ks w l' H;rw[hJ] at H;obtain⟨R1,H⟩:=Q0.ex.1 H;exact⟨R1,Q0.prop.1 (Q0.star.1 H)⟩
 replace H:=Js [0,3,6,6,6,6,6,6,6,8,7,1,1,1,1,1,0] 1 H;replace H:=V9 [] R _ _ (by rw[map_nil,append_nil];exact hD) H;refine call (iT yl bm ba q.ip q.sp q.bp s.size s.lays s.own e.addr e.lay e.count k e.ws.length (Qd s e) (YQ e) (Y8 s) (fun _ h=>ia Yq h hk) J ?_ x7 H) ?_
 ·clear H;intro ks z mem' rest w V7 Yc H;obtain⟨R1,Y2,H⟩:=YW _ _ _ H;obtain⟨t,Yc⟩:=Yc;obtain⟨BG,JQ⟩:=Tf Yc;have Bf:=Y2.step hk BG JQ;rw[append_assoc,show [((k:Int),(z:Int))]=[z].map (fun x:Nat=>((k:Int),(x:Int))) from rfl,← map_append] at Bf;have lV:=fun (w:World) (fr:List Q2) (H:Q0 w (RS q.rp R1::Qr q.tp s.tab::VY p q::fr))=>wz p q { s with rem:=R1 } k g e hk (z:Int) (YQ e z) H;obtain⟨a1,a2,a3,Y4⟩:=Xa (YQ e z);rw[Y4] at lV;rw[Y4];subst hL;refine Kj (args:=[.int .i64 z,.agg #[.int .i64 a1,.int .i64 a2,.int .i64 a3]]) H rfl rfl ?_;refine Vl H ?_;refine YM H ?_;clear H;intro b7 w H;refine J5 H ?_;clear H;intro w H;refine J2 H ?_;replace H:=Js [1,0] 0 H;refine⟨rfl,_,H,fun w H=>Qe ?_⟩;generalize hLB:LR _ yl _ _ _ _ D2 .busy=LB at H ⊢;replace H:=Js [5,3,2,0,0,0,0,0,0,0,0,0] 0 H;refine If H ?_;refine Jv ?_;refine C1 H ?_;refine Jc rfl rfl (lV _ _ H) ?_;clear H;rintro v w H;refine J2 H ?_;subst hLB;replace H:=Js [3,2,1,2,0,1,1,1,1,1,1] 1 H;refine⟨rfl,_,H,fun w H=>⟨rfl,mem',V7,V9 _ _ _ _ Bf H⟩⟩
 ·clear H;rintro v w ⟨mem',V7,H⟩;obtain⟨R1,Y2,H⟩:=YW _ _ _ H;subst hL;refine⟨_,H,fun w H=>?_⟩;replace H:=Js [15,0,11,11,11,0,0,0,0,0,0,0] 4 H;exact Bj (ms:=[D2]) _ (.inl rfl) ((Q0.star (k:=[pts D2 (.deferred (some []))])).2 H) rfl fun w' H'=>⟨rfl,R1,Y2,VJ (s:={ s with rem:=R1 }) (Fe Yq R1) (Nq V7 R1) H'⟩
theorem lY [Q4] (p:Nat) (q:Xf) (ts:List QW) (mk:List (Int×Nat)) (k n:Nat) (e:Q8) (hk:ts[k]? = some ⟨n,some e⟩) (region:Int) (addr b1 b2:Nat) (M1 M2:List Nat) (h1:QV mk e.region=some b1) (h2:QV mk region=some b2)
  (Vn:M1.Pairwise (· < ·)) (Z0:M1.length≤1000) (Yo:M2.Pairwise (· < ·)) (Y5:M2.length≤1000) (ZW:k∉M2) {w:World} {fr:List Q2} (H:Q0 w (Qr q.tp ts::VY p q::mp (ki .i64) Qz q.mm mk::VQ b1 M1::VQ b2 M2::fr)) :
  Calls Tryz.prog 75 #[pp p,.int .i64 k,.int .i64 region,.int .i64 addr] w (ret fun v w'=>v = .tuple #[]∧Q0 w' (Qr q.tp (ts.set k ⟨n,some { e with region:=region,addr:=addr }⟩)::VY p q::mp (ki .i64) Qz q.mm mk::VQ b1 (M1.filter (·≠k))::VQ b2 (Za M2 k)::fr)):=by
 have hL:Qk ts k n=some (k,e):=Yz.2 ⟨n,rfl,rfl,hk⟩;refine QQ Tryz.func75 rfl (by kernel_rfl) ?_;refine J9 H ?_;refine Jc rfl rfl (Tu p q ts k n e hk H) ?_;clear H;rintro v w ⟨rfl,H⟩;refine YA H ?_;clear H;intro b8 w H;refine VS H ?_;clear H;intro b9 w H;refine J5 H ?_;clear H;intro w H;refine J5 H ?_;clear H;intro w H;refine J2 H ?_;replace H:=Js [5,0,0,0,0,0,0] 0 H;refine J1 H ?_;clear H;intro w H;refine YN H ?_;refine Jl 3 [8] H ?_;refine Jf 4 ?_;refine Jl 5 [8] H ?_;refine RL 6 [8] (key:=e.region) H rfl (Q9.none rfl) rfl rfl Vp (by kernel_rfl) ?_;rw[h1];refine Ja 7 ?_;refine Jo 8 H ?_;refine Jk rfl rfl (jL b1 M1 k Vn (by omega) H) ?_;clear H;rintro v w ⟨rfl,H⟩;refine Jx H ?_;refine J9 H ?_;refine Rc H ?_;clear H;intro w H;refine Rc H ?_;clear H;intro w H;refine J2 H ?_;replace H:Q0 w (VQ b1 (M1.filter (·≠k))::pts b9 (row 113 (YX { e with region:=region,addr:=addr }))::pts b8 (row 69 [.int .i64 k,.int .i64 n])::Qr q.tp ts::VY p q::mp (ki .i64) Qz q.mm mk::VQ b2 M2::fr):=H;replace H:=Js [3,0,0,0,0,0,0] 0 H;refine J1 H ?_;clear H;intro w H;refine F3 H ?_;refine IC H ?_;refine IB H ?_;refine Jk rfl rfl (JR q.tp ts k n { e with region:=region,addr:=addr } H) ?_;clear H;intro v w hS
 obtain⟨rfl,H⟩:v = .int .i64 0∧Q0 w (Qr q.tp (ts.set k ⟨n,some { e with region:=region,addr:=addr }⟩)::VQ b1 (M1.filter (·≠k))::pts b9 (row 113 (YX { e with region:=region,addr:=addr }))::pts b8 (row 69 [.int .i64 k,.int .i64 n])::VY p q::mp (ki .i64) Qz q.mm mk::VQ b2 M2::fr):=by
  rcases hS with ⟨k2,e2,US,hv,H⟩|⟨US,_,_⟩
  ·rw[hL] at US;injection US with US
   injection US with US _
   subst US;exact⟨hv,H⟩
  ·rw[hL] at US;cases US
 refine Jx H ?_;replace H:=Js [6,0,3,3,0,0,0] 0 H;refine VM H ?_;refine Q5 rfl (GH (key:=region) H rfl rfl Vp rfl ?_);rw[h2];refine Jv ?_;refine Jc rfl rfl (i7 b2 M2 k Yo (by omega) ZW H) ?_;clear H;rintro v w ⟨rfl,H⟩;refine J2 H ?_;replace H:=Js [1,1,1,1,0] 2 H;exact Z2 _ (.inl rfl) H rfl fun w' H'=>⟨rfl,H'⟩
theorem mk_nil [Q4] {w:World} {l:List Q2} (H:Q0 w l):Q0 w (mk []::l):=(Q0.star (k:=[])).2 H
theorem x8 [Q4] {w:World} {D:Nat} {Ds:List Nat} {l:List Q2} (H:Q0 w (pts D (.deferred (some []))::mk Ds::l)):Q0 w (mk (D::Ds)::l):=
 (Q0.pick (R:=fun D=>pts D (.deferred (some []))) (x:=D) (gs:=D::Ds) (g1:=[]) (g2:=Ds) rfl).2 H
def EK (s:CS) (k:Nat):List Rf:=match s.tab[k]? with
 | some ⟨_,some e⟩=>E4 s k e
 | _=>[]
theorem bD {s:CS} {k g:Nat} {e:Q8} (hk:s.tab[k]? = some ⟨g,some e⟩):EK s k=E4 s k e:=by
 unfold EK;rw[hk]
def HC (s:CS) (ids:List Int) (D:List Rf):Prop:=∀ r,r∈D↔∃ (k g:Nat) (e:Q8),s.tab[k]? = some ⟨g,some e⟩∧e.region∈ids∧r∈E4 s k e
theorem HC.step {s:CS} {ids:List Int} {D:List Rf} (h:HC s ids D) {x:Int} {M:List Nat} (hM:∀ i,i∈M↔∃ g e,s.tab[i]? = some ⟨g,some e⟩∧e.region=x):HC s (ids++[x]) (D++M.flatMap (EK s)):=by
 intro r;rw[mem_append,h r,mem_flatMap];constructor
 ·rintro(⟨k,g,e,h1,h2,h3⟩|⟨k,h1,h2⟩)
  ·exact⟨k,g,e,h1,mem_append.2 (.inl h2),h3⟩
  ·obtain⟨g,e,h3,h4⟩:=(hM k).1 h1;rw[bD h3] at h2;exact⟨k,g,e,h3,mem_append.2 (.inr (mem_singleton.2 h4)),h2⟩
 ·rintro⟨k,g,e,h1,h2,h3⟩
  rcases mem_append.1 h2 with h2|h2
  ·exact .inl ⟨k,g,e,h1,h2,h3⟩
  ·rw[mem_singleton] at h2;exact .inr ⟨k,(hM k).2 ⟨g,e,h1,h2⟩,by rw[bD h1];exact h3⟩
set_option maxRecDepth 10000 in
theorem lZ [Q4] (p:Nat) (s:CS) (R0:List (Rf×Int)) (x9:(R0.map (·.1)).Nodup) (v:Value) (ids:List Int) (xQ:∀ x∈ids,x∈s.mns.map (·.1)) (hl:ids.length≤1000) {w:World} {fr:List Q2} (H:Q0 w (IL v ids::QD p { s with rem:=R0 }::fr)) :
  Calls Tryz.prog 76 #[pp p,v] w (ret fun x w'=>x = .tuple #[]∧∃ D R',HC s ids D∧Gy s R0 D R'∧Q0 w' (QD p { s with rem:=R' }::fr)):=by
 obtain⟨a,c,rfl⟩:=QI H (YC ids) (by decide);refine QQ Tryz.func76 rfl (by kernel_rfl) ?_;refine GV H ?_;clear H;intro b2 w H;refine J2 H ?_;refine KF H ?_;replace H:=Js [1,1,0] 0 H;replace H:=mk_nil H;replace H:=Js [1,1,1,0] 0 H;refine Qt (fun ms σ w=>∃ D R',HC s ids D∧Gy s R0 D R'∧Q0 w (mk ms::QD p { s with rem:=R' }::fr)) ?_ ?_
 ·refine Qe ?_;refine Qq (fun ms σ w z=>∃ (i:Nat) (D:List Rf) (R':List (Rf×Int)),i≤ids.length∧z=ids.length - i∧HC s (ids.take i) D∧Gy s R0 D R'∧σ 2=pp b2∧σ 7 = .slice a ids.length c∧σ 8 = .int .i64 ids.length∧σ 9 = .int .i64 i∧Q0 w (IL (.slice a ids.length c) ids::QD p { s with rem:=R' }::pts b2 (row 44 [pp p])::mk ms::fr)) (m:=ids.length) ⟨0,[],R0,by omega,by omega,(fun r=>⟨fun h=>(by cases h),fun ⟨k,g,e,_,h,_⟩=>(by cases h)⟩),Gy.start x9,rfl,rfl,rfl,rfl,H⟩ ?_;clear H;rintro ms σ w z ⟨i,D,R',hi,rfl,hD,hN,g2,g7,g8,g9,H⟩;rw[Q1 g2,Q1 g7,Q1 g8,Q1 g9];refine J7 H ?_;refine Qm rfl (fun h=>QF ?_) (fun h=>Qv ?_)
  ·have Q6:i < ids.length:=by omega
   have hx:=getElem?_eq_getElem Q6;have Qj:ids.take (i+1)=ids.take i++[ids[i]]:=by rw[take_add_one,hx];rfl
   have Rp:=xQ _ (getElem_mem Q6);generalize ids[i]=x at hx Qj Rp;obtain⟨bT,sT,rfl,H,QM⟩:=VX H (by omega);refine Z7 H ?_;refine Jd ?_;refine Q5 rfl (QA H rfl (by simpa using RZ hx) rfl ?_);refine J0 H ?_;replace H:=QM _ _ H;replace H:=Js [1,0] 0 H;obtain⟨q,mem,hw,hm,H⟩:=Y9 H;dsimp only at H;have Yq:WF s:=Fe hw s.rem;obtain⟨b1,ZW⟩:=R8 (l:=s.mns) (f:=fun x=>x.1) (g:=fun x=>x.2.1) (k:=x) Rp;obtain⟨⟨r2,b1',M⟩,m1,m2,Vk,EQ,EV⟩:=R7 ZW;obtain rfl:r2=x:=EQ;obtain rfl:b1'=b1:=EV;have Xh:QV (s.mns.map VU) r2=some b1':=ZW;have KV:=Yq.mine (r2,b1',M) (by rw[Vk];simp)
   have w9:M.length≤64:=by
    have:=B6 M 0 64 (fun y hy=>⟨Nat.zero_le _,by
     obtain⟨g,f,h3,_⟩:=(KV.2 y).1 hy;have h4:=(List.getElem?_eq_some_iff.1 h3).1;have:=Yq.slots.2;omega⟩) KV.1
    omega
   refine Kp H ?_;refine Q5 rfl (GH (key:=r2) H rfl rfl Vp rfl ?_);rw[Xh];replace H:=Js [10,0,0,0,0,0,0,0,0,0,0] 0 H;replace H:Q0 w (VQ b1' M::star ((m1++m2).map VV)::_):=(Q0.pick (R:=VV) (x:=(r2,b1',M)) Vk).1 H;refine Jc rfl rfl (OW b1' M (by omega) H) ?_;clear H;rintro v w ⟨bv,av,cv,rfl,H⟩;replace H:=Js [2,2,0,0] 0 H;replace H:=(Q0.pick (R:=VV) (x:=(r2,b1',M)) Vk).2 H;replace H:=Js [3,3,3,3,3,3,3,3,3,3,0,0,0] 0 H;replace H:=VJ (s:={ s with rem:=R' }) hw hm H;refine J2 H ?_;replace H:=Js [0,3,0,0,0,0] 0 H;refine J6 H ?_;refine Qt (fun ms' σ w=>∃ (D2:Nat) (R2:List (Rf×Int)),ms'=D2::ms∧Gy s R0 (D++M.flatMap (EK s)) R2∧σ 2=pp b2∧σ 7 = .slice (some ⟨bT,0,none⟩) ids.length c∧σ 8 = .int .i64 ids.length∧σ 9 = .int .i64 i∧Q0 w (QD p { s with rem:=R2 }::pts b2 (row 44 [pp p])::pts D2 (.deferred (some []))::IL (.slice (some ⟨bT,0,none⟩) ids.length c) ids::mk ms::fr)) ?_ ?_
   ·refine Qe (W0 (a:=[]) (b:=[pp bv]) H rfl (fun yl D2 w H=>?_));generalize hL:LR _ yl _ _ _ _ D2 .ready=LRR at H ⊢;obtain⟨J,hJ⟩:∃ J:List Nat→Q2,J=fun ks=>ex fun R1:List (Rf×Int)=>star [prop (Gy s R0 (D++ks.flatMap (EK s)) R1),LRR,QD p { s with rem:=R1 },pts b2 (row 44 [pp p])]:=⟨_,rfl⟩
    have V9:∀ (ks:List Nat) (R1:List (Rf×Int)) (w:World) (l':List Q2),Gy s R0 (D++ks.flatMap (EK s)) R1→Q0 w (LRR::QD p { s with rem:=R1 }::pts b2 (row 44 [pp p])::l')→Q0 w (J ks::l'):=by
     intro ks R1 w l' h H;rw[hJ];exact Q0.ex.2 ⟨R1,Q0.star.2 (Q0.prop.2 ⟨h,H⟩)⟩
    have YW:∀ (ks:List Nat) (w:World) (l':List Q2),Q0 w (J ks::l')→∃ R1,Gy s R0 (D++ks.flatMap (EK s)) R1∧Q0 w (LRR::QD p { s with rem:=R1 }::pts b2 (row 44 [pp p])::l'):=by
     intro ks w l' H;rw[hJ] at H;obtain⟨R1,H⟩:=Q0.ex.1 H;exact⟨R1,Q0.prop.1 (Q0.star.1 H)⟩
    replace H:=Js [0,1,1,1,1,0,0,0] 0 H;replace H:=V9 [] R' _ _ (by rw[flatMap_nil,append_nil];exact hN) H;refine call (OA yl bv av cv M (by omega) J ?_ H) ?_
    ·clear H;intro ks k tt rest w Yc H;obtain⟨R1,RP,H⟩:=YW _ _ _ H;obtain⟨g,e,hk,_⟩:=(KV.2 k).1 (by rw[Yc];simp);subst hL;refine Kj (args:=[.int .i64 k]) H rfl rfl ?_;refine Vl H ?_;refine⟨rfl,_,H,fun w H=>Qe ?_⟩;generalize hLB:LR _ yl _ _ _ _ D2 .busy=LB at H ⊢;replace H:=Js [1,0] 0 H;refine XJ H ?_;refine Jc rfl rfl (x6 p s R0 R1 _ RP k g e hk H) ?_;clear H;rintro v w ⟨rfl,R2,We,H⟩;refine J2 H ?_;subst hLB;replace H:=Js [1,0,0] 0 H;refine⟨rfl,_,H,fun w H=>⟨rfl,V9 _ _ _ _ ?_ H⟩⟩;rw[flatMap_append,flatMap_cons,flatMap_nil,append_nil,bD hk,← append_assoc];exact We
    ·clear H;rintro v w H;obtain⟨R1,RP,H⟩:=YW _ _ _ H;subst hL;refine⟨_,H,fun w H=>?_⟩;replace H:=Js [0,0,2,2,2] 2 H;exact⟨rfl,D2,R1,rfl,RP,rfl,rfl,rfl,rfl,H⟩
   clear H;rintro ms' σ w ⟨D2,R2,rfl,We,g2,g7,g8,g9,H⟩;rw[Q1 g2,Q1 g7,Q1 g8,Q1 g9];refine J3 H ?_;replace H:=Js [2,3,2,0,0] 0 H;replace H:=x8 H;replace H:=Js [1,1,1,0] 0 H;exact⟨_,⟨i+1,_,R2,Q6,rfl,by rw[Qj];exact hD.step KV.2,We,rfl,rfl,rfl,Qh (by omega),H⟩,by omega⟩
  ·have V2:i=ids.length:=by omega
   subst V2;rw[take_length] at hD;replace H:=Js [3,1] 2 H;exact⟨rfl,D,R',hD,hN,H⟩
 clear H;rintro ms σ w ⟨D,R',hD,hN,H⟩;exact Bj (ms:=ms) _ (.inl rfl) H rfl fun w' H'=>⟨rfl,D,R',hD,hN,H'⟩
theorem lG {V:Type} {l:List (Int×Nat×V)} (QP:(l.map fun z=>z.1).Nodup) {x y:Int} (hx:x∈l.map fun z=>z.1) (hy:y∈l.map fun z=>z.1) (QB:y≠x) :
  ∃ (bx:Nat) (X:V) (a1 a2:List (Int×Nat×V)) (bY:Nat) (Y:V) (c1 c2:List (Int×Nat×V)),l=a1++(x,bx,X)::a2∧a1++a2=c1++(y,bY,Y)::c2∧QV (l.map fun z=>(z.1,z.2.1)) x=some bx∧QV (l.map fun z=>(z.1,z.2.1)) y=some bY:=by
 obtain⟨⟨x',bx,X⟩,h1,h2⟩:=mem_map.1 hx;have h2:x'=x:=h2;subst h2;obtain⟨a1,a2,h3⟩:=append_of_mem h1;obtain⟨⟨y',bY,Y⟩,h4,h5⟩:=mem_map.1 hy;have h5:y'=y:=h5;subst h5
 have h6:(y',bY,Y)∈a1++a2:=by
  rw[h3] at h4
  rcases Uz h4 with h7|h7
  ·injection h7 with h7 _
   exact absurd h7 QB
  ·exact h7
 obtain⟨c1,c2,h7⟩:=append_of_mem h6;have WC:((l.map fun z=>(z.1,z.2.1)).map (·.1)).Nodup:=by rw[map_map];exact QP
 exact⟨bx,X,a1,a2,bY,Y,c1,c2,h3,h7,(YI WC).2 (mem_map.2 ⟨_,h1,rfl⟩),(YI WC).2 (mem_map.2 ⟨_,h4,rfl⟩)⟩
def RW (id q:Int) (ts:List QW) (ks:List Nat):List QW:=ts.mapIdx fun k t=>if k∈ks then Un id q t else t
theorem Lg (id q:Int) (ts:List QW) (ks:List Nat) (k:Nat):(RW id q ts ks)[k]? = (ts[k]?).map fun t=>if k∈ks then Un id q t else t:=getElem?_mapIdx
theorem xV (id q:Int) (ts:List QW):RW id q ts []=ts:=by
 apply ext_getElem?;intro i;rw[Lg];cases ts[i]? <;> simp
theorem xY {id q:Int} {ts:List QW} {ks:List Nat} {k g:Nat} {e:Q8} (hk:ts[k]? = some ⟨g,some e⟩) (hr:e.region=id):(RW id q ts ks).set k ⟨g,some { e with region:=q,addr:=e.addr }⟩=RW id q ts (ks++[k]):=by
 have VB:=(List.getElem?_eq_some_iff.1 hk).1;apply ext_getElem?;intro i;rw[getElem?_set,Lg,Lg];by_cases h:k=i
 ·subst h;rw[if_pos rfl,if_pos (by unfold RW;rw[length_mapIdx];exact VB),hk];simp only[Option.map_some];rw[if_pos (mem_append.2 (.inr (by simp)))];unfold Un G8;simp only[Option.map_some];rw[if_pos hr]
 ·rw[if_neg h];cases ts[i]? with
  | none=>rfl
  | some t=>
   have h2:i∈ks++[k]↔i∈ks:=by
    rw[mem_append,mem_singleton];exact⟨fun h4=>h4.elim (fun h=>h) fun h5=>absurd h5.symm h,.inl⟩
   simp only[Option.map_some,h2]
theorem xZ {id q:Int} {ts:List QW} {M:List Nat} (hM:∀ i,i∈M↔∃ g e,ts[i]? = some ⟨g,some e⟩∧e.region=id):RW id q ts M=ts.map (Un id q):=by
 apply ext_getElem?;intro i;rw[Lg,getElem?_map];cases ht:ts[i]? with
 | none=>rfl
 | some t=>
  simp only[Option.map_some];by_cases h:i∈M
  ·rw[if_pos h]
  ·rw[if_neg h];obtain⟨g,e0⟩:=t;cases e0 with
   | none=>rfl
   | some e=>
    have QB:e.region≠id:=fun h1=>h ((hM i).2 ⟨g,e,ht,h1⟩);unfold Un G8;simp only[Option.map_some];rw[if_neg QB]
set_option maxRecDepth 10000 in
theorem xG [Q4] (p:Nat) (s:CS) (region q:Int) (Qx:QV s.par region=some q) (hT:ZJ s.par) {w:World} {fr:List Q2} (H:Q0 w (QD p s::fr)) :
  Calls Tryz.prog 27 #[pp p,.int .i64 region] w (ret fun v w'=>(q=0∧v = .tuple #[.int .i64 0,.int .i64 16]∧Q0 w' (QD p s::fr))∨(q≠0∧v = .tuple #[.int .i64 q,.int .i64 0]∧∃ s',HV s region q s'∧Q0 w' (QD p s'::fr))):=by
 obtain⟨u,mem,hw,hm,H⟩:=Y9 H;obtain⟨JV,OG,xU⟩:=hT.up _ _ Qx;refine QQ Tryz.func27 rfl (by kernel_rfl) ?_;refine GV H ?_;clear H;intro b2 w H;refine J4 H ?_;replace H:=Js [6,1,0,0,0,0,0] 0 H;refine XJ H ?_;refine Jc rfl rfl (Oh p u s.last s.par region H) ?_;clear H;rintro v w ⟨rfl,H⟩;rw[Qx];refine ZT H ?_;refine Kp H ?_;refine Jc rfl rfl (ue u.trp s.last s.par region hT.nd (by have:=hw.par.1;omega) H) ?_;clear H;rintro v w (⟨h1,_,_⟩|⟨h1,rfl,H⟩|⟨q',par',h1,K9,hP,rfl,H⟩)
 ·rw[Qx] at h1;cases h1
 ·rw[Qx] at h1;injection h1 with h1
  refine YA H ?_;clear H;intro b7 w H;refine B1 H ?_;clear H;intro w H;refine FA H ?_;replace H:=Js [2,3,3,3,3,1,2,2,2,2,2] 2 H;exact Q3 (Jy H rfl fun w' H' => .inl ⟨h1,rfl,VJ hw hm H'⟩)
 rw[Qx] at h1;injection h1 with h1
 subst h1;refine YA H ?_;clear H;intro b7 w H;refine B1 H ?_;clear H;intro w H;refine ZT H ?_;replace H:Q0 w (pts b7 (row 3 [.int .i64 q])::_):=H;have K6:region∈s.par.map (·.1):=Di (by rw[Qx];rfl);have HQ:q∈s.par.map (·.1):=Di (xU.resolve_left K9);have QB:q≠region:=by omega
 obtain⟨bi,T,a1,a2,bq,S,c1,c2,Vn,Yo,xX,xK⟩:=lG (l:=s.sps) (by rw[hw.skeys];exact hT.nd) (x:=region) (y:=q) (by rw[hw.skeys];exact K6) (by rw[hw.skeys];exact HQ) QB;obtain⟨gi,M,d1,d2,gq,N,e1,e2,ZY,Zo,xR,xW⟩:=lG (l:=s.mns) (by rw[hw.mkeys];exact hT.nd) (x:=region) (y:=q) (by rw[hw.mkeys];exact K6) (by rw[hw.mkeys];exact HQ) QB;have xA:QV (s.sps.map Vt) region=some bi:=xX;have xB:QV (s.sps.map Vt) q=some bq:=xK;have lU:QV (s.mns.map VU) region=some gi:=xR;have xC:QV (s.mns.map VU) q=some gq:=xW
 have Yu:(q,bq,S)∈s.sps:=by
  have h1:(q,bq,S)∈a1++a2:=by rw[Yo];simp
  rw[Vn];exact Rj h1
 have LF:(q,gq,N)∈s.mns:=by
  have h1:(q,gq,N)∈d1++d2:=by rw[Zo];simp
  rw[ZY];exact Rj h1
 obtain⟨t1,t2,t3,t4,t5,t6⟩:=H8 hw (x:=(region,bi,T)) (by rw[Vn];simp);obtain⟨s1,_,_,_,_,_⟩:=H8 hw Yu;have t1:T.parts.length≤63:=t1;have s1:S.parts.length≤63:=s1;have KV:=hw.mine (region,gi,M) (by rw[ZY];simp);have bE:=hw.mine _ LF
 have CU:∀ L:List Nat,L.Pairwise (· < ·)→(∀ y∈L,y < s.tab.length)→L.length≤64:=fun L h1 h2=>by
  have:=B6 L 0 64 (fun y hy=>⟨Nat.zero_le _,by have:=h2 y hy;have:=hw.slots.2;omega⟩) h1;omega
 have lX:∀ y∈M,y < s.tab.length:=fun y hy=>by
  obtain⟨g,f,h3,_⟩:=(KV.2 y).1 hy;exact(List.getElem?_eq_some_iff.1 h3).1
 have xD:∀ y∈N,y < s.tab.length:=fun y hy=>by
  obtain⟨g,f,h3,_⟩:=(bE.2 y).1 hy;exact(List.getElem?_eq_some_iff.1 h3).1
 replace H:=Js [10,6,0,1,1,1,1,1,1,1,1,1,0] 0 H;replace H:Q0 w (Qy bi u.sp region.toNat T::star ((a1++a2).map (Vx u.sp))::_):=(Q0.pick (R:=Vx u.sp) (x:=(region,bi,T)) Vn).1 H;replace H:=Js [1,0] 0 H;replace H:Q0 w (Qy bq u.sp q.toNat S::star ((c1++c2).map (Vx u.sp))::_):=(Q0.pick (R:=Vx u.sp) (x:=(q,bq,S)) Yo).1 H;replace H:=Js [0,1,1,0] 0 H;refine J1 H ?_;clear H;intro w H;refine Jl 0 [12] H ?_;refine WZ H ?_;refine Jl 3 [12] H ?_;refine Jl 4 [12] H ?_;refine RL 5 [12] (key:=q) H rfl (Q9.none rfl) rfl rfl Vp (by kernel_rfl) ?_;rw[xB];refine Jl 6 [12] H ?_;refine Ja 7 ?_;refine Jf 8 ?_;refine Jl 9 [12] H ?_;refine Ja 10 ?_;refine RL 11 [12] (key:=region) H rfl (Q9.none rfl) rfl rfl Vp (by kernel_rfl) ?_;rw[xA];have hJ:=jh bq bi u.sp q.toNat region.toNat S T s.size mem s.own (by omega) (by omega) (by omega) hw.own.2 t2 t5 H;refine Jo 12 H ?_;refine Jk rfl rfl (hJ) ?_;clear H hJ;rintro v w ⟨rfl,own',Vi,hog,H⟩;refine Jx H ?_;replace H:=Js [13,0,0,0,0,0,0,0,0,0,0,0,0,0] 0 H;replace H:Q0 w (VQ gi M::star ((d1++d2).map VV)::_):=(Q0.pick (R:=VV) (x:=(region,gi,M)) ZY).1 H;replace H:=Js [1,0] 0 H;replace H:Q0 w (VQ gq N::star ((e1++e2).map VV)::_):=(Q0.pick (R:=VV) (x:=(q,gq,N)) Zo).1 H;replace H:=Js [2,0,0] 0 H;have Q1a:=CU M KV.1 lX;refine Kp H ?_;refine Q5 rfl (GH (key:=region) H rfl rfl Vp rfl ?_);rw[lU];refine Jc rfl rfl (OW gi M (by omega) H) ?_;clear H;rintro v w ⟨bv,av,cv,rfl,H⟩;refine Bw H ?_
 refine Qt (fun ms σ w=>∃ (D2:Nat) (N':List Nat),ms=[D2]∧N'.Pairwise (· < ·)∧(∀ j,j∈N'↔j∈M∨j∈N)∧σ 1 = .int .i64 region∧σ 2=pp b2∧σ 7=pp b7 ∧
  Q0 w (Qr u.tp (RW region q s.tab M)::VY p u::mp (ki .i64) Qz u.mm (s.mns.map VU)::VQ gq N'::pts b2 (row 44 [pp p])::pts b7 (row 3 [.int .i64 q])::star ((e1++e2).map VV)::Qy bq u.sp q.toNat (Gf S T)::ST u.sp s.size mem own'::star ((c1++c2).map (Vx u.sp))::V6 u.ip u.sp u.bp::Qp u.bp s.lays::RS u.rp s.rem::mp (ki .i64) Qz u.sm (s.sps.map Vt)::Qo u.trp s.last par'::pts D2 (.deferred (some []))::fr)) ?_ ?_
 ·refine Qe (W0 (a:=[]) (b:=[pp bv]) H rfl (fun yl D2 w H=>?_));generalize hL:LR _ yl _ _ _ _ D2 .ready=LRR at H ⊢;obtain⟨J,hJ⟩:∃ J:List Nat→Q2,J=fun ks=>ex fun y:List Nat×List Nat=>star [prop (y.1.Pairwise (· < ·)∧y.1.length≤1000∧y.2.Pairwise (· < ·)∧∀ j,j∈y.2↔j∈ks∨j∈N),LRR,Qr u.tp (RW region q s.tab ks),VY p u,mp (ki .i64) Qz u.mm (s.mns.map VU),VQ gi y.1,VQ gq y.2,pts b2 (row 44 [pp p]),pts b7 (row 3 [.int .i64 q])]:=⟨_,rfl⟩
  have V9:∀ (ks M1 N1:List Nat) (w:World) (l':List Q2),(M1.Pairwise (· < ·)∧M1.length≤1000∧N1.Pairwise (· < ·)∧∀ j,j∈N1↔j∈ks∨j∈N)→Q0 w (LRR::Qr u.tp (RW region q s.tab ks)::VY p u::mp (ki .i64) Qz u.mm (s.mns.map VU)::VQ gi M1::VQ gq N1::pts b2 (row 44 [pp p])::pts b7 (row 3 [.int .i64 q])::l')→Q0 w (J ks::l'):=by
   intro ks M1 N1 w l' h H;rw[hJ];exact Q0.ex.2 ⟨(M1,N1),Q0.star.2 (Q0.prop.2 ⟨h,H⟩)⟩
  have YW:∀ (ks:List Nat) (w:World) (l':List Q2),Q0 w (J ks::l')→∃ M1 N1,(M1.Pairwise (· < ·)∧M1.length≤1000∧N1.Pairwise (· < ·)∧∀ j,j∈N1↔j∈ks∨j∈N)∧Q0 w (LRR::Qr u.tp (RW region q s.tab ks)::VY p u::mp (ki .i64) Qz u.mm (s.mns.map VU)::VQ gi M1::VQ gq N1::pts b2 (row 44 [pp p])::pts b7 (row 3 [.int .i64 q])::l'):=by
   intro ks w l' H;rw[hJ] at H;obtain⟨⟨M1,N1⟩,H⟩:=Q0.ex.1 H;exact⟨M1,N1,Q0.prop.1 (Q0.star.1 H)⟩
  replace H:=Js [0,15,11,16,3,3,9,8,1,1,1,1,1,1,1,1,1,1,1,1,0] 0 H;rw[← xV region q s.tab] at H;replace H:=V9 [] M N _ _ ⟨KV.1,by omega,bE.1,fun j=>by simp⟩ H;refine call (OA yl bv av cv M (by omega) J ?_ H) ?_
  ·clear H;intro ks k tt rest w Yc H;obtain⟨M1,N1,⟨Bd,Lh,RP,We⟩,H⟩:=YW _ _ _ H;subst hL;have ZW:k∈M:=by rw[Yc];simp
   have Gt:k∉ks:=fun h=>by
    have h1:=KV.1;rw[Yc,pairwise_append] at h1;have:=h1.2.2 k h k mem_cons_self;omega
   obtain⟨g,e,hk,HX⟩:=(KV.2 k).1 ZW;have HX:e.region=region:=HX
   have Yk:(RW region q s.tab ks)[k]? = some ⟨g,some e⟩:=by
    rw[Lg,hk];simp only[Option.map_some];rw[if_neg Gt]
   have E5:k∉N1:=fun h=>by
    rcases (We k).1 h with h|h
    ·exact Gt h
    ·obtain⟨g',e',h1,h2⟩:=(bE.2 k).1 h;rw[hk] at h1;injection h1 with h1
     injection h1 with _ h1
     injection h1 with h1
     subst h1;have h2:e.region=q:=h2;omega
   have Q1b:N1.length≤64:=CU N1 RP fun y hy=>by
    rcases (We y).1 hy with h|h
    ·exact lX y (by rw[Yc];exact mem_append.2 (.inl h))
    ·exact xD y h
   refine Kj (args:=[.int .i64 k]) H rfl rfl ?_;refine Vl H ?_;refine⟨rfl,_,H,fun w H=>Qe ?_⟩;generalize hLB:LR _ yl _ _ _ _ D2 .busy=LB at H ⊢;replace H:=Js [1,1,0] 0 H;refine XJ H ?_;refine Jc rfl rfl (Tu p u (RW region q s.tab ks) k g e Yk H) ?_;clear H;rintro v w ⟨rfl,H⟩;refine YA H ?_;clear H;intro b10 w H;refine VS H ?_;clear H;intro b11 w H;refine J5 H ?_;clear H;intro w H;refine J5 H ?_;clear H;intro w H;refine J2 H ?_;refine XJ H ?_;refine W4 H ?_;refine Gm H ?_;replace H:=Js [2,2,3,3,3,2,2,2,0,0] 0 H;refine Jc rfl rfl (lY p u (RW region q s.tab ks) (s.mns.map VU) k g e Yk q e.addr gi gq M1 N1 (by rw[HX];exact lU) xC Bd Lh RP (by omega) E5 H) ?_;clear H;rintro v w ⟨rfl,H⟩;rw[xY hk HX] at H;refine J2 H ?_;subst hLB;replace H:=Js [5,0,0,0,0,0,0,0] 2 H;refine⟨rfl,_,H,fun w H=>⟨rfl,V9 _ _ _ _ _ ⟨Bd.filter _,Nat.le_trans (length_filter_le _ _) Lh,OV RP E5,fun j=>?_⟩ H⟩⟩;rw[OQ,We,mem_append,mem_singleton];constructor
   ·rintro(h|h|h)
    ·exact .inl (.inr h)
    ·exact .inl (.inl h)
    ·exact .inr h
   ·rintro((h|h)|h)
    ·exact .inr (.inl h)
    ·exact .inl h
    ·exact .inr (.inr h)
  ·clear H;rintro v w H;obtain⟨M1,N1,⟨Bd,Lh,RP,We⟩,H⟩:=YW _ _ _ H;subst hL;refine⟨_,H,fun w H=>?_⟩;replace H:=Js [0,0,0,1,1,1,3,3,4,4,4,4,4,4,4,4] 4 H;exact⟨rfl,D2,N1,rfl,RP,We,rfl,rfl,rfl,H⟩
 clear H;rintro ms σ w ⟨D2,N',rfl,RP,We,g1,g2,g7,H⟩;rw[Q1 g1,Q1 g2,Q1 g7];rw[xZ KV.2] at H;refine Kp H ?_;refine Q5 rfl (Wk (key:=region) H rfl rfl Vp rfl ?_);clear H;intro w H;refine J2 H ?_;refine Kp H ?_;refine Q5 rfl (Wk (key:=region) H rfl rfl Vp rfl ?_);clear H;intro w H;refine J2 H ?_
 have L1:QN (s.sps.map Vt) region=(c1++(q,bq,Gf S T)::c2).map Vt:=by
  have h1:((s.sps.map Vt).map (·.1)).Nodup:=by rw[map_map];show (s.sps.map fun z=>z.1).Nodup;rw[hw.skeys];exact hT.nd
  rw[Vn,map_append,map_cons] at h1 ⊢;rw[CF (p:=(region,bi)) h1,← map_append,Yo,map_append,map_append,map_cons,map_cons]
 have Du:QN (s.mns.map VU) region=(e1++(q,gq,N')::e2).map VU:=by
  have h1:((s.mns.map VU).map (·.1)).Nodup:=by rw[map_map];show (s.mns.map fun z=>z.1).Nodup;rw[hw.mkeys];exact hT.nd
  rw[ZY,map_append,map_cons] at h1 ⊢;rw[CF (p:=(region,gi)) h1,← map_append,Zo,map_append,map_append,map_cons,map_cons]
 rw[L1,Du] at H;replace H:=Js [7,8,0,0,0,0,0,0,0,0,0,0,0,0,0,0] 0 H;replace H:=(Q0.pick (R:=Vx u.sp) (x:=(q,bq,Gf S T)) (gs:=c1++(q,bq,Gf S T)::c2) (g1:=c1) (g2:=c2) rfl).2 H;replace H:=Js [4,6,0,0,0,0,0,0,0,0,0,0,0,0,0] 0 H;replace H:=(Q0.pick (R:=VV) (x:=(q,gq,N')) (gs:=e1++(q,gq,N')::e2) (g1:=e1) (g2:=e2) rfl).2 H;have Dt:=uf hw hT.nd QB.symm hP Vn Yo ZY Zo Vi hog RP We s.rem;have VR:Y8 { s with own:=own',tab:=s.tab.map (Un region q),par:=par',rem:=s.rem,sps:=c1++(q,bq,Gf S T)::c2,mns:=e1++(q,gq,N')::e2 } mem:=ui hm Vi rfl rfl;have xE:Yi s→Yi { s with own:=own',tab:=s.tab.map (Un region q),par:=par',rem:=s.rem,sps:=c1++(q,bq,Gf S T)::c2,mns:=e1++(q,gq,N')::e2 }:=fun h=>uj h (by rw[hw.skeys];exact hT.nd) Vn Yo rfl rfl rfl;have QP:=Fq (H.pull 10);replace H:=Js [3,7,7,6,2,7,5,5,1,1,0,0,0,0] 0 H;replace H:=VJ Dt VR H;refine If H ?_;refine Uw H ?_;clear H;intro bS w H;replace H:Q0 w (pts bS (row 3 (Qn [q]++[]))::_):=H;replace H:=GI (E:=3) (k:=1) (len:=1) (cap:=1) (c:=Qn [q]) (spare:=[]) rfl ⟨by decide,by decide⟩ (by decide) H;have Fb:=lZ p { s with own:=own',tab:=s.tab.map (Un region q),par:=par',rem:=s.rem,sps:=c1++(q,bq,Gf S T)::c2,mns:=e1++(q,gq,N')::e2 } s.rem QP _ [q] (fun x hx=>by rw[mem_singleton] at hx;subst hx;simp) (by simp) H;refine Jc rfl rfl (Fb) ?_;clear H Fb;rintro v w ⟨rfl,D,R',hD,hN,H⟩;refine J2 H ?_;refine UB H ?_;refine J4 H ?_;replace H:=Js [3,0] 2 H;refine Q3 (Bj (ms:=[D2]) _ (.inr rfl) ((Q0.star (k:=[pts D2 (.deferred (some []))])).2 H) rfl fun w' H' => .inr ⟨K9,rfl,{ s with own:=own',tab:=s.tab.map (Un region q),par:=par',rem:=R',sps:=c1++(q,bq,Gf S T)::c2,mns:=e1++(q,gq,N')::e2 },⟨rfl,Vi,rfl,rfl,hP,rfl,⟨D,fun r=>?_,⟨hN.nd,hN.on,hN.off⟩⟩,xE⟩,H'⟩);rw[hD r];constructor
 ·rintro⟨k,g,e,h1,h2,h3⟩;exact⟨k,g,e,⟨g,e,h1,mem_singleton.1 h2⟩,h1,h3⟩
 ·rintro⟨k,g,e,⟨g',e',h1,h2⟩,h3,h4⟩;refine⟨k,g,e,h3,?_,h4⟩;have h1:=h1.symm.trans h3;injection h1 with h1
  injection h1 with _ h1
  injection h1 with h1
  rw[← h1,h2];exact mem_singleton.2 rfl
theorem xF [Q4] (p o sp owner owner2:Nat) (S T:QO) (size:Nat) (mem own:List Nat) {A B:List (Nat×Nat)} {c n:Nat} (Oy:S.parts=A++(c,n)::B) (hA:∀ y∈A,y.1≠c) (Gp:2≤n) (ho:1≤owner2) (hS:S.parts.length≤1000) (hT:T.parts.length≤1000) (XN:own.length≤63)
  (RX:c+n≤own.length) (Z9:∀ d,c≤d→d < c+n→own.getD d 0≠0) {w:World} {fr:List Q2} (H:Q0 w (Qy p sp owner S::Qy o sp owner2 T::ST sp size mem own::fr)) :
  Calls Tryz.prog 73 #[pp p,pp o,.int .i64 c] w (ret fun v w'=>v = .int .i64 0∧Q0 w' (Qy p sp owner { S with parts:=A++B }::Qy o sp owner2 { T with parts:=T.parts++[(c,n)] }::ST sp size mem (VT own c n owner2)::fr)):=by
 have hf:AW S.parts c=some (c,n):=by
  unfold AW;rw[Oy,find?_append,find?_eq_none.2 (fun y hy=>by simpa using hA y hy),find?_cons_of_pos (by simp)];rfl
 have hk:S.parts[A.length]? = some (c,n):=by rw[Oy,getElem?_append_right (Nat.le_refl _),Nat.sub_self];rfl
 have Qj:S.parts.take A.length=A:=by rw[Oy,take_left'];rfl
 have G0:S.parts.drop (A.length+1)=B:=by
  rw[Oy,show A++(c,n)::B=(A++[(c,n)])++B by simp,drop_left'];simp
 refine QQ Tryz.func73 rfl (by kernel_rfl) ?_;refine Re H ?_;refine Jc rfl rfl (jg p o sp owner owner2 S T H) ?_;clear H;rintro v w ⟨rfl,H⟩;refine ZT H ?_;refine J9 H ?_;refine Jc rfl rfl (Tz p sp owner S c (by omega) H) ?_;clear H;rintro v w ⟨rfl,H⟩;rw[hf];refine YA H ?_;clear H;intro b8 w H;refine J5 H ?_;clear H;intro w H;refine Mx H ?_;refine Xu H ?_;rw[show (((n:Nat):Int) == (1:Int))=false by rw[beq_eq_false_iff_ne];omega];refine YS H ?_;refine Xt H ?_;replace H:=Js [1,0] 0 H;refine Jc rfl rfl (jT p sp owner S A.length c n hk (by rw[Qj];exact fun y hy h=>hA y hy (by rw[h])) (by omega) H) ?_;clear H;rintro v w ⟨rfl,H⟩;rw[Qj,G0] at H;refine J2 H ?_;refine Xt H ?_;replace H:=Js [2,2,0,0] 0 H;refine Jc rfl rfl (jf o sp owner2 T size mem own c n ho (by omega) XN (fun j hj=>⟨by omega,Z9 _ (by omega) (by omega)⟩) (by omega) (by omega) H) ?_;clear H;rintro v w ⟨rfl,H⟩;refine DB H ?_;replace H:=Js [2,0,0] 1 H;exact Q3 (Jy H rfl fun w' H'=>⟨rfl,H'⟩)
def Li (S:QO) (d:Nat):Bool:=S.parts.any fun x=>decide (1 < x.2∧x.1≤d∧d < x.1+x.2)
theorem xH [Q4] (p sp owner:Nat) (S:QO) (d:Nat) (hp:S.parts.length≤1000) (hb:∀ x∈S.parts,x.1+x.2≤1000) {w:World} {fr:List Q2} (H:Q0 w (Qy p sp owner S::fr)) :
  Calls Tryz.prog 69 #[pp p,.int .i64 d] w (ret fun v w'=>v = .bool (Li S d)∧Q0 w' (Qy p sp owner S::fr)):=by
 obtain⟨a,c,H⟩:=X4 H;refine QQ Tryz.func69 rfl (by kernel_rfl) ?_;refine Wp H ?_;refine Ax H ?_;replace H:=Js [1,0] 0 H;refine Qq (fun ms σ w z=>ms=[]∧∃ i:Nat,i≤S.parts.length∧z=S.parts.length - i∧(∀ y∈S.parts.take i,¬ (1 < y.2∧y.1≤d∧d < y.1+y.2))∧σ 1 = .int .i64 d∧σ 12 = .slice a S.parts.length c∧σ 13 = .int .i64 S.parts.length∧σ 14 = .int .i64 i∧Q0 w (QE 208 2 (.slice a S.parts.length c) (S.parts.flatMap YB)::pts p (row 206 [pp sp,.int .i64 owner,.slice a S.parts.length c,.int .i64 S.at',.int .i64 S.fin])::fr)) (m:=S.parts.length) ⟨rfl,0,by omega,by omega,(fun y hy=>by simp at hy),rfl,rfl,rfl,rfl,H⟩ ?_;clear H;rintro ms σ w z ⟨rfl,i,hi,rfl,VZ,g1,g12,g13,g14,H⟩;rw[Q1 g1,Q1 g12,Q1 g13,Q1 g14];refine J7 H ?_;refine Qm rfl (fun h=>QF ?_) (fun h=>Qv ?_)
 ·have Q6:i < S.parts.length:=by omega
  have hn:=getElem?_eq_getElem Q6;have Qj:S.parts.take (i+1)=S.parts.take i++[S.parts[i]]:=by rw[take_add_one,hn];rfl
  have VR:=getElem_mem Q6;generalize S.parts[i]=x at hn Qj VR;obtain⟨x1,x2⟩:=x;have ef:x1+x2≤1000:=hb _ VR;obtain⟨bT,sT,rfl,H,QM⟩:=VX H (by omega);have Qu:QY (S.parts.flatMap YB++sT) (i*2+0) 2 (YB (x1,x2)):=Bs (vs:=YB (x1,x2)) WW hn (by repeat first|exact .nil _|apply QY.cons rfl);have ei:0+((i:Nat):Int).toNat*2=i*2:=by simp
  refine Z7 H ?_;refine Jd ?_;rw[ei];refine Q5 rfl (Vz H rfl Qu rfl ?_);refine VS H ?_;clear H;intro b6 w H;refine J5 H ?_;clear H;intro w H;refine J2 H ?_;have A7:∀ {w:World} {l:List Q2},Q0 w l→(1 < x2∧x1≤d∧d < x1+x2)→Li S d=true:=fun _ h=>any_eq_true.2 ⟨_,VR,decide_eq_true h⟩
  have Bf:¬ (1 < x2∧x1≤d∧d < x1+x2)→∀ y∈S.parts.take (i+1),¬ (1 < y.2∧y.1≤d∧d < y.1+y.2):=fun h y hy=>by
   rw[Qj] at hy
   rcases mem_append.1 hy with hy|hy
   ·exact VZ y hy
   ·rw[mem_singleton] at hy;subst hy;exact h
  replace H:=Js [1,0] 0 H;replace H:=QM _ _ H;replace H:=Js [1,0] 0 H;refine Wo H ?_;by_cases h1:1 < x2
  ·rw[show decide (((x2:Nat):Int) > (1:Int))=true from decide_eq_true (by omega)];refine Ej H ?_;refine Xu H ?_;by_cases h2:x1≤d
   ·rw[show decide (((d:Nat):Int)≥((x1:Nat):Int))=true from decide_eq_true (by omega)];refine DZ H ?_;refine S4 H ?_;rw[Qg (x:=(x1:Int)+(x2:Int)) (by omega) (by omega)];refine Zm H ?_;by_cases h3:d < x1+x2
    ·rw[show decide (((d:Nat):Int) < (x1:Int)+(x2:Int))=true from decide_eq_true (by omega)];refine Kn H ?_;rw[A7 H ⟨h1,h2,h3⟩];exact Q3 (Jy H rfl fun w' H'=>⟨rfl,Gb H'.drop.swap⟩)
    ·rw[show decide (((d:Nat):Int) < (x1:Int)+(x2:Int))=false from decide_eq_false (by omega)];refine CV H ?_;exact⟨_,⟨rfl,i+1,Q6,rfl,Bf (fun h=>h3 h.2.2),rfl,rfl,rfl,Qh (by omega),H.drop⟩,by omega⟩
   ·rw[show decide (((d:Nat):Int)≥((x1:Nat):Int))=false from decide_eq_false (by omega)];refine U3 H ?_;refine Ap H ?_;refine CV H ?_;exact⟨_,⟨rfl,i+1,Q6,rfl,Bf (fun h=>h2 h.2.1),rfl,rfl,rfl,Qh (by omega),H.drop⟩,by omega⟩
  ·rw[show decide (((x2:Nat):Int) > (1:Int))=false from decide_eq_false (by omega)];refine Jv ?_;refine C2 H ?_;refine U3 H ?_;refine Ap H ?_;refine CV H ?_;exact⟨_,⟨rfl,i+1,Q6,rfl,Bf (fun h=>h1 h.1),rfl,rfl,rfl,Qh (by omega),H.drop⟩,by omega⟩
 ·have V2:i=S.parts.length:=by omega
  subst V2;rw[take_length] at VZ;have hf:Li S d=false:=any_eq_false.2 (fun y hy=>by simpa using VZ y hy);rw[hf];refine Vl H ?_;exact Q3 (Jy H rfl fun w' H'=>⟨rfl,Gb H'.swap⟩)
end Go.Proofs.YtmjdnljneifpcaaGreatDoor
namespace Go.SL
open List
open Go.Op
section
variable {P:Program} {n:Nat} {r:Option Nat} {σ:QC} {w:World} {l:List Q2}
variable {t u:TypeId} {p:String} {af:Array Edge} {g:Option (Nat×Bool)} {d:Option Tmp} {x y z:Operand} {K:QC→World→Prop}
theorem xI [Q4] {e size bytes b o1 o2 m cap cap' E:Nat} {c vs:List Value} [hT:Vv P t e size bytes] (H:Q0 w (pts b (row E c)::l)) (hx:ev σ x = .slice (some ⟨b,o1,none⟩) m cap) (hy:ev σ y = .slice (some ⟨b,o2,none⟩) m cap') (Qu:QY c o2 (m*size) vs) (hl:o1+m*size≤c.length) (h1:vs.all (·.oneCell')=true) (hd:Qs n d=true)
  (k:∀ w',Q0 w' (pts b (row E (wr c o1 vs))::l)→K (put σ d (.int .i64 m)) w'):St P n r ⟨d,.call { callee := .builtin .copy,args:=#[x,y],argTypes:=#[t,t] },u,p,af,g⟩ σ w K:=by
 have hs:(sizeOf e).run P w = .ok size w:=by
  obtain⟨k,hk,e2⟩:=Option.map_eq_some_iff.1 hT.info;simp only[Prod.mk.injEq] at e2;exact Ur (by rw[hk];simp[e2.1])
 have ev1:=Qu.len;have GQ:w.heap[b]? = some (.cells c.toArray E (0,0)):=H.pts
 have Ec:(Builtin.firstCells size m (.slice (some ⟨b,o2,none⟩) m cap')).run P w = .ok vs.toArray w:=by
  unfold Builtin.firstCells
  have:=run_loadCells_list (P:=P) (w:=w) ⟨b,o2,none⟩ vs (fun j v hj=>by
   rw[Gj];exact Ua GQ (Qu.get j v hj))
  rwa [ev1] at this
 obtain⟨w',hr,h2,h3,h4⟩:=HL (P:=P) vs w b o1 E c 0 H.pts (by omega) (all_eq_true.1 h1);rw[Nat.add_zero] at h2;have H':=H.set (o':=row E (wr c o1 vs)) h2 h3 h4;refine VP (v := .int .i64 m) (w':=w') hd (fun c e=>by cases e) ?_ (k w' H');have HI:Nat.min m m=m:=Nat.min_self m;simp[execOp,resolve,invoke,builtin,hx,hy,Builtin.copy_,YP hT.und,Builtin.lenOf,HI,hs,Ec,hr,goInt]
end
end Go.SL
namespace Go.Proofs.YtmjdnljneifpcaaGreatDoor
open List
open Go.SL
def Rs (l:List Nat) (a b n:Nat):List Nat:=l.take a++(l.drop b).take n++l.drop (a+n)
theorem lK {l:List Nat} {a b n:Nat} (h1:a+n≤l.length) (h2:b+n≤l.length):(Rs l a b n).length=l.length:=by simp[Rs];omega
theorem xJ {l:List Nat} {a b n:Nat} (h1:a+n≤l.length) (h2:b+n≤l.length) {i:Nat} (hi:i < n):(Rs l a b n)[a+i]? = l[b+i]?:=by
 unfold Rs;rw[append_assoc,getElem?_append_right (by simp;omega),getElem?_append_left (by simp;omega)];have e1:(l.take a).length=a:=by simp;omega
 rw[e1,Nat.add_sub_cancel_left,getElem?_take_of_lt hi,getElem?_drop]
theorem xL {l:List Nat} {a b n:Nat} (h1:a+n≤l.length) (h2:b+n≤l.length) {j:Nat} (hj:j < a∨a+n≤j):(Rs l a b n)[j]? = l[j]?:=by
 unfold Rs;rw[append_assoc]
 rcases hj with hj|hj
 ·rw[getElem?_append_left (by simp;omega),getElem?_take_of_lt hj]
 ·rw[getElem?_append_right (by simp;omega),getElem?_append_right (by simp;omega),getElem?_drop];congr 1;simp;omega
theorem xM [Q4] (p size:Nat) (mem own:List Nat) (a b n:Nat) (h1:1≤n) (h2:a+n≤mem.length) (h3:Xw size own a n) (h4:b+n≤mem.length) (h5:Xw size own b n) {w:World} {fr:List Q2} (H:Q0 w (ST p size mem own::fr)) :
  Calls Tryz.prog 139 #[pp p,.int .i64 a,.int .i64 b,.int .i64 n] w (ret fun v w'=>v = .int .i64 0∧Q0 w' (ST p size (Rs mem a b n) own::fr)):=by
 refine QQ Tryz.func139 rfl (by kernel_rfl) ?_;refine eu H ?_;refine Y7 H ?_;refine Jc rfl rfl (FJ p size mem own a n h1 h2 h3 H) ?_;clear H;rintro v w ⟨rfl,H⟩;refine Ev H ?_;refine Jc rfl rfl (FJ p size mem own b n h1 h4 h5 H) ?_;clear H;rintro v w ⟨rfl,H⟩;refine Ai H ?_;refine Yx (fun ms σ w=>ms=[]∧σ 0=pp p∧σ 1 = .int .i64 a∧σ 2 = .int .i64 b∧σ 3 = .int .i64 n∧Q0 w (ST p size mem own::fr)) ?_ ?_
 ·refine Qe ?_;refine Ao H ?_;refine Aj H ?_;refine Ao H ?_;refine DI H ?_;exact .inl ⟨rfl,rfl,rfl,rfl,rfl,rfl,H⟩
 ·clear H;rintro ms σ w ⟨rfl,g0,g1,g2,g3,H⟩;rw[Q1 g0,Q1 g1,Q1 g2,Q1 g3];obtain⟨v,v2,u,ws,many,QX,H⟩:=KJ H;have H:=H.swap;have VR:mem.length≤1048576:=by rw[QX.len];exact Nat.mul_le_mul QX.c2 QX.s2
  obtain⟨a1,c1,rfl⟩:=QI H (GY mem) (by decide)
  rcases XB H with ⟨h,_⟩|⟨bb,len,cap',s,h,e3,e4,e5,H⟩
  ·injection h with h4 h5 h6;omega
  injection h with h6 h7 h8
  subst h6 h7 h8;have bF:(Qi ((mem.drop b).take n)).length=n:=by simp[Qi];omega
  have Qu:QY (Qi mem++s) (0+b*1) ((b+n - b)*1) (Qi ((mem.drop b).take n)):=by
   have e:(Qi ((mem.drop b).take n)).length=(b+n - b)*1:=by rw[bF];omega
   rw[← e];refine QY.of_get fun j v hj=>?_;have Zz:j < n:=by have:=(List.getElem?_eq_some_iff.1 hj).1;omega
   rw[getElem?_append_left (by simp[Qi];omega)];simp only[Qi,getElem?_map,getElem?_take_of_lt Zz,getElem?_drop] at hj;simp only[Qi,getElem?_map,Nat.zero_add,Nat.mul_one];exact hj
  have Qu:QY (Qi mem++s) (0+b*1) ((a+n - a)*1) (Qi ((mem.drop b).take n)):=by
   rw[show a+n - a=b+n - b by omega];exact Qu
  have Vn:(Qi ((mem.drop b).take n)).all (·.oneCell')=true:=all_eq_true.2 fun v hv=>by
   simp only[Qi,mem_map] at hv;obtain⟨x,_,rfl⟩:=hv;rfl
  refine J1 H ?_;clear H;intro w H;refine YN H ?_;refine Jl 3 [18] H ?_;refine KI H ?_;refine Ja 6 ?_;refine Ja 7 ?_;rw[Qg (x:=(a:Int)+(n:Int)) (by omega) (by omega),show (a:Int)+(n:Int)=((a+n:Nat):Int) by omega];refine Ht 8 rfl (Q9.none rfl) rfl rfl rfl (by omega) (by omega) (by omega) (by kernel_rfl) ?_;refine I6 H ?_;refine Jl 12 [18] H ?_;refine Ja 13 ?_;refine Ja 14 ?_;refine Ja 15 ?_;refine Ja 16 ?_;rw[Qg (x:=(b:Int)+(n:Int)) (by omega) (by omega),show (b:Int)+(n:Int)=((b+n:Nat):Int) by omega];refine Ht 17 rfl (Q9.none rfl) rfl rfl rfl (by omega) (by omega) (by omega) (by kernel_rfl) ?_;rw[show b+n - b=a+n - a by omega];refine Jo 18 H ?_;refine xI H rfl rfl Qu (by simp only[length_append,GY];omega) Vn rfl ?_;clear H;intro w H;refine I7 H ?_;have QM:(Rs mem a b n).length=mem.length:=lK h2 h4
  have xN:wr (Qi mem++s) (0+a*1) (Qi ((mem.drop b).take n))=Qi (Rs mem a b n)++s:=by
   rw[MK _ _ _ (by rw[bF,length_append,GY];omega),bF];unfold Rs Qi;rw[Nat.zero_add,Nat.mul_one,take_append_of_le_length (by simp;omega),drop_append_of_le_length (by simp;omega)];simp[map_take,map_drop]
  rw[xN] at H;exact Q3 (Jy (XM (QX.mem QM) (GI (by rw[GY,QM]) e4 e5 H).swap) rfl fun w' H'=>⟨rfl,H'⟩)
theorem xO [Q4] (ip sp bp size:Nat) (ls:List Qb) (mem own:List Nat) (to addr i c s n:Nat) (l:Qb) (h:WA ls size mem own addr i c s n l) (Be:to+(n+1)≤mem.length) (ho:Xw size own to (n+1)) {w:World} {fr:List Q2} (H:Q0 w (V6 ip sp bp::Qp bp ls::ST sp size mem own::fr)) :
  Calls Tryz.prog 74 #[pp ip,.int .i64 to,.int .i64 addr] w (ret fun v w'=>v = .tuple #[.int .i64 ((n+1:Nat):Int),.int .i64 0]∧Q0 w' (V6 ip sp bp::Qp bp ls::ST sp size (Rs mem to addr (n+1)) own::fr)):=by
 have hf:=h.fit;refine QQ Tryz.func74 rfl (by kernel_rfl) ?_;refine WV H ?_;refine Jc rfl rfl (Dg ip sp bp size ls mem own addr i c s n l h H) ?_;clear H;rintro v w ⟨rfl,H⟩;refine F6 H ?_;refine VS H ?_;clear H;intro b8 w H;refine J5 H ?_;clear H;intro w H;refine IH H ?_;refine G1 H ?_;refine Ev H ?_;replace H:=Js [3,0,0,0] 0 H;refine Jc rfl rfl (xM sp size mem own to addr (n+1) (by omega) Be ho (by omega) h.owned H) ?_;clear H;rintro v w ⟨rfl,H⟩;refine ZT H ?_;refine Vj H ?_;replace H:=Js [2,2,0] 1 H;exact Q3 (Jy H rfl fun w' H'=>⟨rfl,H'⟩)
end Go.Proofs.YtmjdnljneifpcaaGreatDoor
