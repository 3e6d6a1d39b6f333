/- Cells: what is proved on the way: every input of the statement; no condition. Texts joined: ModJ ActA JnA ActC ActD ActE JnB ActF PrsP PrsQ StyQ StyW. -/
import Derived.Test.YtbnnnljagkjpiaaGreatDoorBhd
import Derived.Test.YtbnnnljagkjpiaaGreatDoorBhp
import Derived.Test.YtbnnnljagkjpiaaGreatDoorBhn
import Derived.Test.YtbnnnljagkjpiaaGreatDoorBhm
import Derived.Test.YtbnnnljagkjpiaaGreatDoorBhi
import Derived.Test.YtbnnnljagkjpiaaGreatDoorBhl
set_option linter.unusedVariables false
set_option linter.unusedSimpArgs false
set_option linter.unusedSectionVars false
namespace Go.Proofs.YtbnnnljagkjpiaaGreatDoor
open List
open Go.SL
theorem gp [Q4] (a:Option Addr) (c:Nat) (L:List Nat) (x:Nat) (hl:L.length≤1000000) {w:World} {fr:List Q2} (H:Q0 w (NL (.slice a L.length c) L::fr)) :
  Calls Tryz.prog 167 #[.slice a L.length c,.int .i64 x] w (ret fun v w'=>v = .bool (decide (x∈L))∧Q0 w' (NL (.slice a L.length c) L::fr)):=by
 have hm:(L.map fun x:Nat=>(x:Int)).length=L.length:=length_map _;have h:=P4 a c L.length (L.map fun x:Nat=>(x:Int)) (x:Int) (by omega) (by omega) (w:=w) (fr:=fr) (by rw[hm,← Cv];exact H)
 have hd:decide ((x:Int)∈(L.map fun x:Nat=>(x:Int)).take L.length)=decide (x∈L):=by
  rw[← hm,take_length];refine decide_eq_decide.2 ⟨fun h=>?_,fun h=>mem_map.2 ⟨x,h,rfl⟩⟩;obtain⟨y,h1,h2⟩:=mem_map.1 h;obtain rfl:y=x:=by omega
  exact h1
 rw[hd,hm,← Cv] at h;exact h
theorem PY [Q4] (p:Nat) (m:MS) (r:Int) (hO:WT m.P) {w:World} {fr:List Q2} (H:Q0 w (Qp p m::fr)) :
  Calls Tryz.prog 90 #[pp p,.int .i64 r] w (ret fun v w'=>(Vw m.P r=false∧v = .tuple #[.slice none 0 0,.int .i64 15]∧Q0 w' (Qp p m::fr))∨(Vw m.P r=true∧∃ vl,v = .tuple #[vl,.int .i64 0]∧Q0 w' (NL vl (Zt m.P r)::Qp p (Xx m (Zt m.P r))::fr))):=by
 obtain⟨t,lc,oc,aL,cL,aO,cO,hm,h2,h3,hl1,hl2,H⟩:=ZP H;have hP:=hm.P;have hfew:=hm.few;refine QV Tryz.func90 rfl (by kernel_rfl) ?_;refine C5 H ?_;replace H:=Js [1,0] 0 H;refine Jc rfl rfl (WO t m.P r H) ?_;clear H;rintro v w ⟨rfl,H⟩;refine J0 H ?_;cases hlv:Vw m.P r with
 | false=>
  refine J3 H ?_;refine Yi H ?_;exact Q3 (Jy (Yv hm h2 h3 H.swap) rfl fun w' H' => .inl ⟨rfl,rfl,H'⟩)
 | true=>
 refine Gf H ?_;refine J9 H ?_;refine Jc rfl rfl (f9 t m.P hO r hP.1 (by omega) H) ?_;clear H;intro v w H;obtain⟨aU,cU,rfl⟩:=QD H (QE _) (by decide);have hUl:(Zt m.P r).length≤1000000:=by have:=Ik m.P r m.P.length;unfold Zt;omega
 generalize hL:Zt m.P r=L at H hUl ⊢;refine J0 H ?_;have hm1:=JG hm L L 0;replace H:=Js [2,1,1,1,1,1,0] 0 H;replace H:=Yv (m:={ m with P:=Vs m.P L,objs:=YC (Qd L) 0 m.objs }) hm1 h2 (by rw[FS];exact h3) H;clear h2 h3 hl1 hl2 lc oc aL cL aO cO;refine J6 H ?_;refine Qm (fun ms σ w=>ms=[]∧σ 0=pp p∧σ 7 = .slice aU L.length cU∧Q0 w (Qp p { m with P:=Vs m.P L,objs:=m.objs.map (Qd L) }::NL (.slice aU L.length cU) L::fr)) ?_ ?_
 ·refine QS ?_;refine Qi (fun ms σ w z=>ms=[]∧∃ i:Nat,i≤m.objs.length∧z=m.objs.length - i∧σ 0=pp p∧σ 7 = .slice aU L.length cU∧σ 8 = .int .i64 i∧Q0 w (Qp p { m with P:=Vs m.P L,objs:=YC (Qd L) i m.objs }::NL (.slice aU L.length cU) L::fr)) (m:=m.objs.length) ⟨rfl,0,by omega,by omega,rfl,rfl,rfl,H⟩ ?_;clear H;rintro ms σ w z ⟨rfl,i,hi,rfl,g0,g7,g8,H⟩;rw[Q1 g0,Q1 g7,Q1 g8];have hml:=Wf (Qd L) i m.objs;by_cases hlt:i < m.objs.length
  ·have hx:=getElem?_eq_getElem hlt;generalize m.objs[i]=x at hx;have hxi:({ m with P:=Vs m.P L,objs:=YC (Qd L) i m.objs }:MS).objs[i]? = some x:=P9 hx;obtain⟨t,lc,aL,cL,bO,cO,s,ptrs,qq,vw,vk,vt,rest,hmm,h2,hp,H,hclose⟩:=GN H hxi;dsimp only at H hclose;rw[hml] at H hclose;have hset:YC (Qd L) (i+1) m.objs=(YC (Qd L) i m.objs).set i (Qd L x):=(P8 hx).symm;have hw':V6 { m with P:=Vs m.P L,objs:=(YC (Qd L) i m.objs).set i (Qd L x) }:=by rw[← hset];exact JG hm L L (i+1)
   refine KF H ?_;refine Qh rfl (fun h=>QR ?_) (fun h=>absurd (show ((i:Nat):Int) < ((m.objs.length:Nat):Int) by omega) h);refine Ry H ?_;refine R6 H ?_;refine Jd ?_;refine Q5 rfl (QW H rfl hp rfl ?_);refine Jv ?_;refine Gg H ?_;replace H:=Js [10,0,0,0,0,0,0,0,0,0,0] 0 H;refine Jc rfl rfl (gp aU cU L x.region hUl H) ?_;clear H;rintro v w ⟨rfl,H⟩;replace H:=Js [1,1,1,1,1,1,1,1,1,1,0] 0 H;by_cases hin:x.region∈L
   ·rw[decide_eq_true hin];refine BL H ?_;refine VE rfl ?_;refine J9 H ?_;refine Jd ?_;refine Q5 rfl (QW H rfl hp rfl ?_);refine GK H ?_;clear H;intro w H;refine Q6 ?_;have hxx:Qd L x={ x with gone:=true }:=by unfold Qd;rw[if_pos hin]
    rw[hxx] at hset hw';replace H:Q0 w (pts qq (Xs vw vk vt { x with gone:=true })::_):=H;replace H:=hclose _ _ _ hw' H;rw[← hset] at H;refine VG H ?_;exact⟨_,⟨rfl,i+1,hlt,rfl,rfl,rfl,Qa (by omega),H⟩,by omega⟩
   ·rw[decide_eq_false hin];refine BL H ?_;refine VY rfl (QR ?_);have hxx:Qd L x=x:=by unfold Qd;rw[if_neg hin]
    rw[hxx] at hset hw';replace H:=hclose _ _ _ hw' H;rw[← hset] at H;refine VG H ?_;exact⟨_,⟨rfl,i+1,hlt,rfl,rfl,rfl,Qa (by omega),H⟩,by omega⟩
  ·obtain rfl:i=m.objs.length:=by omega
   obtain⟨t,lc,oc,aL,cL,aO,cO,hmm,h2,h3,hl1,hl2,H⟩:=ZP H;dsimp only at H;rw[hml] at H;refine KF H ?_;refine Qh rfl (fun h=>absurd (show ((m.objs.length:Nat):Int) < ((m.objs.length:Nat):Int) from h) (by omega)) (fun h=>Qj ?_);rw[← hml] at H;replace H:=Yv (m:={ m with P:=Vs m.P L,objs:=YC (Qd L) m.objs.length m.objs }) hmm h2 h3 H;rw[JZ] at H;exact⟨rfl,rfl,rfl,rfl,H⟩
 clear H;rintro ms σ w ⟨rfl,g0,g7,H⟩;rw[Q1 g0,Q1 g7];have hmG:=JG hm L L m.objs.length;rw[JZ] at hmG;obtain⟨t,lc,oc,aL,cL,aO,cO,_,h2,h3,hl1,hl2,H⟩:=ZP H;dsimp only at H h2 h3 hl2;have hGl:(m.objs.map (Qd L)).length=m.objs.length:=length_map _;have hfm:(Xx m L).objs=(m.objs.map (Qd L)).map (ZT (m.objs.map (Qd L))):=rfl
 have hGok:∀ x∈m.objs.map (Qd L),Gj m.lays m.objs.length x:=fun x hx=>by
  have:=hmG.objs x hx
  rwa [show ({ m with P:=Vs m.P L,objs:=m.objs.map (Qd L) }:MS).objs.length=m.objs.length from hGl] at this
 have hsz:∀ x∈m.objs.map (Qd L),x.w.length < 8192:=fun x hx=>by
  obtain⟨o,ho⟩:=getElem?_of_mem hx;exact RN (w:=hmG) ho
 rw[hGl] at H hl2;generalize m.objs.map (Qd L)=G at H h3 hGl hfm hGok hsz
 let F:OC→OC:=fun y=>{ y with ob:=ZT G y.ob }
 have hF:∀ y,F y={ y with ob:=ZT G y.ob }:=fun _=>rfl;clear_value F;replace H:=Js [5,4,0,0,0,0] 0 H;rw[← FS F oc] at H;rw[FS] at H;refine J6 H ?_;refine Qm (fun ms σ w=>ms=[]∧σ 7 = .slice aU L.length cU∧Q0 w (star ((oc.map F).map Z8)::QC 267 1 (.slice aO m.objs.length cO) (oc.map fun x=>pp x.ptr)::pts p (row 56 [pp t,.slice aL m.lays.length cL,.slice aO m.objs.length cO])::Vb t (Vs m.P L)::QC 164 4 (.slice aL m.lays.length cL) (VF lc)::star (lc.map YY)::NL (.slice aU L.length cU) L::fr)) ?_ ?_
 ·refine QS ?_;refine Qi (fun ms σ w z=>ms=[]∧∃ i:Nat,i≤m.objs.length∧z=m.objs.length - i∧σ 0=pp p∧σ 7 = .slice aU L.length cU∧σ 10 = .int .i64 i∧Q0 w (star ((YC F i oc).map Z8)::QC 267 1 (.slice aO m.objs.length cO) (oc.map fun x=>pp x.ptr)::pts p (row 56 [pp t,.slice aL m.lays.length cL,.slice aO m.objs.length cO])::Vb t (Vs m.P L)::QC 164 4 (.slice aL m.lays.length cL) (VF lc)::star (lc.map YY)::NL (.slice aU L.length cU) L::fr)) (m:=m.objs.length) ⟨rfl,0,by omega,by omega,rfl,rfl,rfl,by rw[FS];exact H⟩ ?_;clear H;rintro ms σ w z ⟨rfl,i,hi,rfl,g0,g7,g10,H⟩;rw[Q1 g0,Q1 g7,Q1 g10];refine KF H ?_;refine Qh rfl (fun h=>QR ?_) (fun h=>Qj ?_)
  ·have hlt:i < m.objs.length:=by omega
   have hy:=getElem?_eq_getElem (show i < oc.length by omega);generalize oc[i]=y at hy;obtain⟨qq,vw,vk,vt,x⟩:=y;have hxG:G[i]? = some x:=by rw[← h3,getElem?_map,hy];rfl
   obtain⟨_,_,hkw,htw,hgo⟩:=hGok x (mem_of_getElem? hxG);have hkt:x.kind.length=x.to.length:=by omega
   have hsx:=hsz x (mem_of_getElem? hxG);have hyK:=P9 (f:=F) hy;obtain⟨rest,Hv,hno⟩:=JU hyK H;dsimp only at Hv;obtain⟨ak,ck,rfl⟩:=QD (m:=x.kind.length) Hv.drop.drop (QE _) (by decide);obtain⟨at',ct,rfl⟩:=QD (m:=x.kind.length) Hv.drop.drop.drop (by rw[QE,hkt]) (by decide);clear Hv hno rest;obtain⟨bO,sO,rfl,H,hclO⟩:=Qw H.swap (by omega)
   have hpt:∀ (k:Nat) (y:OC),oc[k]? = some y→((oc.map fun x=>pp x.ptr)++sO)[0+k*1]? = some (pp y.ptr):=fun k y hk=>by
    have:=(List.getElem?_eq_some_iff.1 hk).1;rw[Nat.zero_add,Nat.mul_one,getElem?_append_left (by rw[length_map];exact this),getElem?_map,hk];rfl
   refine A6 H ?_;refine Jd ?_;refine Q5 rfl (QW H rfl (hpt i _ hy) rfl ?_);refine J0 H ?_;refine VJ H ?_
   have hset0:(YC F i oc).set i ⟨qq,vw,.slice ak x.kind.length ck,.slice at' x.kind.length ct,YD G 0 x⟩=YC F i oc:=by
    rw[gm hkt];apply ext_getElem?;intro k;rw[getElem?_set];split
    ·rename_i hk;subst hk;rw[if_pos (by rw[Wf];omega),hyK]
    ·rfl
   have hFy:F ⟨qq,vw,.slice ak x.kind.length ck,.slice at' x.kind.length ct,x⟩=⟨qq,vw,.slice ak x.kind.length ck,.slice at' x.kind.length ct,YD G x.kind.length x⟩:=by rw[hF,gn G hkt]
   have hstep:=P8 (f:=F) hy;rw[hFy] at hstep;rw[← hset0] at H;refine J7 H ?_;refine Qm (fun ms σ w=>ms=[]∧σ 0=pp p∧σ 7 = .slice aU L.length cU∧σ 10 = .int .i64 i∧Q0 w (star (((YC F i oc).set i ⟨qq,vw,.slice ak x.kind.length ck,.slice at' x.kind.length ct,YD G x.kind.length x⟩).map Z8)::pts bO (row 267 ((oc.map fun x=>pp x.ptr)++sO))::pts p (row 56 [pp t,.slice aL m.lays.length cL,.slice (some ⟨bO,0,none⟩) m.objs.length cO])::Vb t (Vs m.P L)::QC 164 4 (.slice aL m.lays.length cL) (VF lc)::star (lc.map YY)::NL (.slice aU L.length cU) L::fr)) ?_ ?_
   ·refine QS ?_;refine Qi (fun ms σ w z=>ms=[]∧∃ j:Nat,j≤x.kind.length∧z=x.kind.length - j∧σ 0=pp p∧σ 7 = .slice aU L.length cU∧σ 10 = .int .i64 i∧σ 11=pp qq∧σ 12 = .int .i64 j∧Q0 w (pts bO (row 267 ((oc.map fun x=>pp x.ptr)++sO))::star (((YC F i oc).set i ⟨qq,vw,.slice ak x.kind.length ck,.slice at' x.kind.length ct,YD G j x⟩).map Z8)::pts p (row 56 [pp t,.slice aL m.lays.length cL,.slice (some ⟨bO,0,none⟩) m.objs.length cO])::Vb t (Vs m.P L)::QC 164 4 (.slice aL m.lays.length cL) (VF lc)::star (lc.map YY)::NL (.slice aU L.length cU) L::fr)) (m:=x.kind.length) ⟨rfl,0,by omega,by omega,rfl,rfl,rfl,rfl,rfl,H⟩ ?_;clear H;rintro ms σ w z ⟨rfl,j,hj,rfl,g0,g7,g10,g11,g12,H⟩;rw[Q1 g0,Q1 g7,Q1 g10,Q1 g11,Q1 g12];have Hc:=H.swap
    have hcur:((YC F i oc).set i ⟨qq,vw,.slice ak x.kind.length ck,.slice at' x.kind.length ct,YD G j x⟩)[i]? = some ⟨qq,vw,.slice ak x.kind.length ck,.slice at' x.kind.length ct,YD G j x⟩:=by
     rw[getElem?_set_self (by rw[Wf];omega)]
    obtain⟨rest,H,hcv⟩:=JU hcur Hc;dsimp only at H hcv;obtain⟨hgk,hgt⟩:=gj G j hkt;refine KF H ?_;refine Qh rfl (fun h=>QR ?_) (fun h=>Qj ?_)
    ·have hjl:j < x.kind.length:=by omega
     have ha:=getElem?_eq_getElem hjl;have hb:=getElem?_eq_getElem (show j < x.to.length by omega);generalize x.kind[j]=a at ha;generalize x.to[j]=b at hb;obtain⟨hga,hgb⟩:=gk (G:=G) ha hb;replace H:=Js [2,0,0,0] 0 H;obtain⟨bk,sk,rfl,H,_,_,hck⟩:=Yx H (by omega);replace H:=Js [3,0,0,0] 0 H;obtain⟨bt,st,rfl,H,_,_,hct⟩:=Yx H (by omega)
     have hback:∀ (w':World) (l':List Q2) (k' t':List Nat),k'.length=x.kind.length→t'.length=x.kind.length→Q0 w' (pts bt (row 3 (QA t'++st))::pts bk (row 3 (QA k'++sk))::pts qq (Xs vw (.slice (some ⟨bk,0,none⟩) x.kind.length ck) (.slice (some ⟨bt,0,none⟩) x.kind.length ct) (YD G j x))::UL vw (YD G j x).w::star rest::l')→Q0 w' (star (((YC F i oc).set i ⟨qq,vw,.slice (some ⟨bk,0,none⟩) x.kind.length ck,.slice (some ⟨bt,0,none⟩) x.kind.length ct,{ YD G j x with kind:=k',to:=t' }⟩).map Z8)::l'):=by
      intro w' l' k' t' e1 e2 H;replace H:=hct _ _ (QA t') (by rw[QE,QE];omega) H;replace H:=Js [1,0,0,0] 0 H;replace H:=hck _ _ (QA k') (by rw[QE,QE];omega) H;replace H:=Js [2,2,0,0] 0 H;have H:=hcv w' l' { YD G j x with kind:=k',to:=t' } H;rw[set_set] at H;exact H
     clear hct hck hcv Hc;refine C2 H ?_;clear H;intro w H;refine X7 H ?_;refine Ja 4 ?_;refine Ji 5 ?_;refine Vg 6 [] H rfl (Q9.none rfl) rfl (GW hga) (by kernel_rfl) ?_;refine Ja 7 ?_;refine Ja 8 ?_;by_cases hk2:a=2
     ·rw[show (((a:Nat):Int) == 2)=true by rw[hk2];rfl]
      have hbl:b < m.objs.length:=by
       have:=hgo j (by rw[ha,hk2]);rw[getD_eq_getElem?_getD,hb] at this;exact this
      have hyb:=getElem?_eq_getElem (show b < oc.length by omega);generalize oc[b]=yb at hyb
      obtain⟨zb,hzb,hzp,hzg⟩:∃ zb:OC,((YC F i oc).set i ⟨qq,vw,.slice (some ⟨bk,0,none⟩) x.kind.length ck,.slice (some ⟨bt,0,none⟩) x.kind.length ct,YD G j x⟩)[b]? = some zb∧zb.ptr=yb.ptr∧zb.ob.gone=yb.ob.gone:=by
       rw[getElem?_set];by_cases hib:i=b
       ·subst hib;rw[if_pos rfl,if_pos (by rw[Wf];omega)];rw[hy] at hyb;injection hyb with hyb
        subst hyb;exact⟨_,rfl,rfl,rfl⟩
       ·rw[if_neg hib,We,hyb];refine⟨_,rfl,?_,?_⟩ <;> dsimp only <;> split
        ·rw[hF]
        ·rfl
        ·rw[hF];rfl
        ·rfl
      have hGb:G[b]? = some yb.ob:=by rw[← h3,getElem?_map,hyb];rfl
      have hhit:YV G a b=yb.ob.gone:=by
       unfold YV;rw[hGb,hk2];rfl
      have Hc:=hback _ _ _ _ hgk hgt H;obtain⟨restb,Hb,_⟩:=JU hzb Hc;have hpb:=hpt b yb hyb;rw[← hzp] at hpb;rw[← hzg] at hhit;refine Bb H ?_;refine Jl 12 [] H ?_;refine Ja 13 ?_;refine Ja 14 ?_;refine Jf 15 ?_;refine Jl 16 [] H ?_;refine Ja 17 ?_;refine Ji 18 ?_;refine Vg 19 [] H rfl (Q9.of rfl rfl rfl) rfl (GW hgb) (by kernel_rfl) ?_;refine Ji 20 ?_;refine Vg 21 [] H rfl (Q9.of rfl rfl rfl) rfl hpb (by kernel_rfl) ?_;refine Ja 22 ?_;refine Jf 23 ?_;refine Vg 24 [] Hb rfl (Q9.of rfl rfl rfl) rfl rfl (by kernel_rfl) ?_;refine Ja 25 ?_;refine Fk (by kernel_rfl) (Vc.cons (.inr (Q0.at Hb)) (by repeat first|exact .nil|refine .cons (.inr H.at) ?_|refine .cons (.inr H.mp) ?_|refine .cons (.inl (by kernel_rfl)) ?_)) ?_;clear Hb Hc;cases hgn:zb.ob.gone with
      | true=>
       rw[hgn] at hhit
       repeat refine Q7 ?_
       refine VE rfl ?_
       repeat refine Q7 ?_
       refine QG ?_;refine Jv ?_;refine Jv ?_;refine Q5 rfl (V7 rfl rfl ?_);refine Q5 rfl (QW H rfl rfl rfl ?_);refine Jv ?_;refine Jd ?_;refine Q5 rfl (Yh H rfl rfl inferInstance rfl (by simp only[length_append,QE];omega) rfl ?_);clear H;intro w H;rw[Int.toNat_natCast,Ao (v:=1) (x:=1) (by omega) rfl] at H;refine EY H ?_;refine Jd ?_;refine Q5 rfl (Yh H rfl rfl inferInstance rfl (by simp only[length_append,QE];omega) rfl ?_);clear H;intro w H;rw[Int.toNat_natCast,Ao (v:=0) (x:=0) (by omega) rfl] at H;refine Q6 ?_;replace H:=hback _ _ _ _ (by rw[length_set];exact hgk) (by rw[length_set];exact hgt) H;rw[gl ha hb hhit] at H;refine VG H ?_;exact⟨_,⟨rfl,j+1,hjl,rfl,rfl,rfl,rfl,rfl,Qa (by omega),H.swap⟩,by omega⟩
      | false=>
       rw[hgn] at hhit;refine V8 H ?_;replace H:=hback _ _ _ _ hgk hgt H;replace H:Q0 w (star (((YC F i oc).set i ⟨qq,vw,.slice (some ⟨bk,0,none⟩) x.kind.length ck,.slice (some ⟨bt,0,none⟩) x.kind.length ct,YD G j x⟩).map Z8)::_):=H;rw[PQ ha hb (by rw[hhit];decide)] at H;refine VG H ?_;exact⟨_,⟨rfl,j+1,hjl,rfl,rfl,rfl,rfl,rfl,Qa (by omega),H.swap⟩,by omega⟩
     ·rw[show (((a:Nat):Int) == 2)=false by rw[beq_eq_false_iff_ne];omega]
      have hhit:¬ YV G a b=true:=by
       unfold YV;rw[show (a == 2)=false by rw[beq_eq_false_iff_ne];exact hk2];simp
      refine E6 H ?_;refine Jn 12 ?_;refine Jn 13 ?_;refine E7 H ?_;refine Jn 24 ?_;refine Ja 25 ?_;refine Jx H ?_;refine V8 H ?_;replace H:=hback _ _ _ _ hgk hgt H;replace H:Q0 w (star (((YC F i oc).set i ⟨qq,vw,.slice (some ⟨bk,0,none⟩) x.kind.length ck,.slice (some ⟨bt,0,none⟩) x.kind.length ct,YD G j x⟩).map Z8)::_):=H;rw[PQ ha hb hhit] at H;refine VG H ?_;exact⟨_,⟨rfl,j+1,hjl,rfl,rfl,rfl,rfl,rfl,Qa (by omega),H.swap⟩,by omega⟩
    ·obtain rfl:j=x.kind.length:=by omega
     exact⟨rfl,rfl,rfl,rfl,rfl,Hc⟩
   clear H;rintro ms σ w ⟨rfl,g0,g7,g10,H⟩;rw[Q1 g0,Q1 g7,Q1 g10];rw[hstep] at H;replace H:=(hclO _ _ H.swap).swap;refine VG H ?_;exact⟨_,⟨rfl,i+1,hlt,rfl,rfl,rfl,Qa (by omega),H⟩,by omega⟩
  ·obtain rfl:i=oc.length:=by omega
   rw[JZ] at H;exact⟨rfl,rfl,rfl,H⟩
 clear H;rintro ms σ w ⟨rfl,g7,H⟩;rw[Q1 g7];replace H:=Js [2,2,2,2,1,0] 0 H
 have hpp:(oc.map fun x=>pp x.ptr)=((oc.map F).map fun x=>pp x.ptr):=by
  rw[map_map];congr 1
  funext y
  show pp y.ptr=pp (F y).ptr;rw[hF]
 rw[hpp] at H
 have hob:(oc.map F).map (·.ob)=G.map (ZT G):=by
  have e1:(oc.map F).map (·.ob)=oc.map (fun y=>ZT G y.ob):=by
   rw[map_map];congr 1
   funext y
   show (F y).ob=_;rw[hF]
  have e2:(oc.map (·.ob)).map (ZT G)=oc.map (fun y=>ZT G y.ob):=by
   rw[map_map];rfl
  rw[e1,← e2,h3]
 have H:=Yv (m:=Xx m L) (fW hm L) h2 (by rw[hfm];exact hob) H;refine VG H ?_;exact Q3 (Jy H.swap rfl fun w' H' => .inr ⟨rfl,_,rfl,H'⟩)
theorem gr {c:List Value} {o n:Nat} {L:List Int} (h:QZ c o n (Qc L)) {i:Nat} {x:Int} (hi:L[i]? = some x):c[o+i*1]? = some (.int .i64 x):=by
 rw[Nat.mul_one];refine h.get i _ ?_;unfold Qc;rw[getElem?_map,hi];rfl
theorem PZ [Q4] (p c mo:Nat) (a:Option Addr) (cap:Nat) (told:List (Nat×Nat)) (hlen:told.length≤1000000) (vL:Value) (L:List Int) (hL:L.length≤1000000) {w:World} {fr:List Q2} (hr:Vh fr vL L.length 1 (Qc L)) (H:Q0 w (Vl p c mo (.slice a told.length cap)::Qz (.slice a told.length cap) told::fr)) :
  Calls Tryz.prog 12 #[pp p,vL] w (ret fun v w'=>∃ (ys:List ((Nat×Nat)×Int)) (vt vo:Value),v = .tuple #[vt,vo]∧ys.length=L.length∧(∀ y∈ys,Rd told y)∧Q0 w' (Qz vt (ys.map (·.1))::IL vo (ys.map (·.2))::Vl p c mo (.slice a told.length cap)::Qz (.slice a told.length cap) told::fr)):=by
 obtain⟨h0,adL,capL,rfl,hrd⟩:=hr;refine QV Tryz.func12 rfl (by kernel_rfl) ?_;refine J3 H ?_;refine VJ H ?_;refine Wz H ?_;refine Qi (fun ms σ w z=>ms=[]∧∃ (i:Nat) (ys:List ((Nat×Nat)×Int)) (vt vo:Value),i≤L.length∧z=L.length - i∧ys.length=i∧(∀ y∈ys,Rd told y)∧σ 0=pp p∧σ 6=vt∧σ 7=vo∧σ 11 = .slice adL L.length capL∧σ 12 = .int .i64 L.length∧σ 13 = .int .i64 i∧Q0 w (Qz vt (ys.map (·.1))::IL vo (ys.map (·.2))::Vl p c mo (.slice a told.length cap)::Qz (.slice a told.length cap) told::fr)) (m:=L.length) ⟨rfl,0,[],_,_,by omega,by omega,rfl,fun y hy=>(by cases hy),rfl,rfl,rfl,rfl,rfl,rfl,Yn (Yn H)⟩ ?_;clear H;rintro ms σ w z ⟨rfl,i,ys,vt,vo,hi,rfl,hys,hch,g0,g6,g7,g11,g12,g13,H⟩;obtain⟨at',mt,ct,rfl⟩:=Qq H;obtain⟨ao,mo',co,rfl⟩:=Qq H.drop;rw[Q1 g0,Q1 g6,Q1 g7,Q1 g11,Q1 g12,Q1 g13];refine J6 H ?_;refine Qh rfl (fun h=>QR ?_) (fun h=>Qj ?_)
 ·have hlt:i < L.length:=by omega
  have hy:=getElem?_eq_getElem hlt;generalize L[i]=x at hy
  rcases hrd with hz|⟨b,o,E,fz,cc,rfl,hA,hrd⟩
  ·omega
  haveI:=hA;have hx:=gr hrd hy;refine Y9 H ?_;refine Jd ?_;refine Q5 rfl (QW H rfl hx rfl ?_);refine J0 H ?_;refine ZU H ?_;refine Ul H ?_;by_cases ht:told=[]
  ·subst ht;rw[show ((([]:List (Nat×Nat)).length:Int) == 0)=true from rfl];refine VR H ?_;refine YQ H ?_;refine BD H ?_;clear H;intro b25 w H;replace H:=Js [1,0] 0 H;refine Q5 rfl (YF H rfl rfl (by repeat first|exact .nil _|apply QZ.cons rfl) rfl (by decide) (by rw[Kl,length_map];simp only[length_cons,length_nil];omega) rfl rfl ?_);clear H;intro v26 w H;obtain⟨a26,m26,c26,rfl⟩:=Qq H;refine Jv ?_;refine GX H ?_;clear H;intro b28 w H;replace H:=Js [3,0,0,0] 0 H;refine Q5 rfl (YF H rfl rfl (by repeat first|exact .nil _|apply QZ.cons rfl) rfl (by decide) (by rw[Va,length_map];simp only[length_cons,length_nil];omega) rfl rfl ?_);clear H;intro v29 w H;obtain⟨a29,m29,c29,rfl⟩:=Qq H;refine J2 H ?_;replace H:=Js [1,2,1,0] 0 H;replace H:=H.drop.drop;have e1:ZB (ys.map (·.1))++[.int .i64 1,.int .i64 1]=ZB ((ys++[(((1,1),-1):(Nat×Nat)×Int)]).map (·.1)):=by rw[map_append,Iw];rfl
   have e2:Qc (ys.map (·.2))++[.int .i64 (-1)]=Qc ((ys++[(((1,1),-1):(Nat×Nat)×Int)]).map (·.2)):=by rw[map_append,Ab];rfl
   rw[e1,e2] at H;refine Qj ?_;refine J3 H ?_;refine⟨_,⟨rfl,i+1,ys++[((1,1),-1)],_,_,hlt,rfl,by simp[hys],fun y hy=>?_,rfl,rfl,rfl,rfl,rfl,Qa (by omega),H⟩,by omega⟩
   rcases mem_append.1 hy with hy|hy
   ·exact hch y hy
   ·rw[mem_singleton] at hy;subst hy;exact .inr ⟨rfl,rfl⟩
  ·have hlp:0 < told.length:=length_pos_iff.2 ht;rw[show ((told.length:Int) == 0)=false by rw[beq_eq_false_iff_ne];omega];refine A5 H ?_;refine Q5 rfl (Fu rfl rfl ?_);refine YP H ?_;refine Gg H ?_;refine Q5 rfl (ZY rfl rfl ?_);refine Q5 rfl (Fu rfl rfl ?_)
   obtain⟨K,hK⟩:∃ K:Nat,IntKind.u64.wrap x=K:=⟨(IntKind.u64.wrap x).toNat,by
    have:0≤IntKind.u64.wrap x:=Int.emod_nonneg _ (by decide);omega⟩
   have e1:IntKind.u64.wrap (told.length:Int)=(told.length:Int):=Int.emod_eq_of_lt (by omega) (by show (told.length:Int) < 18446744073709551616;omega);rw[hK,e1];have hmod:=Nat.mod_lt K hlp
   refine UV (v := .int .u64 ((K % told.length:Nat):Int)) (by
    show (if IntKind.u64=IntKind.u64 then (if (told.length:Int)=0 then none else some (Value.int IntKind.u64 (Int.tmod (K:Int) (told.length:Int)))) else none)=_;rw[if_pos rfl,if_neg (by omega),Int.tmod_eq_emod_of_nonneg (by omega),Int.natCast_emod]) rfl ?_
   refine Q5 rfl (Fu rfl rfl ?_);rw[Qb (x:=((K % told.length:Nat):Int)) (by omega) (by omega)];refine J0 H ?_;generalize K % told.length=n at hmod;have hn:=getElem?_eq_getElem hmod;generalize told[n]=xy at hn;obtain⟨tx,ty⟩:=xy;replace H:=Js [3,0,0,0] 0 H;obtain⟨bT,sT,rfl,H,hcl⟩:=Qw H hlp;refine Bq H ?_;refine Jd ?_;refine Q5 rfl (VH H rfl (Xy hn) rfl ?_);refine GX H ?_;clear H;intro b48 w H;replace H:=Js [2,0,0] 0 H;refine Q5 rfl (YF H rfl rfl (by repeat first|exact .nil _|apply QZ.cons rfl) rfl (by decide) (by rw[Kl,length_map];simp only[length_cons,length_nil];omega) rfl rfl ?_);clear H;intro v49 w H;obtain⟨a49,m49,c49,rfl⟩:=Qq H;refine YP H ?_;refine GX H ?_;clear H;intro b52 w H;replace H:=Js [4,0,0,0,0] 0 H;refine Q5 rfl (YF H rfl rfl (by repeat first|exact .nil _|apply QZ.cons rfl) rfl (by decide) (by rw[Va,length_map];simp only[length_cons,length_nil];omega) rfl rfl ?_);clear H;intro v53 w H;obtain⟨a53,m53,c53,rfl⟩:=Qq H;refine J2 H ?_;replace H:=Js [4,2,0,2,0,0] 0 H;replace H:=hcl _ _ H;replace H:=Js [4,4,1,1,1,0] 0 H;replace H:=H.drop.drop;have e2:ZB (ys.map (·.1))++[.int .i64 ((tx:Nat):Int),.int .i64 ((ty:Nat):Int)]=ZB ((ys++[(((tx,ty),(n:Int)):(Nat×Nat)×Int)]).map (·.1)):=by rw[map_append,Iw];rfl
   have e3:Qc (ys.map (·.2))++[.int .i64 (n:Int)]=Qc ((ys++[(((tx,ty),(n:Int)):(Nat×Nat)×Int)]).map (·.2)):=by rw[map_append,Ab];rfl
   rw[e2,e3] at H;refine J3 H ?_;refine⟨_,⟨rfl,i+1,ys++[((tx,ty),(n:Int))],_,_,hlt,rfl,by simp[hys],fun y hy=>?_,rfl,rfl,rfl,rfl,rfl,Qa (by omega),H⟩,by omega⟩
   rcases mem_append.1 hy with hy|hy
   ·exact hch y hy
   ·rw[mem_singleton] at hy;subst hy;exact .inl ⟨n,rfl,hn⟩
 ·obtain rfl:i=L.length:=by omega
  refine W9 H ?_;exact Q3 (Jy H rfl fun w' H'=>⟨ys,_,_,rfl,hys,hch,H'⟩)
theorem JX [Q4] (p:Nat) (s:CS) (region:Int) {w:World} {fr:List Q2} (H:Q0 w (QU p s::fr)) :
  Calls Tryz.prog 36 #[pp p,.int .i64 region] w (ret fun v w'=>v = .int .i64 (if (Q8 s.par region).isSome then 0 else 15)∧Q0 w' (QU p s::fr)):=by
 obtain⟨q,mem,hw,hm,H⟩:=Vv H;replace H:=Js [5,0,0,0,0,0] 0 H;refine call (FK p q s.last s.par region H) ?_;clear H;rintro v w ⟨rfl,H⟩;replace H:=Js [1,1,1,1,1,0] 0 H;exact⟨rfl,VV hw hm H⟩
theorem PG [Q4] (p:Nat) (s:CS) (region:Int) (hf:Q8 s.par region=none) {w:World} {fr:List Q2} (H:Q0 w (QU p s::fr)) :
  Calls Tryz.prog 13 #[pp p,.int .i64 region] w (ret fun v w'=>v = .tuple #[.slice none 0 0,.int .i64 15]∧Q0 w' (QU p s::fr)):=by
 refine QV Tryz.func13 rfl (by kernel_rfl) ?_;refine ZF H ?_;clear H;intro b2 w H;refine J2 H ?_;replace H:=H.swap;refine Xh H ?_;refine Jc rfl rfl (JX p s region H) ?_;clear H;rintro v w ⟨rfl,H⟩;rw[hf];refine WG H ?_;exact Q3 (Jy H rfl fun w' H'=>⟨rfl,H'.swap.drop⟩)
theorem PU [Q4] (p:Nat) (s:CS) (region:Int) (hf:Q8 s.par region=none) {w:World} {fr:List Q2} (H:Q0 w (QU p s::fr)) :
  Calls Tryz.prog 14 #[pp p,.int .i64 region] w (ret fun v w'=>v = .tuple #[.int .i64 0,.int .i64 15]∧Q0 w' (QU p s::fr)):=by
 refine QV Tryz.func14 rfl (by kernel_rfl) ?_;refine ZF H ?_;clear H;intro b2 w H;refine J2 H ?_;replace H:=H.swap;refine Xh H ?_;refine Jc rfl rfl (JX p s region H) ?_;clear H;rintro v w ⟨rfl,H⟩;rw[hf];refine WG H ?_;exact Q3 (Jy H rfl fun w' H'=>⟨rfl,H'.swap.drop⟩)
theorem PX [Q4] (p:Nat) (s:CS) (region:Int) (l:Value) (hf:Q8 s.par region=none) {w:World} {fr:List Q2} (H:Q0 w (QU p s::fr)) :
  Calls Tryz.prog 15 #[pp p,.int .i64 region,l] w (ret fun v w'=>v = .tuple #[.int .i64 0,.int .i64 15]∧Q0 w' (QU p s::fr)):=by
 refine QV Tryz.func15 rfl (by kernel_rfl) ?_;refine Uo H ?_;refine Jc rfl rfl (JX p s region H) ?_;clear H;rintro v w ⟨rfl,H⟩;rw[hf];refine WG H ?_;exact Q3 (Jy H rfl fun w' H'=>⟨rfl,H'⟩)
theorem gu [Q4] (p:Nat) (m:MS) (r:Int) (hl:Vw m.P r=false) {w:World} {fr:List Q2} (H:Q0 w (Qp p m::fr)) :
  Calls Tryz.prog 91 #[pp p,.int .i64 r] w (ret fun v w'=>v = .tuple #[.int .i64 0,.int .i64 15]∧Q0 w' (Qp p m::fr)):=by
 obtain⟨t,lc,oc,aL,cL,aO,cO,h1,h2,h3,h4,h5,H⟩:=ZP H;refine QV Tryz.func91 rfl (by kernel_rfl) ?_;refine C5 H ?_;replace H:=H.swap;refine Jc rfl rfl (WO t m.P r H) ?_;clear H;rintro v w ⟨rfl,H⟩;rw[hl];refine Bx H ?_;exact Q3 (Jy (Yv h1 h2 h3 H.swap) rfl fun w' H'=>⟨rfl,H'⟩)
@[reducible] def Az (K k A B C:Int) (X:Nat) (vW:Value) (raw:Bool) (i g rg:Int) (vL:Value):List Value:=[.int .i64 K,.int .i64 k,.int .i64 A,.int .i64 B,.int .i64 C,.int .u64 X,vW,.bool raw,.int .i64 i,.int .i64 g,.int .i64 rg,vL]
theorem gw [Q4] (p:Nat) (s:CS) (m:MS) (told:List (Nat×Nat)) (n:Nat) (J:Yb s m told n) (hn:n≤60) (K k A B C i g:Int) (hK3:K≠3) (X:Nat) (hX:X < 18446744073709551616) (vW:Value) (ws:List Nat) (hws:∀ x∈ws,x < 18446744073709551616) (raw:Bool) (rg:Int) (vL:Value) (L:List Int) (hL:L.length≤80)
  {w:World} {fr:List Q2} [hT:YX 0 Lib.deBruijn64tab fr] (hrW:Vh fr vW ws.length 1 (QP ws)) (hrL:Vh fr vL L.length 1 (Qc L)) (H:Q0 w (Ua p s m told::fr)) :
  Calls Tryz.prog 29 #[.agg (Az K k A B C X vW raw i g rg vL).toArray,pp p] w (ret fun v w'=>v = .bool true∧∃ s' m' told',Yb s' m' told' (n+1)∧Q0 w' (Ua p s' m' told'::fr)):=by
 obtain⟨_,adW,capW,rfl,_⟩:=id hrW;obtain⟨_,adL,capL,rfl,_⟩:=id hrL;have hO:=J.O;have hQ:=J.Q;have hlen:=J.R.len;have hOl:=It J.R J.T;have Jn:Yb s m told (n+1):=⟨J.R,J.I,J.T,J.P,J.G,by omega,by omega⟩
 have hgen:∀ (k g:Nat) (e:QQ),s.tab[k]? = some ⟨g,some e⟩→g < 255:=fun k g e hk=>by
  have:=J.G k _ hk;dsimp only at this;omega
 refine QV Tryz.func29 rfl (by kernel_rfl) ?_;refine J8 H ?_;clear H;intro b2 w H;refine Rv H ?_;refine Q6 ?_;refine R7 H ?_;by_cases hK0:K=0
 ·subst hK0;refine VR H ?_;refine YQ H ?_;refine EI H ?_;refine Jc rfl rfl (gX p s m told J.R (by omega) (by omega) k A B C i g X hX _ ws hws raw hrW.there H.swap) ?_;clear H;rintro v w ⟨rfl,s',m',told',R',S',H⟩;refine J0 H ?_;exact Q3 (Jy H.swap.drop rfl fun w' H'=>⟨rfl,s',m',told',J.step R' S',H'⟩)
 rw[show (K == 0)=false by simpa using hK0];refine ZD H ?_;obtain⟨c,mo,a,cap,H⟩:=FH H.swap;obtain⟨_,_,hw,_,_⟩:=Vv H.swap;obtain⟨_,_,_,_,_,_,_,hmw,_⟩:=ZP (H.sel [2,0,0,0] 0);by_cases hK1:K=1
 ·subst hK1;refine VR H ?_;replace H:=Js [1,3,0,0,0] 0 H;refine J1 H ?_;clear H;intro w H;refine HR H ?_;cases hf:Q8 s.par rg with
  | none=>
   have hlv:Vw m.P rg=false:=by rw[← WS J.R,hf];rfl
   refine Jo 6 H ?_;refine Jk rfl rfl (PG c s rg hf H) ?_;clear H;rintro v w ⟨rfl,H⟩;refine UU H ?_;replace H:=Js [3,0,0,0,0] 0 H;refine J1 H ?_;clear H;intro w H;refine Up H ?_;refine Jk rfl rfl (PY mo m rg hOl H) ?_;clear H;rintro v w (⟨_,rfl,H⟩|⟨hl,_⟩)
   case inr=>rw[hlv] at hl;cases hl
   refine EJ H ?_;refine Yy H ?_;replace H:=Yn (E:=3) (k:=1) (Yn (E:=3) (k:=1) H);refine QT rfl rfl rfl (V0 (a:=[]) (b:=[]) rfl rfl (call (IM (.slice none 0 0) (.slice none 0 0) [] [] (by simp) H) ?_));clear H;rintro v w ⟨rfl,H⟩;replace H:=H.drop.drop;refine J2 H ?_;replace H:=Js [2,2,1,0,0] 0 H;exact Q3 (Jy (YB H.drop) rfl fun w' H'=>⟨rfl,s,m,told,Jn,H'⟩)
  | some q=>
   have hid:(Q8 s.par rg).isSome=true:=by rw[hf];rfl
   have hlv:Vw m.P rg=true:=by rw[← WS J.R,hid]
   have hpl:=hw.par.1;refine Jo 6 H ?_;refine Jk rfl rfl (Io c s rg J.T hid J.I hgen H) ?_;clear H;rintro v w ⟨u,L',s',rfl,hL1,hL2,hL3,hL4,hFS,H⟩;obtain⟨hLe,J'⟩:=J.free hmw hid hL1 hL2 hL3 hFS;obtain⟨au,mu,cu,rfl⟩:=Qq H;refine UU H ?_;replace H:=Js [4,0,0,0,0] 0 H;refine J1 H ?_;clear H;intro w H;refine Up H ?_;refine Jk rfl rfl (PY mo m rg hOl H) ?_;clear H;rintro v w (⟨hl,_⟩|⟨_,vl,rfl,H⟩)
   ·rw[hlv] at hl;cases hl
   rw[Cv,← hLe] at H;obtain⟨av,mv,cv,rfl⟩:=Qq H;refine UU H ?_;replace H:=Js [2,0,0] 0 H;refine X5 H ?_;refine Yy H ?_;refine QT rfl rfl rfl (V0 (a:=[]) (b:=[]) rfl rfl (call (IM _ _ L' L' (by omega) H) ?_));clear H;rintro v w ⟨rfl,H⟩;rw[decide_eq_true rfl];replace H:=H.drop.drop;refine J2 H ?_;replace H:=Js [2,2,1,0,0] 0 H;exact Q3 (Jy (YB H.drop) rfl fun w' H'=>⟨rfl,s',_,told,J',H'⟩)
 rw[show (K == 1)=false by simpa using hK1];refine ZD H ?_;by_cases hK2:K=2
 ·subst hK2;refine VR H ?_;replace H:=Js [1,3,0,0,0] 0 H;refine J1 H ?_;clear H;intro w H;refine HR H ?_;cases hf:Q8 s.par rg with
  | none=>
   have hlv:Vw m.P rg=false:=by rw[← WS J.R,hf];rfl
   refine Jo 6 H ?_;refine Jk rfl rfl (PU c s rg hf H) ?_;clear H;rintro v w ⟨rfl,H⟩;refine UU H ?_;replace H:=Js [3,0,0,0,0] 0 H;refine J1 H ?_;clear H;intro w H;refine Up H ?_;refine Jk rfl rfl (gu mo m rg hlv H) ?_;clear H;rintro v w ⟨rfl,H⟩;refine EJ H ?_;refine Gw H ?_;refine J2 H ?_;replace H:=Js [2,2,1,0,0] 0 H;exact Q3 (Jy (YB H.drop) rfl fun w' H'=>⟨rfl,s,m,told,Jn,H'⟩)
  | some q=>
   obtain⟨id,rfl,hid1,hPid,hq0⟩:=(J.R.tree _ _).1 ((Y4 J.R.nd).1 hf);obtain⟨qn,rfl⟩:∃ qn:Nat,q=qn:=⟨q.toNat,by omega⟩;refine Jo 6 H ?_;refine Jk rfl rfl (Oc c s (id:Int) (qn:Int) hf J.T H) ?_;clear H;rintro v w (⟨hz,rfl,H⟩|⟨hz,rfl,s',hM,H⟩)
   ·refine UU H ?_;replace H:=Js [3,0,0,0,0] 0 H;refine J1 H ?_;clear H;intro w H;refine Up H ?_;refine Jk rfl rfl (P6 mo m id (qn:Int) hid1 hPid hq0 H) ?_;clear H;rintro v w (⟨_,rfl,H⟩|⟨hz',_⟩)
    case inr=>exact absurd hz hz'
    refine EJ H ?_;refine Gw H ?_;refine J2 H ?_;replace H:=Js [2,2,1,0,0] 0 H;exact Q3 (Jy (YB H.drop) rfl fun w' H'=>⟨rfl,s,m,told,Jn,H'⟩)
   ·have J':=J.merge hf (by omega) hM;refine UU H ?_;replace H:=Js [3,0,0,0,0] 0 H;refine J1 H ?_;clear H;intro w H;refine Up H ?_;refine Jk rfl rfl (P6 mo m id (qn:Int) hid1 hPid hq0 H) ?_;clear H;rintro v w (⟨hz',_⟩|⟨_,rfl,H⟩)
    ·exact absurd hz' hz
    rw[Int.toNat_natCast] at H;refine UU H ?_;refine Vi H ?_;rw[Ga ((qn:Nat):Int)];refine Bk H ?_;refine J2 H ?_;replace H:=Js [2,2,1,0,0] 0 H;exact Q3 (Jy (YB H.drop) rfl fun w' H'=>⟨rfl,s',_,told,J',H'⟩)
 rw[show (K == 2)=false by simpa using hK2];refine ZD H ?_;rw[show (K == 3)=false by simpa using hK3];refine KB H ?_;replace H:=Js [4,0,0,0,0] 0 H;exact Q3 (Jy (YB H.drop) rfl fun w' H'=>⟨rfl,s,m,told,Jn,H'⟩)
theorem PK {s:CS} {r:Int} {l:List (Nat×Nat)} (h:Za s r l=0):l.length≤64∧Yw s.tab r [] l=0:=by
 unfold Za at h;split at h
 ·cases h
 ·rename_i h1;split at h
  ·rename_i h2;exact absurd h h2
  ·rename_i h2;exact⟨by omega,Classical.not_not.1 h2⟩
theorem gz {m:MS} {r:Int} {os:List Int} (h:GS m r os=0):Z7 m.P r=0:=by
 unfold GS at h;split at h
 ·cases h
 ·rename_i h1;split at h
  ·cases h
  ·split at h
   ·rename_i h2;exact absurd h h2
   ·split at h
    ·cases h
    ·rename_i h3;unfold Z7;rw[if_neg (fun h4=>h1 h4.2),if_neg h3]
theorem hY [Q4] (p:Nat) (m:MS) (r:Nat) (os:List Nat) (al:Option Addr) (cl:Nat) (hd:Z7 m.P (r:Int)=0) (hPl:m.P.length < 100000) (hos:∀ o∈os,o < m.objs.length) (hl:os.length≤64) (OL:List Int) (hOL:OL=os.map fun o:Nat=>(o:Int)) {w:World} {fr:List Q2} (H:Q0 w (Qp p m::IL (.slice al OL.length cl) OL::fr)) :
  Calls Tryz.prog 94 #[pp p,.int .i64 r,.slice al OL.length cl] w (ret fun v w'=>v = .int .i64 m.P.length∧Q0 w' (Qp p (Wb m r os)::IL (.slice al OL.length cl) OL::fr)):=by
 have e:OL.length=os.length:=by rw[hOL,length_map]
 have h:=gc p m r os al cl hd hPl hos hl (w:=w) (fr:=fr) (by rw[Cv,← hOL,← e];exact H);rw[Cv,← hOL,← e] at h;exact h
theorem i6 [Q4] (p:Nat) (s:CS) (m:MS) (told:List (Nat×Nat)) (n:Nat) (J:Yb s m told n) (hn:n≤60) (k A B C i g:Int) (X:Nat) (hX:X < 18446744073709551616) (vW:Value) (ws:List Nat) (hws:∀ x∈ws,x < 18446744073709551616) (raw:Bool) (rg:Int) (vL:Value) (L:List Int) (hL:L.length≤80)
  {w:World} {fr:List Q2} [hT:YX 0 Lib.deBruijn64tab fr] (hrW:Vh fr vW ws.length 1 (QP ws)) (hrL:Vh fr vL L.length 1 (Qc L)) (H:Q0 w (Ua p s m told::fr)) :
  Calls Tryz.prog 29 #[.agg (Az 3 k A B C X vW raw i g rg vL).toArray,pp p] w (ret fun v w'=>v = .bool true∧∃ s' m' told',Yb s' m' told' (n+1)∧Q0 w' (Ua p s' m' told'::fr)):=by
 obtain⟨_,adW,capW,rfl,_⟩:=id hrW;obtain⟨_,adL,capL,rfl,_⟩:=id hrL;have hO:=J.O;have hQ:=J.Q;have hlen:=J.R.len;have hOl:=It J.R J.T;have Jn:Yb s m told (n+1):=⟨J.R,J.I,J.T,J.P,J.G,by omega,by omega⟩
 have hgen:∀ (k g:Nat) (e:QQ),s.tab[k]? = some ⟨g,some e⟩→g < 255:=fun k g e hk=>by
  have:=J.G k _ hk;dsimp only at this;omega
 refine QV Tryz.func29 rfl (by kernel_rfl) ?_;refine J8 H ?_;clear H;intro b2 w H;refine Rv H ?_;refine Q6 ?_;refine R7 H ?_;refine ZD H ?_;obtain⟨c,mo,a,cap,H⟩:=FH H.swap;obtain⟨_,_,hw,_,_⟩:=Vv H.swap;obtain⟨_,_,_,_,_,_,_,hmw,_⟩:=ZP (H.sel [2,0,0,0] 0);refine ZD H ?_;refine ZD H ?_;refine VR H ?_;replace H:=Js [0,2,0,0,0] 0 H;refine R4 H ?_;refine Jc rfl rfl (PZ p c mo a cap told (by omega) _ L (by omega) hrL.there.there.there H) ?_;clear H;rintro v w ⟨ys,vt,vo,rfl,hys,hch,H⟩;generalize hTL:ys.map (·.1)=TL at H;generalize hOL:ys.map (·.2)=OL at H;obtain⟨at',ct,rfl⟩:=QD (m:=TL.length) H (Kl _) (by decide);obtain⟨ao,co,rfl⟩:=QD (m:=OL.length) H.drop (Va _) (by decide);have hl1:TL.length=ys.length:=by rw[← hTL,length_map]
 have hl2:OL.length=ys.length:=by rw[← hOL,length_map]
 refine ZE H ?_;replace H:=Js [4,0,0,0,0] 0 H;refine J1 H ?_;clear H;intro w H;refine Ja 0 ?_;refine Ja 1 ?_;refine Jf 2 ?_;refine Jl 3 [7] H ?_;refine Jf 4 ?_;refine Jl 5 [7] H ?_;refine Ja 6 ?_;cases hf:Q8 s.par rg with
 | none=>
  have hlv:Vw m.P rg=false:=by rw[← WS J.R,hf];rfl
  have hW:GS m rg OL=15:=by unfold GS;rw[if_pos hlv]
  refine Jo 7 H ?_;refine Jk rfl rfl (PX c s rg (.slice at' TL.length ct) hf H) ?_;clear H;rintro v w ⟨rfl,H⟩;refine AH H ?_;replace H:=Js [5,2,0,0,0,0] 0 H;refine J1 H ?_;clear H;intro w H;refine CQ H ?_;refine Jk rfl rfl (FP mo m rg OL ao co (by omega) H) ?_;clear H;rintro v w ⟨rfl,H⟩;rw[hW];refine Xi H ?_;refine KX H ?_;refine Un H ?_;refine X5 H ?_;refine Yy H ?_;refine J2 H ?_;replace H:=Js [6,3,1,2,1,0,0] 0 H;exact Q3 (Jy (YB H.drop.drop.drop) rfl fun w' H'=>⟨rfl,s,m,told,Jn,H'⟩)
 | some q=>
  obtain⟨r,rfl,hr1,hPr,hq0⟩:=(J.R.tree _ _).1 ((Y4 J.R.nd).1 hf);have hid:(Q8 s.par (r:Int)).isSome=true:=by rw[hf];rfl
  have hlast:=J.R.last;have hck:=fE J.R hw hid hch;rw[hTL,hOL] at hck;refine Jo 7 H ?_;refine Jk rfl rfl (Oe c s r hid J.T J.P (by omega) (.slice at' TL.length ct) TL (by omega) H) ?_;clear H;rintro v w (⟨hc,rfl,H⟩|⟨hc,rfl,hroom,H⟩|⟨hc,rfl,Z,s',hZ,hS,H⟩)
  ·refine AH H ?_;replace H:=Js [5,2,0,0,0,0] 0 H;refine J1 H ?_;clear H;intro w H;refine CQ H ?_;refine Jk rfl rfl (FP mo m r OL ao co (by omega) H) ?_;clear H;rintro v w ⟨rfl,H⟩;rw[← hck];refine Xi H ?_;generalize Za s r TL=E at hc hck;refine Zf H ?_;refine VG H ?_;rw[show (((E:Nat):Int) != 0)=true by rw[bne_iff_ne];omega];refine EB H ?_;rw[Ga ((E:Nat):Int)];refine XS H ?_;refine J2 H ?_;replace H:=Js [6,3,1,2,1,0,0] 0 H;exact Q3 (Jy (YB H.drop.drop.drop) rfl fun w' H'=>⟨rfl,s,m,told,Jn,H'⟩)
  ·refine AH H ?_;replace H:=Js [5,2,0,0,0,0] 0 H;refine J1 H ?_;clear H;intro w H;refine CQ H ?_;refine Jk rfl rfl (FP mo m r OL ao co (by omega) H) ?_;clear H;rintro v w ⟨rfl,H⟩;rw[← hck,hc];refine Xi H ?_;refine KX H ?_;refine C7 H ?_;refine Un H ?_;replace H:=Js [2,0,0] 0 H;obtain⟨u,mem,hw2,hm2,H⟩:=Vv H;refine W2 H ?_;refine XO H ?_;refine BN H ?_;replace H:=Js [3,0,0,0] 0 H;refine QT rfl rfl rfl (V0 (a:=[]) (b:=[]) rfl rfl (call (TU u.sp s.size mem s.own H) ?_));clear H;rintro v w ⟨rfl,H⟩;replace H:=Js [1,1,1,0] 0 H;replace H:=VV hw2 hm2 H;refine YT H ?_;refine QT rfl rfl rfl (ZY rfl rfl ?_);refine YT H ?_;have hTO:TL.length=OL.length:=by omega
   rw[show decide (((s.own.length - (s.own.filter (· != 0)).length:Nat):Int) < ((OL.length:Nat):Int))=true from decide_eq_true (by omega)];refine J2 H ?_;replace H:=Js [6,3,2,2,0,0,0] 0 H;exact Q3 (Jy (YB H.drop.drop.drop) rfl fun w' H'=>⟨rfl,s,m,told,Jn,H'⟩)
  ·refine AH H ?_;replace H:=Js [5,2,0,0,0,0] 0 H;refine J1 H ?_;clear H;intro w H;refine CQ H ?_;refine Jk rfl rfl (FP mo m r OL ao co (by omega) H) ?_;clear H;rintro v w ⟨rfl,H⟩;rw[← hck,hc];refine Xi H ?_;refine KX H ?_;refine C7 H ?_;refine Vo H ?_;refine J1 H ?_;clear H;intro w H;refine EC H ?_;refine Du H ?_;refine Jl 7 [11] H ?_;refine Jf 8 ?_;refine Jl 9 [11] H ?_;refine Ja 10 ?_;have hm0:GS m r OL=0:=by rw[← hck];exact hc
   obtain⟨hlT,hc0⟩:=PK hc;rw[← hTL] at hc0 hZ;obtain⟨ho1,ho2,ho3⟩:=gH J.R hch hc0 hZ;have J':=J.split hw hid hS ho3;have hol:(ys.map fun y=>y.2.toNat).length=ys.length:=length_map _;have hOLe:OL=(ys.map fun y=>y.2.toNat).map fun o:Nat=>(o:Int):=by rw[← hOL];exact ho2
   generalize (ys.map fun y=>y.2.toNat)=os at ho1 hOLe J' hol;refine Jo 11 H ?_;refine Jk rfl rfl (hY mo m r os ao co (gz hm0) (by omega) ho1 (by omega) OL hOLe H) ?_;clear H;rintro v w ⟨rfl,H⟩;refine Ja 12 ?_;rw[hlast,Ga ((m.P.length:Nat):Int)];refine AA H ?_;replace H:=Js [6,3,1,2,1,0,0] 0 H;exact Q3 (Jy (YB H.drop.drop.drop) rfl fun w' H'=>⟨rfl,s',_,told,J',H'⟩)
structure YE where
 K:Int
 a:Ac
 rg:Int
 vL:Value
 L:List Int
def Zi (x:YE):List Value:=Az x.K x.a.k x.a.A x.a.B x.a.C x.a.X x.a.vW x.a.raw x.a.i x.a.g x.rg x.vL
def K1 (l:List YE):List Value:=l.flatMap Zi
def Wg (fr:List Q2) (x:YE):Prop:=FJ fr x.a∧Vh fr x.vL x.L.length 1 (Qc x.L)
theorem Wg.there {A:Q2} {fr:List Q2} {x:YE} (h:Wg fr x):Wg (A::fr) x:=⟨⟨h.1.1,h.1.2.1,h.1.2.2.there⟩,h.2.there⟩
theorem i7 (l:List YE):(K1 l).length=l.length*12:=by
 induction l with
 | nil=>rfl
 | cons p L ih=>simp only[K1,Zi,flatMap_cons,length_append,length_cons,length_nil] at ih ⊢;omega
theorem i8 {L:List YE} {i:Nat} {x:YE} (h:L[i]? = some x):∀ j v,(Zi x)[j]? = some v→(K1 L)[i*12+j]? = some v:=by
 induction L generalizing i with
 | nil=>simp at h
 | cons y L ih=>
  intro j v hj;have hj9:j < 12:=(List.getElem?_eq_some_iff.1 hj).1;cases i with
  | zero=>
   simp at h;subst h;show (Zi y++L.flatMap Zi)[0*12+j]? = _;rw[Nat.zero_mul,Nat.zero_add,getElem?_append_left hj9];exact hj
  | succ i=>
   have:=ih (i:=i) (by simpa using h) j v hj;show (Zi y++L.flatMap Zi)[(i+1)*12+j]? = _;rw[getElem?_append_right (by show 12≤_;omega)];show (L.flatMap Zi)[(i+1)*12+j - 12]? = _;rw[show (i+1)*12+j - 12=i*12+j by omega];exact this
theorem PR {c:List Value} {o n:Nat} {L:List YE} (h:QZ c o n (K1 L)) {i:Nat} {x:YE} (hp:L[i]? = some x):QZ c (o+i*12) 12 (Zi x):=
 h.part (es:=Zi x) fun j v hj=>i8 hp j v hj
theorem i9 {i:Nat} (h:i < 9223372036854775807):Value.int .i64 (IntKind.i64.wrap ((i:Int)+1)) = .int .i64 ((i+1:Nat):Int):=by
 rw[Qb (by omega) (by omega)];rfl
theorem sls_rd [Q4] {w:World} {l:List Q2} {E k m cap:Nat} {a:Option Addr} {c:List Value} (hc:c.length=m*k) (H:Q0 w (QC E k (.slice a m cap) c::l)):∃ A:Q2,Q0 w (A::l)∧Vh (A::l) (.slice a m cap) m k c:=by
 by_cases hm:m=0
 ·exact⟨prop True,Q0.prop.2 ⟨trivial,H.drop⟩,hc,a,cap,rfl,.inl hm⟩
 ·obtain⟨b,s,rfl,H,_⟩:=Qw H (by omega);refine⟨_,H,hc,_,cap,rfl,.inr ⟨b,0,E,(0,0),c++s,rfl,inferInstance,?_⟩⟩;rw[← hc];refine QZ.of_get fun j v hj=>?_;rw[Nat.zero_add,getElem?_append_left (List.getElem?_eq_some_iff.1 hj).1];exact hj
theorem iQ [Q4] (v:Value) (l:List Ac) (hl:l.length≤9223372036854775807) {w:World} {fr:List Q2} (hr:Vh fr v l.length 9 (Xz l)) (hok:∀ x∈l,FJ fr x) (H:Q0 w fr) :
  Calls Tryz.prog 27 #[v] w (ret fun r w'=>∃ b:Bool,r = .int .i64 (if b then 1 else 0)∧(b=false→l.length≤60)∧Q0 w' fr):=by
 refine QV Tryz.func27 rfl (by kernel_rfl) ?_;refine VJ H ?_;obtain⟨_,ad,cap,rfl,_⟩:=id hr;refine YQ H ?_;refine Jc rfl rfl (gW _ l hl hr hok H) ?_;clear H;rintro r w ⟨b,rfl,hb,H⟩;refine Q6 ?_;cases b with
 | true=>
  refine YR H ?_;exact Q3 (Jy H rfl fun w' H'=>⟨true,rfl,fun h=>(by cases h),H'⟩)
 | false=>
  refine KB H ?_;exact Q3 (Jy H rfl fun w' H'=>⟨false,rfl,hb,H'⟩)
theorem iV [Q4] (v:Value) (l:List YE) (hl:l.length*128≤140737488351232) {w:World} {fr:List Q2} (hr:Vh fr v l.length 12 (K1 l)) (hok:∀ x∈l,Wg fr x) (H:Q0 w fr) :
  Calls Tryz.prog 6 #[v] w (ret fun r w'=>∃ b,r = .bool b∧(b=false→l.length≤60∧∀ x∈l,x.L.length≤80)∧Q0 w' fr):=by
 obtain⟨h0,ad,cap,rfl,hrd⟩:=hr;refine QV Tryz.func6 rfl (by kernel_rfl) ?_;refine VJ H ?_;refine Wz H ?_;refine Qi (fun ms σ w n=>ms=[]∧∃ (i:Nat) (vi:Value),i≤l.length∧n=l.length - i∧(∀ x∈l.take i,x.L.length≤80)∧σ 3=vi∧σ 6 = .slice ad l.length cap∧σ 7 = .int .i64 l.length∧σ 8 = .int .i64 i∧Q0 w (QC 103 9 vi (Xz ((l.take i).map YE.a))::fr)) (m:=l.length) ⟨rfl,0,_,by omega,rfl,fun x hx=>(by simp at hx),rfl,rfl,rfl,rfl,Yn H⟩ ?_;clear H;rintro ms σ w n ⟨rfl,i,vi,hi,rfl,hsm,g3,g6,g7,g8,H⟩;obtain⟨ai,mi,ci,rfl⟩:=Qq H;rw[Q1 g3,Q1 g6,Q1 g7,Q1 g8];refine J6 H ?_;refine Qh rfl (fun h=>QR ?_) (fun h=>Qj ?_)
 ·have hlt:i < l.length:=by omega
  have hy:=getElem?_eq_getElem hlt;have htk:l.take (i+1)=l.take i++[l[i]]:=by rw[take_add_one,hy];rfl
  generalize l[i]=y at hy htk;have hym:=hok y (mem_of_getElem? hy)
  rcases hrd with hz|⟨b,o,E,fz,c,rfl,hA,hrd⟩
  ·omega
  haveI:=hA;obtain⟨K,⟨k,A,B,C,X,vW,ws,raw,i1,gg1⟩,rg,vL,L⟩:=y;obtain⟨⟨_,_,_,adW,capW,hvW,_⟩,_,adL,capL,hvL,_⟩:=hym;replace hvW:vW = .slice adW ws.length capW:=hvW;replace hvL:vL = .slice adL L.length capL:=hvL;subst hvW hvL;refine Y9 H ?_;refine Jd ?_;refine Q5 rfl (VH H rfl (PR hrd hy) rfl ?_);refine VQ H ?_;clear H;intro b5 w H;refine J4 H ?_;clear H;intro w H;refine Q6 ?_;replace H:Q0 w (pts b5 (row 105 (Az K k A B C X (.slice adW ws.length capW) raw i1 gg1 rg (.slice adL L.length capL)))::_):=H;refine KG H ?_;refine Ul H ?_;by_cases h80:(L.length:Int) > 80
  ·rw[show decide ((L.length:Int) > 80)=true from decide_eq_true (by omega)];refine YR H ?_;exact Q3 (Jy H.drop.drop rfl fun w' H'=>⟨true,rfl,fun h=>(by cases h),H'⟩)
  ·rw[show decide ((L.length:Int) > 80)=false from decide_eq_false (by omega)];refine A5 H ?_;refine EI H ?_;refine GX H ?_;clear H;intro b19 w H;replace H:=Js [2,0,0] 0 H
   refine Q5 rfl (So H rfl rfl (by repeat first|exact .nil _|apply QZ.cons rfl) rfl (by decide) (fun n hn=>by
    rw[JQ,length_map,length_take] at hn;omega) rfl rfl ?_);clear H;intro v20 w H
   obtain⟨a20,m20,c20,rfl⟩:=Qq H;refine J0 H ?_;replace H:=Js [1,1,0] 0 H;replace H:=H.drop.drop
   have e1:Xz ((l.take i).map YE.a)++[.int .i64 k,.int .i64 A,.int .i64 B,.int .i64 C,.int .u64 X,.slice adW ws.length capW,.bool raw,.int .i64 i1,.int .i64 gg1]=Xz ((l.take (i+1)).map YE.a):=by
    rw[htk,map_append];unfold Xz;rw[flatMap_append];rfl
   rw[e1] at H;refine J3 H ?_;refine⟨_,⟨rfl,i+1,_,hlt,rfl,fun x hx=>?_,rfl,rfl,rfl,i9 (by omega),H⟩,by omega⟩;rw[htk] at hx
   rcases mem_append.1 hx with hx|hx
   ·exact hsm x hx
   ·rw[mem_singleton] at hx;subst hx;show L.length≤80;omega
 ·obtain rfl:i=l.length:=by omega
  rw[take_length] at H hsm;have hla:(l.map YE.a).length=l.length:=length_map _;obtain⟨ai,ci,hv⟩:=QD (m:=(l.map YE.a).length) H (JQ _) (by decide);injection hv with hv1 hv2 hv3
  subst hv1 hv2 hv3;refine YQ H ?_;obtain⟨A,H,hR⟩:=sls_rd (JQ _) H
  refine Q5 rfl (V0 (a:=[]) (b:=[]) rfl rfl (call (iQ _ (l.map YE.a) (by omega) hR (fun x hx=>by
     obtain⟨y,hy,rfl⟩:=mem_map.1 hx;have:=(hok y hy).1;exact⟨this.1,this.2.1,this.2.2.there⟩) H) ?_))
  clear H;rintro r w ⟨b,rfl,hb,H⟩;cases b with
  | true=>
   refine J2 H ?_;exact Q3 (Jy H.drop rfl fun w' H'=>⟨true,rfl,fun h=>(by cases h),H'⟩)
  | false=>
   refine J2 H ?_;have:=hb rfl;exact Q3 (Jy H.drop rfl fun w' H'=>⟨false,rfl,fun _=>⟨by omega,hsm⟩,H'⟩)
def jB:MS:=⟨[-1,0,1],[L0],[]⟩
def jC:MS:=Kh jB 1 1 0
def jD:MS:=Kh jC 2 1 0
def jE:MS:=(Yg jD 0 1 1).1
def jF:MS:=Xx jE [2]
theorem PW:V6 jB:=⟨⟨by simp[jB],by simp[jB]⟩,⟨by simp[jB],fun l h=>by simp[jB] at h;subst h;exact gD⟩,(fun x h=>by simp[jB] at h),by simp[jB]⟩
theorem PA:Vk jB 1 1 0=(2,0):=by decide
theorem PB:Vk jC 2 1 0=(2,0):=by decide
theorem PC:V6 jC:=Ia (by rw[PA]) PW (by simp[jB])
theorem JK:V6 jD:=Ia (by rw[PB]) PC (by show (jB.objs++[_]).length < _;simp[jB])
theorem iY:V6 jE:=by
 show V6 (Yl jD 0 { G4 1 1 0 2 with kind:=(G4 1 1 0 2).kind.set 1 2,to:=(G4 1 1 0 2).to.set 1 1 });exact WP JK (IT (JK.objs _ (show G4 1 1 0 2∈[G4 1 1 0 2,G4 2 1 0 2] from mem_cons_self)) 1 2 1 (fun _=>by decide))
theorem iZ {s:CS} {m:MS} {told:List (Nat×Nat)} (R:Rel s m told) (h:m.P=[-1,0,1]) (r q:Int):Q8 s.par r=some q↔(r=1∧q=0)∨(r=2∧q=1):=by
 rw[Y4 R.nd,R.tree,h];constructor
 ·rintro⟨k,rfl,h1,h2,h3⟩
  match k,h1,h2 with
  | 1,_,h2=>injection h2 with h2;exact .inl ⟨rfl,h2.symm⟩
  | 2,_,h2=>injection h2 with h2;exact .inr ⟨rfl,h2.symm⟩
  | k+3,_,h2=>cases h2
 ·rintro(⟨rfl,rfl⟩|⟨rfl,rfl⟩)
  ·exact⟨1,rfl,by omega,rfl,by omega⟩
  ·exact⟨2,rfl,by omega,rfl,by omega⟩
theorem iG {L:List Int} {x:Int} (hnd:L.Nodup) (h:∀ c,c∈L↔c=x):L=[x]:=by
 cases L with
 | nil=>have:=(h x).2 rfl;cases this
 | cons a L=>
  obtain rfl:=(h a).1 mem_cons_self;cases L with
  | nil=>rfl
  | cons b L=>
   obtain rfl:=(h b).1 (by simp);simp at hnd
theorem JR [Q4] {w:World} {fr:List Q2} [hT:YX 0 Lib.deBruijn64tab fr] (H:Q0 w fr) :
  Calls Tryz.prog 5 #[] w (ret fun v w'=>v = .bool true∧Q0 w' fr):=by
 have Rs0:=Oz 6 8 6;have hdS:UJ (XC 6 8 6) [2,2,0]=({ XC 6 8 6 with lays:=[L0] },1,0):=by rw[Ai gC];rfl
 refine QV Tryz.func5 rfl (by kernel_rfl) ?_;refine Bl H ?_;refine Jc rfl rfl (NG 6 8 6 (by omega) (by omega) (by omega) (by omega) (by omega) (by omega) H) ?_;clear H;rintro v w ⟨c,rfl,H⟩;replace H:Q0 w (QU c (XC 6 8 6)::fr):=H;refine ZE H ?_;refine Vi H ?_;refine YT H ?_;refine Dy H ?_;refine YQ H ?_;refine GX H ?_;clear H;intro b22 w H;replace H:=H.swap;have hrd:Vh (pts b22 (row 94 [.int .u64 2,.int .u64 2,.int .u64 0])::fr) (.slice (some ⟨b22,0,none⟩) 3 3) 3 1 (QP [2,2,0]):=⟨rfl,_,_,rfl,.inr ⟨b22,0,_,_,_,rfl,inferInstance,.cons rfl (.cons rfl (.cons rfl (.nil _)))⟩⟩;refine Jc rfl rfl (NZ c (XC 6 8 6) _ [2,2,0] (by decide) hrd H) ?_;clear H;rintro v w ⟨rfl,H⟩;rw[hdS] at H ⊢
 have RA:Rel { XC 6 8 6 with lays:=[L0] } ⟨[-1],[L0],[]⟩ []:=by
  have h:=(OG Rs0 gE [2,2,0]).2;rw[hdS] at h;exact h
 refine Bt H ?_;refine Jc rfl rfl (I7 c _ 0 (by decide) H) ?_;clear H;rintro v w (⟨h1,rfl,H⟩|⟨_,ob,ob2,rfl,H⟩)
 ·exact absurd rfl h1
 have RO:=If RA (parent:=0) rfl ob ob2;generalize hsA:WJ { XC 6 8 6 with lays:=[L0] } 0 ob ob2=sA at H RO;have hA1:sA.par=[(1,0)]∧sA.last=1:=by rw[← hsA];exact⟨rfl,rfl⟩
 refine Bt H ?_;have hadd:Z2 sA.par 1=0:=by rw[hA1.1];decide
 refine Jc rfl rfl (I7 c _ 1 (by rw[hA1.2];decide) H) ?_;clear H;rintro v w (⟨h1,rfl,H⟩|⟨_,oc,oc2,rfl,H⟩)
 ·exact absurd hadd h1
 have RB:=If RO (parent:=1) (by decide) oc oc2;generalize hsB:WJ sA 1 oc oc2=sB at H RB;have hB1:sB.size=8:=by rw[← hsB,← hsA];rfl
 have hB2:sB.own=List.replicate 6 0:=by rw[← hsB,← hsA];rfl
 have hB3:sB.tab=List.replicate 6 ⟨0,none⟩:=by rw[← hsB,← hsA];rfl
 have FB:Re sB []:=⟨⟨6,by rw[hB3];rfl⟩,rfl,NJ (by rw[← hsB,← hsA];rfl) (by rw[hB3];exact NM)⟩;replace RB:Rel sB jB []:=RB;refine Bt H ?_;refine Jc rfl rfl (FI c sB 1 1 0 H) ?_;clear H;rintro v w ⟨i1,g1,e1,sC,rfl,hM1,H⟩;obtain⟨rfl,rfl,rfl,RC,FC,hC1,hC2,hC3⟩:=P2 RB PW FB hM1 PA hB1 (by rw[hB3];decide) ⟨0,by rw[hB2];decide,by rw[hB2];rfl⟩;rw[hB3] at hC3;rw[hB2] at hC2;replace RC:Rel sC jC [(0,1)]:=RC;replace FC:Re sC [(0,1)]:=FC
 have hfree:∃ a,a < sC.own.length∧sC.own.getD a 0=0:=by
  obtain⟨hl,a0,k0,hk0,hg⟩:=hC2
  have hz:∀ a,a≠a0→sC.own.getD a 0=0:=by
   intro a ha;refine Classical.byContradiction fun h=>?_
   rcases hg a h with h1|h1
   ·exact h1 (Ii 6 a)
   ·omega
  have hl4:sC.own.length=6:=hl;by_cases h0:a0=0
  ·exact⟨1,by omega,hz 1 (by omega)⟩
  ·exact⟨0,by omega,hz 0 (by omega)⟩
 refine Vj H ?_;clear H;intro b3 w H;refine J4 H ?_;clear H;intro w H;refine J0 H ?_;replace H:=H.swap;refine YQ H ?_;refine Jc rfl rfl (FI c sC 2 1 0 H) ?_;clear H;rintro v w ⟨i2,g2,e2,sD,rfl,hM2,H⟩;obtain⟨rfl,rfl,rfl,RD,FD,hD1,hD2,hD3⟩:=P2 RC PC FC hM2 PB hC1 (by rw[hC3];decide) hfree;replace RD:Rel sD jD [(0,1),(1,1)]:=RD;refine Vj H ?_;clear H;intro b5 w H;refine J4 H ?_;clear H;intro w H;refine J0 H ?_;replace H:=Js [1,0,0] 0 H;refine W2 H ?_;refine BA H ?_;refine K8 H ?_;refine K8 H ?_;obtain⟨_,_,hwD,_,_⟩:=Vv H;have P0:Gl [(0,1),(1,1)] 0 1 0 := .inl ⟨0,1,0,rfl,rfl,rfl,rfl⟩;have P1:Gl [(0,1),(1,1)] 1 1 1 := .inl ⟨1,1,1,rfl,rfl,rfl,rfl⟩;obtain⟨t1,RE⟩:=OY RD hwD JK P0 P1 1;rw[show (Yg jD 0 1 1).2=0 by decide] at t1;replace RE:Rel (Yk sD 0 1 1 1 1).1 jE [(0,1),(1,1)]:=RE;have IE:=NH hwD FD.inv 0 1 1 1 1;have shE:=Om sD 0 1 1 1 1;refine QT rfl rfl rfl (V0 (a:=[]) (b:=[]) rfl rfl (call (NY c sD 0 1 1 1 1 H) ?_));clear H;rintro v w ⟨rfl,H⟩;rw[t1];generalize (Yk sD 0 1 1 1 1).1=sE at H RE IE shE
 have hgE:∀ (k g:Nat) (e:QQ),sE.tab[k]? = some ⟨g,some e⟩→g < 255:=by
  intro k g e hk;obtain⟨⟨r,hs⟩,_,_⟩:=id FD;rw[← shE] at hs
  rcases Ax hs hk with ⟨_,h1,_⟩|⟨_,_,h1,_⟩
  ·have h1:g=1:=h1;omega
  ·have h1:g=0:=h1;omega
 have hparE:=iZ RE rfl
 have hTE:Y3 sE.par:=by
  refine⟨RE.nd,fun r q hr=>?_⟩
  rcases (hparE r q).1 hr with ⟨rfl,rfl⟩|⟨rfl,rfl⟩
  ·exact⟨by omega,by omega,.inl rfl⟩
  ·exact⟨by omega,by omega,.inr (by rw[(hparE 1 0).2 (.inl ⟨rfl,rfl⟩)];rfl)⟩
 refine Rt H ?_;refine YQ H ?_;refine Jc rfl rfl (Io c sE 2 hTE (by rw[(hparE 2 1).2 (.inr ⟨rfl,rfl⟩)];rfl) IE hgE H) ?_;clear H;rintro v w ⟨u,L,sF,rfl,hL1,hL2,hL3,hL4,hF,H⟩
 have hLd:L=[2]:=iG hL1 fun c=>by
  rw[hL3];constructor
  ·intro d;cases d with
   | self=>rfl
   | kid hd hf=>
    rcases (hparE _ _).1 hf with ⟨rfl,rfl⟩|⟨rfl,rfl⟩
    ·have:=hd.ge hTE;omega
    ·have:=hd.ge hTE;omega
  ·rintro rfl;exact .self
 subst hLd;obtain⟨aL,cL,rfl⟩:=QD H (Va [2]) (by decide);obtain⟨G,D,hT⟩:=hF.t;have RF:Rel sF jF [(0,1),(1,1)]:=OI (L:=[2]) RE iY IE hT;refine ZE H ?_
 have t4:Y2 sF 0 1 1=(.grave,0):=by
  rcases Ic RF P0 1 with ⟨h1,h2⟩|⟨h1,n,j,x,h2,h3,h4,_,_,_,_,h5⟩
  ·exact absurd (by decide) h1
  ·obtain rfl:n=0:=by omega
   obtain rfl:j=1:=by omega
   rw[h5];have h6:jF.objs[0]? = some ⟨1,1,0,[0,0],[0,1],[0,0],true,false,false⟩:=by rfl
   rw[h6] at h4;injection h4 with h4
   rw[← h4];rfl
 replace H:=Js [1,0,0,0] 0 H;refine GZ H ?_;refine Jc rfl rfl (F2 c sF 0 1 1 H) ?_;clear H;rintro v w ⟨rfl,H⟩;rw[t4];refine Vj H ?_;clear H;intro b9 w H;refine J4 H ?_;clear H;intro w H;refine Dw H ?_;refine YT H ?_;refine QT rfl rfl rfl (Kr H rfl rfl rfl ?_);clear H;intro b66 w H;replace H:Q0 w (IL (.slice (some ⟨b66,0,none⟩) 1 1) [2]::_):=Uh rfl H;replace H:=Js [3,0,0,0,0,0] 0 H;have hSame:=IM (.slice aL 1 cL) (.slice (some ⟨b66,0,none⟩) 1 1) [2] [2] (by decide) H;refine QT rfl rfl rfl (V0 (a:=[]) (b:=[]) rfl rfl (call (hSame) ?_));clear hSame;clear H;rintro v w ⟨rfl,H⟩;rw[show decide ([2]=([2]:List Int))=true from rfl];refine Jv ?_;refine Jv ?_;refine VZ rfl rfl rfl rfl ?_;refine VZ rfl rfl rfl rfl ?_;refine YP H ?_;refine C6 H ?_;refine QT rfl rfl rfl (Wv rfl rfl rfl rfl (.inl rfl) rfl ?_);refine J2 H ?_;replace H:Q0 w fr:=H.drop.drop.drop.drop.drop.drop.drop;exact Q3 (Jy H rfl fun w' H'=>⟨rfl,H'⟩)
theorem iU [Q4] (p:Nat) (s:CS) (m:MS) (told:List (Nat×Nat)) (n:Nat) (J:Yb s m told n) (hn:n≤60) (K k A B C i g:Int) (X:Nat) (hX:X < 18446744073709551616) (vW:Value) (ws:List Nat) (hws:∀ x∈ws,x < 18446744073709551616) (raw:Bool) (rg:Int) (vL:Value) (L:List Int) (hL:L.length≤80)
  {w:World} {fr:List Q2} [hT:YX 0 Lib.deBruijn64tab fr] (hrW:Vh fr vW ws.length 1 (QP ws)) (hrL:Vh fr vL L.length 1 (Qc L)) (H:Q0 w (Ua p s m told::fr)) :
  Calls Tryz.prog 29 #[.agg (Az K k A B C X vW raw i g rg vL).toArray,pp p] w (ret fun v w'=>v = .bool true∧∃ s' m' told',Yb s' m' told' (n+1)∧Q0 w' (Ua p s' m' told'::fr)):=by
 by_cases hK:K=3
 ·subst hK;exact i6 p s m told n J hn k A B C i g X hX vW ws hws raw rg vL L hL hrW hrL H
 ·exact gw p s m told n J hn K k A B C i g hK X hX vW ws hws raw rg vL L hL hrW hrL H
theorem iX [Q4] (z1 z2 z3:Int) (v:Value) (l:List YE) (hl:l.length≤60) (h80:∀ x∈l,x.L.length≤80) {w:World} {fr:List Q2} [hT:YX 0 Lib.deBruijn64tab fr] (hr:Vh fr v l.length 12 (K1 l)) (hok:∀ x∈l,Wg fr x) (H:Q0 w fr) :
  Calls Tryz.prog 7 #[.agg #[.int .i64 z1,.int .i64 z2,.int .i64 z3],v] w (ret fun r w'=>∃ p s m told,r = .tuple #[pp p,.bool true]∧Yb s m told 60∧Q0 w' (Ua p s m told::fr)):=by
 obtain⟨_,ad,cap,rfl,hrd⟩:=id hr;refine QV Tryz.func7 rfl (by kernel_rfl) ?_;refine J8 H ?_;clear H;intro b2 w H;refine J2 H ?_;refine GG H ?_;refine Jc rfl rfl (gB z1 z2 z3 H) ?_;clear H;rintro r w ⟨p,n,size,slots,rfl,hn1,hn2,hs1,hs2,ht1,ht2,H⟩;refine AU H ?_;replace H:=H.swap.drop;refine YQ H ?_;refine AR H ?_;refine Qi (fun ms σ w n=>ms=[]∧∃ (i:Nat) (s:CS) (m:MS) (told:List (Nat×Nat)),i≤l.length∧n=l.length - i∧Yb s m told i∧σ 6=pp p∧σ 13 = .slice ad l.length cap∧σ 14 = .int .i64 l.length∧σ 15 = .int .i64 i∧Q0 w (Ua p s m told::fr)) (m:=l.length) ⟨rfl,0,_,_,_,by omega,rfl,Yb.start n size slots,rfl,rfl,rfl,rfl,H⟩ ?_;clear H;rintro ms σ w n' ⟨rfl,i,s,m,told,hi,rfl,J,g6,g13,g14,g15,H⟩;rw[Q1 g6,Q1 g13,Q1 g14,Q1 g15];refine J6 H ?_;refine Qh rfl (fun h=>QR ?_) (fun h=>Qj ?_)
 ·have hlt:i < l.length:=by omega
  have hy:=getElem?_eq_getElem hlt;generalize l[i]=y at hy;have hm:=mem_of_getElem? hy;obtain⟨⟨hX,hws,hrW⟩,hrL⟩:=hok y hm;have hL:=h80 y hm
  rcases hrd with hz|⟨b,o,E,fz,c,rfl,hA,hrd⟩
  ·omega
  haveI:=hA;obtain⟨K,⟨k,A,B,C,X,vW,ws,raw,i1,gg1⟩,rg,vL,L⟩:=y;obtain⟨_,adW,capW,hvW,_⟩:=id hrW;obtain⟨_,adL,capL,hvL,_⟩:=id hrL;replace hvW:vW = .slice adW ws.length capW:=hvW;replace hvL:vL = .slice adL L.length capL:=hvL;subst hvW hvL;refine Y9 H ?_;refine Jd ?_;refine Q5 rfl (VH H rfl (PR hrd hy) rfl ?_);refine VQ H ?_;clear H;intro b8 w H;refine J4 H ?_;clear H;intro w H;refine Q6 ?_;replace H:Q0 w (pts b8 (row 105 (Az K k A B C X (.slice adW ws.length capW) raw i1 gg1 rg (.slice adL L.length capL)))::_):=H;refine AY H ?_;refine Jc rfl rfl (iU p s m told i J (by omega) K k A B C i1 gg1 X hX _ ws hws raw rg _ L hL hrW.there hrL.there H.swap) ?_;clear H;rintro r w ⟨rfl,s',m',told',J',H⟩;refine KK H ?_;exact⟨_,⟨rfl,i+1,s',m',told',hlt,rfl,J',rfl,rfl,rfl,Qa (by omega),H.swap.drop⟩,by omega⟩
 ·refine VG H ?_;have Gy:Yb s m told 60:=⟨J.R,J.I,J.T,J.P,J.G,by have:=J.O;omega,by have:=J.Q;omega⟩;exact Q3 (Jy H rfl fun w' H'=>⟨p,s,m,told,rfl,Gy,H'⟩)
end Go.Proofs.YtbnnnljagkjpiaaGreatDoor
namespace Go.Proofs.YtbnnnljagkjpiaaGreatDoor
open Go.SL
theorem iK [Q4] (c:Nat) (s:CS) (rg:Int) (hT:Y3 s.par) (hP:Vp s) (hlast:s.last+1 < 1000000) (v:Value) (l:List (Nat×Nat)) (hl:l.length≤1000) {w:World} {fr:List Q2} [hTab:YX 0 Lib.deBruijn64tab fr] (H:Q0 w (QU c s::Qz v l::fr)) :
  Calls Tryz.prog 15 #[pp c,.int .i64 rg,v] w (ret fun x w'=>
   (∃ E:Int,E≠0∧x = .tuple #[.int .i64 0,.int .i64 E]∧Q0 w' (QU c s::Qz v l::fr)) ∨
   (∃ r:Nat,rg=r∧1≤r∧(Q8 s.par (r:Int)).isSome=true∧Yw s.tab r [] l=0∧x = .tuple #[.int .i64 ((s.last+1:Nat):Int),.int .i64 0]∧∃ (Z:List Pl) (s':CS),Z.map (fun z=>(z.k,z.g))=l∧Kf s r Z s'∧Q0 w' (QU c s'::Qz v l::fr))):=by
 cases hf:Q8 s.par rg with
 | none=>
  refine(PX c s rg v hf H).mono ?_;intro e w' h;cases e with
  | panicked c=>exact h.elim
  | outgrown=>exact h.elim
  | returned x=>
   obtain⟨rfl,h⟩:=h;exact .inl ⟨15,by decide,rfl,h⟩
 | some q=>
  obtain⟨h1,h2,_⟩:=hT.up _ _ hf;obtain⟨r,rfl⟩:∃ r:Nat,rg=r:=⟨rg.toNat,by omega⟩;have hid:(Q8 s.par (r:Int)).isSome=true:=by rw[hf];rfl
  refine(Oe c s r hid hT hP hlast v l hl H).mono ?_;intro e w' h;cases e with
  | panicked c=>exact h.elim
  | outgrown=>exact h.elim
  | returned x=>
   rcases h with ⟨hc,rfl,h⟩|⟨hc,rfl,_,h⟩|⟨hc,rfl,Z,s',h3,h4,h⟩
   ·exact .inl ⟨_,by omega,rfl,h⟩
   ·exact .inl ⟨11,by decide,rfl,h⟩
   ·exact .inr ⟨r,rfl,by omega,hid,(PK hc).2,rfl,Z,s',h3,h4,h⟩
theorem iR [Q4] (c:Nat) (s:CS) (R:Int) (hT:Y3 s.par) (hI:Inv s) (hgen:∀ (k g:Nat) (e:QQ),s.tab[k]? = some ⟨g,some e⟩→g < 255) {U:List Int} (hU:(Q8 s.par R).isSome=true→∀ x,Z5 s.par R x→x∈U) {w:World} {fr:List Q2} (H:Q0 w (QU c s::fr)) :
  Calls Tryz.prog 13 #[pp c,.int .i64 R] w (ret fun v w'=>∃ a b s',v = .tuple #[a,b]∧Rg s U R s'∧Q0 w' (QU c s'::fr)):=by
 cases hf:Q8 s.par R with
 | none=>
  refine(PG c s R hf H).mono ?_;intro e w' h;cases e with
  | panicked c=>exact h.elim
  | outgrown=>exact h.elim
  | returned x=>
   obtain⟨rfl,h⟩:=h;exact⟨_,_,s,rfl,FN s U R,h⟩
 | some q=>
  have hid:(Q8 s.par R).isSome=true:=by rw[hf];rfl
  refine(Io c s R hT hid hI hgen H).mono ?_;intro e w' h;cases e with
  | panicked c=>exact h.elim
  | outgrown=>exact h.elim
  | returned x=>
   obtain⟨u,L,s',rfl,h1,h2,h3,h4,h5,h⟩:=h;obtain⟨G,D,t⟩:=h5.t;exact⟨_,_,s',rfl,gL t hT.nd (fun x hx=>hU hid x ((h3 x).1 hx)) R,h.drop⟩
theorem iW [Q4] (c:Nat) (s:CS) (R:Int) (hT:Y3 s.par) {U:List Int} (hU:(Q8 s.par R).isSome=true→R∈U) {w:World} {fr:List Q2} (H:Q0 w (QU c s::fr)) :
  Calls Tryz.prog 14 #[pp c,.int .i64 R] w (ret fun v w'=>∃ a b s',v = .tuple #[a,b]∧Rg s U R s'∧Q0 w' (QU c s'::fr)):=by
 cases hf:Q8 s.par R with
 | none=>
  refine(PU c s R hf H).mono ?_;intro e w' h;cases e with
  | panicked c=>exact h.elim
  | outgrown=>exact h.elim
  | returned x=>
   obtain⟨rfl,h⟩:=h;exact⟨_,_,s,rfl,FN s U R,h⟩
 | some q=>
  have hid:(Q8 s.par R).isSome=true:=by rw[hf];rfl
  refine(Oc c s R q hf hT H).mono ?_;intro e w' h;cases e with
  | panicked c=>exact h.elim
  | outgrown=>exact h.elim
  | returned x=>
   rcases h with ⟨_,rfl,h⟩|⟨_,rfl,s',hM,h⟩
   ·exact⟨_,_,s,rfl,FN s U R,h⟩
   ·exact⟨_,_,s',rfl,gM hM (hU hid),h⟩
theorem iA [Q4] (c:Nat) (s:CS) (R:Int) (hw:WF s) (hT:Y3 s.par) (hP:Vp s) (hlast:s.last+1 < 1000000) (v:Value) (l:List (Nat×Nat)) (hl:l.length≤1000) {U:List Int} (hU:(Q8 s.par R).isSome=true→R∈U) {w:World} {fr:List Q2} [hTab:YX 0 Lib.deBruijn64tab fr] (H:Q0 w (QU c s::Qz v l::fr)) :
  Calls Tryz.prog 15 #[pp c,.int .i64 R,v] w (ret fun x w'=>∃ a b s',x = .tuple #[a,b]∧Rg s U R s'∧Q0 w' (QU c s'::Qz v l::fr)):=by
 refine(iK c s R hT hP hlast v l hl H).mono ?_;intro e w' h;cases e with
 | panicked c=>exact h.elim
 | outgrown=>exact h.elim
 | returned x=>
  rcases h with ⟨E,_,rfl,h⟩|⟨r,rfl,_,hid,_,rfl,Z,s',_,hS,h⟩
  ·exact⟨_,_,s,rfl,FN s U R,h⟩
  ·exact⟨_,_,s',rfl,gN hw hT hid hS (hU hid) _,h⟩
open List
@[reducible] def vI (e:QQ):Value := .agg (KN e).toArray
theorem iB [Q4] (p last:Nat) (par:List (Int×Int)) (id:Int) (hT:Y3 par) (hl:par.length≤1000) {w:World} {fr:List Q2} (H:Q0 w (Qe p last par::fr)) :
  Calls Tryz.prog 8 #[pp p,.int .i64 id] w (ret fun v w'=>∃ (au:Option Addr) (nu cu:Nat) (U:List Int) (E:Int),v = .tuple #[.slice au nu cu,.int .i64 E]∧((Q8 par id).isSome=true→∀ x,Z5 par id x→x∈U)∧U.length≤1000∧nu=U.length∧Q0 w' (IL (.slice au nu cu) U::Qe p last par::fr)):=by
 cases hf:Q8 par id with
 | none=>
  refine(cZ p last par id hf H).mono ?_;intro e w' h;cases e with
  | panicked c=>exact h.elim
  | outgrown=>exact h.elim
  | returned x=>
   obtain⟨rfl,h⟩:=h;exact⟨none,0,0,[],6,rfl,fun h=>(by cases h),Nat.zero_le _,rfl,Yn h⟩
 | some q=>
  have hid:(Q8 par id).isSome=true:=by rw[hf];rfl
  refine(NN p last par id hT hid hl H).mono ?_;intro e w' h;cases e with
  | panicked c=>exact h.elim
  | outgrown=>exact h.elim
  | returned x=>
   obtain⟨u,L,rfl,h1,h2,h3,h4,h⟩:=h;obtain⟨au,cu,rfl⟩:=QD h (Va L) (by decide);exact⟨au,L.length,cu,L,0,rfl,fun _ x hx=>(h3 x).2 hx,by omega,rfl,h⟩
theorem PD (o:Option (Nat×QQ)):∃ a1 a2 a3 a4 a5 a6,F3 o = .tuple #[.agg #[.int .i64 a1,.int .i64 a2,.int .i64 a3,.int .i64 a4,.bool a5],.int .i64 a6]∧(∀ k e,o=some (k,e)→[Value.int .i64 a1,.int .i64 a2,.int .i64 a3,.int .i64 a4,.bool a5]=KN e∧a6=0)∧(o=none→a6=8):=by
 cases o with
 | none=>exact⟨_,_,_,_,_,_,rfl,fun _ _ h=>(by cases h),fun _=>rfl⟩
 | some x=>
  obtain⟨k,e⟩:=x;exact⟨_,_,_,_,_,_,rfl,fun _ _ h=>(by injection h with h;injection h with _ h;subst h;exact⟨rfl,rfl⟩),fun h=>(by cases h)⟩
theorem iC (a b c d:Int) (p:Bool):veq [.int .i64 a,.int .i64 b,.int .i64 c,.int .i64 d,.bool p] [.int .i64 a,.int .i64 b,.int .i64 c,.int .i64 d,.bool p]=true:=by cases p <;> simp[veq]
theorem PE {K V:Type} {m:List (K×V)} {ks:List K} {q:K×V} (hq:q∈m) (hn:q.1∉ks) (hnd:ks.Nodup) (hsub:∀ y∈ks,y∈m.map (·.1)):ks.length < m.length:=by
 have h1:(ks++[q.1]).Nodup:=by
  rw[nodup_append];exact⟨hnd,by simp,fun c hc c' hc' e0=>by simp at hc';subst hc';subst e0;exact hn hc⟩
 have h2:=G1 h1 (l₂:=m.map (·.1)) (fun z hz=>by
  rcases mem_append.1 hz with hz|hz
  ·exact hsub z hz
  ·simp at hz;subst hz;exact mem_map.2 ⟨q,hq,rfl⟩)
 simp at h2;omega
set_option maxRecDepth 10000 in
theorem iD [Q4] (z1 z2 z3:Int) (v:Value) (l:List YE) (hl:l.length*128≤140737488351232) (R0 K0:Int) (vW:Value) (Wh:List Int) {w:World} {fr:List Q2} [hT:YX 0 Lib.deBruijn64tab fr] (hr:Vh fr v l.length 12 (K1 l)) (hok:∀ x∈l,Wg fr x) (hrW:Vh fr vW Wh.length 1 (Qc Wh)) (H:Q0 w fr) :
  Calls Tryz.prog 3 #[.agg #[.int .i64 z1,.int .i64 z2,.int .i64 z3],v,.agg #[.int .i64 R0,.int .i64 K0,vW]] w (ret fun r w'=>r = .bool true∧Q0 w' fr):=by
 obtain⟨_,ad,cap,rfl,_⟩:=id hr;obtain⟨_,adW,capW,rfl,_⟩:=id hrW;refine QV Tryz.func3 rfl (by kernel_rfl) ?_;refine J8 H ?_;clear H;intro b3 w H;refine Um H ?_;clear H;intro b5 w H;refine J0 H ?_;refine Yq H ?_;refine Jc rfl rfl (JR H) ?_;clear H;rintro v w ⟨rfl,H⟩;refine BA H ?_;refine QT rfl rfl rfl (V0 (a:=[]) (b:=[]) rfl rfl (call (iV _ l hl hr.there.there (fun x hx=>(hok x hx).there.there) H) ?_));clear H;rintro r w ⟨b,rfl,hb,H⟩;cases b with
 | true=>
  refine Zk H ?_;refine Un H ?_;refine Yq H ?_;refine Jc rfl rfl (JR H) ?_;clear H;rintro v w ⟨rfl,H⟩;refine J0 H ?_;exact Q3 (Jy H.drop.drop rfl fun w' H'=>⟨rfl,H'⟩)
 | false=>
 obtain⟨h60,h80⟩:=hb rfl;refine C9 H ?_;by_cases h40:(Wh.length:Int) > 40
 ·rw[show decide ((Wh.length:Int) > 40)=true from decide_eq_true (by omega)];refine Un H ?_;refine Yq H ?_;refine Jc rfl rfl (JR H) ?_;clear H;rintro v w ⟨rfl,H⟩;refine J0 H ?_;exact Q3 (Jy H.drop.drop rfl fun w' H'=>⟨rfl,H'⟩)
 rw[show decide ((Wh.length:Int) > 40)=false from decide_eq_false (by omega)];refine Vo H ?_;refine AY H ?_;refine Jc rfl rfl (iX z1 z2 z3 _ l h60 h80 hr.there.there (fun x hx=>(hok x hx).there.there) H) ?_;clear H;rintro r w ⟨p,s,m,told,rfl,J,H⟩;refine Zw H ?_;obtain⟨c,mo,a,capT,H⟩:=FH H;obtain⟨q,mem,hw,hm,H⟩:=Vv H.swap;have hpl:=hw.par.1;have hO:=J.O;have hQ:=J.Q;have hlen:=J.R.len;have hlast:=J.R.last;replace H:=Js [5,0,0,0,0,0] 0 H;refine J1 H ?_;clear H;intro w H;refine Bo H ?_;refine Ja 4 ?_;refine Jf 5 ?_;refine Jl 6 [9] H ?_;refine Jf 7 ?_;refine Jl 8 [9] H ?_;refine Jo 9 H ?_;refine Jk rfl rfl (iB q.trp s.last s.par R0 J.T (by omega) H) ?_;clear H;rintro v w ⟨au,nu,cu,U,EU,rfl,hU,hUl,rfl,H⟩;refine Ja 10 ?_;refine Ja 11 ?_;refine Be H ?_;refine Jx H ?_;refine Yq H ?_;refine Q5 rfl (XJ v1 (ki .i64) H rfl ?_);clear H;intro bp w H;refine J0 H ?_;replace H:=Js [14,0,0,0,0,0,0,0,0,0,0,0,0,0,0,0,0] 1 H;obtain⟨t,lc,oc,aL,cL,aO,cO,h1,h2,h3,h4,h5,H⟩:=ZP H;replace H:=Js [1,0] 0 H;refine EH H ?_;refine Jc rfl rfl (IP t m.P (by omega) H) ?_;clear H;intro v w H
 have hids:∀ x∈Yu m.P,∃ y,Q8 s.par ((x:Nat):Int)=some y:=fun x hx=>by
  obtain⟨y,y1,y2,y3⟩:=Ie.1 hx;exact⟨y,(Y4 J.R.nd).2 ((J.R.tree _ _).2 ⟨x,rfl,y2,y1,y3⟩)⟩
 have hil:(Yu m.P).length≤m.P.length:=O2 _ _ _;generalize Yu m.P=IDS at H hids hil;obtain⟨aI,cI,rfl⟩:=QD (m:=IDS.length) H (QE _) (by decide);refine Ul H ?_;replace H:=Js [0,6,7,6,6,6,6,6,6,6,6,6,6,6,6,6,6] 6 H;refine Zf H ?_;refine Qi (fun ms σ w n=>ms=[]∧∃ (i:Nat) (Pm:List (Int×Int)),i≤IDS.length∧n=IDS.length - i∧(∀ x y,Q8 Pm x=some y→Q8 s.par x=some y)∧σ 5=pp b5∧σ 7=pp p∧σ 9 = .slice au U.length cu∧σ 11 = .map (some bp)∧σ 74 = .slice aI IDS.length cI∧σ 75 = .int .i64 IDS.length∧σ 76 = .int .i64 i∧Q0 w (NL (.slice aI IDS.length cI) IDS::mp (ki .i64) v1 bp Pm::Qe q.trp s.last s.par::IL (.slice au U.length cu) U::V5 c q::Qv q.ip q.sp q.bp::Qo q.bp s.lays::ST q.sp s.size mem s.own::Qk q.tp s.tab::RS q.rp s.rem::mp (ki .i64) Qr q.sm (s.sps.map VN)::star (s.sps.map (VO q.sp))::mp (ki .i64) Qr q.mm (s.mns.map V2)::star (s.mns.map VX)::Vl p c mo (.slice a told.length capT)::Qz (.slice a told.length capT) told::pts b5 (row 27 [.int .i64 R0,.int .i64 K0,.slice adW Wh.length capW])::fr)) (m:=IDS.length) ⟨rfl,0,[],by omega,rfl,fun x y h=>(by cases h),rfl,rfl,rfl,rfl,rfl,rfl,rfl,H⟩ ?_;clear H;rintro ms σ w n' ⟨rfl,i,Pm,hi,rfl,hPm,g5,g7,g9,g11,g74,g75,g76,H⟩;rw[Q1 g5,Q1 g7,Q1 g9,Q1 g11,Q1 g74,Q1 g75,Q1 g76];refine J6 H ?_;refine Qh rfl (fun h=>QR ?_) (fun h=>Qj ?_)
 ·have hlt:i < IDS.length:=by omega
  have hx:=getElem?_eq_getElem hlt;generalize IDS[i]=x at hx;obtain⟨y,hy⟩:=hids x (mem_of_getElem? hx);obtain⟨bT,sT,rfl,H,hcl⟩:=Qw H (by omega);refine Y9 H ?_;refine Jd ?_;refine Q5 rfl (QW H rfl (by simpa using GW hx) rfl ?_);refine J0 H ?_;replace H:=hcl _ _ H;replace H:=Js [2,0,0] 0 H;have hPar:=IB q.trp s.last s.par ((x:Nat):Int) H;rw[hy] at hPar;refine X5 H ?_;refine R6 H ?_;refine R6 H ?_;refine Jc rfl rfl (hPar) ?_;clear H hPar;rintro v w ⟨rfl,H⟩;rw[show (some y).getD 0=y from rfl,show (if (some y).isSome=true then (0:Int) else 6)=0 from rfl];refine W1 H ?_;replace H:=Js [2,0,0] 0 H;refine Q5 rfl (Uf (ek:=ki .i64) (vv:=v1) (v:=y) (key:=((x:Nat):Int)) H rfl rfl rfl VL rfl ?_);clear H;intro w H;refine UX H ?_;replace H:=Js [2,0,0] 0 H;refine⟨_,⟨rfl,i+1,Vm Pm ((x:Nat):Int) y,hlt,rfl,fun x' y' h=>?_,rfl,rfl,rfl,rfl,rfl,rfl,Qa (by omega),H⟩,by omega⟩;rw[Gd] at h;split at h
  ·rename_i h0;injection h with h
   rw[← h0,← h];exact hy
  ·exact hPm _ _ h
 refine Yq H ?_;refine Q5 rfl (XJ vI kp H rfl ?_);clear H;intro bw w H;refine J0 H ?_;replace H:=Js [5,5,5,5,5,3,4,4,4,4,4,4,4,0,1,1,1] 1 H;replace H:=VV hw hm H;replace H:=Js [2,0,0,0,0,0,0] 0 H;refine EK H ?_;refine Qi (fun ms σ w n=>ms=[]∧∃ (i:Nat) (W:List ((Int×Int)×QQ)),i≤told.length∧n=told.length - i∧(∀ x e,Q8 W x=some e→∃ k g:Nat,x=((k:Int),(g:Int))∧s.tab[k]? = some ⟨g,some e⟩∧e.held=true)∧σ 5=pp b5∧σ 7=pp p∧σ 9 = .slice au U.length cu∧σ 11 = .map (some bp)∧σ 14 = .map (some bw)∧σ 99 = .slice a told.length capT∧σ 100 = .int .i64 told.length∧σ 101 = .int .i64 i∧Q0 w (Qz (.slice a told.length capT) told::QU c s::Vl p c mo (.slice a told.length capT)::mp kp vI bw W::mp (ki .i64) v1 bp Pm::IL (.slice au U.length cu) U::pts b5 (row 27 [.int .i64 R0,.int .i64 K0,.slice adW Wh.length capW])::fr)) (m:=told.length) ⟨rfl,0,[],by omega,rfl,fun x e h=>(by cases h),rfl,rfl,rfl,rfl,rfl,rfl,rfl,rfl,H⟩ ?_;clear H;rintro ms σ w n' ⟨rfl,i,W,hi,rfl,hW,g5,g7,g9,g11,g14,g99,g100,g101,H⟩;rw[Q1 g5,Q1 g7,Q1 g9,Q1 g11,Q1 g14,Q1 g99,Q1 g100,Q1 g101];refine J6 H ?_;refine Qh rfl (fun h=>QR ?_) (fun h=>Qj ?_)
 ·have hlt:i < told.length:=by omega
  have hx:=getElem?_eq_getElem hlt;generalize told[i]=tt at hx;obtain⟨k,g⟩:=tt;obtain⟨bT,sT,rfl,H,hcl⟩:=Qw H (by omega);refine Y9 H ?_;refine Jd ?_;refine Q5 rfl (VH H rfl (Xy hx) rfl ?_);refine VQ H ?_;clear H;intro b16 w H;refine J4 H ?_;clear H;intro w H;refine Q6 ?_;replace H:=Js [1,0] 0 H;replace H:=hcl _ _ H;replace H:Q0 w (Qz (.slice (some ⟨bT,0,none⟩) told.length capT) told::pts b16 (row 62 [.int .i64 k,.int .i64 g])::_):=H;replace H:=Js [2,0,0] 0 H;obtain⟨a1,a2,a3,a4,a5,a6,htv,hts,htn⟩:=PD (Qg s.tab (k:Int) (g:Int));refine J7 H ?_;refine Qm (fun ms σ w=>ms=[]∧∃ b17,σ 5=pp b5∧σ 7=pp p∧σ 9 = .slice au U.length cu∧σ 11 = .map (some bp)∧σ 14 = .map (some bw)∧σ 16=pp b16∧σ 17=pp b17∧σ 18 = .int .i64 a6∧σ 99=(.slice (some ⟨bT,0,none⟩) told.length capT)∧σ 100 = .int .i64 told.length∧σ 101 = .int .i64 i∧Q0 w (QU c s::pts b17 (row 64 [.int .i64 a1,.int .i64 a2,.int .i64 a3,.int .i64 a4,.bool a5])::Qz (.slice (some ⟨bT,0,none⟩) told.length capT) told::pts b16 (row 62 [.int .i64 k,.int .i64 g])::Vl p c mo (.slice (some ⟨bT,0,none⟩) told.length capT)::mp kp vI bw W::mp (ki .i64) v1 bp Pm::IL (.slice au U.length cu) U::pts b5 (row 27 [.int .i64 R0,.int .i64 K0,.slice adW Wh.length capW])::fr)) ?_ ?_
  ·refine J1 H ?_;clear H;intro w H;refine Xc H ?_;refine Jw 5 9 H rfl rfl (V0 (a:=[]) (b:=[]) rfl rfl (call (CN c s (k:Int) (g:Int) H) ?_)) (Vr H rfl ?_)
   ·clear H;rintro v w ⟨rfl,H⟩;rw[htv];refine Xd H ?_;clear H;intro b17 w H;refine Xe H ?_;clear H;intro w H;refine ZH H ?_;replace H:=Js [1,0] 0 H;exact⟨rfl,rfl,b17,rfl,rfl,rfl,rfl,rfl,rfl,rfl,rfl,rfl,rfl,rfl,H⟩
   ·clear H;intro b17 w H;refine Jo 5 H ?_;refine Jk rfl rfl (CN c s (k:Int) (g:Int) H.swap) ?_;clear H;rintro v w ⟨rfl,H⟩;rw[htv];refine Xf H ?_;clear H;intro w H;refine ZH H ?_;exact⟨rfl,rfl,b17,rfl,rfl,rfl,rfl,rfl,rfl,rfl,rfl,rfl,rfl,rfl,H⟩
  clear H;rintro ms σ w ⟨rfl,b17,g5,g7,g9,g11,g14,g16,g17,g18,g99,g100,g101,H⟩;rw[Q1 g5,Q1 g7,Q1 g9,Q1 g11,Q1 g14,Q1 g16,Q1 g17,Q1 g18,Q1 g99,Q1 g100,Q1 g101];cases hv:Qg s.tab (k:Int) (g:Int) with
  | none=>
   obtain rfl:a6=8:=htn hv;refine Gf H ?_;refine J3 H ?_;replace H:=Js [2,0,2,2,2,2,2] 2 H;exact⟨_,⟨rfl,i+1,W,hlt,rfl,hW,rfl,rfl,rfl,rfl,rfl,rfl,rfl,Qa (by omega),H⟩,by omega⟩
  | some q2=>
   obtain⟨k2,e⟩:=q2;obtain⟨he1,rfl⟩:=hts _ _ hv;rw[he1] at H;obtain⟨hlk,hheld⟩:=U0.1 hv;obtain⟨n2,f1,f2,f3⟩:=Vz.1 hlk;obtain rfl:k2=k:=by omega
   obtain rfl:n2=g:=by omega
   refine J3 H ?_;refine VR H ?_;refine GZ H ?_;refine K7 H ?_;refine Q5 rfl (Uf (ek:=kp) (vv:=vI) (v:=e) (key:=(((k2:Nat):Int),((n2:Nat):Int))) H rfl rfl rfl Av rfl ?_);clear H;intro w H;refine UX H ?_;replace H:=Js [2,0,2,2,2,2,2] 2 H;refine⟨_,⟨rfl,i+1,Vm W (((k2:Nat):Int),((n2:Nat):Int)) e,hlt,rfl,fun x' e' h=>?_,rfl,rfl,rfl,rfl,rfl,rfl,rfl,Qa (by omega),H⟩,by omega⟩;rw[Gd] at h;split at h
   ·rename_i h0;injection h with h
    exact⟨k2,n2,h0.symm,by rw[← h];exact f3,by rw[← h];exact hheld⟩
   ·exact hW _ _ h
 replace H:=Js [2,0,0] 0 H;refine R4 H ?_;refine Jc rfl rfl (PZ p c mo a capT told (by omega) _ Wh (by omega) hrW.there.there.there.there.there H) ?_;clear H;rintro v w ⟨ys,vt,vo,rfl,hys,hch,H⟩;generalize hTL:ys.map (·.1)=TL at H;have hl1:TL.length=ys.length:=by rw[← hTL,length_map]
 obtain⟨at',ct,rfl⟩:=QD (m:=TL.length) H (Kl _) (by decide);obtain⟨ao,mo2,co,rfl⟩:=Qq H.drop;refine ZE H ?_;replace H:=Js [4,0,1,1,1,1,1,1] 1 H;refine WY H ?_;generalize YG .and .i64 K0 3=KV;have hU1:(Q8 s.par R0).isSome=true→R0∈U:=fun h=>hU h R0 .self
 have hgen:∀ (k g:Nat) (e:QQ),s.tab[k]? = some ⟨g,some e⟩→g < 255:=fun k g e hk=>by
  have:=J.G k _ hk;dsimp only at this;omega
 refine J7 H ?_;refine Qm (fun ms σ w=>ms=[]∧∃ s',Rg s U R0 s'∧σ 5=pp b5∧σ 7=pp p∧σ 9 = .slice au U.length cu∧σ 11 = .map (some bp)∧σ 14 = .map (some bw)∧Q0 w (QU c s'::Vl p c mo (.slice a told.length capT)::mp kp vI bw W::mp (ki .i64) v1 bp Pm::IL (.slice au U.length cu) U::pts b5 (row 27 [.int .i64 R0,.int .i64 K0,.slice adW Wh.length capW])::fr)) ?_ ?_
 ·refine QS ?_;refine J3 H ?_;by_cases k0:KV=0
  ·rw[show (KV == 0)=true from beq_iff_eq.2 k0];refine VR H ?_;refine J1 H ?_;clear H;intro w H;refine Up H ?_;refine Jk rfl rfl (iR c s R0 J.T J.I hgen hU H) ?_;clear H;rintro v w ⟨x1,x2,s',rfl,hSt,H⟩;refine Jx H ?_;replace H:=Js [0,1,2,2,2,2] 2 H;exact⟨rfl,rfl,s',hSt,rfl,rfl,rfl,rfl,rfl,H⟩
  ·rw[show (KV == 0)=false from beq_eq_false_iff_ne.2 k0];refine ZD H ?_;by_cases k1:KV=1
   ·rw[show (KV == 1)=true from beq_iff_eq.2 k1];refine VR H ?_;refine J1 H ?_;clear H;intro w H;refine Up H ?_;refine Jk rfl rfl (iW c s R0 J.T hU1 H) ?_;clear H;rintro v w ⟨x1,x2,s',rfl,hSt,H⟩;refine Jx H ?_;replace H:=Js [0,1,2,2,2,2] 2 H;exact⟨rfl,rfl,s',hSt,rfl,rfl,rfl,rfl,rfl,H⟩
   ·rw[show (KV == 1)=false from beq_eq_false_iff_ne.2 k1];refine AX H ?_;refine J1 H ?_;clear H;intro w H;refine CQ H ?_;refine Jk rfl rfl (iA c s R0 hw J.T J.P (by omega) (.slice at' TL.length ct) TL (by omega) hU1 H) ?_;clear H;rintro v w ⟨x1,x2,s',rfl,hSt,H⟩;refine Jx H ?_;replace H:=Js [0,1,2,2,2,2] 2 H;exact⟨rfl,rfl,s',hSt,rfl,rfl,rfl,rfl,rfl,H⟩
 clear H;rintro ms σ w ⟨rfl,s',hSt,g5,g7,g9,g11,g14,H⟩;rw[Q1 g5,Q1 g7,Q1 g9,Q1 g11,Q1 g14];refine YQ H ?_;replace H:=Js [2,0,0] 0 H;have hWn:(W.map (·.1)).Nodup:=XQ bw H;replace H:=Wt H;refine Q5 rfl (B9 kp vI H rfl rfl ?_);clear H;intro bi w H;refine Q6 ?_;refine Zf H ?_;refine Qi (fun ms σ w n=>ms=[]∧∃ (ks:List (Int×Int)),ks.length≤W.length∧n=W.length - ks.length∧σ 5=pp b5∧σ 7=pp p∧σ 9 = .slice au U.length cu∧σ 11 = .map (some bp)∧σ 14 = .map (some bw)∧σ 157=pp bi∧Q0 w (Gs kp vI (.map (some bw)) W bi ks::QU c s'::Vl p c mo (.slice a told.length capT)::mp (ki .i64) v1 bp Pm::IL (.slice au U.length cu) U::pts b5 (row 27 [.int .i64 R0,.int .i64 K0,.slice adW Wh.length capW])::fr)) (m:=W.length) ⟨rfl,[],Nat.zero_le _,rfl,rfl,rfl,rfl,rfl,rfl,rfl,H⟩ ?_;clear H;rintro ms σ w n ⟨rfl,ks,hkl,rfl,g5,g7,g9,g11,g14,g157,H⟩;rw[Q1 g5,Q1 g7,Q1 g9,Q1 g11,Q1 g14,Q1 g157];refine Yq H ?_;refine Q5 rfl (BQ H Et rfl rfl (fun hp w H=>?_) (fun qq hq hn hnd2 hsub w H=>?_))
 ·refine AV H ?_;replace H:=Ey (DX H);replace H:=Js [3,1,1,2] 2 H;refine YQ H ?_;have hPn:(Pm.map (·.1)).Nodup:=XQ bp H;replace H:=Wt H;refine Q5 rfl (B9 (ki .i64) v1 H rfl rfl ?_);clear H;intro bj w H;refine Q6 ?_;refine Zf H ?_;refine Qi (fun ms σ w n=>ms=[]∧∃ (ks:List Int),ks.length≤Pm.length∧n=Pm.length - ks.length∧σ 5=pp b5∧σ 7=pp p∧σ 223=pp bj∧Q0 w (Gs (ki .i64) v1 (.map (some bp)) Pm bj ks::QU c s'::Vl p c mo (.slice a told.length capT)::pts b5 (row 27 [.int .i64 R0,.int .i64 K0,.slice adW Wh.length capW])::fr)) (m:=Pm.length) ⟨rfl,[],Nat.zero_le _,rfl,rfl,rfl,rfl,H⟩ ?_;clear H;rintro ms σ w n ⟨rfl,ks,hkl,rfl,g5,g7,g223,H⟩;rw[Q1 g5,Q1 g7,Q1 g223];refine Yq H ?_;refine Q5 rfl (BQ H Ez rfl rfl (fun hp w H=>?_) (fun qq hq hn hnd2 hsub w H=>?_))
  ·refine AV H ?_;refine VJ H ?_;exact Q3 (Jy H.drop.drop.drop.drop rfl fun w' H'=>⟨rfl,H'⟩)
  ·have hlt:ks.length < Pm.length:=PE hq hn hnd2 hsub;have hfq:=hPm _ _ ((Y4 hPn).2 hq);refine Bu H ?_;obtain⟨x,y⟩:=qq;have hfq:Q8 s.par x=some y:=hfq;refine Yq H ?_;refine Q5 rfl (BV H Ez hq rfl rfl ?_);refine WV H ?_;replace H:=Js [1,0] 0 H;obtain⟨q',mem',hw',hm',H⟩:=Vv H;replace H:=Js [5,0,0,0,0,0] 0 H;have hPar:=IB q'.trp s'.last s'.par x H;refine J9 H ?_;refine R6 H ?_;cases hf2:Q8 s'.par x with
   | none=>
    rw[hf2] at hPar;refine Jc rfl rfl (hPar) ?_;clear H hPar;rintro v w ⟨rfl,H⟩;rw[show (none:Option Int).getD 0=0 from rfl,show (if (none:Option Int).isSome=true then (0:Int) else 6)=6 from rfl];refine ZE H ?_;refine Bv H ?_;refine Zk H ?_;refine Vo H ?_;replace H:=Js [1,1,1,1,1,0,0,0,0,0,0,0] 0 H;replace H:=VV hw' hm' H;replace H:=Js [1,0] 0 H;exact⟨_,⟨rfl,ks++[x],by rw[length_append];exact hlt,rfl,rfl,rfl,rfl,H⟩,by rw[length_append];show Pm.length - (ks.length+1) < _;omega⟩
   | some z=>
    rw[hf2] at hPar;refine Jc rfl rfl (hPar) ?_;clear H hPar;rintro v w ⟨rfl,H⟩;rw[show (some z).getD 0=z from rfl,show (if (some z).isSome=true then (0:Int) else 6)=0 from rfl];refine ZE H ?_;refine Vi H ?_;refine Gw H ?_;by_cases hzy:z=y
    ·rw[show (z != y)=false by rw[hzy];exact bne_self_eq_false _];refine Zk H ?_;refine Vo H ?_;replace H:=Js [1,1,1,1,1,0,0,0,0,0,0,0] 0 H;replace H:=VV hw' hm' H;replace H:=Js [1,0] 0 H;exact⟨_,⟨rfl,ks++[x],by rw[length_append];exact hlt,rfl,rfl,rfl,rfl,H⟩,by rw[length_append];show Pm.length - (ks.length+1) < _;omega⟩
    ·have hyR:y=R0:=by
      rcases hSt.tree x y hfq with h|h|h
      ·rw[hf2] at h;cases h
      ·rw[hf2] at h;injection h with h;exact absurd h hzy
      ·exact h
     rw[show (z != y)=true from bne_iff_ne.2 hzy];refine YP H ?_;refine W6 H ?_;rw[show (y != R0)=false by rw[hyR];exact bne_self_eq_false _];refine Vo H ?_;replace H:=Js [1,1,1,1,1,0,0,0,0,0,0,0] 0 H;replace H:=VV hw' hm' H;replace H:=Js [1,0] 0 H;exact⟨_,⟨rfl,ks++[x],by rw[length_append];exact hlt,rfl,rfl,rfl,rfl,H⟩,by rw[length_append];show Pm.length - (ks.length+1) < _;omega⟩
 ·have hlt:ks.length < W.length:=PE hq hn hnd2 hsub;have hfq:Q8 W qq.1=some qq.2:=(Y4 hWn).2 hq;refine Bu H ?_;obtain⟨⟨qa,qb⟩,e⟩:=qq;obtain⟨k,g,hkg,hk,hheld⟩:=hW _ _ hfq;injection hkg with hka hkb
  have hka:qa=((k:Nat):Int):=hka;have hkb:qb=((g:Nat):Int):=hkb;subst hka hkb;refine Yq H ?_;refine Q5 rfl (BV H Et hq rfl rfl ?_);refine YP H ?_;refine VQ H ?_;clear H;intro b21 w H;refine VQ H ?_;clear H;intro b22 w H;refine J4 H ?_;clear H;intro w H;refine J4 H ?_;clear H;intro w H;refine Q6 ?_;replace H:Q0 w (pts b22 (row 64 (KN e))::pts b21 (row 62 [.int .i64 k,.int .i64 g])::Gs kp vI (.map (some bw)) W bi (ks++[(((k:Nat):Int),((g:Nat):Int))])::_):=H;replace H:=Js [3,0,0,0] 0 H;obtain⟨a1,a2,a3,a4,a5,a6,htv,hts,htn⟩:=PD (Qg s'.tab (k:Int) (g:Int));refine J7 H ?_;refine Qm (fun ms σ w=>ms=[]∧∃ b23,σ 5=pp b5∧σ 7=pp p∧σ 9 = .slice au U.length cu∧σ 11 = .map (some bp)∧σ 14 = .map (some bw)∧σ 157=pp bi∧σ 22=pp b22∧σ 23=pp b23∧σ 24 = .int .i64 a6∧Q0 w (QU c s'::pts b23 (row 64 [.int .i64 a1,.int .i64 a2,.int .i64 a3,.int .i64 a4,.bool a5])::IL (.slice au U.length cu) U::pts b22 (row 64 (KN e))::pts b21 (row 62 [.int .i64 k,.int .i64 g])::Gs kp vI (.map (some bw)) W bi (ks++[(((k:Nat):Int),((g:Nat):Int))])::Vl p c mo (.slice a told.length capT)::mp (ki .i64) v1 bp Pm::pts b5 (row 27 [.int .i64 R0,.int .i64 K0,.slice adW Wh.length capW])::fr)) ?_ ?_
  ·refine J1 H ?_;clear H;intro w H;refine Xc H ?_;refine Jw 5 9 H rfl rfl (V0 (a:=[]) (b:=[]) rfl rfl (call (CN c s' (k:Int) (g:Int) H) ?_)) (Vr H rfl ?_)
   ·clear H;rintro v w ⟨rfl,H⟩;rw[htv];refine Xd H ?_;clear H;intro b23 w H;refine Xe H ?_;clear H;intro w H;refine ZH H ?_;replace H:=Js [1,0,5,0,0,0,0,0,0] 0 H;exact⟨rfl,rfl,b23,rfl,rfl,rfl,rfl,rfl,rfl,rfl,rfl,rfl,H⟩
   ·clear H;intro b23 w H;refine Jo 5 H ?_;refine Jk rfl rfl (CN c s' (k:Int) (g:Int) H.swap) ?_;clear H;rintro v w ⟨rfl,H⟩;rw[htv];refine Xf H ?_;clear H;intro w H;refine ZH H ?_;replace H:=Js [0,0,5,0,0,0,0,0,0] 0 H;exact⟨rfl,rfl,b23,rfl,rfl,rfl,rfl,rfl,rfl,rfl,rfl,rfl,H⟩
  clear H;rintro ms σ w ⟨rfl,b23,g5,g7,g9,g11,g14,g157,g22,g23,g24,H⟩;rw[Q1 g5,Q1 g7,Q1 g9,Q1 g11,Q1 g14,Q1 g157,Q1 g22,Q1 g23,Q1 g24];refine E4 H ?_;replace H:=Js [2,0,0] 0 H;refine Zf H ?_;refine Qi (fun ms σ w n=>ms=[]∧∃ (i:Nat) (gone:Bool),i≤U.length∧n=U.length - i∧(gone=true↔e.region∈U.take i)∧σ 5=pp b5∧σ 7=pp p∧σ 9 = .slice au U.length cu∧σ 11 = .map (some bp)∧σ 14 = .map (some bw)∧σ 157=pp bi∧σ 22=pp b22∧σ 23=pp b23∧σ 24 = .int .i64 a6∧σ 25 = .bool gone∧σ 172 = .slice au U.length cu∧σ 173 = .int .i64 U.length∧σ 174 = .int .i64 i∧Q0 w (IL (.slice au U.length cu) U::QU c s'::pts b23 (row 64 [.int .i64 a1,.int .i64 a2,.int .i64 a3,.int .i64 a4,.bool a5])::pts b22 (row 64 (KN e))::pts b21 (row 62 [.int .i64 k,.int .i64 g])::Gs kp vI (.map (some bw)) W bi (ks++[(((k:Nat):Int),((g:Nat):Int))])::Vl p c mo (.slice a told.length capT)::mp (ki .i64) v1 bp Pm::pts b5 (row 27 [.int .i64 R0,.int .i64 K0,.slice adW Wh.length capW])::fr)) (m:=U.length) ⟨rfl,0,false,by omega,rfl,by simp,rfl,rfl,rfl,rfl,rfl,rfl,rfl,rfl,rfl,rfl,rfl,rfl,rfl,H⟩ ?_;clear H;rintro ms σ w n ⟨rfl,i,gone,hi,rfl,hgone,g5,g7,g9,g11,g14,g157,g22,g23,g24,g25,g172,g173,g174,H⟩;rw[Q1 g5,Q1 g7,Q1 g9,Q1 g11,Q1 g14,Q1 g157,Q1 g22,Q1 g23,Q1 g24,Q1 g25,Q1 g172,Q1 g173,Q1 g174];refine J6 H ?_;refine Qh rfl (fun h=>QR ?_) (fun h=>Qj ?_)
  ·have hlt2:i < U.length:=by omega
   have hx2:=getElem?_eq_getElem hlt2;have htk:U.take (i+1)=U.take i++[U[i]]:=by rw[take_add_one,hx2];rfl
   generalize U[i]=x2 at hx2 htk;obtain⟨bU,sU,rfl,H,hcl2⟩:=Qw H (by omega);refine Y9 H ?_;refine Jd ?_;refine Q5 rfl (QW H rfl (by simpa using U4 hx2) rfl ?_);refine J0 H ?_;replace H:=hcl2 _ _ H
   have hstep:∀ g2:Bool,(g2=true↔e.region∈U.take i∨e.region=x2)→(g2=true↔e.region∈U.take (i+1)):=fun g2 hg2=>by
    rw[hg2,htk,mem_append,mem_singleton]
   cases gone with
   | true=>
    refine J5 H ?_;refine Dt H ?_;refine J3 H ?_;exact⟨_,⟨rfl,i+1,true,hlt2,rfl,hstep _ (by simp[← hgone]),rfl,rfl,rfl,rfl,rfl,rfl,rfl,rfl,rfl,rfl,rfl,rfl,Qa (by omega),H⟩,by omega⟩
   | false=>
    refine J5 H ?_;refine W6 H ?_;by_cases hxe:x2=e.region
    ·rw[show (x2 == e.region)=true from beq_iff_eq.2 hxe];refine J2 H ?_;refine J3 H ?_;exact⟨_,⟨rfl,i+1,true,hlt2,rfl,hstep _ (by simp[hxe]),rfl,rfl,rfl,rfl,rfl,rfl,rfl,rfl,rfl,rfl,rfl,rfl,Qa (by omega),H⟩,by omega⟩
    ·rw[show (x2 == e.region)=false from beq_eq_false_iff_ne.2 hxe];refine J2 H ?_;refine J3 H ?_;exact⟨_,⟨rfl,i+1,false,hlt2,rfl,hstep _ (by simp[← hgone];exact fun h=>hxe h.symm),rfl,rfl,rfl,rfl,rfl,rfl,rfl,rfl,rfl,rfl,rfl,rfl,Qa (by omega),H⟩,by omega⟩
  ·have hge:i=U.length:=by omega
   subst hge;rw[take_length] at hgone
   rcases hSt.tell k g e hk hheld with ⟨hv,hrU⟩|⟨e',hv,l1,l2,l3,l4,l5⟩
   ·obtain rfl:a6=8:=htn hv;obtain rfl:gone=true:=hgone.2 hrU;refine Bv H ?_;refine W4 H ?_;refine EQ H ?_;refine C3 H ?_;refine XT H ?_;refine UY rfl rfl ?_;refine UY rfl rfl ?_;refine UY rfl rfl ?_;refine Bi H ?_;refine XT H ?_;refine W4 H ?_;refine Rt H ?_;replace H:=Js [5,1,4,4,0,3] 3 H;exact⟨_,⟨rfl,ks++[(((k:Nat):Int),((g:Nat):Int))],by rw[length_append];exact hlt,rfl,rfl,rfl,rfl,rfl,rfl,rfl,H⟩,by rw[length_append];show W.length - (ks.length+1) < _;omega⟩
   ·obtain⟨he1,rfl⟩:=hts _ _ hv
    have hinf:KN e'=[.int .i64 e'.region,.int .i64 e.lay,.int .i64 e.count,.int .i64 e.ws.length,.bool e.pinned]:=by
     show [_,_,_,_,_]=_;rw[l1,l2,l3,l4]
    rw[he1,hinf,show KN e=[.int .i64 e.region,.int .i64 e.lay,.int .i64 e.count,.int .i64 e.ws.length,.bool e.pinned] from rfl] at H;generalize e.pinned=pn at H;cases gone with
    | true=>
     refine Bv H ?_;refine W4 H ?_;refine EQ H ?_;refine WZ H ?_;rw[show (((e.lay:Nat):Int) != ((e.lay:Nat):Int))=false from bne_self_eq_false _];refine YT H ?_;refine WZ H ?_;rw[show (((e.ws.length:Nat):Int) != ((e.ws.length:Nat):Int))=false from bne_self_eq_false _];refine Yy H ?_;refine DC H ?_;refine QT rfl rfl rfl (Rp rfl rfl (.inr rfl) rfl ?_);rw[show (if Y8 BinOp.neq=true then pn == pn else !(pn == pn))=false from by cases pn <;> rfl];refine Yy H ?_;refine Vo H ?_;replace H:=Js [5,1,4,4,0,3] 3 H;exact⟨_,⟨rfl,ks++[(((k:Nat):Int),((g:Nat):Int))],by rw[length_append];exact hlt,rfl,rfl,rfl,rfl,rfl,rfl,rfl,H⟩,by rw[length_append];show W.length - (ks.length+1) < _;omega⟩
    | false=>
     have hreg:e'.region=e.region:=l5.resolve_right fun h=>by cases hgone.2 h
     rw[hreg] at H;refine Vi H ?_;refine Gw H ?_;refine K8 H ?_;refine K8 H ?_;refine QT rfl rfl rfl (Wv rfl rfl rfl rfl (.inr rfl) rfl ?_);rw[show veq [.int .i64 e.region,.int .i64 e.lay,.int .i64 e.count,.int .i64 e.ws.length,.bool pn] [.int .i64 e.region,.int .i64 e.lay,.int .i64 e.count,.int .i64 e.ws.length,.bool pn]=true from iC _ _ _ _ _];refine YT H ?_;refine EQ H ?_;refine WZ H ?_;rw[show (((e.lay:Nat):Int) != ((e.lay:Nat):Int))=false from bne_self_eq_false _];refine YT H ?_;refine WZ H ?_;rw[show (((e.ws.length:Nat):Int) != ((e.ws.length:Nat):Int))=false from bne_self_eq_false _];refine Yy H ?_;refine DC H ?_;refine QT rfl rfl rfl (Rp rfl rfl (.inr rfl) rfl ?_);rw[show (if Y8 BinOp.neq=true then pn == pn else !(pn == pn))=false from by cases pn <;> rfl];refine Yy H ?_;refine Vo H ?_;replace H:=Js [5,1,4,4,0,3] 3 H;exact⟨_,⟨rfl,ks++[(((k:Nat):Int),((g:Nat):Int))],by rw[length_append];exact hlt,rfl,rfl,rfl,rfl,rfl,rfl,rfl,H⟩,by rw[length_append];show W.length - (ks.length+1) < _;omega⟩
end Go.Proofs.YtbnnnljagkjpiaaGreatDoor
