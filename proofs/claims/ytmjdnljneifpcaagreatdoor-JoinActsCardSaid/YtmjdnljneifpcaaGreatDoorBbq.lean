/- Cells: what is proved on the way: every input of the statement; no condition. Texts joined: ModJ ActA ChkQ SplT JoiE JoiF JoiG JoiH BumH StoE ImgE. -/
import Derived.Test.YtmjdnljneifpcaaGreatDoorBbe
import Derived.Test.YtmjdnljneifpcaaGreatDoorBbp
import Derived.Test.YtmjdnljneifpcaaGreatDoorBbm
import Derived.Test.YtmjdnljneifpcaaGreatDoorBbo
import Derived.Test.YtmjdnljneifpcaaGreatDoorBbk
import Derived.Test.YtmjdnljneifpcaaGreatDoorBbd
import Derived.Test.YtmjdnljneifpcaaGreatDoorBbn
import Derived.Test.YtmjdnljneifpcaaGreatDoorBbl
import Derived.Test.YtmjdnljneifpcaaGreatDoorBbf
import Derived.Test.YtmjdnljneifpcaaGreatDoorBbh
set_option linter.unusedVariables false
set_option linter.unusedSimpArgs false
set_option linter.unusedSectionVars false
namespace Go.Proofs.YtmjdnljneifpcaaGreatDoor
open Go.SL
theorem G7e [Q0i] (a:Option Addr) (c:Nat) (L:List Nat) (x:Nat) (hl:L.length≤1000000) {w:World} {fr:List Q0e} (H:Q0a w (NL (.slice a L.length c) L::fr)) :
  Calls Tryz.prog 176 #[.slice a L.length c,.int .i64 x] w (ret fun v w'=>v = .bool (decide (x∈L))∧Q0a w' (NL (.slice a L.length c) L::fr)):=by
 have hm:(L.map fun x:Nat=>(x:Int)).length=L.length:=List.length_map _;have h:=G3t a c L.length (L.map fun x:Nat=>(x:Int)) (x:Int) (by omega) (by omega) (w:=w) (fr:=fr) (by rw[hm,← Z0f];exact H)
 have hd:decide ((x:Int)∈(L.map fun x:Nat=>(x:Int)).take L.length)=decide (x∈L):=by
  rw[← hm,List.take_length];refine decide_eq_decide.2 ⟨fun h=>?_,fun h=>List.mem_map.2 ⟨x,h,rfl⟩⟩;obtain⟨y,h1,h2⟩:=List.mem_map.1 h;obtain rfl:y=x:=by omega
  exact h1
 rw[hd,hm,← Z0f] at h;exact h
theorem Y0z [Q0i] (p:Nat) (m:MS) (r:Int) (hO:Z2w m.P) {w:World} {fr:List Q0e} (H:Q0a w (Q2p p m::fr)) :
  Calls Tryz.prog 101 #[pp p,.int .i64 r] w (ret fun v w'=>(Q5k m.P r=false∧v = .tuple #[.slice none 0 0,.int .i64 15]∧Q0a w' (Q2p p m::fr))∨(Q5k m.P r=true∧∃ vl,v = .tuple #[vl,.int .i64 0]∧Q0a w' (NL vl (Q7a m.P r)::Q2p p (Y1u m (Q7a m.P r))::fr))):=by
 obtain⟨t,lc,oc,aL,cL,aO,cO,hm,h2,h3,hl1,hl2,H⟩:=Q2t H;have hP:=hm.P;have hfew:=hm.few;refine Q0c Tryz.func101 rfl (by kernel_rfl) ?_;refine U4w H ?_;replace H:=Js [1,0] 0 H;refine Jc rfl rfl (Q7f t m.P r H) ?_;clear H;rintro v w ⟨rfl,H⟩;refine J0 H ?_;cases hlv:Q5k m.P r with
 | false=>
  refine J3 H ?_;refine J28 H ?_;exact Q0g (Jy (Q2v hm h2 h3 H.swap) rfl fun w' H' => .inl ⟨rfl,rfl,H'⟩)
 | true=>
 refine J47 H ?_;refine J10 H ?_;refine Jc rfl rfl (Z8s t m.P hO r hP.1 (by omega) H) ?_;clear H;intro v w H;obtain⟨aU,cU,rfl⟩:=Q0j H (Q0d _) (by decide);have hUl:(Q7a m.P r).length≤1000000:=by have:=V6k m.P r m.P.length;unfold Q7a;omega
 generalize hL:Q7a m.P r=L at H hUl ⊢;refine J0 H ?_;have hm1:=Y0x hm L L 0;replace H:=Js [2,1,1,1,1,1,0] 0 H;replace H:=Q2v (m:={ m with P:=Q5f m.P L,objs:=V5a (Q2c L) 0 m.objs }) hm1 h2 (by rw[V4w];exact h3) H;clear h2 h3 hl1 hl2 lc oc aL cL aO cO;refine J5 H ?_;refine Q1m (fun ms σ w=>ms=[]∧σ 0=pp p∧σ 7 = .slice aU L.length cU∧Q0a w (Q2p p { m with P:=Q5f m.P L,objs:=m.objs.map (Q2c L) }::NL (.slice aU L.length cU) L::fr)) ?_ ?_
 ·refine Q0t ?_;refine Q1l (fun ms σ w z=>ms=[]∧∃ i:Nat,i≤m.objs.length∧z=m.objs.length - i∧σ 0=pp p∧σ 7 = .slice aU L.length cU∧σ 8 = .int .i64 i∧Q0a w (Q2p p { m with P:=Q5f m.P L,objs:=V5a (Q2c L) i m.objs }::NL (.slice aU L.length cU) L::fr)) (m:=m.objs.length) ⟨rfl,0,by omega,by omega,rfl,rfl,rfl,H⟩ ?_;clear H;rintro ms σ w z ⟨rfl,i,hi,rfl,g0,g7,g8,H⟩;rw[Q0b g0,Q0b g7,Q0b g8];have hml:=V0m (Q2c L) i m.objs;by_cases hlt:i < m.objs.length
  ·have hx:=List.getElem?_eq_getElem hlt;generalize m.objs[i]=x at hx;have hxi:({ m with P:=Q5f m.P L,objs:=V5a (Q2c L) i m.objs }:MS).objs[i]? = some x:=G3u hx;obtain⟨t,lc,aL,cL,bO,cO,s,ptrs,qq,vw,vk,vt,rest,hmm,h2,hp,H,hclose⟩:=Q4i H hxi;dsimp only at H hclose;rw[hml] at H hclose;have hset:V5a (Q2c L) (i+1) m.objs=(V5a (Q2c L) i m.objs).set i (Q2c L x):=(Z0d hx).symm;have hw':MWF { m with P:=Q5f m.P L,objs:=(V5a (Q2c L) i m.objs).set i (Q2c L x) }:=by rw[← hset];exact Y0x hm L L (i+1)
   refine J78 H ?_;refine Q2d rfl (fun h=>Q0w ?_) (fun h=>absurd (show ((i:Nat):Int) < ((m.objs.length:Nat):Int) by omega) h);refine G9w H ?_;refine U8z H ?_;refine Jd ?_;refine Q0s rfl (Q0l H rfl hp rfl ?_);refine Jv ?_;refine J45 H ?_;replace H:=Js [10,0,0,0,0,0,0,0,0,0,0] 0 H;refine Jc rfl rfl (G7e aU cU L x.region hUl H) ?_;clear H;rintro v w ⟨rfl,H⟩;replace H:=Js [1,1,1,1,1,1,1,1,1,1,0] 0 H;by_cases hin:x.region∈L
   ·rw[decide_eq_true hin];refine U3u H ?_;refine Q3g rfl ?_;refine J10 H ?_;refine Jd ?_;refine Q0s rfl (Q0l H rfl hp rfl ?_);refine J40 H ?_;clear H;intro w H;refine Q0h ?_;have hxx:Q2c L x={ x with gone:=true }:=by unfold Q2c;rw[if_pos hin]
    rw[hxx] at hset hw';replace H:Q0a w (pts qq (Z7b vw vk vt { x with gone:=true })::_):=H;replace H:=hclose _ _ _ hw' H;rw[← hset] at H;refine J11 H ?_;exact⟨_,⟨rfl,i+1,hlt,rfl,rfl,rfl,Q2a (by omega),H⟩,by omega⟩
   ·rw[decide_eq_false hin];refine U3u H ?_;refine Q1y rfl (Q0w ?_);have hxx:Q2c L x=x:=by unfold Q2c;rw[if_neg hin]
    rw[hxx] at hset hw';replace H:=hclose _ _ _ hw' H;rw[← hset] at H;refine J11 H ?_;exact⟨_,⟨rfl,i+1,hlt,rfl,rfl,rfl,Q2a (by omega),H⟩,by omega⟩
  ·obtain rfl:i=m.objs.length:=by omega
   obtain⟨t,lc,oc,aL,cL,aO,cO,hmm,h2,h3,hl1,hl2,H⟩:=Q2t H;dsimp only at H;rw[hml] at H;refine J78 H ?_;refine Q2d rfl (fun h=>absurd (show ((m.objs.length:Nat):Int) < ((m.objs.length:Nat):Int) from h) (by omega)) (fun h=>Q1n ?_);rw[← hml] at H;replace H:=Q2v (m:={ m with P:=Q5f m.P L,objs:=V5a (Q2c L) m.objs.length m.objs }) hmm h2 h3 H;rw[Y6e] at H;exact⟨rfl,rfl,rfl,rfl,H⟩
 clear H;rintro ms σ w ⟨rfl,g0,g7,H⟩;rw[Q0b g0,Q0b g7];have hmG:=Y0x hm L L m.objs.length;rw[Y6e] at hmG;obtain⟨t,lc,oc,aL,cL,aO,cO,_,h2,h3,hl1,hl2,H⟩:=Q2t H;dsimp only at H h2 h3 hl2;have hGl:(m.objs.map (Q2c L)).length=m.objs.length:=List.length_map _;have hfm:(Y1u m L).objs=(m.objs.map (Q2c L)).map (Q6m (m.objs.map (Q2c L))):=rfl
 have hGok:∀ x∈m.objs.map (Q2c L),V2v m.lays m.objs.length x:=fun x hx=>by
  have:=hmG.objs x hx
  rwa [show ({ m with P:=Q5f m.P L,objs:=m.objs.map (Q2c L) }:MS).objs.length=m.objs.length from hGl] at this
 have hsz:∀ x∈m.objs.map (Q2c L),x.w.length < 8192:=fun x hx=>by
  obtain⟨o,ho⟩:=List.getElem?_of_mem hx;exact Q4w (w:=hmG) ho
 rw[hGl] at H hl2;generalize m.objs.map (Q2c L)=G at H h3 hGl hfm hGok hsz
 let F:OC→OC:=fun y=>{ y with ob:=Q6m G y.ob }
 have hF:∀ y,F y={ y with ob:=Q6m G y.ob }:=fun _=>rfl;clear_value F;replace H:=Js [5,4,0,0,0,0] 0 H;rw[← V4w F oc] at H;rw[V4w] at H;refine J5 H ?_;refine Q1m (fun ms σ w=>ms=[]∧σ 7 = .slice aU L.length cU∧Q0a w (star ((oc.map F).map ocr)::sls 77 1 (.slice aO m.objs.length cO) (oc.map fun x=>pp x.ptr)::pts p (row 58 [pp t,.slice aL m.lays.length cL,.slice aO m.objs.length cO])::RTR t (Q5f m.P L)::sls 102 4 (.slice aL m.lays.length cL) (Q2f lc)::star (lc.map V2q)::NL (.slice aU L.length cU) L::fr)) ?_ ?_
 ·refine Q0t ?_;refine Q1l (fun ms σ w z=>ms=[]∧∃ i:Nat,i≤m.objs.length∧z=m.objs.length - i∧σ 0=pp p∧σ 7 = .slice aU L.length cU∧σ 10 = .int .i64 i∧Q0a w (star ((V5a F i oc).map ocr)::sls 77 1 (.slice aO m.objs.length cO) (oc.map fun x=>pp x.ptr)::pts p (row 58 [pp t,.slice aL m.lays.length cL,.slice aO m.objs.length cO])::RTR t (Q5f m.P L)::sls 102 4 (.slice aL m.lays.length cL) (Q2f lc)::star (lc.map V2q)::NL (.slice aU L.length cU) L::fr)) (m:=m.objs.length) ⟨rfl,0,by omega,by omega,rfl,rfl,rfl,by rw[V4w];exact H⟩ ?_;clear H;rintro ms σ w z ⟨rfl,i,hi,rfl,g0,g7,g10,H⟩;rw[Q0b g0,Q0b g7,Q0b g10];refine J78 H ?_;refine Q2d rfl (fun h=>Q0w ?_) (fun h=>Q1n ?_)
  ·have hlt:i < m.objs.length:=by omega
   have hy:=List.getElem?_eq_getElem (show i < oc.length by omega);generalize oc[i]=y at hy;obtain⟨qq,vw,vk,vt,x⟩:=y;have hxG:G[i]? = some x:=by rw[← h3,List.getElem?_map,hy];rfl
   obtain⟨_,_,hkw,htw,hgo⟩:=hGok x (List.mem_of_getElem? hxG);have hkt:x.kind.length=x.to.length:=by omega
   have hsx:=hsz x (List.mem_of_getElem? hxG);have hyK:=G3u (f:=F) hy;obtain⟨rest,Hv,hno⟩:=G3w hyK H;dsimp only at Hv;obtain⟨ak,ck,rfl⟩:=Q0j (m:=x.kind.length) Hv.drop.drop (Q0d _) (by decide);obtain⟨at',ct,rfl⟩:=Q0j (m:=x.kind.length) Hv.drop.drop.drop (by rw[Q0d,hkt]) (by decide);clear Hv hno rest;obtain⟨bO,sO,rfl,H,hclO⟩:=Q0y H.swap (by omega)
   have hpt:∀ (k:Nat) (y:OC),oc[k]? = some y→((oc.map fun x=>pp x.ptr)++sO)[0+k*1]? = some (pp y.ptr):=fun k y hk=>by
    have:=(List.getElem?_eq_some_iff.1 hk).1;rw[Nat.zero_add,Nat.mul_one,List.getElem?_append_left (by rw[List.length_map];exact this),List.getElem?_map,hk];rfl
   refine G9z H ?_;refine Jd ?_;refine Q0s rfl (Q0l H rfl (hpt i _ hy) rfl ?_);refine J0 H ?_;refine J14 H ?_
   have hset0:(V5a F i oc).set i ⟨qq,vw,.slice ak x.kind.length ck,.slice at' x.kind.length ct,Q4m G 0 x⟩=V5a F i oc:=by
    rw[Z3f hkt];apply List.ext_getElem?;intro k;rw[List.getElem?_set];split
    ·rename_i hk;subst hk;rw[if_pos (by rw[V0m];omega),hyK]
    ·rfl
   have hFy:F ⟨qq,vw,.slice ak x.kind.length ck,.slice at' x.kind.length ct,x⟩=⟨qq,vw,.slice ak x.kind.length ck,.slice at' x.kind.length ct,Q4m G x.kind.length x⟩:=by rw[hF,Z9c G hkt]
   have hstep:=Z0d (f:=F) hy;rw[hFy] at hstep;rw[← hset0] at H;refine J7 H ?_;refine Q1m (fun ms σ w=>ms=[]∧σ 0=pp p∧σ 7 = .slice aU L.length cU∧σ 10 = .int .i64 i∧Q0a w (star (((V5a F i oc).set i ⟨qq,vw,.slice ak x.kind.length ck,.slice at' x.kind.length ct,Q4m G x.kind.length x⟩).map ocr)::pts bO (row 77 ((oc.map fun x=>pp x.ptr)++sO))::pts p (row 58 [pp t,.slice aL m.lays.length cL,.slice (some ⟨bO,0,none⟩) m.objs.length cO])::RTR t (Q5f m.P L)::sls 102 4 (.slice aL m.lays.length cL) (Q2f lc)::star (lc.map V2q)::NL (.slice aU L.length cU) L::fr)) ?_ ?_
   ·refine Q0t ?_;refine Q1l (fun ms σ w z=>ms=[]∧∃ j:Nat,j≤x.kind.length∧z=x.kind.length - j∧σ 0=pp p∧σ 7 = .slice aU L.length cU∧σ 10 = .int .i64 i∧σ 11=pp qq∧σ 12 = .int .i64 j∧Q0a w (pts bO (row 77 ((oc.map fun x=>pp x.ptr)++sO))::star (((V5a F i oc).set i ⟨qq,vw,.slice ak x.kind.length ck,.slice at' x.kind.length ct,Q4m G j x⟩).map ocr)::pts p (row 58 [pp t,.slice aL m.lays.length cL,.slice (some ⟨bO,0,none⟩) m.objs.length cO])::RTR t (Q5f m.P L)::sls 102 4 (.slice aL m.lays.length cL) (Q2f lc)::star (lc.map V2q)::NL (.slice aU L.length cU) L::fr)) (m:=x.kind.length) ⟨rfl,0,by omega,by omega,rfl,rfl,rfl,rfl,rfl,H⟩ ?_;clear H;rintro ms σ w z ⟨rfl,j,hj,rfl,g0,g7,g10,g11,g12,H⟩;rw[Q0b g0,Q0b g7,Q0b g10,Q0b g11,Q0b g12];have Hc:=H.swap
    have hcur:((V5a F i oc).set i ⟨qq,vw,.slice ak x.kind.length ck,.slice at' x.kind.length ct,Q4m G j x⟩)[i]? = some ⟨qq,vw,.slice ak x.kind.length ck,.slice at' x.kind.length ct,Q4m G j x⟩:=by
     rw[List.getElem?_set_self (by rw[V0m];omega)]
    obtain⟨rest,H,hcv⟩:=G3w hcur Hc;dsimp only at H hcv;obtain⟨hgk,hgt⟩:=Z9a G j hkt;refine J78 H ?_;refine Q2d rfl (fun h=>Q0w ?_) (fun h=>Q1n ?_)
    ·have hjl:j < x.kind.length:=by omega
     have ha:=List.getElem?_eq_getElem hjl;have hb:=List.getElem?_eq_getElem (show j < x.to.length by omega);generalize x.kind[j]=a at ha;generalize x.to[j]=b at hb;obtain⟨hga,hgb⟩:=G3v (G:=G) ha hb;replace H:=Js [2,0,0,0] 0 H;obtain⟨bk,sk,rfl,H,_,_,hck⟩:=Q2n H (by omega);replace H:=Js [3,0,0,0] 0 H;obtain⟨bt,st,rfl,H,_,_,hct⟩:=Q2n H (by omega)
     have hback:∀ (w':World) (l':List Q0e) (k' t':List Nat),k'.length=x.kind.length→t'.length=x.kind.length→Q0a w' (pts bt (row 3 (Q0u t'++st))::pts bk (row 3 (Q0u k'++sk))::pts qq (Z7b vw (.slice (some ⟨bk,0,none⟩) x.kind.length ck) (.slice (some ⟨bt,0,none⟩) x.kind.length ct) (Q4m G j x))::UL vw (Q4m G j x).w::star rest::l')→Q0a w' (star (((V5a F i oc).set i ⟨qq,vw,.slice (some ⟨bk,0,none⟩) x.kind.length ck,.slice (some ⟨bt,0,none⟩) x.kind.length ct,{ Q4m G j x with kind:=k',to:=t' }⟩).map ocr)::l'):=by
      intro w' l' k' t' e1 e2 H;replace H:=hct _ _ (Q0u t') (by rw[Q0d,Q0d];omega) H;replace H:=Js [1,0,0,0] 0 H;replace H:=hck _ _ (Q0u k') (by rw[Q0d,Q0d];omega) H;replace H:=Js [2,2,0,0] 0 H;have H:=hcv w' l' { Q4m G j x with kind:=k',to:=t' } H;rw[List.set_set] at H;exact H
     clear hct hck hcv Hc;refine U4u H ?_;clear H;intro w H;refine J61 H ?_;refine Ja 4 ?_;refine Ji 5 ?_;refine Q2b 6 [] H rfl (Q0n.none rfl) rfl (Q2r hga) (by kernel_rfl) ?_;refine Ja 7 ?_;refine Ja 8 ?_;by_cases hk2:a=2
     ·rw[show (((a:Nat):Int) == 2)=true by rw[hk2];rfl]
      have hbl:b < m.objs.length:=by
       have:=hgo j (by rw[ha,hk2]);rw[List.getD_eq_getElem?_getD,hb] at this;exact this
      have hyb:=List.getElem?_eq_getElem (show b < oc.length by omega);generalize oc[b]=yb at hyb
      obtain⟨zb,hzb,hzp,hzg⟩:∃ zb:OC,((V5a F i oc).set i ⟨qq,vw,.slice (some ⟨bk,0,none⟩) x.kind.length ck,.slice (some ⟨bt,0,none⟩) x.kind.length ct,Q4m G j x⟩)[b]? = some zb∧zb.ptr=yb.ptr∧zb.ob.gone=yb.ob.gone:=by
       rw[List.getElem?_set];by_cases hib:i=b
       ·subst hib;rw[if_pos rfl,if_pos (by rw[V0m];omega)];rw[hy] at hyb;injection hyb with hyb
        subst hyb;exact⟨_,rfl,rfl,rfl⟩
       ·rw[if_neg hib,V0l,hyb];refine⟨_,rfl,?_,?_⟩ <;> dsimp only <;> split
        ·rw[hF]
        ·rfl
        ·rw[hF];rfl
        ·rfl
      have hGb:G[b]? = some yb.ob:=by rw[← h3,List.getElem?_map,hyb];rfl
      have hhit:V3g G a b=yb.ob.gone:=by
       unfold V3g;rw[hGb,hk2];rfl
      have Hc:=hback _ _ _ _ hgk hgt H;obtain⟨restb,Hb,_⟩:=G3w hzb Hc;have hpb:=hpt b yb hyb;rw[← hzp] at hpb;rw[← hzg] at hhit;refine U4a H ?_;refine Jl 12 [] H ?_;refine Ja 13 ?_;refine Ja 14 ?_;refine Jf 15 ?_;refine Jl 16 [] H ?_;refine Ja 17 ?_;refine Ji 18 ?_;refine Q2b 19 [] H rfl (Q0n.of rfl rfl rfl) rfl (Q2r hgb) (by kernel_rfl) ?_;refine Ji 20 ?_;refine Q2b 21 [] H rfl (Q0n.of rfl rfl rfl) rfl hpb (by kernel_rfl) ?_;refine Ja 22 ?_;refine Jf 23 ?_;refine Q2b 24 [] Hb rfl (Q0n.of rfl rfl rfl) rfl rfl (by kernel_rfl) ?_;refine Ja 25 ?_;refine G9f (by kernel_rfl) (Q9y.cons (.inr (Q0a.at Hb)) (by repeat first|exact .nil|refine .cons (.inr H.at) ?_|refine .cons (.inr H.mp) ?_|refine .cons (.inl (by kernel_rfl)) ?_)) ?_;clear Hb Hc;cases hgn:zb.ob.gone with
      | true=>
       rw[hgn] at hhit
       repeat refine Q0m ?_
       refine Q3g rfl ?_
       repeat refine Q0m ?_
       refine Q0f ?_;refine Jv ?_;refine Jv ?_;refine Q0s rfl (Q0q rfl rfl ?_);refine Q0s rfl (Q0l H rfl rfl rfl ?_);refine Jv ?_;refine Jd ?_;refine Q0s rfl (Q2e H rfl rfl inferInstance rfl (by simp only[List.length_append,Q0d];omega) rfl ?_);clear H;intro w H;rw[Int.toNat_natCast,Q7h (v:=1) (x:=1) (by omega) rfl] at H;refine U7y H ?_;refine Jd ?_;refine Q0s rfl (Q2e H rfl rfl inferInstance rfl (by simp only[List.length_append,Q0d];omega) rfl ?_);clear H;intro w H;rw[Int.toNat_natCast,Q7h (v:=0) (x:=0) (by omega) rfl] at H;refine Q0h ?_;replace H:=hback _ _ _ _ (by rw[List.length_set];exact hgk) (by rw[List.length_set];exact hgt) H;rw[Z9b ha hb hhit] at H;refine J11 H ?_;exact⟨_,⟨rfl,j+1,hjl,rfl,rfl,rfl,rfl,rfl,Q2a (by omega),H.swap⟩,by omega⟩
      | false=>
       rw[hgn] at hhit;refine J9 H ?_;replace H:=hback _ _ _ _ hgk hgt H;replace H:Q0a w (star (((V5a F i oc).set i ⟨qq,vw,.slice (some ⟨bk,0,none⟩) x.kind.length ck,.slice (some ⟨bt,0,none⟩) x.kind.length ct,Q4m G j x⟩).map ocr)::_):=H;rw[Z0e ha hb (by rw[hhit];decide)] at H;refine J11 H ?_;exact⟨_,⟨rfl,j+1,hjl,rfl,rfl,rfl,rfl,rfl,Q2a (by omega),H.swap⟩,by omega⟩
     ·rw[show (((a:Nat):Int) == 2)=false by rw[beq_eq_false_iff_ne];omega]
      have hhit:¬ V3g G a b=true:=by
       unfold V3g;rw[show (a == 2)=false by rw[beq_eq_false_iff_ne];exact hk2];simp
      refine U8a H ?_;refine Jn 12 ?_;refine Jn 13 ?_;refine U8b H ?_;refine Jn 24 ?_;refine Ja 25 ?_;refine Jx H ?_;refine J9 H ?_;replace H:=hback _ _ _ _ hgk hgt H;replace H:Q0a w (star (((V5a F i oc).set i ⟨qq,vw,.slice (some ⟨bk,0,none⟩) x.kind.length ck,.slice (some ⟨bt,0,none⟩) x.kind.length ct,Q4m G j x⟩).map ocr)::_):=H;rw[Z0e ha hb hhit] at H;refine J11 H ?_;exact⟨_,⟨rfl,j+1,hjl,rfl,rfl,rfl,rfl,rfl,Q2a (by omega),H.swap⟩,by omega⟩
    ·obtain rfl:j=x.kind.length:=by omega
     exact⟨rfl,rfl,rfl,rfl,rfl,Hc⟩
   clear H;rintro ms σ w ⟨rfl,g0,g7,g10,H⟩;rw[Q0b g0,Q0b g7,Q0b g10];rw[hstep] at H;replace H:=(hclO _ _ H.swap).swap;refine J11 H ?_;exact⟨_,⟨rfl,i+1,hlt,rfl,rfl,rfl,Q2a (by omega),H⟩,by omega⟩
  ·obtain rfl:i=oc.length:=by omega
   rw[Y6e] at H;exact⟨rfl,rfl,rfl,H⟩
 clear H;rintro ms σ w ⟨rfl,g7,H⟩;rw[Q0b g7];replace H:=Js [2,2,2,2,1,0] 0 H
 have hpp:(oc.map fun x=>pp x.ptr)=((oc.map F).map fun x=>pp x.ptr):=by
  rw[List.map_map];congr 1
  funext y
  show pp y.ptr=pp (F y).ptr;rw[hF]
 rw[hpp] at H
 have hob:(oc.map F).map (·.ob)=G.map (Q6m G):=by
  have e1:(oc.map F).map (·.ob)=oc.map (fun y=>Q6m G y.ob):=by
   rw[List.map_map];congr 1
   funext y
   show (F y).ob=_;rw[hF]
  have e2:(oc.map (·.ob)).map (Q6m G)=oc.map (fun y=>Q6m G y.ob):=by
   rw[List.map_map];rfl
  rw[e1,← e2,h3]
 have H:=Q2v (m:=Y1u m L) (G7c hm L) h2 (by rw[hfm];exact hob) H;refine J11 H ?_;exact Q0g (Jy H.swap rfl fun w' H' => .inr ⟨rfl,_,rfl,H'⟩)
end Go.Proofs.YtmjdnljneifpcaaGreatDoor
namespace Go.Proofs.YtmjdnljneifpcaaGreatDoor
open Go.SL
theorem G3x {c:List Value} {o n:Nat} {L:List Int} (h:Q0o c o n (Q1g L)) {i:Nat} {x:Int} (hi:L[i]? = some x):c[o+i*1]? = some (.int .i64 x):=by
 rw[Nat.mul_one];refine h.get i _ ?_;unfold Q1g;rw[List.getElem?_map,hi];rfl
theorem Z3g [Q0i] (p c mo:Nat) (a:Option Addr) (cap:Nat) (told:List (Nat×Nat)) (hlen:told.length≤1000000) (vL:Value) (L:List Int) (hL:L.length≤1000000) {w:World} {fr:List Q0e} (hr:RdS fr vL L.length 1 (Q1g L)) (H:Q0a w (V0q p c mo (.slice a told.length cap)::TKL (.slice a told.length cap) told::fr)) :
  Calls Tryz.prog 25 #[pp p,vL] w (ret fun v w'=>∃ (ys:List ((Nat×Nat)×Int)) (vt vo:Value),v = .tuple #[vt,vo]∧ys.length=L.length∧(∀ y∈ys,Y9z told y)∧Q0a w' (TKL vt (ys.map (·.1))::IL vo (ys.map (·.2))::V0q p c mo (.slice a told.length cap)::TKL (.slice a told.length cap) told::fr)):=by
 obtain⟨h0,adL,capL,rfl,hrd⟩:=hr;refine Q0c Tryz.func25 rfl (by kernel_rfl) ?_;refine J3 H ?_;refine J14 H ?_;refine U1q H ?_;refine Q1l (fun ms σ w z=>ms=[]∧∃ (i:Nat) (ys:List ((Nat×Nat)×Int)) (vt vo:Value),i≤L.length∧z=L.length - i∧ys.length=i∧(∀ y∈ys,Y9z told y)∧σ 0=pp p∧σ 6=vt∧σ 7=vo∧σ 11 = .slice adL L.length capL∧σ 12 = .int .i64 L.length∧σ 13 = .int .i64 i∧Q0a w (TKL vt (ys.map (·.1))::IL vo (ys.map (·.2))::V0q p c mo (.slice a told.length cap)::TKL (.slice a told.length cap) told::fr)) (m:=L.length) ⟨rfl,0,[],_,_,by omega,by omega,rfl,fun y hy=>(by cases hy),rfl,rfl,rfl,rfl,rfl,rfl,Q3x (Q3x H)⟩ ?_;clear H;rintro ms σ w z ⟨rfl,i,ys,vt,vo,hi,rfl,hys,hch,g0,g6,g7,g11,g12,g13,H⟩;obtain⟨at',mt,ct,rfl⟩:=Q1d H;obtain⟨ao,mo',co,rfl⟩:=Q1d H.drop;rw[Q0b g0,Q0b g6,Q0b g7,Q0b g11,Q0b g12,Q0b g13];refine J5 H ?_;refine Q2d rfl (fun h=>Q0w ?_) (fun h=>Q1n ?_)
 ·have hlt:i < L.length:=by omega
  have hy:=List.getElem?_eq_getElem hlt;generalize L[i]=x at hy
  rcases hrd with hz|⟨b,o,E,fz,cc,rfl,hA,hrd⟩
  ·omega
  haveI:=hA;have hx:=G3x hrd hy;refine J19 H ?_;refine Jd ?_;refine Q0s rfl (Q0l H rfl hx rfl ?_);refine J0 H ?_;refine U7z H ?_;by_cases ht:told=[]
  ·subst ht;rw[show ((([]:List (Nat×Nat)).length:Int) == 0)=true from rfl];refine J13 H ?_;refine J20 H ?_;refine U3o H ?_;clear H;intro b25 w H;replace H:=Js [1,0] 0 H;refine Q0s rfl (Q1t H rfl rfl (by repeat first|exact .nil _|apply Q0o.cons rfl) rfl (by decide) (by rw[Q6k,List.length_map];simp only[List.length_cons,List.length_nil];omega) rfl rfl ?_);clear H;intro v26 w H;obtain⟨a26,m26,c26,rfl⟩:=Q1d H;refine Jv ?_;refine J35 H ?_;clear H;intro b28 w H;replace H:=Js [3,0,0,0] 0 H;refine Q0s rfl (Q1t H rfl rfl (by repeat first|exact .nil _|apply Q0o.cons rfl) rfl (by decide) (by rw[Q0r,List.length_map];simp only[List.length_cons,List.length_nil];omega) rfl rfl ?_);clear H;intro v29 w H;obtain⟨a29,m29,c29,rfl⟩:=Q1d H;refine J2 H ?_;replace H:=Js [1,2,1,0] 0 H;replace H:=H.drop.drop;have e1:tkc (ys.map (·.1))++[.int .i64 1,.int .i64 1]=tkc ((ys++[(((1,1),-1):(Nat×Nat)×Int)]).map (·.1)):=by rw[List.map_append,V6f];rfl
   have e2:Q1g (ys.map (·.2))++[.int .i64 (-1)]=Q1g ((ys++[(((1,1),-1):(Nat×Nat)×Int)]).map (·.2)):=by rw[List.map_append,Q5i];rfl
   rw[e1,e2] at H;refine Q1n ?_;refine J3 H ?_;refine⟨_,⟨rfl,i+1,ys++[((1,1),-1)],_,_,hlt,rfl,by simp[hys],fun y hy=>?_,rfl,rfl,rfl,rfl,rfl,Q2a (by omega),H⟩,by omega⟩
   rcases List.mem_append.1 hy with hy|hy
   ·exact hch y hy
   ·rw[List.mem_singleton] at hy;subst hy;exact .inr ⟨rfl,rfl⟩
  ·have hlp:0 < told.length:=List.length_pos_iff.2 ht;rw[show ((told.length:Int) == 0)=false by rw[beq_eq_false_iff_ne];omega];refine U1y H ?_;refine Q0s rfl (Y4m rfl rfl ?_);refine J26 H ?_;refine J45 H ?_;refine Q0s rfl (Q1z rfl rfl ?_);refine Q0s rfl (Y4m rfl rfl ?_)
   obtain⟨K,hK⟩:∃ K:Nat,IntKind.u64.wrap x=K:=⟨(IntKind.u64.wrap x).toNat,by
    have:0≤IntKind.u64.wrap x:=Int.emod_nonneg _ (by decide);omega⟩
   have e1:IntKind.u64.wrap (told.length:Int)=(told.length:Int):=Int.emod_eq_of_lt (by omega) (by show (told.length:Int) < 18446744073709551616;omega);rw[hK,e1];have hmod:=Nat.mod_lt K hlp
   refine V5d (v := .int .u64 ((K % told.length:Nat):Int)) (by
    show (if IntKind.u64=IntKind.u64 then (if (told.length:Int)=0 then none else some (Value.int IntKind.u64 (Int.tmod (K:Int) (told.length:Int)))) else none)=_;rw[if_pos rfl,if_neg (by omega),Int.tmod_eq_emod_of_nonneg (by omega),Int.natCast_emod]) rfl ?_
   refine Q0s rfl (Y4m rfl rfl ?_);rw[Q1e (x:=((K % told.length:Nat):Int)) (by omega) (by omega)];refine J0 H ?_;generalize K % told.length=n at hmod;have hn:=List.getElem?_eq_getElem hmod;generalize told[n]=xy at hn;obtain⟨tx,ty⟩:=xy;replace H:=Js [3,0,0,0] 0 H;obtain⟨bT,sT,rfl,H,hcl⟩:=Q0y H hlp;refine U4s H ?_;refine Jd ?_;refine Q0s rfl (Q1j H rfl (Q6c hn) rfl ?_);refine J35 H ?_;clear H;intro b48 w H;replace H:=Js [2,0,0] 0 H;refine Q0s rfl (Q1t H rfl rfl (by repeat first|exact .nil _|apply Q0o.cons rfl) rfl (by decide) (by rw[Q6k,List.length_map];simp only[List.length_cons,List.length_nil];omega) rfl rfl ?_);clear H;intro v49 w H;obtain⟨a49,m49,c49,rfl⟩:=Q1d H;refine J26 H ?_;refine J35 H ?_;clear H;intro b52 w H;replace H:=Js [4,0,0,0,0] 0 H;refine Q0s rfl (Q1t H rfl rfl (by repeat first|exact .nil _|apply Q0o.cons rfl) rfl (by decide) (by rw[Q0r,List.length_map];simp only[List.length_cons,List.length_nil];omega) rfl rfl ?_);clear H;intro v53 w H;obtain⟨a53,m53,c53,rfl⟩:=Q1d H;refine J2 H ?_;replace H:=Js [4,2,0,2,0,0] 0 H;replace H:=hcl _ _ H;replace H:=Js [4,4,1,1,1,0] 0 H;replace H:=H.drop.drop;have e2:tkc (ys.map (·.1))++[.int .i64 ((tx:Nat):Int),.int .i64 ((ty:Nat):Int)]=tkc ((ys++[(((tx,ty),(n:Int)):(Nat×Nat)×Int)]).map (·.1)):=by rw[List.map_append,V6f];rfl
   have e3:Q1g (ys.map (·.2))++[.int .i64 (n:Int)]=Q1g ((ys++[(((tx,ty),(n:Int)):(Nat×Nat)×Int)]).map (·.2)):=by rw[List.map_append,Q5i];rfl
   rw[e2,e3] at H;refine J3 H ?_;refine⟨_,⟨rfl,i+1,ys++[((tx,ty),(n:Int))],_,_,hlt,rfl,by simp[hys],fun y hy=>?_,rfl,rfl,rfl,rfl,rfl,Q2a (by omega),H⟩,by omega⟩
   rcases List.mem_append.1 hy with hy|hy
   ·exact hch y hy
   ·rw[List.mem_singleton] at hy;subst hy;exact .inl ⟨n,rfl,hn⟩
 ·obtain rfl:i=L.length:=by omega
  refine U0f H ?_;exact Q0g (Jy H rfl fun w' H'=>⟨ys,_,_,rfl,hys,hch,H'⟩)
end Go.Proofs.YtmjdnljneifpcaaGreatDoor
namespace Go.Proofs.YtmjdnljneifpcaaGreatDoor
open Go.SL
set_option maxRecDepth 10000 in
theorem G7f [Q0i] (p:Nat) (u:Ptr) (s:CS) (r:Int) (v:Value) (l:List (Nat×Nat)) (hl:l.length≤1000) {w:World} {fr:List Q0e} (H:Q0a w (TAB u.tp s.tab::Q7x p u::TRE u.trp s.last s.par::TKL v l::fr)) :
  Calls Tryz.prog 66 #[pp p,.int .i64 r,v] w (ret fun x w'=>x = .int .i64 (Q6l s r l:Nat)∧Q0a w' (TAB u.tp s.tab::Q7x p u::TRE u.trp s.last s.par::TKL v l::fr)):=by
 obtain⟨a,c,rfl⟩:=Q0j (H.pull 3) (Q6k l) (by decide);refine Q0c Tryz.func66 rfl (by kernel_rfl) ?_;refine J14 H ?_;refine G9p ?_;refine J77 H ?_;by_cases h64:64 < l.length
 ·rw[show decide (((l.length:Nat):Int) > 64)=true from decide_eq_true (by omega)];refine J21 H ?_;exact Q0g (Jy H rfl fun w' H'=>⟨by unfold Q6l;rw[if_pos h64];rfl,H'⟩)
 have hfail:∀ x:Nat,x≠0→Y1f s.tab r [] l=x→Q6l s r l=x:=fun x h1 h2=>by
  unfold Q6l;rw[if_neg h64,h2,if_pos h1]
 rw[show decide (((l.length:Nat):Int) > 64)=false from decide_eq_false (by omega)];refine J9 H ?_;refine J5 H ?_;refine G9c ?_;refine J77 H ?_;replace H:=Js [3,0,0,0] 0 H;refine J7 H ?_;refine Q2s (fun ms σ w=>ms=[]∧∃ again:Bool,((again=true∧Y1f s.tab r [] l=14)∨(again=false∧Y1f s.tab r [] l=0))∧σ 0=pp p∧σ 7 = .bool again∧Q0a w (TKL (.slice a l.length c) l::TAB u.tp s.tab::Q7x p u::TRE u.trp s.last s.par::fr)) ?_ ?_
 ·refine Q0t ?_;refine Q1l (fun ms σ w z=>ms=[]∧∃ i:Nat,i≤l.length∧z=l.length - i∧Y1f s.tab r (l.take i) (l.drop i)=Y1f s.tab r [] l∧σ 0=pp p∧σ 1 = .int .i64 r∧σ 2 = .slice a l.length c∧σ 7 = .bool false∧σ 17 = .slice a l.length c∧σ 18 = .int .i64 l.length∧σ 19 = .int .i64 i∧Q0a w (TKL (.slice a l.length c) l::TAB u.tp s.tab::Q7x p u::TRE u.trp s.last s.par::fr)) (m:=l.length) ⟨rfl,0,by omega,by omega,rfl,rfl,rfl,rfl,rfl,rfl,rfl,rfl,H⟩ ?_;clear H;rintro ms σ w z ⟨rfl,i,hi,rfl,hch,g0,g1,g2,g7,g17,g18,g19,H⟩;rw[Q0b g0,Q0b g1,Q0b g2,Q0b g7,Q0b g17,Q0b g18,Q0b g19];refine J5 H ?_;refine Q2d rfl (fun h=>Q0w ?_) (fun h=>Q1n ?_)
  ·have hlt:i < l.length:=by omega
   have hx:=List.getElem?_eq_getElem hlt;have htk:l.take (i+1)=l.take i++[l[i]]:=by rw[List.take_add_one,hx];rfl
   rw[List.drop_eq_getElem_cons hlt] at hch;generalize l[i]=t at hx htk hch;obtain⟨k,n⟩:=t;obtain⟨bT,sT,rfl,H,hcap,_,hcl⟩:=Q2n H (by omega);refine U1t H ?_;refine Jd ?_;refine Q0s rfl (Q1j H rfl (Q6c hx) rfl ?_);refine J12 H ?_;clear H;intro b9 w H;refine U3n H ?_;clear H;intro w H;refine Q0h ?_;replace H:Q0a w (pts b9 (row 69 [.int .i64 k,.int .i64 n])::pts bT (row 69 (tkc l++sT))::TAB u.tp s.tab::Q7x p u::TRE u.trp s.last s.par::fr):=H;obtain⟨e1,e2,h1,h2,e4,hsh⟩:=V1f (Q2o s.tab k n);refine J7 H ?_
   refine Q1m (fun ms σ w=>ms=[]∧∃ b10,σ 0=pp p∧σ 1 = .int .i64 r∧σ 2 = .slice (some ⟨bT,0,none⟩) l.length c∧σ 7 = .bool false∧σ 8 = .int .i64 i∧σ 9=pp b9∧σ 10=pp b10∧σ 11 = .int .i64 e4∧σ 17 = .slice (some ⟨bT,0,none⟩) l.length c∧σ 18 = .int .i64 l.length∧σ 19 = .int .i64 i ∧
    Q0a w (TAB u.tp s.tab::pts b10 (row 113 [.int .i64 e1,.int .i64 e2,.bool h1,.bool h2])::pts b9 (row 69 [.int .i64 k,.int .i64 n])::pts bT (row 69 (tkc l++sT))::Q7x p u::TRE u.trp s.last s.par::fr)) ?_ ?_
   ·replace H:=Js [2,0,0,0,0] 0 H;refine J1 H ?_;clear H;intro w H;refine G8n H ?_;refine Jw 5 9 H rfl rfl (Q1h (a:=[]) (b:=[]) rfl rfl (call (Q2i u.tp s.tab k n H) ?_)) (Q1x H rfl ?_)
    ·clear H;rintro v w ⟨rfl,H⟩;rw[hsh];refine G8o H ?_;clear H;intro b10 w H;refine G8p H ?_;clear H;intro w H;refine J41 H ?_;replace H:=Js [1,0,0,0,0,0] 0 H;exact⟨rfl,rfl,b10,rfl,rfl,rfl,rfl,rfl,rfl,rfl,rfl,rfl,rfl,rfl,H⟩
    ·clear H;intro b10 w H;refine Jo 5 H ?_;refine Jk rfl rfl (Q2i u.tp s.tab k n H.swap) ?_;clear H;rintro v w ⟨rfl,H⟩;rw[hsh];refine G8q H ?_;clear H;intro w H;refine J41 H ?_;exact⟨rfl,rfl,b10,rfl,rfl,rfl,rfl,rfl,rfl,rfl,rfl,rfl,rfl,rfl,H⟩
   clear H;rintro ms σ w ⟨rfl,b10,g0,g1,g2,g7,g8,g9,g10,g11,g17,g18,g19,H⟩;rw[Q0b g0,Q0b g1,Q0b g2,Q0b g7,Q0b g8,Q0b g9,Q0b g10,Q0b g11,Q0b g17,Q0b g18,Q0b g19];cases hL:Q2o s.tab k n with
   | none=>
    have hv:Q1p s.tab k n=none:=by unfold Q1p;rw[hL]
    rw[V4u hv] at hch;rw[hL] at hsh;cases hsh;refine G9w H ?_;refine G8j H ?_;refine U7l H ?_;replace H:=Js [3,0,2,2] 2 H;replace H:=hcl _ _ _ rfl H;replace H:=Js [1,1,1,0] 0 H;exact Q0g (.inr ⟨by simp,Jy H rfl fun w' H'=>⟨by rw[hfail 8 (by decide) hch.symm];rfl,H'⟩⟩)
   | some q=>
    obtain⟨k',e⟩:=q;obtain⟨n',hn1,hn2,hk⟩:=Q1k.1 hL;obtain rfl:k=k':=by omega
    obtain rfl:n=n':=by omega
    rw[hL] at hsh;cases hsh;cases hh:e.held with
    | false=>
     have hv:Q1p s.tab k n=none:=by unfold Q1p;rw[hL];show (if e.held=true then some (k,e) else none)=none;rw[hh];rfl
     rw[V4u hv] at hch;rw[hh] at H;refine G9w H ?_;refine J34 H ?_;refine U7l H ?_;replace H:=Js [3,0,2,2] 2 H;replace H:=hcl _ _ _ rfl H;replace H:=Js [1,1,1,0] 0 H;exact Q0g (.inr ⟨by simp,Jy H rfl fun w' H'=>⟨by rw[hfail 8 (by decide) hch.symm];rfl,H'⟩⟩)
    | true=>
     have hv:Q1p s.tab k n=some (k,e):=Q3y.2 ⟨hL,hh⟩;rw[Y5y hv] at hch;rw[hh] at H;refine G9w H ?_;refine J34 H ?_;refine J85 H ?_;refine J88 H ?_;refine U2a H ?_;by_cases hr:e.region=r
     ·rw[show (e.region != r)=false by rw[hr];simp];rw[if_neg (by simpa using hr)] at hch;refine U2l H ?_;refine U2v H ?_;cases hp:e.pinned with
      | true=>
       rw[hp,if_pos rfl] at hch;refine J21 H ?_;replace H:=Js [3,0,2,2] 2 H;replace H:=hcl _ _ _ rfl H;replace H:=Js [1,1,1,0] 0 H;exact Q0g (.inr ⟨by simp,Jy H rfl fun w' H'=>⟨by rw[hfail 13 (by decide) hch.symm];rfl,H'⟩⟩)
      | false=>
       rw[hp,if_neg (by decide)] at hch;refine U2g H ?_;refine Q0s rfl (Z1d rfl rfl (by omega) (by omega) rfl ?_);rw[Int.toNat_natCast];refine J57 H ?_;replace H:=Js [3,0,1,1,1] 1 H;refine J43 H ?_
       refine Q1l (fun ms σ w z=>ms=[]∧∃ j:Nat,j≤i∧z=i - j∧(∀ x∈l.take j,x≠(k,n))∧σ 0=pp p∧σ 1 = .int .i64 r∧σ 2 = .slice (some ⟨bT,0,none⟩) l.length c∧σ 7 = .bool false∧σ 9=pp b9∧σ 17 = .slice (some ⟨bT,0,none⟩) l.length c∧σ 18 = .int .i64 l.length∧σ 19 = .int .i64 i∧σ 51 = .slice (some ⟨bT,0,none⟩) i c∧σ 52 = .int .i64 i∧σ 53 = .int .i64 j ∧
        Q0a w (pts bT (row 69 (tkc l++sT))::TAB u.tp s.tab::pts b9 (row 69 [.int .i64 k,.int .i64 n])::Q7x p u::TRE u.trp s.last s.par::fr)) (m:=i) ⟨rfl,0,by omega,by omega,(fun x hx=>by simp at hx),rfl,rfl,rfl,rfl,rfl,rfl,rfl,rfl,rfl,rfl,rfl,H⟩ ?_
       clear H;rintro ms σ w z ⟨rfl,j,hj,rfl,hno,g0,g1,g2,g7,g9,g17,g18,g19,g51,g52,g53,H⟩;rw[Q0b g0,Q0b g1,Q0b g2,Q0b g7,Q0b g9,Q0b g17,Q0b g18,Q0b g19,Q0b g51,Q0b g52,Q0b g53];refine J5 H ?_;refine Q2d rfl (fun h=>Q0w ?_) (fun h=>Q1n ?_)
       ·have hjl:j < i:=by omega
        have hy:=List.getElem?_eq_getElem (l:=l) (i:=j) (by omega);have htj:l.take (j+1)=l.take j++[l[j]]:=by rw[List.take_add_one,hy];rfl
        generalize l[j]=y at hy htj;obtain⟨k2,n2⟩:=y;refine J19 H ?_;refine Jd ?_;refine Q0s rfl (Q1j H rfl (Q6c hy) rfl ?_);refine J12 H ?_;clear H;intro b13 w H;refine J4 H ?_;clear H;intro w H;refine U8g H ?_;refine U3v H ?_;refine Q2d (p:=(((k2:Nat):Int),((n2:Nat):Int))=(((k:Nat):Int),((n:Nat):Int))) rfl (fun he=>?_) (fun he=>Q0w ?_)
        ·have hkn:(k2,n2)=(k,n):=by
          injection he with e1 e2
          exact Prod.ext (by show k2=k;omega) (by show n2=n;omega)
         rw[hkn] at hy;rw[if_pos (List.mem_of_getElem? (i:=j) (by rw[List.getElem?_take_of_lt hjl];exact hy))] at hch;refine J14 H ?_;refine Q1n ?_;replace H:=Js [1,1,2,2] 2 H;replace H:=hcl _ _ _ rfl H;exact .inl ⟨rfl,rfl,true,.inl ⟨rfl,hch.symm⟩,rfl,rfl,H⟩
        ·refine J3 H ?_;refine⟨_,⟨rfl,j+1,hjl,rfl,(fun x hx=>?_),rfl,rfl,rfl,rfl,rfl,rfl,rfl,rfl,rfl,rfl,Q2a (by omega),H.drop⟩,by omega⟩;rw[htj] at hx
         rcases List.mem_append.1 hx with hx|hx
         ·exact hno x hx
         ·rw[List.mem_singleton] at hx;subst hx;intro h;injection h with e1 e2
          exact he (by rw[e1,e2])
       ·obtain rfl:j=i:=by omega
        rw[if_neg (fun h=>hno _ h rfl),← htk] at hch;refine J3 H ?_;replace H:=Js [0,0,1,1] 1 H;replace H:=hcl _ _ _ rfl H;exact⟨_,⟨rfl,j+1,hlt,rfl,hch,rfl,rfl,rfl,rfl,rfl,rfl,Q2a (by omega),H⟩,by omega⟩
     ·rw[show (e.region != r)=true by simpa using hr];rw[if_pos hr] at hch;refine J21 H ?_;replace H:=Js [3,0,2,2] 2 H;replace H:=hcl _ _ _ rfl H;replace H:=Js [1,1,1,0] 0 H;exact Q0g (.inr ⟨by simp,Jy H rfl fun w' H'=>⟨by rw[hfail 15 (by decide) hch.symm];rfl,H'⟩⟩)
  ·obtain rfl:i=l.length:=by omega
   rw[List.drop_length] at hch;exact .inl ⟨rfl,rfl,false,.inr ⟨rfl,hch.symm⟩,rfl,rfl,H⟩
 clear H;rintro ms σ w ⟨rfl,again,hag,g0,g7,H⟩;rw[Q0b g0,Q0b g7];refine J7 H ?_;refine Q2s (fun ms σ w=>ms=[]∧Q6l s r l=0∧Q0a w (TAB u.tp s.tab::Q7x p u::TRE u.trp s.last s.par::TKL (.slice a l.length c) l::fr)) ?_ ?_
 ·refine Q0t ?_;refine J3 H ?_
  rcases hag with ⟨rfl,hch⟩|⟨rfl,hch⟩
  ·refine J21 H ?_;replace H:=Js [1,1,1,0] 0 H;exact Q0g (.inr ⟨by simp,Jy H rfl fun w' H'=>⟨by rw[hfail 14 (by decide) hch];rfl,H'⟩⟩)
  ·refine U2l H ?_;replace H:=Js [3,1,1,0] 0 H;refine J29 H ?_;refine Jc rfl rfl (Y2p u.trp s.last s.par H) ?_;clear H;rintro v w ⟨rfl,H⟩;refine Jv ?_;by_cases hf:s.par.length=64
   ·rw[show (((s.par.length:Nat):Int) == (64:Int))=true by rw[hf];rfl];refine J51 H ?_;replace H:=Js [1,1,0,0] 0 H;exact Q0g (.inr ⟨by simp,Jy H rfl fun w' H'=>⟨by unfold Q6l;rw[if_neg h64,hch,if_neg (by decide),if_pos hf];rfl,H'⟩⟩)
   ·rw[show (((s.par.length:Nat):Int) == (64:Int))=false by rw[beq_eq_false_iff_ne];omega];refine J17 H ?_;replace H:=Js [1,1,0,0] 0 H;exact .inl ⟨rfl,rfl,by unfold Q6l;rw[if_neg h64,hch,if_neg (by decide),if_neg hf],H⟩
 clear H;rintro ms σ w ⟨rfl,hE,H⟩;refine J14 H ?_;exact Q0g (Jy H rfl fun w' H'=>⟨by rw[hE];rfl,H'⟩)
end Go.Proofs.YtmjdnljneifpcaaGreatDoor
namespace Go.Proofs.YtmjdnljneifpcaaGreatDoor
open Go.SL
theorem Y1a:∀ {l:List (Nat×Nat)},(∀ p∈l,p.2=1)→Q0k l=l.map (·.1)
 | [],_=>rfl
 | (c,n)::l,h=>by
  have hn:n=1:=h (c,n) List.mem_cons_self;subst hn;rw[V3c,Y1a fun p hp=>h p (List.mem_cons_of_mem _ hp)];rfl
theorem Z0g:∀ own:List Nat,((List.range own.length).filter fun c=>own.getD c 0 == 0).length+(own.filter (· != 0)).length=own.length
 | []=>rfl
 | a::t=>by
  have ih:=Z0g t;rw[List.length_cons,List.range_succ_eq_map,List.filter_cons,List.filter_map,List.filter_cons];have e1:((fun c=>(a::t).getD c 0 == 0)∘Nat.succ)=fun c=>t.getD c 0 == 0:=rfl;rw[e1];by_cases h:a=0
  ·subst h;rw[if_pos (by rfl),if_neg (by decide),List.length_cons,List.length_map];omega
  ·rw[if_neg (by simpa using h),if_pos (by simpa using h),List.length_cons,List.length_map];omega
theorem V6j.bnd {s:CS} (hw:WF s) {r:Nat} {S T:Spc} {Z:List Pl} {mem own' mem':List Nat} (h:V6j s r S Z mem own' mem' T):T.parts.length≤63∧(Q0k T.parts).length=T.parts.length∧T.fin≤1000000∧∀ c∈Q0k T.parts,c < s.own.length∧s.own.getD c 0=0:=by
 have ho:=hw.own.2;have hone:Q0k T.parts=T.parts.map (·.1):=Y1a fun p hp=>(h.parts p hp).1
 have hin:∀ c∈Q0k T.parts,c < s.own.length∧s.own.getD c 0=0:=fun c hc=>by
  rw[hone] at hc;obtain⟨p,h1,h2⟩:=List.mem_map.1 hc;have h3:=(h.parts p h1).2;rw[h2] at h3;exact⟨(List.getElem?_eq_some_iff.1 h3).1,by rw[List.getD_eq_getElem?_getD,h3];rfl⟩
 have h3:=Q3e h.nd (l₂:=List.range s.own.length) (fun c hc=>List.mem_range.2 (hin c hc).1);rw[List.length_range] at h3;have h4:(Q0k T.parts).length=T.parts.length:=by rw[hone,List.length_map]
 refine⟨by omega,h4,?_,hin⟩;by_cases hf:T.fin=0
 ·omega
 ·obtain⟨c,h5,_,h6⟩:=h.fin hf;have h7:=(List.getElem?_eq_some_iff.1 (h.parts _ h6).2).1;have h7:c < s.own.length:=h7;have:=Nat.mul_le_mul (show c+1≤63 by omega) hw.size.2;omega
theorem U5x {a b:List Nat} (h:a.length=b.length) (hg:∀ j,a.getD j 0=b.getD j 0):a=b:=by
 apply List.ext_getElem h;intro i h1 h2;have:=hg i;rw[List.getD_eq_getElem?_getD,List.getD_eq_getElem?_getD,List.getElem?_eq_getElem h1,List.getElem?_eq_getElem h2] at this;exact this
theorem V6j.undo {s:CS} (hw:WF s) {r:Nat} {S T:Spc} {Z:List Pl} {mem own' mem':List Nat} (h:V6j s r S Z mem own' mem' T) {own2:List Nat} (h1:own2.length=own'.length) (h2:∀ j,own2.getD j 0=if j∈Q0k T.parts then 0 else own'.getD j 0):own2=s.own:=by
 obtain⟨_,_,_,hin⟩:=h.bnd hw;refine U5x (h1.trans h.ol) fun j=>?_;rw[h2,h.og];by_cases hj:j∈Q0k T.parts
 ·rw[if_pos hj,(hin j hj).2]
 ·rw[if_neg hj,if_neg hj]
theorem V6j.full {s:CS} (hw:WF s) {r:Nat} {S T:Spc} {Z:List Pl} {mem own' mem':List Nat} (h:V6j s r S Z mem own' mem' T) (hf:∀ a,a+1≤own'.length→own'.getD a 0≠0):s.own.length - (s.own.filter (· != 0)).length≤Z.length:=by
 obtain⟨_,hl,_,hin⟩:=h.bnd hw;have hz:=Z0g s.own
 have h1:=Q3e (l₁:=(List.range s.own.length).filter fun c=>s.own.getD c 0 == 0) (l₂:=Q0k T.parts) (List.Pairwise.filter _ List.nodup_range) (fun c hc=>by
  rw[List.mem_filter,List.mem_range] at hc;obtain⟨h2,h3⟩:=hc;have h3:s.own.getD c 0=0:=by simpa using h3
  have h4:=hf c (by rw[h.ol];omega);rw[h.og] at h4;by_cases h5:c∈Q0k T.parts
  ·exact h5
  ·rw[if_neg h5] at h4;exact absurd h3 h4)
 have:=h.few;omega
theorem V6j.own0 {s:CS} (hw:WF s) {r:Nat} (hr:1≤r) {S T:Spc} {Z:List Pl} {mem own' mem':List Nat} (h:V6j s r S Z mem own' mem' T) {d:Nat} (hd:s.own.getD d 0≠0):own'.getD d 0≠0:=by
 rw[h.og];split
 ·omega
 ·exact hd
theorem V6j.img {s:CS} (hw:WF s) {r:Nat} (hr:1≤r) {S T:Spc} {Z:List Pl} {mem own' mem':List Nat} (h:V6j s r S Z mem own' mem' T) (m:Q4p s mem) {k g:Nat} {e:Ent} (hk:s.tab[k]? = some ⟨g,some e⟩):V9i s.lays s.size mem' own' e.addr e.lay e.count k e.ws.length (Q4d s e):=by
 obtain⟨a1,a2,a3,a4,a5,a6,a7⟩:=V4q hw m hk;refine⟨a1,a2,a3,a4,?_,by rw[h.ml];exact a6,fun d d1 d2=>h.own0 hw hr (a7 d d1 d2)⟩;obtain⟨x,x1,_,x3⟩:=(hw.obj k g e hk).2.1.2 (e.addr / s.size) (Nat.le_refl _) (Nat.div_le_div_right (by omega));rw[List.getD_eq_getElem?_getD,h.mg _ x x1 (by omega),← List.getD_eq_getElem?_getD];exact a5
end Go.Proofs.YtmjdnljneifpcaaGreatDoor
namespace Go.Proofs.YtmjdnljneifpcaaGreatDoor
open Go.SL
theorem U1l [Q0i] (p:Nat) (q:Ptr) (s:CS) (k n:Nat) (e:Ent) (hk:s.tab[k]? = some ⟨n,some e⟩) (place:Int) (l:Lnk) {w:World} {fr:List Q0e} (H:Q0a w (RS q.rp s.rem::TAB q.tp s.tab::Q7x p q::fr)) :
  Calls Tryz.prog 156 #[pp p,.int .i64 k,.int .i64 place,lkv l] w (ret fun v w'=>Q0a w' (RS q.rp (Q7w s k e place l)::TAB q.tp s.tab::Q7x p q::fr)):=by
 obtain⟨a1,a2,a3,hkv⟩:=Q5t l;rw[hkv];have hnd:=V6b H;have hnd0:=hnd;refine Q0c Tryz.func156 rfl (by kernel_rfl) ?_;refine J8 H ?_;clear H;intro b7 w H;refine U0e H ?_;refine J48 H ?_;refine J12 H ?_;clear H;intro b8 w H;refine J4 H ?_;clear H;intro w H;refine Q0h ?_;replace H:=Js [2,0,0,0,0] 0 H;refine J1 H ?_;clear H;intro w H;refine U7j H ?_;refine Jk rfl rfl (V1c q.rp s.rem hnd ((k:Int),place) H) ?_;clear H;rintro v w ⟨rfl,H⟩;refine Jx H ?_;replace H:=Js [0,2,2,0,0] 0 H;refine U2v H ?_
 have hcase:(a1≠2∧Q7w s k e place l=era s.rem ((k:Int),place))∨∃ a b:Nat,l = .obj a b∧a1=2∧a2=a∧a3=b:=by
  cases l with
  | none=>injection hkv with h;simp at h;exact .inl ⟨by omega,rfl⟩
  | grave=>injection hkv with h;simp at h;exact .inl ⟨by omega,rfl⟩
  | obj a b=>injection hkv with h;simp at h;exact .inr ⟨a,b,rfl,by omega,by omega,by omega⟩
 rcases hcase with ⟨h2,hn⟩|⟨a,b,rfl,rfl,rfl,rfl⟩
 ·rw[show (a1 != 2)=true by simpa using h2];refine J13 H ?_;rw[hn];replace H:=Js [0,0,0] 2 H;exact Q0g (Jy H rfl fun w' H'=>H')
 ·refine U2g H ?_;replace H:=Js [1,1,0] 0 H;refine Jc rfl rfl (U9u p q s.tab k n e hk H) ?_;clear H;rintro v w ⟨rfl,H⟩;refine J16 H ?_;clear H;intro b9 w H;refine J4 H ?_;clear H;intro w H;refine J0 H ?_;obtain⟨e1,e2,h1,h2,e4,hsh⟩:=V1f (Q2o s.tab a b);refine J7 H ?_
  refine Q1m (fun ms σ w=>ms=[]∧∃ b11,σ 0=pp p∧σ 7=pp b7∧σ 8=pp b8∧σ 9=pp b9∧σ 11=pp b11∧σ 12 = .int .i64 e4 ∧
    Q0a w (RS q.rp (era s.rem ((k:Int),place))::TAB q.tp s.tab::Q7x p q::pts b11 (row 113 [.int .i64 e1,.int .i64 e2,.bool h1,.bool h2])::pts b9 (row 113 (evl e))::pts b8 (row 133 [.int .i64 k,.int .i64 place])::pts b7 (row 88 [.int .i64 2,.int .i64 a,.int .i64 b])::fr)) ?_ ?_
  ·replace H:=Js [1,0] 0 H;refine J1 H ?_;clear H;intro w H;refine U7s H ?_;refine U9c H ?_;refine Jw 6 10 H rfl rfl (Q1h (a:=[]) (b:=[]) rfl rfl (call (Q2i q.tp s.tab a b H) ?_)) (Q1x H rfl ?_)
   ·clear H;rintro v w ⟨rfl,H⟩;rw[hsh];refine U4p H ?_;clear H;intro b11 w H;refine G9t H ?_;clear H;intro w H;refine J58 H ?_;replace H:=Js [4,1,2,0,0,0,0] 0 H;exact⟨rfl,rfl,b11,rfl,rfl,rfl,rfl,rfl,rfl,H⟩
   ·clear H;intro b11 w H;refine Jo 6 H ?_;refine Jk rfl rfl (Q2i q.tp s.tab a b H.swap) ?_;clear H;rintro v w ⟨rfl,H⟩;rw[hsh];refine U4q H ?_;clear H;intro w H;refine J58 H ?_;replace H:=Js [4,0,2,0,0,0,0] 0 H;exact⟨rfl,rfl,b11,rfl,rfl,rfl,rfl,rfl,rfl,H⟩
  ·clear H;rintro ms σ w ⟨rfl,b11,g0,g7,g8,g9,g11,g12,H⟩;rw[Q0b g0,Q0b g7,Q0b g8,Q0b g9,Q0b g11,Q0b g12];cases hL:Q2o s.tab a b with
   | none=>
    have hn:Q7w s k e place (.obj a b)=era s.rem ((k:Int),place):=V2z hL;rw[hL] at hsh;cases hsh;rw[hn];refine J15 H ?_;refine U2b H ?_;refine Q3h rfl rfl rfl ?_;refine J17 H ?_;replace H:=Js [0,0,0] 4 H;exact Q2w _ (.inl rfl) H rfl fun w' H'=>H'
   | some x=>
    obtain⟨kk,f⟩:=x;rw[hL] at hsh;cases hsh;refine J15 H ?_;refine J53 H ?_;refine J34 H ?_;by_cases hr:f.region=e.region
    ·have hn:Q7w s k e place (.obj a b)=era s.rem ((k:Int),place):=by rw[Q9m hL];exact if_neg (by simpa using hr)
     rw[hn,show (f.region != e.region)=false by simpa using hr];refine J17 H ?_;replace H:=Js [0,0,0] 4 H;exact Q2w _ (.inl rfl) H rfl fun w' H'=>H'
    ·have hn:Q7w s k e place (.obj a b)=ins (era s.rem ((k:Int),place)) ((k:Int),place) (a:Int):=by rw[Q9m hL];exact if_pos hr
     rw[hn,show (f.region != e.region)=true by simpa using hr];refine J67 H ?_;have hnd:=V6b H;refine J1 H ?_;clear H;intro w H;refine U5a H ?_;refine Q1w 4 [8] H rfl (Q0n.none rfl) rfl (by repeat first|exact .nil _|apply Q0o.cons rfl) (by kernel_rfl) ?_;refine Jf 5 ?_;refine Jf 6 ?_;refine Jl 7 [8] H ?_;refine Jo 8 H ?_;refine Jk rfl rfl (Y7p q.rp _ hnd ((k:Int),place) a H) ?_;clear H;rintro v w ⟨rfl,H⟩;refine Jx H ?_
     have he:era (era s.rem ((k:Int),place)) ((k:Int),place)=era s.rem ((k:Int),place):=by
      refine V3l ?_;intro hmem;exact absurd rfl ((V3n hnd0).1 hmem).1
     rw[he] at H;replace H:=Js [0,0,0] 4 H;exact Q2w _ (.inl rfl) H rfl fun w' H'=>H'
set_option maxRecDepth 10000 in
theorem G3y [Q0i] (p:Nat) (s:CS) (R0 R:List (Rf×Int)) (D:List Rf) (hD:Q9e s R0 D R) (k g:Nat) (e:Ent) (hk:s.tab[k]? = some ⟨g,some e⟩) {w:World} {fr:List Q0e} (H:Q0a w (Q2z p { s with rem:=R }::fr)) :
  Calls Tryz.prog 141 #[pp p,.int .i64 k] w (ret fun v w'=>v = .tuple #[]∧∃ R',Q9e s R0 (D++Y0k s k e) R'∧Q0a w' (Q2z p { s with rem:=R' }::fr)):=by
 refine Q0c Tryz.func141 rfl (by kernel_rfl) ?_;refine J30 H ?_;clear H;intro b2 w H;refine G5j H ?_;clear H;intro b3 w H;refine Q0h ?_;replace H:=Js [2,0,0] 0 H;refine U5c H ?_;refine Jc rfl rfl (U5i p { s with rem:=R } k g e hk H) ?_;clear H;rintro v w ⟨rfl,H⟩;refine J16 H ?_;clear H;intro b4 w H;refine J4 H ?_;clear H;intro w H;refine J23 H ?_;replace H:=Js [1,0] 0 H;obtain⟨q,mem,hw,hm,H⟩:=Q1u H;dsimp only at H;have hws:WF s:=Y2s hw s.rem;have hms:Q4p s mem:=V4f hm s.rem;refine J1 H ?_;clear H;intro w H;refine Jl 0 [6] H ?_;refine J70 H ?_;refine Jl 3 [6] H ?_;refine Jf 4 ?_;refine Jl 5 [6] H ?_;refine Jo 6 H ?_;refine Jk rfl rfl (Z7s q.ip e.addr H) ?_;clear H;rintro v w ⟨bm,ba,rfl,H⟩;refine Jx H ?_;refine J7 H ?_;refine Q0t (Q5a (a:=[]) (b:=[pp bm,pp ba]) H rfl (fun yl D2 w H=>?_));generalize hL:LR _ yl _ _ _ _ D2 .ready=L at H ⊢;obtain⟨J,hJ⟩:∃ J:List Nat→Q0e,J=fun ks=>ex fun R1:List (Rf×Int)=>star [prop (Q9e s R0 (D++ks.map fun x:Nat=>((k:Int),(x:Int))) R1),L,Q7x p q,TAB q.tp s.tab,TRE q.trp s.last s.par,RS q.rp R1,mp (ki .i64) Q6v q.sm (s.sps.map Q4q),star (s.sps.map (Q4r q.sp)),mp (ki .i64) Q6v q.mm (s.mns.map Q3p),star (s.mns.map Q4a),pts b2 (row 44 [pp p]),pts b3 (row 3 [.int .i64 k])]:=⟨_,rfl⟩
 have hin:∀ (ks:List Nat) (R1:List (Rf×Int)) (w:World) (l':List Q0e),Q9e s R0 (D++ks.map fun x:Nat=>((k:Int),(x:Int))) R1→Q0a w (L::Q7x p q::TAB q.tp s.tab::TRE q.trp s.last s.par::RS q.rp R1::mp (ki .i64) Q6v q.sm (s.sps.map Q4q)::star (s.sps.map (Q4r q.sp))::mp (ki .i64) Q6v q.mm (s.mns.map Q3p)::star (s.mns.map Q4a)::pts b2 (row 44 [pp p])::pts b3 (row 3 [.int .i64 k])::l')→Q0a w (J ks::l'):=by
  intro ks R1 w l' h H;rw[hJ];exact Q0a.ex.2 ⟨R1,Q0a.star.2 (Q0a.prop.2 ⟨h,H⟩)⟩
 have hout:∀ (ks:List Nat) (w:World) (l':List Q0e),Q0a w (J ks::l')→∃ R1,Q9e s R0 (D++ks.map fun x:Nat=>((k:Int),(x:Int))) R1∧Q0a w (L::Q7x p q::TAB q.tp s.tab::TRE q.trp s.last s.par::RS q.rp R1::mp (ki .i64) Q6v q.sm (s.sps.map Q4q)::star (s.sps.map (Q4r q.sp))::mp (ki .i64) Q6v q.mm (s.mns.map Q3p)::star (s.mns.map Q4a)::pts b2 (row 44 [pp p])::pts b3 (row 3 [.int .i64 k])::l'):=by
  intro ks w l' H;rw[hJ] at H;obtain⟨R1,H⟩:=Q0a.ex.1 H;exact⟨R1,Q0a.prop.1 (Q0a.star.1 H)⟩
 replace H:=Js [0,3,6,6,6,6,6,6,6,8,7,1,1,1,1,1,0] 1 H;replace H:=hin [] R _ _ (by rw[List.map_nil,List.append_nil];exact hD) H;refine call (G2f yl bm ba q.ip q.sp q.bp s.size s.lays s.own e.addr e.lay e.count k e.ws.length (Q4d s e) (lkE e) (Q4p s) (fun _ h=>U0z hws h hk) J ?_ hms H) ?_
 ·clear H;intro ks z mem' rest w hm' hpre H;obtain⟨R1,hD1,H⟩:=hout _ _ _ H;obtain⟨t,hpre⟩:=hpre;obtain⟨hz1,hz2⟩:=Y8r hpre;have hstep:=hD1.step hk hz1 hz2;rw[List.append_assoc,show [((k:Int),(z:Int))]=[z].map (fun x:Nat=>((k:Int),(x:Int))) from rfl,← List.map_append] at hstep;have hnote:=fun (w:World) (fr:List Q0e) (H:Q0a w (RS q.rp R1::TAB q.tp s.tab::Q7x p q::fr))=>U1l p q { s with rem:=R1 } k g e hk (z:Int) (lkE e z) H;obtain⟨a1,a2,a3,hkv⟩:=Q5t (lkE e z);rw[hkv] at hnote;rw[hkv];subst hL;refine Q7o (args:=[.int .i64 z,.agg #[.int .i64 a1,.int .i64 a2,.int .i64 a3]]) H rfl rfl ?_;refine J14 H ?_;refine J24 H ?_;clear H;intro b7 w H;refine J4 H ?_;clear H;intro w H;refine Q0h ?_;replace H:=Js [1,0] 0 H;refine⟨rfl,_,H,fun w H=>Q0t ?_⟩;generalize hLB:LR _ yl _ _ _ _ D2 .busy=LB at H ⊢;replace H:=Js [5,3,2,0,0,0,0,0,0,0,0,0] 0 H;refine U5c H ?_;refine Jv ?_;refine G8k H ?_;refine Jc rfl rfl (hnote _ _ H) ?_;clear H;rintro v w H;refine Q0h ?_;subst hLB;replace H:=Js [3,2,1,2,0,1,1,1,1,1,1] 1 H;refine⟨rfl,_,H,fun w H=>⟨rfl,mem',hm',hin _ _ _ _ hstep H⟩⟩
 ·clear H;rintro v w ⟨mem',hm',H⟩;obtain⟨R1,hD1,H⟩:=hout _ _ _ H;subst hL;refine⟨_,H,fun w H=>?_⟩;replace H:=Js [15,0,11,11,11,0,0,0,0,0,0,0] 4 H;exact V8k (ms:=[D2]) _ (.inl rfl) ((Q0a.star (k:=[pts D2 (.deferred (some []))])).2 H) rfl fun w' H'=>⟨rfl,R1,hD1,Q1s (s:={ s with rem:=R1 }) (Y2s hws R1) (V4f hm' R1) H'⟩
end Go.Proofs.YtmjdnljneifpcaaGreatDoor
namespace Go.Proofs.YtmjdnljneifpcaaGreatDoor
open Go.SL
theorem Z0h [Q0i] (p:Nat) (q:Ptr) (ts:List Slt) (mk:List (Int×Nat)) (k n:Nat) (e:Ent) (hk:ts[k]? = some ⟨n,some e⟩) (region:Int) (addr b1 b2:Nat) (M1 M2:List Nat) (h1:fnd mk e.region=some b1) (h2:fnd mk region=some b2)
  (hs1:M1.Pairwise (· < ·)) (hl1:M1.length≤1000) (hs2:M2.Pairwise (· < ·)) (hl2:M2.length≤1000) (hkM:k∉M2) {w:World} {fr:List Q0e} (H:Q0a w (TAB q.tp ts::Q7x p q::mp (ki .i64) Q6v q.mm mk::BAG b1 M1::BAG b2 M2::fr)) :
  Calls Tryz.prog 75 #[pp p,.int .i64 k,.int .i64 region,.int .i64 addr] w (ret fun v w'=>v = .tuple #[]∧Q0a w' (TAB q.tp (ts.set k ⟨n,some { e with region:=region,addr:=addr }⟩)::Q7x p q::mp (ki .i64) Q6v q.mm mk::BAG b1 (M1.filter (·≠k))::BAG b2 (V6c M2 k)::fr)):=by
 have hL:Q2o ts k n=some (k,e):=Q1k.2 ⟨n,rfl,rfl,hk⟩;refine Q0c Tryz.func75 rfl (by kernel_rfl) ?_;refine J6 H ?_;refine Jc rfl rfl (Z2m p q ts k n e hk H) ?_;clear H;rintro v w ⟨rfl,H⟩;refine J16 H ?_;clear H;intro b8 w H;refine J12 H ?_;clear H;intro b9 w H;refine J4 H ?_;clear H;intro w H;refine J4 H ?_;clear H;intro w H;refine Q0h ?_;replace H:=Js [5,0,0,0,0,0,0] 0 H;refine J1 H ?_;clear H;intro w H;refine U5a H ?_;refine Jf 4 ?_;refine Jl 5 [8] H ?_;refine Q7k 6 [8] (key:=e.region) H rfl (Q0n.none rfl) rfl rfl tkI (by kernel_rfl) ?_;rw[h1];refine Ja 7 ?_;refine Jo 8 H ?_;refine Jk rfl rfl (Y9g b1 M1 k hs1 (by omega) H) ?_;clear H;rintro v w ⟨rfl,H⟩;refine Jx H ?_;refine J6 H ?_;refine J56 H ?_;clear H;intro w H;refine J56 H ?_;clear H;intro w H;refine Q0h ?_;replace H:Q0a w (BAG b1 (M1.filter (·≠k))::pts b9 (row 113 (evl { e with region:=region,addr:=addr }))::pts b8 (row 69 [.int .i64 k,.int .i64 n])::TAB q.tp ts::Q7x p q::mp (ki .i64) Q6v q.mm mk::BAG b2 M2::fr):=H;replace H:=Js [3,0,0,0,0,0,0] 0 H;refine J1 H ?_;clear H;intro w H;refine U2j H ?_;refine U4o H ?_;refine U4n H ?_;refine Jk rfl rfl (V1e q.tp ts k n { e with region:=region,addr:=addr } H) ?_;clear H;intro v w hS
 obtain⟨rfl,H⟩:v = .int .i64 0∧Q0a w (TAB q.tp (ts.set k ⟨n,some { e with region:=region,addr:=addr }⟩)::BAG b1 (M1.filter (·≠k))::pts b9 (row 113 (evl { e with region:=region,addr:=addr }))::pts b8 (row 69 [.int .i64 k,.int .i64 n])::Q7x p q::mp (ki .i64) Q6v q.mm mk::BAG b2 M2::fr):=by
  rcases hS with ⟨k2,e2,hL2,hv,H⟩|⟨hL2,_,_⟩
  ·rw[hL] at hL2;injection hL2 with hL2
   injection hL2 with hL2 _
   subst hL2;exact⟨hv,H⟩
  ·rw[hL] at hL2;cases hL2
 refine Jx H ?_;replace H:=Js [6,0,3,3,0,0,0] 0 H;refine J10 H ?_;refine Q0s rfl (Q3m (key:=region) H rfl rfl tkI rfl ?_);rw[h2];refine Jv ?_;refine Jc rfl rfl (Y3c b2 M2 k hs2 (by omega) hkM H) ?_;clear H;rintro v w ⟨rfl,H⟩;refine Q0h ?_;replace H:=Js [1,1,1,1,0] 2 H;exact Q2w _ (.inl rfl) H rfl fun w' H'=>⟨rfl,H'⟩
end Go.Proofs.YtmjdnljneifpcaaGreatDoor
namespace Go.Proofs.YtmjdnljneifpcaaGreatDoor
open Go.SL
theorem mk_nil [Q0i] {w:World} {l:List Q0e} (H:Q0a w l):Q0a w (mk []::l):=(Q0a.star (k:=[])).2 H
theorem U1m [Q0i] {w:World} {D:Nat} {Ds:List Nat} {l:List Q0e} (H:Q0a w (pts D (.deferred (some []))::mk Ds::l)):Q0a w (mk (D::Ds)::l):=
 (Q0a.pick (R:=fun D=>pts D (.deferred (some []))) (x:=D) (gs:=D::Ds) (g1:=[]) (g2:=Ds) rfl).2 H
def V0n (s:CS) (k:Nat):List Rf:=match s.tab[k]? with
 | some ⟨_,some e⟩=>Y0k s k e
 | _=>[]
theorem V3d {s:CS} {k g:Nat} {e:Ent} (hk:s.tab[k]? = some ⟨g,some e⟩):V0n s k=Y0k s k e:=by
 unfold V0n;rw[hk]
def Z9d (s:CS) (ids:List Int) (D:List Rf):Prop:=∀ r,r∈D↔∃ (k g:Nat) (e:Ent),s.tab[k]? = some ⟨g,some e⟩∧e.region∈ids∧r∈Y0k s k e
theorem Z9d.step {s:CS} {ids:List Int} {D:List Rf} (h:Z9d s ids D) {x:Int} {M:List Nat} (hM:∀ i,i∈M↔∃ g e,s.tab[i]? = some ⟨g,some e⟩∧e.region=x):Z9d s (ids++[x]) (D++M.flatMap (V0n s)):=by
 intro r;rw[List.mem_append,h r,List.mem_flatMap];constructor
 ·rintro(⟨k,g,e,h1,h2,h3⟩|⟨k,h1,h2⟩)
  ·exact⟨k,g,e,h1,List.mem_append.2 (.inl h2),h3⟩
  ·obtain⟨g,e,h3,h4⟩:=(hM k).1 h1;rw[V3d h3] at h2;exact⟨k,g,e,h3,List.mem_append.2 (.inr (List.mem_singleton.2 h4)),h2⟩
 ·rintro⟨k,g,e,h1,h2,h3⟩
  rcases List.mem_append.1 h2 with h2|h2
  ·exact .inl ⟨k,g,e,h1,h2,h3⟩
  ·rw[List.mem_singleton] at h2;exact .inr ⟨k,(hM k).2 ⟨g,e,h1,h2⟩,by rw[V3d h1];exact h3⟩
set_option maxRecDepth 10000 in
theorem Y1b [Q0i] (p:Nat) (s:CS) (R0:List (Rf×Int)) (hR0:(R0.map (·.1)).Nodup) (v:Value) (ids:List Int) (hids:∀ x∈ids,x∈s.mns.map (·.1)) (hl:ids.length≤1000) {w:World} {fr:List Q0e} (H:Q0a w (IL v ids::Q2z p { s with rem:=R0 }::fr)) :
  Calls Tryz.prog 76 #[pp p,v] w (ret fun x w'=>x = .tuple #[]∧∃ D R',Z9d s ids D∧Q9e s R0 D R'∧Q0a w' (Q2z p { s with rem:=R' }::fr)):=by
 obtain⟨a,c,rfl⟩:=Q0j H (Q0r ids) (by decide);refine Q0c Tryz.func76 rfl (by kernel_rfl) ?_;refine J30 H ?_;clear H;intro b2 w H;refine Q0h ?_;refine J77 H ?_;replace H:=Js [1,1,0] 0 H;replace H:=mk_nil H;replace H:=Js [1,1,1,0] 0 H;refine Q1m (fun ms σ w=>∃ D R',Z9d s ids D∧Q9e s R0 D R'∧Q0a w (mk ms::Q2z p { s with rem:=R' }::fr)) ?_ ?_
 ·refine Q0t ?_;refine Q1l (fun ms σ w z=>∃ (i:Nat) (D:List Rf) (R':List (Rf×Int)),i≤ids.length∧z=ids.length - i∧Z9d s (ids.take i) D∧Q9e s R0 D R'∧σ 2=pp b2∧σ 7 = .slice a ids.length c∧σ 8 = .int .i64 ids.length∧σ 9 = .int .i64 i∧Q0a w (IL (.slice a ids.length c) ids::Q2z p { s with rem:=R' }::pts b2 (row 44 [pp p])::mk ms::fr)) (m:=ids.length) ⟨0,[],R0,by omega,by omega,(fun r=>⟨fun h=>(by cases h),fun ⟨k,g,e,_,h,_⟩=>(by cases h)⟩),Q9e.start hR0,rfl,rfl,rfl,rfl,H⟩ ?_;clear H;rintro ms σ w z ⟨i,D,R',hi,rfl,hD,hN,g2,g7,g8,g9,H⟩;rw[Q0b g2,Q0b g7,Q0b g8,Q0b g9];refine J5 H ?_;refine Q2d rfl (fun h=>Q0w ?_) (fun h=>Q1n ?_)
  ·have hlt:i < ids.length:=by omega
   have hx:=List.getElem?_eq_getElem hlt;have htk:ids.take (i+1)=ids.take i++[ids[i]]:=by rw[List.take_add_one,hx];rfl
   have hxi:=hids _ (List.getElem_mem hlt);generalize ids[i]=x at hx htk hxi;obtain⟨bT,sT,rfl,H,hcl⟩:=Q0y H (by omega);refine J19 H ?_;refine Jd ?_;refine Q0s rfl (Q0l H rfl (by simpa using Q3w hx) rfl ?_);refine J0 H ?_;replace H:=hcl _ _ H;replace H:=Js [1,0] 0 H;obtain⟨q,mem,hw,hm,H⟩:=Q1u H;dsimp only at H;have hws:WF s:=Y2s hw s.rem;obtain⟨b1,hkM⟩:=Q8c (l:=s.mns) (f:=fun x=>x.1) (g:=fun x=>x.2.1) (k:=x) hxi;obtain⟨⟨r2,b1',M⟩,m1,m2,hmns,hs3,hs4⟩:=Q6r hkM;obtain rfl:r2=x:=hs3;obtain rfl:b1'=b1:=hs4;have hkM':fnd (s.mns.map Q3p) r2=some b1':=hkM;have hMm:=hws.mine (r2,b1',M) (by rw[hmns];simp)
   have hMl:M.length≤64:=by
    have:=V0z M 0 64 (fun y hy=>⟨Nat.zero_le _,by
     obtain⟨g,f,h3,_⟩:=(hMm.2 y).1 hy;have h4:=(List.getElem?_eq_some_iff.1 h3).1;have:=hws.slots.2;omega⟩) hMm.1
    omega
   refine J83 H ?_;refine Q0s rfl (Q3m (key:=r2) H rfl rfl tkI rfl ?_);rw[hkM'];replace H:=Js [10,0,0,0,0,0,0,0,0,0,0] 0 H;replace H:Q0a w (BAG b1' M::star ((m1++m2).map Q4a)::_):=(Q0a.pick (R:=Q4a) (x:=(r2,b1',M)) hmns).1 H;refine Jc rfl rfl (V4s b1' M (by omega) H) ?_;clear H;rintro v w ⟨bv,av,cv,rfl,H⟩;replace H:=Js [2,2,0,0] 0 H;replace H:=(Q0a.pick (R:=Q4a) (x:=(r2,b1',M)) hmns).2 H;replace H:=Js [3,3,3,3,3,3,3,3,3,3,0,0,0] 0 H;replace H:=Q1s (s:={ s with rem:=R' }) hw hm H;refine Q0h ?_;replace H:=Js [0,3,0,0,0,0] 0 H;refine J7 H ?_;refine Q1m (fun ms' σ w=>∃ (D2:Nat) (R2:List (Rf×Int)),ms'=D2::ms∧Q9e s R0 (D++M.flatMap (V0n s)) R2∧σ 2=pp b2∧σ 7 = .slice (some ⟨bT,0,none⟩) ids.length c∧σ 8 = .int .i64 ids.length∧σ 9 = .int .i64 i∧Q0a w (Q2z p { s with rem:=R2 }::pts b2 (row 44 [pp p])::pts D2 (.deferred (some []))::IL (.slice (some ⟨bT,0,none⟩) ids.length c) ids::mk ms::fr)) ?_ ?_
   ·refine Q0t (Q5a (a:=[]) (b:=[pp bv]) H rfl (fun yl D2 w H=>?_));generalize hL:LR _ yl _ _ _ _ D2 .ready=LRR at H ⊢;obtain⟨J,hJ⟩:∃ J:List Nat→Q0e,J=fun ks=>ex fun R1:List (Rf×Int)=>star [prop (Q9e s R0 (D++ks.flatMap (V0n s)) R1),LRR,Q2z p { s with rem:=R1 },pts b2 (row 44 [pp p])]:=⟨_,rfl⟩
    have hin:∀ (ks:List Nat) (R1:List (Rf×Int)) (w:World) (l':List Q0e),Q9e s R0 (D++ks.flatMap (V0n s)) R1→Q0a w (LRR::Q2z p { s with rem:=R1 }::pts b2 (row 44 [pp p])::l')→Q0a w (J ks::l'):=by
     intro ks R1 w l' h H;rw[hJ];exact Q0a.ex.2 ⟨R1,Q0a.star.2 (Q0a.prop.2 ⟨h,H⟩)⟩
    have hout:∀ (ks:List Nat) (w:World) (l':List Q0e),Q0a w (J ks::l')→∃ R1,Q9e s R0 (D++ks.flatMap (V0n s)) R1∧Q0a w (LRR::Q2z p { s with rem:=R1 }::pts b2 (row 44 [pp p])::l'):=by
     intro ks w l' H;rw[hJ] at H;obtain⟨R1,H⟩:=Q0a.ex.1 H;exact⟨R1,Q0a.prop.1 (Q0a.star.1 H)⟩
    replace H:=Js [0,1,1,1,1,0,0,0] 0 H;replace H:=hin [] R' _ _ (by rw[List.flatMap_nil,List.append_nil];exact hN) H;refine call (Y5t yl bv av cv M (by omega) J ?_ H) ?_
    ·clear H;intro ks k tt rest w hpre H;obtain⟨R1,hN1,H⟩:=hout _ _ _ H;obtain⟨g,e,hk,_⟩:=(hMm.2 k).1 (by rw[hpre];simp);subst hL;refine Q7o (args:=[.int .i64 k]) H rfl rfl ?_;refine J14 H ?_;refine⟨rfl,_,H,fun w H=>Q0t ?_⟩;generalize hLB:LR _ yl _ _ _ _ D2 .busy=LB at H ⊢;replace H:=Js [1,0] 0 H;refine J81 H ?_;refine Jc rfl rfl (G3y p s R0 R1 _ hN1 k g e hk H) ?_;clear H;rintro v w ⟨rfl,R2,hN2,H⟩;refine Q0h ?_;subst hLB;replace H:=Js [1,0,0] 0 H;refine⟨rfl,_,H,fun w H=>⟨rfl,hin _ _ _ _ ?_ H⟩⟩;rw[List.flatMap_append,List.flatMap_cons,List.flatMap_nil,List.append_nil,V3d hk,← List.append_assoc];exact hN2
    ·clear H;rintro v w H;obtain⟨R1,hN1,H⟩:=hout _ _ _ H;subst hL;refine⟨_,H,fun w H=>?_⟩;replace H:=Js [0,0,2,2,2] 2 H;exact⟨rfl,D2,R1,rfl,hN1,rfl,rfl,rfl,rfl,H⟩
   clear H;rintro ms' σ w ⟨D2,R2,rfl,hN2,g2,g7,g8,g9,H⟩;rw[Q0b g2,Q0b g7,Q0b g8,Q0b g9];refine J3 H ?_;replace H:=Js [2,3,2,0,0] 0 H;replace H:=U1m H;replace H:=Js [1,1,1,0] 0 H;exact⟨_,⟨i+1,_,R2,hlt,rfl,by rw[htk];exact hD.step hMm.2,hN2,rfl,rfl,rfl,Q2a (by omega),H⟩,by omega⟩
  ·have hge:i=ids.length:=by omega
   subst hge;rw[List.take_length] at hD;replace H:=Js [3,1] 2 H;exact⟨rfl,D,R',hD,hN,H⟩
 clear H;rintro ms σ w ⟨D,R',hD,hN,H⟩;exact V8k (ms:=ms) _ (.inl rfl) H rfl fun w' H'=>⟨rfl,D,R',hD,hN,H'⟩
end Go.Proofs.YtmjdnljneifpcaaGreatDoor
namespace Go.Proofs.YtmjdnljneifpcaaGreatDoor
open Go.SL
theorem Z0i {V:Type} {l:List (Int×Nat×V)} (hnd:(l.map fun z=>z.1).Nodup) {x y:Int} (hx:x∈l.map fun z=>z.1) (hy:y∈l.map fun z=>z.1) (hne:y≠x) :
  ∃ (bx:Nat) (X:V) (a1 a2:List (Int×Nat×V)) (bY:Nat) (Y:V) (c1 c2:List (Int×Nat×V)),l=a1++(x,bx,X)::a2∧a1++a2=c1++(y,bY,Y)::c2∧fnd (l.map fun z=>(z.1,z.2.1)) x=some bx∧fnd (l.map fun z=>(z.1,z.2.1)) y=some bY:=by
 obtain⟨⟨x',bx,X⟩,h1,h2⟩:=List.mem_map.1 hx;have h2:x'=x:=h2;subst h2;obtain⟨a1,a2,h3⟩:=List.append_of_mem h1;obtain⟨⟨y',bY,Y⟩,h4,h5⟩:=List.mem_map.1 hy;have h5:y'=y:=h5;subst h5
 have h6:(y',bY,Y)∈a1++a2:=by
  rw[h3] at h4
  rcases Q7s h4 with h7|h7
  ·injection h7 with h7 _
   exact absurd h7 hne
  ·exact h7
 obtain⟨c1,c2,h7⟩:=List.append_of_mem h6;have hnd2:((l.map fun z=>(z.1,z.2.1)).map (·.1)).Nodup:=by rw[List.map_map];exact hnd
 exact⟨bx,X,a1,a2,bY,Y,c1,c2,h3,h7,(Q3r hnd2).2 (List.mem_map.2 ⟨_,h1,rfl⟩),(Q3r hnd2).2 (List.mem_map.2 ⟨_,h4,rfl⟩)⟩
def Z9e (id q:Int) (ts:List Slt) (ks:List Nat):List Slt:=ts.mapIdx fun k t=>if k∈ks then Y6i id q t else t
theorem V4x (id q:Int) (ts:List Slt) (ks:List Nat) (k:Nat):(Z9e id q ts ks)[k]? = (ts[k]?).map fun t=>if k∈ks then Y6i id q t else t:=List.getElem?_mapIdx
theorem G7g (id q:Int) (ts:List Slt):Z9e id q ts []=ts:=by
 apply List.ext_getElem?;intro i;rw[V4x];cases ts[i]? <;> simp
theorem G3z {id q:Int} {ts:List Slt} {ks:List Nat} {k g:Nat} {e:Ent} (hk:ts[k]? = some ⟨g,some e⟩) (hr:e.region=id):(Z9e id q ts ks).set k ⟨g,some { e with region:=q,addr:=e.addr }⟩=Z9e id q ts (ks++[k]):=by
 have hkl:=(List.getElem?_eq_some_iff.1 hk).1;apply List.ext_getElem?;intro i;rw[List.getElem?_set,V4x,V4x];by_cases h:k=i
 ·subst h;rw[if_pos rfl,if_pos (by unfold Z9e;rw[List.length_mapIdx];exact hkl),hk];simp only[Option.map_some];rw[if_pos (List.mem_append.2 (.inr (by simp)))];unfold Y6i mvM;simp only[Option.map_some];rw[if_pos hr]
 ·rw[if_neg h];cases ts[i]? with
  | none=>rfl
  | some t=>
   have h2:i∈ks++[k]↔i∈ks:=by
    rw[List.mem_append,List.mem_singleton];exact⟨fun h4=>h4.elim (fun h=>h) fun h5=>absurd h5.symm h,.inl⟩
   simp only[Option.map_some,h2]
theorem G7h {id q:Int} {ts:List Slt} {M:List Nat} (hM:∀ i,i∈M↔∃ g e,ts[i]? = some ⟨g,some e⟩∧e.region=id):Z9e id q ts M=ts.map (Y6i id q):=by
 apply List.ext_getElem?;intro i;rw[V4x,List.getElem?_map];cases ht:ts[i]? with
 | none=>rfl
 | some t=>
  simp only[Option.map_some];by_cases h:i∈M
  ·rw[if_pos h]
  ·rw[if_neg h];obtain⟨g,e0⟩:=t;cases e0 with
   | none=>rfl
   | some e=>
    have hne:e.region≠id:=fun h1=>h ((hM i).2 ⟨g,e,ht,h1⟩);unfold Y6i mvM;simp only[Option.map_some];rw[if_neg hne]
set_option maxRecDepth 10000 in
theorem Z3h [Q0i] (p:Nat) (s:CS) (region q:Int) (hid:fnd s.par region=some q) (hT:Q5d s.par) {w:World} {fr:List Q0e} (H:Q0a w (Q2z p s::fr)) :
  Calls Tryz.prog 27 #[pp p,.int .i64 region] w (ret fun v w'=>(q=0∧v = .tuple #[.int .i64 0,.int .i64 16]∧Q0a w' (Q2z p s::fr))∨(q≠0∧v = .tuple #[.int .i64 q,.int .i64 0]∧∃ s',Y3s s region q s'∧Q0a w' (Q2z p s'::fr))):=by
 obtain⟨u,mem,hw,hm,H⟩:=Q1u H;obtain⟨hq1,hq2,hq3⟩:=hT.up _ _ hid;refine Q0c Tryz.func27 rfl (by kernel_rfl) ?_;refine J30 H ?_;clear H;intro b2 w H;refine J2 H ?_;replace H:=Js [6,1,0,0,0,0,0] 0 H;refine J81 H ?_;refine Jc rfl rfl (V1w p u s.last s.par region H) ?_;clear H;rintro v w ⟨rfl,H⟩;rw[hid];refine J23 H ?_;refine J83 H ?_;refine Jc rfl rfl (Z2r u.trp s.last s.par region hT.nd (by have:=hw.par.1;omega) H) ?_;clear H;rintro v w (⟨h1,_,_⟩|⟨h1,rfl,H⟩|⟨q',par',h1,hq0,hP,rfl,H⟩)
 ·rw[hid] at h1;cases h1
 ·rw[hid] at h1;injection h1 with h1
  refine J16 H ?_;clear H;intro b7 w H;refine U9g H ?_;clear H;intro w H;refine U2w H ?_;replace H:=Js [2,3,3,3,3,1,2,2,2,2,2] 2 H;exact Q0g (Jy H rfl fun w' H' => .inl ⟨h1,rfl,Q1s hw hm H'⟩)
 rw[hid] at h1;injection h1 with h1
 subst h1;refine J16 H ?_;clear H;intro b7 w H;refine U9g H ?_;clear H;intro w H;refine J23 H ?_;replace H:Q0a w (pts b7 (row 3 [.int .i64 q])::_):=H;have hrk:region∈s.par.map (·.1):=Q4l (by rw[hid];rfl);have hqk:q∈s.par.map (·.1):=Q4l (hq3.resolve_left hq0);have hne:q≠region:=by omega
 obtain⟨bi,T,a1,a2,bq,S,c1,c2,hs1,hs2,hkS1,hkS2⟩:=Z0i (l:=s.sps) (by rw[hw.skeys];exact hT.nd) (x:=region) (y:=q) (by rw[hw.skeys];exact hrk) (by rw[hw.skeys];exact hqk) hne;obtain⟨gi,M,d1,d2,gq,N,e1,e2,hm1,hm2,hkM1,hkM2⟩:=Z0i (l:=s.mns) (by rw[hw.mkeys];exact hT.nd) (x:=region) (y:=q) (by rw[hw.mkeys];exact hrk) (by rw[hw.mkeys];exact hqk) hne;have hkS1':fnd (s.sps.map Q4q) region=some bi:=hkS1;have hkS2':fnd (s.sps.map Q4q) q=some bq:=hkS2;have hkM1':fnd (s.mns.map Q3p) region=some gi:=hkM1;have hkM2':fnd (s.mns.map Q3p) q=some gq:=hkM2
 have hSm:(q,bq,S)∈s.sps:=by
  have h1:(q,bq,S)∈a1++a2:=by rw[hs2];simp
  rw[hs1];exact V0o h1
 have hNm:(q,gq,N)∈s.mns:=by
  have h1:(q,gq,N)∈d1++d2:=by rw[hm2];simp
  rw[hm1];exact V0o h1
 obtain⟨t1,t2,t3,t4,t5,t6⟩:=V6h hw (x:=(region,bi,T)) (by rw[hs1];simp);obtain⟨s1,_,_,_,_,_⟩:=V6h hw hSm;have t1:T.parts.length≤63:=t1;have s1:S.parts.length≤63:=s1;have hMm:=hw.mine (region,gi,M) (by rw[hm1];simp);have hNn:=hw.mine _ hNm
 have hbl:∀ L:List Nat,L.Pairwise (· < ·)→(∀ y∈L,y < s.tab.length)→L.length≤64:=fun L h1 h2=>by
  have:=V0z L 0 64 (fun y hy=>⟨Nat.zero_le _,by have:=h2 y hy;have:=hw.slots.2;omega⟩) h1;omega
 have hMt:∀ y∈M,y < s.tab.length:=fun y hy=>by
  obtain⟨g,f,h3,_⟩:=(hMm.2 y).1 hy;exact(List.getElem?_eq_some_iff.1 h3).1
 have hNt:∀ y∈N,y < s.tab.length:=fun y hy=>by
  obtain⟨g,f,h3,_⟩:=(hNn.2 y).1 hy;exact(List.getElem?_eq_some_iff.1 h3).1
 replace H:=Js [10,6,0,1,1,1,1,1,1,1,1,1,0] 0 H;replace H:Q0a w (SPC bi u.sp region.toNat T::star ((a1++a2).map (Q4r u.sp))::_):=(Q0a.pick (R:=Q4r u.sp) (x:=(region,bi,T)) hs1).1 H;replace H:=Js [1,0] 0 H;replace H:Q0a w (SPC bq u.sp q.toNat S::star ((c1++c2).map (Q4r u.sp))::_):=(Q0a.pick (R:=Q4r u.sp) (x:=(q,bq,S)) hs2).1 H;replace H:=Js [0,1,1,0] 0 H;refine J1 H ?_;clear H;intro w H;refine Jl 0 [12] H ?_;refine J70 H ?_;refine Jl 3 [12] H ?_;refine Jl 4 [12] H ?_;refine Q7k 5 [12] (key:=q) H rfl (Q0n.none rfl) rfl rfl tkI (by kernel_rfl) ?_;rw[hkS2'];refine Jl 6 [12] H ?_;refine Ja 7 ?_;refine Jf 8 ?_;refine Jl 9 [12] H ?_;refine Ja 10 ?_;refine Q7k 11 [12] (key:=region) H rfl (Q0n.none rfl) rfl rfl tkI (by kernel_rfl) ?_;rw[hkS1'];have hJ:=Y3q bq bi u.sp q.toNat region.toNat S T s.size mem s.own (by omega) (by omega) (by omega) hw.own.2 t2 t5 H;refine Jo 12 H ?_;refine Jk rfl rfl (hJ) ?_;clear H hJ;rintro v w ⟨rfl,own',hol,hog,H⟩;refine Jx H ?_;replace H:=Js [13,0,0,0,0,0,0,0,0,0,0,0,0,0] 0 H;replace H:Q0a w (BAG gi M::star ((d1++d2).map Q4a)::_):=(Q0a.pick (R:=Q4a) (x:=(region,gi,M)) hm1).1 H;replace H:=Js [1,0] 0 H;replace H:Q0a w (BAG gq N::star ((e1++e2).map Q4a)::_):=(Q0a.pick (R:=Q4a) (x:=(q,gq,N)) hm2).1 H;replace H:=Js [2,0,0] 0 H;have hMlen:=hbl M hMm.1 hMt;refine J83 H ?_;refine Q0s rfl (Q3m (key:=region) H rfl rfl tkI rfl ?_);rw[hkM1'];refine Jc rfl rfl (V4s gi M (by omega) H) ?_;clear H;rintro v w ⟨bv,av,cv,rfl,H⟩;refine U3v H ?_
 refine Q1m (fun ms σ w=>∃ (D2:Nat) (N':List Nat),ms=[D2]∧N'.Pairwise (· < ·)∧(∀ j,j∈N'↔j∈M∨j∈N)∧σ 1 = .int .i64 region∧σ 2=pp b2∧σ 7=pp b7 ∧
  Q0a w (TAB u.tp (Z9e region q s.tab M)::Q7x p u::mp (ki .i64) Q6v u.mm (s.mns.map Q3p)::BAG gq N'::pts b2 (row 44 [pp p])::pts b7 (row 3 [.int .i64 q])::star ((e1++e2).map Q4a)::SPC bq u.sp q.toNat (Q5o S T)::ST u.sp s.size mem own'::star ((c1++c2).map (Q4r u.sp))::IMG u.ip u.sp u.bp::Q5v u.bp s.lays::RS u.rp s.rem::mp (ki .i64) Q6v u.sm (s.sps.map Q4q)::TRE u.trp s.last par'::pts D2 (.deferred (some []))::fr)) ?_ ?_
 ·refine Q0t (Q5a (a:=[]) (b:=[pp bv]) H rfl (fun yl D2 w H=>?_));generalize hL:LR _ yl _ _ _ _ D2 .ready=LRR at H ⊢;obtain⟨J,hJ⟩:∃ J:List Nat→Q0e,J=fun ks=>ex fun y:List Nat×List Nat=>star [prop (y.1.Pairwise (· < ·)∧y.1.length≤1000∧y.2.Pairwise (· < ·)∧∀ j,j∈y.2↔j∈ks∨j∈N),LRR,TAB u.tp (Z9e region q s.tab ks),Q7x p u,mp (ki .i64) Q6v u.mm (s.mns.map Q3p),BAG gi y.1,BAG gq y.2,pts b2 (row 44 [pp p]),pts b7 (row 3 [.int .i64 q])]:=⟨_,rfl⟩
  have hin:∀ (ks M1 N1:List Nat) (w:World) (l':List Q0e),(M1.Pairwise (· < ·)∧M1.length≤1000∧N1.Pairwise (· < ·)∧∀ j,j∈N1↔j∈ks∨j∈N)→Q0a w (LRR::TAB u.tp (Z9e region q s.tab ks)::Q7x p u::mp (ki .i64) Q6v u.mm (s.mns.map Q3p)::BAG gi M1::BAG gq N1::pts b2 (row 44 [pp p])::pts b7 (row 3 [.int .i64 q])::l')→Q0a w (J ks::l'):=by
   intro ks M1 N1 w l' h H;rw[hJ];exact Q0a.ex.2 ⟨(M1,N1),Q0a.star.2 (Q0a.prop.2 ⟨h,H⟩)⟩
  have hout:∀ (ks:List Nat) (w:World) (l':List Q0e),Q0a w (J ks::l')→∃ M1 N1,(M1.Pairwise (· < ·)∧M1.length≤1000∧N1.Pairwise (· < ·)∧∀ j,j∈N1↔j∈ks∨j∈N)∧Q0a w (LRR::TAB u.tp (Z9e region q s.tab ks)::Q7x p u::mp (ki .i64) Q6v u.mm (s.mns.map Q3p)::BAG gi M1::BAG gq N1::pts b2 (row 44 [pp p])::pts b7 (row 3 [.int .i64 q])::l'):=by
   intro ks w l' H;rw[hJ] at H;obtain⟨⟨M1,N1⟩,H⟩:=Q0a.ex.1 H;exact⟨M1,N1,Q0a.prop.1 (Q0a.star.1 H)⟩
  replace H:=Js [0,15,11,16,3,3,9,8,1,1,1,1,1,1,1,1,1,1,1,1,0] 0 H;rw[← G7g region q s.tab] at H;replace H:=hin [] M N _ _ ⟨hMm.1,by omega,hNn.1,fun j=>by simp⟩ H;refine call (Y5t yl bv av cv M (by omega) J ?_ H) ?_
  ·clear H;intro ks k tt rest w hpre H;obtain⟨M1,N1,⟨hM1,hM2,hN1,hN2⟩,H⟩:=hout _ _ _ H;subst hL;have hkM:k∈M:=by rw[hpre];simp
   have hkn:k∉ks:=fun h=>by
    have h1:=hMm.1;rw[hpre,List.pairwise_append] at h1;have:=h1.2.2 k h k List.mem_cons_self;omega
   obtain⟨g,e,hk,her⟩:=(hMm.2 k).1 hkM;have her:e.region=region:=her
   have hk':(Z9e region q s.tab ks)[k]? = some ⟨g,some e⟩:=by
    rw[V4x,hk];simp only[Option.map_some];rw[if_neg hkn]
   have hkN:k∉N1:=fun h=>by
    rcases (hN2 k).1 h with h|h
    ·exact hkn h
    ·obtain⟨g',e',h1,h2⟩:=(hNn.2 k).1 h;rw[hk] at h1;injection h1 with h1
     injection h1 with _ h1
     injection h1 with h1
     subst h1;have h2:e.region=q:=h2;omega
   have hN1l:N1.length≤64:=hbl N1 hN1 fun y hy=>by
    rcases (hN2 y).1 hy with h|h
    ·exact hMt y (by rw[hpre];exact List.mem_append.2 (.inl h))
    ·exact hNt y h
   refine Q7o (args:=[.int .i64 k]) H rfl rfl ?_;refine J14 H ?_;refine⟨rfl,_,H,fun w H=>Q0t ?_⟩;generalize hLB:LR _ yl _ _ _ _ D2 .busy=LB at H ⊢;replace H:=Js [1,1,0] 0 H;refine J81 H ?_;refine Jc rfl rfl (Z2m p u (Z9e region q s.tab ks) k g e hk' H) ?_;clear H;rintro v w ⟨rfl,H⟩;refine J16 H ?_;clear H;intro b10 w H;refine J12 H ?_;clear H;intro b11 w H;refine J4 H ?_;clear H;intro w H;refine J4 H ?_;clear H;intro w H;refine Q0h ?_;refine J81 H ?_;refine J86 H ?_;refine J45 H ?_;replace H:=Js [2,2,3,3,3,2,2,2,0,0] 0 H;refine Jc rfl rfl (Z0h p u (Z9e region q s.tab ks) (s.mns.map Q3p) k g e hk' q e.addr gi gq M1 N1 (by rw[her];exact hkM1') hkM2' hM1 hM2 hN1 (by omega) hkN H) ?_;clear H;rintro v w ⟨rfl,H⟩;rw[G3z hk her] at H;refine Q0h ?_;subst hLB;replace H:=Js [5,0,0,0,0,0,0,0] 2 H;refine⟨rfl,_,H,fun w H=>⟨rfl,hin _ _ _ _ _ ⟨hM1.filter _,Nat.le_trans (List.length_filter_le _ _) hM2,V0h hN1 hkN,fun j=>?_⟩ H⟩⟩;rw[V8c,hN2,List.mem_append,List.mem_singleton];constructor
   ·rintro(h|h|h)
    ·exact .inl (.inr h)
    ·exact .inl (.inl h)
    ·exact .inr h
   ·rintro((h|h)|h)
    ·exact .inr (.inl h)
    ·exact .inl h
    ·exact .inr (.inr h)
  ·clear H;rintro v w H;obtain⟨M1,N1,⟨hM1,hM2,hN1,hN2⟩,H⟩:=hout _ _ _ H;subst hL;refine⟨_,H,fun w H=>?_⟩;replace H:=Js [0,0,0,1,1,1,3,3,4,4,4,4,4,4,4,4] 4 H;exact⟨rfl,D2,N1,rfl,hN1,hN2,rfl,rfl,rfl,H⟩
 clear H;rintro ms σ w ⟨D2,N',rfl,hN1,hN2,g1,g2,g7,H⟩;rw[Q0b g1,Q0b g2,Q0b g7];rw[G7h hMm.2] at H;refine J83 H ?_;refine Q0s rfl (Q5w (key:=region) H rfl rfl tkI rfl ?_);clear H;intro w H;refine Q0h ?_;refine J83 H ?_;refine Q0s rfl (Q5w (key:=region) H rfl rfl tkI rfl ?_);clear H;intro w H;refine Q0h ?_
 have hkeyS:era (s.sps.map Q4q) region=(c1++(q,bq,Q5o S T)::c2).map Q4q:=by
  have h1:((s.sps.map Q4q).map (·.1)).Nodup:=by rw[List.map_map];show (s.sps.map fun z=>z.1).Nodup;rw[hw.skeys];exact hT.nd
  rw[hs1,List.map_append,List.map_cons] at h1 ⊢;rw[V2r (p:=(region,bi)) h1,← List.map_append,hs2,List.map_append,List.map_append,List.map_cons,List.map_cons]
 have hkeyM:era (s.mns.map Q3p) region=(e1++(q,gq,N')::e2).map Q3p:=by
  have h1:((s.mns.map Q3p).map (·.1)).Nodup:=by rw[List.map_map];show (s.mns.map fun z=>z.1).Nodup;rw[hw.mkeys];exact hT.nd
  rw[hm1,List.map_append,List.map_cons] at h1 ⊢;rw[V2r (p:=(region,gi)) h1,← List.map_append,hm2,List.map_append,List.map_append,List.map_cons,List.map_cons]
 rw[hkeyS,hkeyM] at H;replace H:=Js [7,8,0,0,0,0,0,0,0,0,0,0,0,0,0,0] 0 H;replace H:=(Q0a.pick (R:=Q4r u.sp) (x:=(q,bq,Q5o S T)) (gs:=c1++(q,bq,Q5o S T)::c2) (g1:=c1) (g2:=c2) rfl).2 H;replace H:=Js [4,6,0,0,0,0,0,0,0,0,0,0,0,0,0] 0 H;replace H:=(Q0a.pick (R:=Q4a) (x:=(q,gq,N')) (gs:=e1++(q,gq,N')::e2) (g1:=e1) (g2:=e2) rfl).2 H;have hwf:=G6u hw hT.nd hne.symm hP hs1 hs2 hm1 hm2 hol hog hN1 hN2 s.rem;have hmem:Q4p { s with own:=own',tab:=s.tab.map (Y6i region q),par:=par',rem:=s.rem,sps:=c1++(q,bq,Q5o S T)::c2,mns:=e1++(q,gq,N')::e2 } mem:=Z2t hm hol rfl rfl;have hpart:Q3n s→Q3n { s with own:=own',tab:=s.tab.map (Y6i region q),par:=par',rem:=s.rem,sps:=c1++(q,bq,Q5o S T)::c2,mns:=e1++(q,gq,N')::e2 }:=fun h=>Y9r h (by rw[hw.skeys];exact hT.nd) hs1 hs2 rfl rfl rfl;have hnd:=V6b (H.pull 10);replace H:=Js [3,7,7,6,2,7,5,5,1,1,0,0,0,0] 0 H;replace H:=Q1s hwf hmem H;refine U5c H ?_;refine J35 H ?_;clear H;intro bS w H;replace H:Q0a w (pts bS (row 3 (Q1g [q]++[]))::_):=H;replace H:=Q5x (E:=3) (k:=1) (len:=1) (cap:=1) (c:=Q1g [q]) (spare:=[]) rfl ⟨by decide,by decide⟩ (by decide) H;have hrec:=Y1b p { s with own:=own',tab:=s.tab.map (Y6i region q),par:=par',rem:=s.rem,sps:=c1++(q,bq,Q5o S T)::c2,mns:=e1++(q,gq,N')::e2 } s.rem hnd _ [q] (fun x hx=>by rw[List.mem_singleton] at hx;subst hx;simp) (by simp) H;refine Jc rfl rfl (hrec) ?_;clear H hrec;rintro v w ⟨rfl,D,R',hD,hN,H⟩;refine Q0h ?_;refine J50 H ?_;refine J2 H ?_;replace H:=Js [3,0] 2 H;refine Q0g (V8k (ms:=[D2]) _ (.inr rfl) ((Q0a.star (k:=[pts D2 (.deferred (some []))])).2 H) rfl fun w' H' => .inr ⟨hq0,rfl,{ s with own:=own',tab:=s.tab.map (Y6i region q),par:=par',rem:=R',sps:=c1++(q,bq,Q5o S T)::c2,mns:=e1++(q,gq,N')::e2 },⟨rfl,hol,rfl,rfl,hP,rfl,⟨D,fun r=>?_,⟨hN.nd,hN.on,hN.off⟩⟩,hpart⟩,H'⟩);rw[hD r];constructor
 ·rintro⟨k,g,e,h1,h2,h3⟩;exact⟨k,g,e,⟨g,e,h1,List.mem_singleton.1 h2⟩,h1,h3⟩
 ·rintro⟨k,g,e,⟨g',e',h1,h2⟩,h3,h4⟩;refine⟨k,g,e,h3,?_,h4⟩;have h1:=h1.symm.trans h3;injection h1 with h1
  injection h1 with _ h1
  injection h1 with h1
  rw[← h1,h2];exact List.mem_singleton.2 rfl
end Go.Proofs.YtmjdnljneifpcaaGreatDoor
namespace Go.Proofs.YtmjdnljneifpcaaGreatDoor
open Go.SL
theorem Z9f [Q0i] (p o sp owner owner2:Nat) (S T:Spc) (size:Nat) (mem own:List Nat) {A B:List (Nat×Nat)} {c n:Nat} (hSp:S.parts=A++(c,n)::B) (hA:∀ y∈A,y.1≠c) (hn2:2≤n) (ho:1≤owner2) (hS:S.parts.length≤1000) (hT:T.parts.length≤1000) (h63:own.length≤63)
  (hcn:c+n≤own.length) (hown:∀ d,c≤d→d < c+n→own.getD d 0≠0) {w:World} {fr:List Q0e} (H:Q0a w (SPC p sp owner S::SPC o sp owner2 T::ST sp size mem own::fr)) :
  Calls Tryz.prog 73 #[pp p,pp o,.int .i64 c] w (ret fun v w'=>v = .int .i64 0∧Q0a w' (SPC p sp owner { S with parts:=A++B }::SPC o sp owner2 { T with parts:=T.parts++[(c,n)] }::ST sp size mem (Q7v own c n owner2)::fr)):=by
 have hf:Y1s S.parts c=some (c,n):=by
  unfold Y1s;rw[hSp,List.find?_append,List.find?_eq_none.2 (fun y hy=>by simpa using hA y hy),List.find?_cons_of_pos (by simp)];rfl
 have hk:S.parts[A.length]? = some (c,n):=by rw[hSp,List.getElem?_append_right (Nat.le_refl _),Nat.sub_self];rfl
 have htk:S.parts.take A.length=A:=by rw[hSp,List.take_left'];rfl
 have hdr:S.parts.drop (A.length+1)=B:=by
  rw[hSp,show A++(c,n)::B=(A++[(c,n)])++B by simp,List.drop_left'];simp
 refine Q0c Tryz.func73 rfl (by kernel_rfl) ?_;refine J59 H ?_;refine Jc rfl rfl (Y0i p o sp owner owner2 S T H) ?_;clear H;rintro v w ⟨rfl,H⟩;refine J23 H ?_;refine J6 H ?_;refine Jc rfl rfl (V6g p sp owner S c (by omega) H) ?_;clear H;rintro v w ⟨rfl,H⟩;rw[hf];refine J16 H ?_;clear H;intro b8 w H;refine J4 H ?_;clear H;intro w H;refine U7p H ?_;refine J34 H ?_;rw[show (((n:Nat):Int) == (1:Int))=false by rw[beq_eq_false_iff_ne];omega];refine J17 H ?_;refine J42 H ?_;replace H:=Js [1,0] 0 H;refine Jc rfl rfl (Y9n p sp owner S A.length c n hk (by rw[htk];exact fun y hy h=>hA y hy (by rw[h])) (by omega) H) ?_;clear H;rintro v w ⟨rfl,H⟩;rw[htk,hdr] at H;refine Q0h ?_;refine J42 H ?_;replace H:=Js [2,2,0,0] 0 H;refine Jc rfl rfl (Y9p o sp owner2 T size mem own c n ho (by omega) h63 (fun j hj=>⟨by omega,hown _ (by omega) (by omega)⟩) (by omega) (by omega) H) ?_;clear H;rintro v w ⟨rfl,H⟩;refine G9v H ?_;replace H:=Js [2,0,0] 1 H;exact Q0g (Jy H rfl fun w' H'=>⟨rfl,H'⟩)
def U5y (S:Spc) (d:Nat):Bool:=S.parts.any fun x=>decide (1 < x.2∧x.1≤d∧d < x.1+x.2)
theorem G4a [Q0i] (p sp owner:Nat) (S:Spc) (d:Nat) (hp:S.parts.length≤1000) (hb:∀ x∈S.parts,x.1+x.2≤1000) {w:World} {fr:List Q0e} (H:Q0a w (SPC p sp owner S::fr)) :
  Calls Tryz.prog 69 #[pp p,.int .i64 d] w (ret fun v w'=>v = .bool (U5y S d)∧Q0a w' (SPC p sp owner S::fr)):=by
 obtain⟨a,c,H⟩:=Q5b H;refine Q0c Tryz.func69 rfl (by kernel_rfl) ?_;refine G8f H ?_;refine J97 H ?_;replace H:=Js [1,0] 0 H;refine Q1l (fun ms σ w z=>ms=[]∧∃ i:Nat,i≤S.parts.length∧z=S.parts.length - i∧(∀ y∈S.parts.take i,¬ (1 < y.2∧y.1≤d∧d < y.1+y.2))∧σ 1 = .int .i64 d∧σ 12 = .slice a S.parts.length c∧σ 13 = .int .i64 S.parts.length∧σ 14 = .int .i64 i∧Q0a w (sls 208 2 (.slice a S.parts.length c) (S.parts.flatMap ptv)::pts p (row 206 [pp sp,.int .i64 owner,.slice a S.parts.length c,.int .i64 S.at',.int .i64 S.fin])::fr)) (m:=S.parts.length) ⟨rfl,0,by omega,by omega,(fun y hy=>by simp at hy),rfl,rfl,rfl,rfl,H⟩ ?_;clear H;rintro ms σ w z ⟨rfl,i,hi,rfl,hno,g1,g12,g13,g14,H⟩;rw[Q0b g1,Q0b g12,Q0b g13,Q0b g14];refine J5 H ?_;refine Q2d rfl (fun h=>Q0w ?_) (fun h=>Q1n ?_)
 ·have hlt:i < S.parts.length:=by omega
  have hn:=List.getElem?_eq_getElem hlt;have htk:S.parts.take (i+1)=S.parts.take i++[S.parts[i]]:=by rw[List.take_add_one,hn];rfl
  have hmem:=List.getElem_mem hlt;generalize S.parts[i]=x at hn htk hmem;obtain⟨x1,x2⟩:=x;have hb0:x1+x2≤1000:=hb _ hmem;obtain⟨bT,sT,rfl,H,hcl⟩:=Q0y H (by omega);have hrd:Q0o (S.parts.flatMap ptv++sT) (i*2+0) 2 (ptv (x1,x2)):=Q8h (vs:=ptv (x1,x2)) Q8o hn (by repeat first|exact .nil _|apply Q0o.cons rfl);have ei:0+((i:Nat):Int).toNat*2=i*2:=by simp
  refine J19 H ?_;refine Jd ?_;rw[ei];refine Q0s rfl (Q1j H rfl hrd rfl ?_);refine J12 H ?_;clear H;intro b6 w H;refine J4 H ?_;clear H;intro w H;refine Q0h ?_;have hfin:∀ {w:World} {l:List Q0e},Q0a w l→(1 < x2∧x1≤d∧d < x1+x2)→U5y S d=true:=fun _ h=>List.any_eq_true.2 ⟨_,hmem,decide_eq_true h⟩
  have hstep:¬ (1 < x2∧x1≤d∧d < x1+x2)→∀ y∈S.parts.take (i+1),¬ (1 < y.2∧y.1≤d∧d < y.1+y.2):=fun h y hy=>by
   rw[htk] at hy
   rcases List.mem_append.1 hy with hy|hy
   ·exact hno y hy
   ·rw[List.mem_singleton] at hy;subst hy;exact h
  replace H:=Js [1,0] 0 H;replace H:=hcl _ _ H;replace H:=Js [1,0] 0 H;refine G8c H ?_;by_cases h1:1 < x2
  ·rw[show decide (((x2:Nat):Int) > (1:Int))=true from decide_eq_true (by omega)];refine U1s H ?_;refine J34 H ?_;by_cases h2:x1≤d
   ·rw[show decide (((d:Nat):Int)≥((x1:Nat):Int))=true from decide_eq_true (by omega)];refine U3m H ?_;refine J53 H ?_;refine J34 H ?_;rw[Q1e (x:=(x1:Int)+(x2:Int)) (by omega) (by omega)];refine J25 H ?_;by_cases h3:d < x1+x2
    ·rw[show decide (((d:Nat):Int) < (x1:Int)+(x2:Int))=true from decide_eq_true (by omega)];refine J51 H ?_;rw[hfin H ⟨h1,h2,h3⟩];exact Q0g (Jy H rfl fun w' H'=>⟨rfl,Q5m H'.drop.swap⟩)
    ·rw[show decide (((d:Nat):Int) < (x1:Int)+(x2:Int))=false from decide_eq_false (by omega)];refine J76 H ?_;exact⟨_,⟨rfl,i+1,hlt,rfl,hstep (fun h=>h3 h.2.2),rfl,rfl,rfl,Q2a (by omega),H.drop⟩,by omega⟩
   ·rw[show decide (((d:Nat):Int)≥((x1:Nat):Int))=false from decide_eq_false (by omega)];refine J65 H ?_;refine G8j H ?_;refine J76 H ?_;exact⟨_,⟨rfl,i+1,hlt,rfl,hstep (fun h=>h2 h.2.1),rfl,rfl,rfl,Q2a (by omega),H.drop⟩,by omega⟩
  ·rw[show decide (((x2:Nat):Int) > (1:Int))=false from decide_eq_false (by omega)];refine U7h H ?_;refine J65 H ?_;refine G8j H ?_;refine J76 H ?_;exact⟨_,⟨rfl,i+1,hlt,rfl,hstep (fun h=>h1 h.1),rfl,rfl,rfl,Q2a (by omega),H.drop⟩,by omega⟩
 ·have hge:i=S.parts.length:=by omega
  subst hge;rw[List.take_length] at hno;have hf:U5y S d=false:=List.any_eq_false.2 (fun y hy=>by simpa using hno y hy);rw[hf];refine J14 H ?_;exact Q0g (Jy H rfl fun w' H'=>⟨rfl,Q5m H'.swap⟩)
end Go.Proofs.YtmjdnljneifpcaaGreatDoor
namespace Go.SL
open Go.Op
section
variable {P:Program} {n:Nat} {r:Option Nat} {σ:Env} {w:World} {l:List Q0e}
variable {t u:TypeId} {p:String} {af:Array Edge} {g:Option (Nat×Bool)} {d:Option Tmp} {x y z:Operand} {K:Env→World→Prop}
theorem G4b [Q0i] {e size bytes b o1 o2 m cap cap' E:Nat} {c vs:List Value} [hT:Q2m P t e size bytes] (H:Q0a w (pts b (row E c)::l)) (hx:ev σ x = .slice (some ⟨b,o1,none⟩) m cap) (hy:ev σ y = .slice (some ⟨b,o2,none⟩) m cap') (hrd:Q0o c o2 (m*size) vs) (hl:o1+m*size≤c.length) (h1:vs.all (·.oneCell')=true) (hd:okd n d=true)
  (k:∀ w',Q0a w' (pts b (row E (wr c o1 vs))::l)→K (put σ d (.int .i64 m)) w'):St P n r ⟨d,.call { callee := .builtin .copy,args:=#[x,y],argTypes:=#[t,t] },u,p,af,g⟩ σ w K:=by
 have hs:(sizeOf e).run P w = .ok size w:=by
  obtain⟨k,hk,e2⟩:=Option.map_eq_some_iff.1 hT.info;simp only[Prod.mk.injEq] at e2;exact Q2j (by rw[hk];simp[e2.1])
 have ev1:=hrd.len;have hbk:w.heap[b]? = some (.cells c.toArray E (0,0)):=H.pts
 have hfc:(Builtin.firstCells size m (.slice (some ⟨b,o2,none⟩) m cap')).run P w = .ok vs.toArray w:=by
  unfold Builtin.firstCells
  have:=run_loadCells_list (P:=P) (w:=w) ⟨b,o2,none⟩ vs (fun j v hj=>by
   rw[Q3k];exact Q4b hbk (hrd.get j v hj))
  rwa [ev1] at this
 obtain⟨w',hr,h2,h3,h4⟩:=Q4f (P:=P) vs w b o1 E c 0 H.pts (by omega) (List.all_eq_true.1 h1);rw[Nat.add_zero] at h2;have H':=H.set (o':=row E (wr c o1 vs)) h2 h3 h4;refine Q1c (v := .int .i64 m) (w':=w') hd (fun c e=>by cases e) ?_ (k w' H');have hmin:Nat.min m m=m:=Nat.min_self m;simp[execOp,resolve,invoke,builtin,hx,hy,Builtin.copy_,Q2g hT.und,Builtin.lenOf,hmin,hs,hfc,hr,goInt]
end
end Go.SL
namespace Go.Proofs.YtmjdnljneifpcaaGreatDoor
open Go.SL
def V7n (l:List Nat) (a b n:Nat):List Nat:=l.take a++(l.drop b).take n++l.drop (a+n)
theorem V7g {l:List Nat} {a b n:Nat} (h1:a+n≤l.length) (h2:b+n≤l.length):(V7n l a b n).length=l.length:=by simp[V7n];omega
theorem G7i {l:List Nat} {a b n:Nat} (h1:a+n≤l.length) (h2:b+n≤l.length) {i:Nat} (hi:i < n):(V7n l a b n)[a+i]? = l[b+i]?:=by
 unfold V7n;rw[List.append_assoc,List.getElem?_append_right (by simp;omega),List.getElem?_append_left (by simp;omega)];have e1:(l.take a).length=a:=by simp;omega
 rw[e1,Nat.add_sub_cancel_left,List.getElem?_take_of_lt hi,List.getElem?_drop]
theorem G4c {l:List Nat} {a b n:Nat} (h1:a+n≤l.length) (h2:b+n≤l.length) {j:Nat} (hj:j < a∨a+n≤j):(V7n l a b n)[j]? = l[j]?:=by
 unfold V7n;rw[List.append_assoc]
 rcases hj with hj|hj
 ·rw[List.getElem?_append_left (by simp;omega),List.getElem?_take_of_lt hj]
 ·rw[List.getElem?_append_right (by simp;omega),List.getElem?_append_right (by simp;omega),List.getElem?_drop];congr 1;simp;omega
theorem G4d [Q0i] (p size:Nat) (mem own:List Nat) (a b n:Nat) (h1:1≤n) (h2:a+n≤mem.length) (h3:V2o size own a n) (h4:b+n≤mem.length) (h5:V2o size own b n) {w:World} {fr:List Q0e} (H:Q0a w (ST p size mem own::fr)) :
  Calls Tryz.prog 139 #[pp p,.int .i64 a,.int .i64 b,.int .i64 n] w (ret fun v w'=>v = .int .i64 0∧Q0a w' (ST p size (V7n mem a b n) own::fr)):=by
 refine Q0c Tryz.func139 rfl (by kernel_rfl) ?_;refine U3w H ?_;refine J15 H ?_;refine Jc rfl rfl (V5m p size mem own a n h1 h2 h3 H) ?_;clear H;rintro v w ⟨rfl,H⟩;refine U1z H ?_;refine Jc rfl rfl (V5m p size mem own b n h1 h4 h5 H) ?_;clear H;rintro v w ⟨rfl,H⟩;refine J84 H ?_;refine Q2s (fun ms σ w=>ms=[]∧σ 0=pp p∧σ 1 = .int .i64 a∧σ 2 = .int .i64 b∧σ 3 = .int .i64 n∧Q0a w (ST p size mem own::fr)) ?_ ?_
 ·refine Q0t ?_;refine U0a H ?_;refine J85 H ?_;refine U0a H ?_;refine U0b H ?_;exact .inl ⟨rfl,rfl,rfl,rfl,rfl,rfl,H⟩
 ·clear H;rintro ms σ w ⟨rfl,g0,g1,g2,g3,H⟩;rw[Q0b g0,Q0b g1,Q0b g2,Q0b g3];obtain⟨v,v2,u,ws,many,hok,H⟩:=Q8t H;have H:=H.swap;have hmem:mem.length≤1048576:=by rw[hok.len];exact Nat.mul_le_mul hok.c2 hok.s2
  obtain⟨a1,c1,rfl⟩:=Q0j H (Q1f mem) (by decide)
  rcases Q4n H with ⟨h,_⟩|⟨bb,len,cap',s,h,e3,e4,e5,H⟩
  ·injection h with h4 h5 h6;omega
  injection h with h6 h7 h8
  subst h6 h7 h8;have hvl:(Q1b ((mem.drop b).take n)).length=n:=by simp[Q1b];omega
  have hrd:Q0o (Q1b mem++s) (0+b*1) ((b+n - b)*1) (Q1b ((mem.drop b).take n)):=by
   have e:(Q1b ((mem.drop b).take n)).length=(b+n - b)*1:=by rw[hvl];omega
   rw[← e];refine Q0o.of_get fun j v hj=>?_;have hj':j < n:=by have:=(List.getElem?_eq_some_iff.1 hj).1;omega
   rw[List.getElem?_append_left (by simp[Q1b];omega)];simp only[Q1b,List.getElem?_map,List.getElem?_take_of_lt hj',List.getElem?_drop] at hj;simp only[Q1b,List.getElem?_map,Nat.zero_add,Nat.mul_one];exact hj
  have hrd:Q0o (Q1b mem++s) (0+b*1) ((a+n - a)*1) (Q1b ((mem.drop b).take n)):=by
   rw[show a+n - a=b+n - b by omega];exact hrd
  have hs1:(Q1b ((mem.drop b).take n)).all (·.oneCell')=true:=List.all_eq_true.2 fun v hv=>by
   simp only[Q1b,List.mem_map] at hv;obtain⟨x,_,rfl⟩:=hv;rfl
  refine J1 H ?_;clear H;intro w H;refine J27 H ?_;refine Jl 3 [18] H ?_;refine J54 H ?_;refine J75 H ?_;rw[Q1e (x:=(a:Int)+(n:Int)) (by omega) (by omega),show (a:Int)+(n:Int)=((a+n:Nat):Int) by omega];refine V0w 8 rfl (Q0n.none rfl) rfl rfl rfl (by omega) (by omega) (by omega) (by kernel_rfl) ?_;refine U4a H ?_;refine Jl 12 [18] H ?_;refine Ja 13 ?_;refine Ja 14 ?_;refine Ja 15 ?_;refine Ja 16 ?_;rw[Q1e (x:=(b:Int)+(n:Int)) (by omega) (by omega),show (b:Int)+(n:Int)=((b+n:Nat):Int) by omega];refine V0w 17 rfl (Q0n.none rfl) rfl rfl rfl (by omega) (by omega) (by omega) (by kernel_rfl) ?_;rw[show b+n - b=a+n - a by omega];refine Jo 18 H ?_;refine G4b H rfl rfl hrd (by simp only[List.length_append,Q1f];omega) hs1 rfl ?_;clear H;intro w H;refine U4b H ?_;have hcl:(V7n mem a b n).length=mem.length:=V7g h2 h4
  have hwr:wr (Q1b mem++s) (0+a*1) (Q1b ((mem.drop b).take n))=Q1b (V7n mem a b n)++s:=by
   rw[G5c _ _ _ (by rw[hvl,List.length_append,Q1f];omega),hvl];unfold V7n Q1b;rw[Nat.zero_add,Nat.mul_one,List.take_append_of_le_length (by simp;omega),List.drop_append_of_le_length (by simp;omega)];simp[List.map_take,List.map_drop]
  rw[hwr] at H;exact Q0g (Jy (V1y (hok.mem hcl) (Q5x (by rw[Q1f,hcl]) e4 e5 H).swap) rfl fun w' H'=>⟨rfl,H'⟩)
end Go.Proofs.YtmjdnljneifpcaaGreatDoor
namespace Go.Proofs.YtmjdnljneifpcaaGreatDoor
open Go.SL
theorem Z9g [Q0i] (ip sp bp size:Nat) (ls:List Lay) (mem own:List Nat) (to addr i c s n:Nat) (l:Lay) (h:V9i ls size mem own addr i c s n l) (hto:to+(n+1)≤mem.length) (ho:V2o size own to (n+1)) {w:World} {fr:List Q0e} (H:Q0a w (IMG ip sp bp::Q5v bp ls::ST sp size mem own::fr)) :
  Calls Tryz.prog 74 #[pp ip,.int .i64 to,.int .i64 addr] w (ret fun v w'=>v = .tuple #[.int .i64 ((n+1:Nat):Int),.int .i64 0]∧Q0a w' (IMG ip sp bp::Q5v bp ls::ST sp size (V7n mem to addr (n+1)) own::fr)):=by
 have hf:=h.fit;refine Q0c Tryz.func74 rfl (by kernel_rfl) ?_;refine J68 H ?_;refine Jc rfl rfl (V4h ip sp bp size ls mem own addr i c s n l h H) ?_;clear H;rintro v w ⟨rfl,H⟩;refine U2m H ?_;refine J12 H ?_;clear H;intro b8 w H;refine J4 H ?_;clear H;intro w H;refine U4r H ?_;refine J29 H ?_;refine U1z H ?_;replace H:=Js [3,0,0,0] 0 H;refine Jc rfl rfl (G4d sp size mem own to addr (n+1) (by omega) hto ho (by omega) h.owned H) ?_;clear H;rintro v w ⟨rfl,H⟩;refine J23 H ?_;refine J11 H ?_;replace H:=Js [2,2,0] 1 H;exact Q0g (Jy H rfl fun w' H'=>⟨rfl,H'⟩)
end Go.Proofs.YtmjdnljneifpcaaGreatDoor
