/- Cells: what is proved on the way: every input of the statement; no condition. Texts joined: LawK TreB BagC BagD BmpC TabE JoiA DelA DelB DelC JoiB RmO BumB StoC. -/
import Derived.Test.YtmjdnljneifpcaaGreatDoorBee
import Derived.Test.YtmjdnljneifpcaaGreatDoorBel
import Derived.Test.YtmjdnljneifpcaaGreatDoorBef
import Derived.Test.YtmjdnljneifpcaaGreatDoorBej
import Derived.Test.YtmjdnljneifpcaaGreatDoorBek
import Derived.Test.YtmjdnljneifpcaaGreatDoorBeh
import Derived.Test.YtmjdnljneifpcaaGreatDoorBec
set_option linter.unusedVariables false
set_option linter.unusedSimpArgs false
set_option linter.unusedSectionVars false
namespace Go.Proofs.YtmjdnljneifpcaaGreatDoor
open List
open Go.SL
theorem jY:∀ {a b:List Int},a.Pairwise (· < ·)→b.Pairwise (· < ·)→(∀ x,x∈a↔x∈b)→a=b
 | [],[],_,_,_=>rfl
 | [],y::b,_,_,h=>by have:=(h y).2 mem_cons_self;cases this
 | x::a,[],_,_,h=>by have:=(h x).1 mem_cons_self;cases this
 | x::a,y::b,ha,hb,h=>by
  obtain⟨jZ,MG⟩:=pairwise_cons.1 ha;obtain⟨D8,D9⟩:=pairwise_cons.1 hb
  have Yv:x=y:=by
   have h1:=(h x).1 mem_cons_self;have h2:=(h y).2 mem_cons_self
   rcases mem_cons.1 h1 with h1|h1
   ·exact h1
   ·rcases mem_cons.1 h2 with h2|h2
    ·exact h2.symm
    ·have:=jZ y h2;have:=D8 x h1;omega
  subst Yv;congr 1;refine jY MG D9 fun z=>?_;constructor
  ·intro hz
   rcases mem_cons.1 ((h z).1 (mem_cons_of_mem _ hz)) with h1|h1
   ·have:=jZ z hz;omega
   ·exact h1
  ·intro hz
   rcases mem_cons.1 ((h z).2 (mem_cons_of_mem _ hz)) with h1|h1
   ·have:=D8 z hz;omega
   ·exact h1
theorem tG (v:Value) (l:List Nat):NL v l=IL v (l.map fun x:Nat=>(x:Int)):=by
 show QE _ 1 v (QH l)=_;rw[JY]
theorem tU {s:CS} {m:MS} {told:List (Nat×Nat)} (R:Xi s m told) {id:Int} (h0:0≤id) {K:List Int} (hp:K.Perm ((s.par.map (·.1)).filter (Xb s.par id))) (hs:K.Pairwise (·≤·)):K=(CM m.P id).map fun x:Nat=>(x:Int):=by
 have QP:K.Nodup:=hp.nodup_iff.2 (List.Pairwise.filter _ R.nd)
 have Q6:K.Pairwise (· < ·):=by
  have:=pairwise_and_iff.2 ⟨hs,QP⟩;exact this.imp (fun h=>by have h1:=h.1;have h2:=h.2;omega)
 refine jY Q6 ?_ fun x=>?_
 ·refine List.Pairwise.map _ ?_ (gI m.P _ _);intro a b Xx;omega
 ·rw[hp.mem_iff,mem_filter];unfold Xb CM;rw[decide_eq_true_iff];constructor
  ·rintro⟨_,h2⟩;obtain⟨k,rfl,h3,h4,h5⟩:=(R.tree x id).1 (KK h2);refine mem_map.2 ⟨k,JU.2 ⟨(List.getElem?_eq_some_iff.1 h4).1,h3,?_⟩,rfl⟩;rw[getD_eq_getElem?_getD,h4];exact beq_self_eq_true id
  ·intro h;obtain⟨k,hk,rfl⟩:=mem_map.1 h;obtain⟨h1,h2,h3⟩:=JU.1 hk;have h4:=getElem?_eq_getElem h1;rw[getD_eq_getElem?_getD,h4] at h3;have h5:m.P[k]=id:=by simpa using h3
   rw[h5] at h4;have h6:=(R.tree k id).2 ⟨k,rfl,h2,h4,h0⟩;exact⟨mem_map.2 ⟨_,h6,rfl⟩,(YI R.nd).2 h6⟩
theorem tX [Q4] (p:Nat) (s:CS) (m:MS) (told:List (Nat×Nat)) (R:Xi s m told) {w:World} {fr:List Q2} (H:Q0 w (UO p s m told::fr)) :
  Calls Tryz.prog 11 #[pp p] w (ret fun v w'=>v = .bool true∧Q0 w' (UO p s m told::fr)):=by
 obtain⟨c,mo,a,cap,H⟩:=Dx H;obtain⟨_,_,hw,_,_⟩:=Y9 H.swap;obtain⟨_,_,_,_,_,_,_,Ul,_⟩:=GA (H.sel [2,0,0,0] 0);have Qw:told.length≤100000:=by rw[R.len];exact Ul.few
 refine QQ Tryz.func11 rfl (by kernel_rfl) ?_;refine Vl H ?_;refine N5 H ?_;replace H:=Js [3,0,0,0] 0 H;refine J6 H ?_;refine Qt (fun ms σ w=>ms=[]∧σ 0=pp p∧Q0 w (VD (.slice a told.length cap) told::YK p c mo (.slice a told.length cap)::QD c s::V0 mo m::fr)) ?_ ?_
 ·refine Qe ?_;refine Qq (fun ms σ w n=>ms=[]∧∃ i:Nat,i≤told.length∧n=told.length - i∧σ 0=pp p∧σ 18 = .slice a told.length cap∧σ 19 = .int .i64 told.length∧σ 20 = .int .i64 i∧Q0 w (VD (.slice a told.length cap) told::YK p c mo (.slice a told.length cap)::QD c s::V0 mo m::fr)) (m:=told.length) ⟨rfl,0,by omega,rfl,rfl,rfl,rfl,rfl,H⟩ ?_;clear H;rintro ms σ w n ⟨rfl,i,hi,rfl,g0,g18,g19,g20,H⟩;rw[Q1 g0,Q1 g18,Q1 g19,Q1 g20];refine J7 H ?_;refine Qm rfl (fun h=>QF ?_) (fun h=>Qv ?_)
  ·have Q6:i < told.length:=by omega
   have hn:=getElem?_eq_getElem Q6;generalize told[i]=kg at hn;obtain⟨k,g⟩:=kg;have XV:Vd s m told k g i:=iZ R hn;obtain⟨bT,sT,rfl,H,QM⟩:=VX H (by omega);refine Ek H ?_;refine Jd ?_;refine Q5 rfl (Vz H rfl (AG hn) rfl ?_);refine VS H ?_;clear H;intro b4 w H;refine Hy H ?_;clear H;intro w H;refine J2 H ?_;replace H:=QM _ _ H.swap;replace H:=Js [2,2,2,1,0] 0 H;refine Ia H ?_;refine Jc rfl rfl (iL p c mo _ s m told R k g i XV H) ?_;clear H;rintro v w ⟨rfl,H⟩;refine YS H ?_;replace H:=Js [2,0,0,0,0] 0 H;refine VM H ?_;refine Jc rfl rfl (Dk mo m i H) ?_;clear H;rintro v w ⟨rfl,H⟩;cases hv:VH m i with
   | none=>
    refine Yy H ?_;refine YY rfl (Qv ?_);refine J3 H ?_;replace H:=Js [4,1,1,0] 1 H;exact⟨_,⟨rfl,i+1,Q6,rfl,rfl,rfl,rfl,Qh (by omega),H⟩,by omega⟩
   | some nx=>
    obtain⟨n',x⟩:=nx;obtain⟨V9,hx,hh,hg⟩:=WD hv;obtain rfl:i=n':=by omega
    obtain⟨t,lc,aL,cL,bO,cO,sO,ptrs,q,vw,vk,vt,rest,hm,h2,hp,H,QK⟩:=X5 H hx;have V7:=BK hx hm;have Kb:=hm.objs x (mem_of_getElem? hx);have Gt:=Kb.kind;have O2:=Kb.to;have Zg:=BR (w:=hm) hx;have Ch:=hm.lays.1;have Vi:=(List.getElem?_eq_some_iff.1 hx).1;obtain⟨y,hy,CB,Z0,Y5,hR,Ve⟩:=gL hm h2 hx;obtain⟨aw,cw,rfl⟩:=QI H.drop (GY _) (by decide);obtain⟨ak,ck,rfl⟩:=QI H.drop.drop (QJ _) (by decide);obtain⟨at',ct,rfl⟩:=QI H.drop.drop.drop (QJ _) (by decide);replace H:=Js [6,6,0,0,0,0,0,0,0,0] 0 H;obtain⟨bL,sL,D1,D2,Rr,rfl,H,hD,tK⟩:=Sx (by rw[← h2,length_map]) H hy;obtain⟨vr,vq,ly⟩:=y;obtain rfl:ly=YE m x:=CB;have Q0r:lc.length=m.lays.length:=by rw[← h2,length_map]
    refine YS H ?_;refine Ic H ?_;refine Jd ?_;refine Q5 rfl (QA H rfl hp rfl ?_);refine J0 H ?_;refine G1 H ?_;refine F9 H ?_;refine Qt (fun ms σ w=>ms=[]∧σ 0=pp p∧σ 18 = .slice (some ⟨bT,0,none⟩) told.length cap∧σ 19 = .int .i64 told.length∧σ 20 = .int .i64 i∧Q0 w (pts bL (row 102 (Vb lc++sL))::D1::D2::Rr::pts q (Kw (.slice aw x.w.length cw) (.slice ak x.kind.length ck) (.slice at' x.to.length ct) x)::UL (.slice aw x.w.length cw) x.w::NL (.slice ak x.kind.length ck) x.kind::NL (.slice at' x.to.length ct) x.to::pts bO (row 77 (ptrs++sO))::pts mo (row 58 [pp t,.slice (some ⟨bL,0,none⟩) m.lays.length cL,.slice (some ⟨bO,0,none⟩) m.objs.length cO])::Vh t m.P::star rest::YK p c mo (.slice (some ⟨bT,0,none⟩) told.length cap)::QD c s::pts b4 (row 69 [.int .i64 k,.int .i64 g])::VD (.slice (some ⟨bT,0,none⟩) told.length cap) told::fr)) ?_ ?_
    ·refine Qe ?_;refine Qq (fun ms σ w n=>ms=[]∧∃ j:Nat,j≤x.w.length∧n=x.w.length - j∧σ 0=pp p∧σ 4=pp b4∧σ 5=pp q∧σ 18 = .slice (some ⟨bT,0,none⟩) told.length cap∧σ 19 = .int .i64 told.length∧σ 20 = .int .i64 i∧σ 51 = .int .i64 x.w.length∧σ 52 = .int .i64 j∧Q0 w (pts bL (row 102 (Vb lc++sL))::D1::D2::Rr::pts q (Kw (.slice aw x.w.length cw) (.slice ak x.kind.length ck) (.slice at' x.to.length ct) x)::UL (.slice aw x.w.length cw) x.w::NL (.slice ak x.kind.length ck) x.kind::NL (.slice at' x.to.length ct) x.to::pts bO (row 77 (ptrs++sO))::pts mo (row 58 [pp t,.slice (some ⟨bL,0,none⟩) m.lays.length cL,.slice (some ⟨bO,0,none⟩) m.objs.length cO])::Vh t m.P::star rest::YK p c mo (.slice (some ⟨bT,0,none⟩) told.length cap)::QD c s::pts b4 (row 69 [.int .i64 k,.int .i64 g])::VD (.slice (some ⟨bT,0,none⟩) told.length cap) told::fr)) (m:=x.w.length) ⟨rfl,0,by omega,rfl,rfl,rfl,rfl,rfl,rfl,rfl,rfl,rfl,H⟩ ?_;clear H;rintro ms σ w n ⟨rfl,j,hj,rfl,g0,g4,g5,g18,g19,g20,g51,g52,H⟩;rw[Q1 g0,Q1 g4,Q1 g5,Q1 g18,Q1 g19,Q1 g20,Q1 g51,Q1 g52];refine J7 H ?_;refine Qm rfl (fun h=>QF ?_) (fun h=>Qv ?_)
     ·have ZP:j < x.w.length:=by omega
      refine NC H ?_;clear H;intro w H;refine YN H ?_;refine Jl 3 [15] H ?_;refine Ja 4 ?_;refine Jf 5 ?_;refine Jl 6 [15] H ?_;refine Ja 7 ?_;refine Ja 8 ?_;refine Jf 9 ?_;refine Jl 10 [15] H ?_;refine Ja 11 ?_;rw[show IntKind.i64.wrap ((x.lay:Int) - 1)=((x.lay - 1:Nat):Int) by rw[Qg (by omega) (by omega)];omega];refine Ji 12 ?_;refine Vw 13 [15] H rfl (Q9.none rfl) rfl (Nl hy) (by kernel_rfl) ?_;refine Ja 14 ?_;refine Jo 15 H ?_;refine Jk rfl rfl (fa vr vq (YE m x) hR j (gM Ve (by omega)) (by omega) ((hD _).there) H) ?_;clear H;rintro v w ⟨rfl,H⟩;refine Jx H ?_;cases hb:Va (YE m x) j with
      | true=>
       refine Vr H ?_;have Uk:Vs m i j true=0:=by rw[K3 hv];unfold Qc;rw[if_neg (by omega),Int.toNat_natCast,if_neg (fun h=>h hb)]
       have Xe:=getElem?_eq_getElem (l:=x.kind) (i:=j) (by omega);have WH:=getElem?_eq_getElem (l:=x.to) (i:=j) (by omega);have G5:x.kind.getD j 0=x.kind[j]:=by rw[getD_eq_getElem?_getD,Xe];rfl
       have BW:x.to.getD j 0=x.to[j]:=by rw[getD_eq_getElem?_getD,WH];rfl
       have K4:=Kb.goes j;rw[BW] at K4
       obtain⟨VN,h1⟩:x.kind.getD j 0≤2∧Ys s k g j=(G7 told (x.kind.getD j 0) (x.to.getD j 0),0):=by
        rcases iK R XV j with ⟨h0,_⟩|⟨_,n',j',x',e1,e2,e3,_,_,_,e4,e5⟩
        ·exact absurd Uk h0
        ·obtain rfl:n'=i:=by omega
         obtain rfl:j'=j:=by omega
         rw[hx] at e3;injection e3 with e3
         subst e3;exact⟨e4,e5⟩
       rw[G5] at VN;rw[G5,BW] at h1;generalize x.kind[j]=kd at *;generalize x.to[j]=td at *;have tR:kd=2→td < told.length:=fun h=>by rw[R.len];exact K4 (by rw[Xe,h])
       have UQ:=fun (w:World) (fr:List Q2) (H:Q0 w (QD c s::fr))=>JD c s k g j H;rw[h1] at UQ;obtain⟨l1,l2,l3,ZE⟩:=Xa (G7 told kd td);rw[ZE] at UQ;have Cf:=fun (w:World) (fr:List Q2) (H:Q0 w (YK p c mo (.slice (some ⟨bT,0,none⟩) told.length cap)::VD (.slice (some ⟨bT,0,none⟩) told.length cap) told::fr))=>Tc p c mo (some ⟨bT,0,none⟩) cap told kd td VN tR H;rw[ZE] at Cf;replace H:=Js [13,0,0,0,0,0,0,0,0,0,0,0,0,0,0,0] 0 H;refine J6 H ?_;refine Qt (fun ms σ w=>ms=[]∧∃ b7,σ 7=pp b7∧σ 8 = .int .i64 0∧σ 0=pp p∧σ 4=pp b4∧σ 5=pp q∧σ 6 = .int .i64 j∧σ 18 = .slice (some ⟨bT,0,none⟩) told.length cap∧σ 19 = .int .i64 told.length∧σ 20 = .int .i64 i∧σ 51 = .int .i64 x.w.length∧σ 52 = .int .i64 j∧Q0 w (pts b7 (row 88 [.int .i64 l1,.int .i64 l2,.int .i64 l3])::pts bL (row 102 (Vb lc++sL))::D1::D2::Rr::pts q (Kw (.slice aw x.w.length cw) (.slice ak x.kind.length ck) (.slice at' x.to.length ct) x)::UL (.slice aw x.w.length cw) x.w::NL (.slice ak x.kind.length ck) x.kind::NL (.slice at' x.to.length ct) x.to::pts bO (row 77 (ptrs++sO))::pts mo (row 58 [pp t,.slice (some ⟨bL,0,none⟩) m.lays.length cL,.slice (some ⟨bO,0,none⟩) m.objs.length cO])::Vh t m.P::star rest::YK p c mo (.slice (some ⟨bT,0,none⟩) told.length cap)::QD c s::pts b4 (row 69 [.int .i64 k,.int .i64 g])::VD (.slice (some ⟨bT,0,none⟩) told.length cap) told::fr)) ?_ ?_
       ·refine J1 H ?_;clear H;intro w H;refine YN H ?_;refine Jl 3 [6,11] H ?_;refine Vw 4 [6,11] H rfl (Q9.none rfl) rfl (by repeat first|exact .nil _|apply QY.cons rfl) (by kernel_rfl) ?_;refine Ja 5 ?_;refine Jw 6 10 H rfl rfl (V1 (a:=[]) (b:=[]) rfl rfl (call (UQ _ _ H) ?_)) (YH H rfl ?_)
        ·clear H;rintro v w ⟨rfl,H⟩;refine C3 H ?_;clear H;intro b7 w H;refine Km H ?_;clear H;intro w H;refine KH H ?_;replace H:=Js [0,1,1,1,1,1,1,1,1,1,1,1,1,1,0,0,0] 0 H;exact⟨rfl,rfl,b7,rfl,rfl,rfl,rfl,rfl,rfl,rfl,rfl,rfl,rfl,rfl,H⟩
        ·clear H;intro b7 w H;refine Jo 6 H ?_;refine Jk rfl rfl (UQ _ _ H.swap) ?_;clear H;rintro v w ⟨rfl,H⟩;refine IF H ?_;clear H;intro w H;refine KH H ?_;replace H:=Js [1,1,1,1,1,1,1,1,1,1,1,1,1,1,0,0,0] 0 H;exact⟨rfl,rfl,b7,rfl,rfl,rfl,rfl,rfl,rfl,rfl,rfl,rfl,rfl,rfl,H⟩
       clear H;rintro ms σ w ⟨rfl,b7,g7,g8,g0,g4,g5,g6,g18,g19,g20,g51,g52,H⟩;rw[Q1 g7,Q1 g8,Q1 g0,Q1 g4,Q1 g5,Q1 g6,Q1 g18,Q1 g19,Q1 g20,Q1 g51,Q1 g52];replace H:=Js [7,7,0,0,0,0,0,0,0,0,0,0,0,0,0,0,0] 0 H;obtain⟨bk,sk,rfl,H,U6⟩:=VX H (by omega);obtain⟨bt,st,rfl,H,Ky⟩:=VX H.swap (by omega);refine J1 H ?_;clear H;intro w H;refine Ii H ?_;refine Vw 4 [19] H rfl (Q9.of rfl rfl rfl) rfl (by repeat first|exact .nil _|apply QY.cons rfl) (by kernel_rfl) ?_;refine Eu H ?_;refine Jl 8 [19] H ?_;refine Ja 9 ?_;refine Ji 10 ?_;refine YZ 11 [19] H rfl (Q9.of rfl rfl rfl) rfl (U4 Xe) (by kernel_rfl) ?_;refine Ww H ?_;refine Jf 14 ?_;refine Jl 15 [19] H ?_;refine Ja 16 ?_;refine Ji 17 ?_;refine YZ 18 [19] H rfl (Q9.of rfl rfl rfl) rfl (U4 WH) (by kernel_rfl) ?_;replace H:=Js [13,15,0,0,0,0,0,0,0,0,0,0,0,0,0,0,0] 0 H;refine Jo 19 H ?_;refine Jk rfl rfl (Cf _ _ H) ?_;clear H;rintro v w ⟨rfl,H⟩;refine Ja 20 ?_;refine Ja 21 ?_;refine ME H ?_;replace H:=Js [2,2,0,0,0,0,0,0,0,0,0,0,0,0,0,0,0] 0 H;replace H:=Ky _ _ H;replace H:=U6 _ _ H.swap;replace H:=Js [5,5,5,5,5,5,0,0,3,3,3,3,0,2,2,0] 1 H;refine J3 H ?_;exact⟨_,⟨rfl,j+1,ZP,rfl,rfl,rfl,rfl,rfl,rfl,rfl,rfl,Qh (by omega),H⟩,by omega⟩
      | false=>
       refine F5 H ?_;have Uk:Vs m i j false=0:=by rw[K3 hv];unfold Qc;rw[if_neg (by omega),Int.toNat_natCast,if_neg (fun h=>h hb)]
       have Dy:=getElem?_eq_getElem ZP;have To:x.w.getD j 0=x.w[j]:=by rw[getD_eq_getElem?_getD,Dy];rfl
       have h1:K5 s k g j=(x.w.getD j 0,0):=by
        rcases iG R XV j with ⟨h0,_⟩|⟨_,n',j',x',e1,e2,e3,_,e5⟩
        ·exact absurd Uk h0
        ·obtain rfl:n'=i:=by omega
         obtain rfl:j'=j:=by omega
         rw[hx] at e3;injection e3 with e3
         subst e3;exact e5
       rw[To] at h1;generalize x.w[j]=y at Dy h1;replace H:=Js [13,0,0,0,0,0,0,0,0,0,0,0,0,0,0,0] 0 H;refine J1 H ?_;clear H;intro w H;refine F3 H ?_;refine IC H ?_;refine Ja 5 ?_;refine Jo 6 H ?_;refine Jk rfl rfl (gk c s k g j H) ?_;clear H;rintro v w ⟨rfl,H⟩;rw[h1];refine KB H ?_;replace H:=Js [6,0,0,0,0,0,0,0,0,0,0,0,0,0,0,0] 0 H;obtain⟨bW,sW,rfl,H,LU⟩:=VX H (by omega);refine Y7 H ?_;refine MN H ?_;refine QS rfl rfl rfl (Ut rfl rfl (by omega) (by omega) rfl ?_);refine QS rfl rfl rfl (QA H rfl (NI Dy) rfl ?_);refine Zm H ?_;rw[show ((y:Int) != (y:Int))=false by simp];refine YS H ?_;replace H:=LU _ _ H;replace H:=Js [2,2,2,2,2,0,1,1,1,1,1,1,1,0,0,0] 0 H;refine J3 H ?_;exact⟨_,⟨rfl,j+1,ZP,rfl,rfl,rfl,rfl,rfl,rfl,rfl,rfl,Qh (by omega),H⟩,by omega⟩
     ·exact⟨rfl,rfl,rfl,rfl,rfl,rfl,H⟩
    clear H;rintro ms σ w ⟨rfl,g0,g18,g19,g20,H⟩;rw[Q1 g0,Q1 g18,Q1 g19,Q1 g20];replace H:=tK _ _ H;replace H:=Js [2,2,2,2,2,2,0,0,0,0] 0 H;replace H:=K2 hx (QK _ _ _ V7 H);refine J3 H ?_;replace H:=Js [4,1,1,0] 1 H;exact⟨_,⟨rfl,i+1,Q6,rfl,rfl,rfl,rfl,Qh (by omega),H⟩,by omega⟩
  ·exact⟨rfl,rfl,rfl,H⟩
 clear H;rintro ms σ w ⟨rfl,g0,H⟩;rw[Q1 g0];replace H:=Js [3,0,0,0] 0 H;obtain⟨t,lc,oc,aL,cL,aO,cO,hm,h2,h3,Z0,Y5,H⟩:=GA H;have BJ:=hm.P.2;replace H:=Js [1,0,0,0,0,0,0,0,0] 0 H;refine Ib H ?_;refine Jc rfl rfl (JX t m.P (by omega) H) ?_;clear H;intro v w H;obtain⟨aA,cA,rfl⟩:=QI H (QJ _) (by decide);refine Uw H ?_;clear H;intro b136 w H;replace H:=H.swap
 have Hj:(V4 m.P).length≤100000:=by
  have:(V4 m.P).length≤m.P.length:=Nz m.P _ _;omega
 refine Q5 rfl (ZU H rfl rfl (by repeat first|exact .nil _|apply QY.cons rfl) rfl (by decide) (by rw[QJ];simp only[length_cons,length_nil];omega) rfl rfl ?_);clear H;intro vS w H;have e1:QH (V4 m.P)++[.int .i64 0]=QH (V4 m.P++[0]):=by rw[B4];rfl
 rw[e1] at H
 have jG:∀ x∈V4 m.P++[0],((x:Nat):Int)=0∨(QV s.par ((x:Nat):Int)).isSome=true:=by
  intro x hx
  rcases mem_append.1 hx with hx|hx
  ·right;obtain⟨qq,q1,q2,q3⟩:=L4.1 hx;rw[(YI R.nd).2 ((R.tree x qq).2 ⟨x,rfl,q2,q1,q3⟩)];rfl
  ·left;simp at hx;omega
 have OR:(V4 m.P++[0]).length≤100001:=by simp;omega
 generalize V4 m.P++[0]=L at H jG OR;obtain⟨aS,cS,rfl⟩:=QI H (QJ L) (by decide);refine W7 H ?_;replace H:=Js [0,1,1,1,1,1,1,1,1,1] 1 H;refine J6 H ?_;refine Qt (fun ms σ w=>ms=[]∧σ 0=pp p∧Q0 w (NL (.slice aS L.length cS) L::Vh t m.P::pts mo (row 58 [pp t,.slice aL m.lays.length cL,.slice aO m.objs.length cO])::QE 102 4 (.slice aL m.lays.length cL) (Vb lc)::star (lc.map Yp)::QE 77 1 (.slice aO m.objs.length cO) (oc.map fun x=>pp x.ptr)::star (oc.map Zk)::VD (.slice a told.length cap) told::YK p c mo (.slice a told.length cap)::QD c s::fr)) ?_ ?_
 ·refine Qe ?_;refine Qq (fun ms σ w n=>ms=[]∧∃ i:Nat,i≤L.length∧n=L.length - i∧σ 0=pp p∧σ 137 = .slice aS L.length cS∧σ 138 = .int .i64 L.length∧σ 139 = .int .i64 i∧Q0 w (NL (.slice aS L.length cS) L::Vh t m.P::pts mo (row 58 [pp t,.slice aL m.lays.length cL,.slice aO m.objs.length cO])::QE 102 4 (.slice aL m.lays.length cL) (Vb lc)::star (lc.map Yp)::QE 77 1 (.slice aO m.objs.length cO) (oc.map fun x=>pp x.ptr)::star (oc.map Zk)::VD (.slice a told.length cap) told::YK p c mo (.slice a told.length cap)::QD c s::fr)) (m:=L.length) ⟨rfl,0,by omega,rfl,rfl,rfl,rfl,rfl,H⟩ ?_;clear H;rintro ms σ w n ⟨rfl,i,hi,rfl,g0,g137,g138,g139,H⟩;rw[Q1 g0,Q1 g137,Q1 g138,Q1 g139];refine J7 H ?_;refine Qm rfl (fun h=>QF ?_) (fun h=>Qv ?_)
  ·have Q6:i < L.length:=by omega
   have hn:=getElem?_eq_getElem Q6;generalize L[i]=id at hn;have Qx:=jG id (mem_of_getElem? hn);obtain⟨bA,sA,rfl,H,tW⟩:=VX H (by omega);refine Z7 H ?_;refine Jd ?_;refine Q5 rfl (QA H rfl (U4 hn) rfl ?_);refine J0 H ?_;replace H:=tW _ _ H;replace H:=Js [9,0,0,0,0,0,0,0,0,0] 0 H;obtain⟨q,mem,VI,UJ,H⟩:=Y9 H;replace H:=Js [5,0,0,0,0,0,0,0,0,0,0,0,0,0,0,0,0,0,0,0] 0 H;refine Ic H ?_;refine Jc rfl rfl (gD q.trp s.last s.par id Qx (by have:=VI.par.1;omega) H) ?_;clear H;rintro v w ⟨u,K,rfl,tA,jU,H⟩;obtain⟨aK,cK,rfl⟩:=QI H (YC K) (by decide);refine U2 H ?_;have Kv:=tU R (id:=id) (by omega) tA jU;replace H:=Js [2,2,2,2,2,1,1,1,1,1,1,0,0,0,0,0,0,0,0,0,0] 0 H;replace H:=VJ VI UJ H;replace H:=Js [3,0,0,0,0,0,0,0,0,0,0] 0 H;refine Y7 H ?_;refine MN H ?_;refine Xu H ?_;refine QS rfl rfl rfl (V1 (a:=[]) (b:=[]) rfl rfl (call (qN t m.P id (by omega) H) ?_));clear H;intro v2 w H;obtain⟨a2,c2,rfl⟩:=QI H (QJ _) (by decide);replace H:=Js [3,0,0,0,0,0,0,0,0,0,0,0] 0 H;rw[tG _ (CM m.P id)] at H;refine QS rfl rfl rfl (V1 (a:=[]) (b:=[]) rfl rfl (call (JG _ _ K ((CM m.P id).map fun x:Nat=>(x:Int)) (by rw[Kv,length_map];have:(CM m.P id).length≤m.P.length:=Nz m.P _ _;omega) H) ?_));clear H;rintro v w ⟨rfl,H⟩;rw[decide_eq_true Kv];refine W2 H ?_;refine J3 H ?_;replace H:=Js [4,2,3,3,3,3,3,3,3,2] 2 H;exact⟨_,⟨rfl,i+1,Q6,rfl,rfl,rfl,rfl,Qh (by omega),H⟩,by omega⟩
  ·exact⟨rfl,rfl,rfl,H⟩
 clear H;rintro ms σ w ⟨rfl,g0,H⟩;rw[Q1 g0];replace H:=Js [9,0,0,0,0,0,0,0,0,0] 0 H;obtain⟨q,mem,VI,UJ,H⟩:=Y9 H;replace H:=Js [5,0,0,0,0,0,0,0,0,0,0,0,0,0,0,0,0,0,0,0] 0 H;refine J1 H ?_;clear H;intro w H;refine YN H ?_;refine Jl 3 [7,15] H ?_;refine Ja 4 ?_;refine Jf 5 ?_;refine Jl 6 [7,15] H ?_;refine FE H ?_;refine Jl 11 [15] H ?_;refine Ja 12 ?_;refine Jf 13 ?_;refine Jl 14 [15] H ?_;refine Jo 7 H ?_;refine Jk rfl rfl (fj q.trp s.last s.par H) ?_;clear H;rintro v w ⟨rfl,H⟩;replace H:=Js [12,0,0,0,0,0,0,0,0,0,0,0,0,0,0,0,0,0,0,0] 0 H;refine Jo 15 H ?_;refine Jk rfl rfl (JX t m.P (by omega) H) ?_;clear H;intro v w H;obtain⟨aA2,cA2,rfl⟩:=QI H (QJ _) (by decide);refine Aa 16 rfl (Q9.none rfl) rfl (by kernel_rfl) ?_;refine Ja 17 ?_;rw[Fu R,XQ ((V4 m.P).length:Int)];refine Ja 18 ?_;refine Jx H ?_;replace H:=Js [3,3,3,3,3,2,2,2,2,2,2,1,2,2,2,2,2,2,2] 2 H;replace H:=VJ VI UJ H;replace H:=Js [2,1,1,1,1,1,0,0,0] 0 H;replace H:=Zq hm h2 h3 H;replace H:=Js [3,1,0,0] 0 H;exact Q3 (Jy (Z1 H) rfl fun w' H'=>⟨rfl,H'⟩)
theorem RZ {l:List Int} {s:List Value} {i:Nat} {x:Int} (h:l[i]? = some x):(Qn l++s)[0+i*1]? = some (.int .i64 x):=by
 have hi:=(List.getElem?_eq_some_iff.1 h).1;rw[Nat.zero_add,Nat.mul_one,getElem?_append_left (by rw[YC];omega)];unfold Qn;rw[getElem?_map,h];rfl
theorem tB (l:List Int):(Qn l).all (·.oneCell')=true:=by simp[Qn,all_eq_true,Value.oneCell']
theorem tC [Q4] (p last:Nat) (par:List (Int×Int)) (id:Int) (hT:ZJ par) (Qx:(QV par id).isSome=true) (hl:par.length≤1000) {w:World} {fr:List Q2} (H:Q0 w (Qo p last par::fr)) :
  Calls Tryz.prog 117 #[pp p,.int .i64 id] w (ret fun v w'=>∃ u L,v = .tuple #[u,.int .i64 0]∧L.Nodup∧L.Pairwise (·≤·)∧(∀ c,c∈L↔Ge par id c)∧L.length≤par.length∧Q0 w' (IL u L::Qo p last par::fr)):=by
 refine QQ Tryz.func117 rfl (by kernel_rfl) ?_;refine WV H ?_;refine Jc rfl rfl (Sj p last par id H) ?_;clear H;rintro v w ⟨rfl,H⟩;rw[if_pos Qx];refine ZT H ?_;refine Z4 H ?_;refine Uw H ?_;clear H;intro b18 w H;refine J0 H ?_;replace H:Q0 w (IL _ [id]::_):=RN (c:=Qn [id]) rfl H;refine J7 H ?_;refine Qt (fun ms σ w=>ms=[]∧∃ (l:List Int) (a:Option Addr) (c:Nat),Rm par id l l.length∧σ 7 = .slice a l.length c∧Q0 w (IL (.slice a l.length c) l::Qo p last par::fr)) ?_ ?_
 ·refine Qe ?_;refine Qq (fun ms σ w n=>ms=[]∧∃ (i:Nat) (l:List Int) (a:Option Addr) (c:Nat),Rm par id l i∧n=par.length - i∧σ 0=pp p∧σ 7 = .slice a l.length c∧σ 8 = .int .i64 i∧Q0 w (IL (.slice a l.length c) l::Qo p last par::fr)) (m:=par.length) ⟨rfl,0,[id],_,_,Rm.start par id,rfl,rfl,rfl,rfl,H⟩ ?_;clear H;rintro ms σ w n ⟨rfl,i,l,a,c,hB,rfl,g0,g7,g8,H⟩;rw[Q1 g0,Q1 g7,Q1 g8];have Ch:=hB.len Qx;have UE:=hB.le;refine As H ?_;refine Qm rfl (fun h=>QF ?_) (fun h=>Qv ?_)
  ·have Q6:i < l.length:=by omega
   have hx:=getElem?_eq_getElem Q6;have RH:=hB.desc _ (getElem_mem Q6);generalize l[i]=x at hx RH;obtain⟨bT,sT,rfl,H,QM⟩:=VX H (by omega);refine DC H ?_;refine Jd ?_;refine Q5 rfl (QA H rfl (by simpa using RZ hx) rfl ?_);replace H:=QM _ _ H;refine Jc rfl rfl (gD p last par x (.inr (RH.live Qx)) hl H.swap) ?_;clear H;rintro v w ⟨u,K,rfl,hK,jU,H⟩;obtain⟨au,mu,cu,rfl⟩:=V8 H;refine U2 H ?_
   have tD:∀ c,c∈K↔QV par c=some x:=fun c=>by
    rw[hK.mem_iff,mem_filter];unfold Xb;constructor
    ·rintro⟨_,h1⟩;simpa using h1
    ·intro h1;exact⟨mem_map.2 ⟨(c,x),KK h1,rfl⟩,by simpa using h1⟩
   have tE:K.Nodup:=hK.nodup_iff.2 (hT.nd.filter _);have Ci:=hB.step hT hx tE tD;have Y5:=Ci.len Qx;rw[length_append] at Y5;refine J9 H ?_;replace H:=Js [0,1,0] 0 H;obtain⟨DK,H,tF,hCK⟩:=sls_rd H (YC K) (by decide);replace H:=Js [1,0] 0 H;refine Q5 rfl (Pm H rfl rfl (tF _) (tB K) (by rw[YC,YC];omega) rfl rfl ?_);clear H;intro v36 w H;rw[← Ff] at H;obtain⟨a36,c36,rfl⟩:=QI H (YC _) (by decide);refine F1 H ?_;replace H:=Js [0,1] 1 H;exact⟨_,⟨rfl,i+1,l++K,a36,c36,Ci,rfl,rfl,rfl,Qh (by omega),H⟩,by omega⟩
  ·have V2:i=l.length:=by omega
   subst V2;exact⟨rfl,rfl,l,a,c,hB,rfl,H⟩
 clear H;rintro ms σ w ⟨rfl,l,a,c,hB,g7,H⟩;rw[Q1 g7];have Ch:=hB.len Qx;refine Z4 H ?_;refine Jc rfl rfl (Nu _ l (by omega) H) ?_;clear H;rintro v w ⟨rfl,H⟩;refine DD H ?_;have hp:(l.mergeSort fun x y=>decide (x≤y)).Perm l:=mergeSort_perm l _;refine Q3 (Jy H rfl fun w' H'=>⟨_,l.mergeSort fun x y=>decide (x≤y),rfl,hp.nodup_iff.2 hB.nd,?_,fun c=>?_,?_,H'⟩)
 ·have:=pairwise_mergeSort (le:=fun x y:Int=>decide (x≤y)) (fun a b c h1 h2=>by simp at *;omega) (fun a b=>by simp;omega) l;exact this.imp fun h=>by simpa using h
 ·rw[hp.mem_iff];exact hB.ends c
 ·rw[hp.length_eq];exact Ch
theorem tH [Q4] (p last:Nat) (par:List (Int×Int)) (id:Int) (hT:ZJ par) (Qx:(QV par id).isSome=true) (hl:par.length≤1000) {w:World} {fr:List Q2} (H:Q0 w (Qo p last par::fr)) :
  Calls Tryz.prog 55 #[pp p,.int .i64 id] w (ret fun v w'=>∃ u L,v = .tuple #[u,.int .i64 0]∧L.Nodup∧L.Pairwise (·≤·)∧(∀ c,c∈L↔Ge par id c)∧L.length≤par.length∧Q0 w' (IL u L::Qo p last (L.foldl QN par)::fr)):=by
 refine QQ Tryz.func55 rfl (by kernel_rfl) ?_;refine WV H ?_;refine Jc rfl rfl (tC p last par id hT Qx hl H) ?_;clear H;rintro v w ⟨u,L,rfl,h1,h2,h3,h4,H⟩;obtain⟨a,c,rfl⟩:=QI H (YC _) (by decide);refine U2 H ?_;refine Z4 H ?_;refine F9 H ?_;refine Qt (fun ms σ w=>ms=[]∧σ 6 = .slice a L.length c∧σ 7 = .int .i64 0∧Q0 w (IL (.slice a L.length c) L::Qo p last (L.foldl QN par)::fr)) ?_ ?_
 ·refine Qe ?_;refine Qq (fun ms σ w n=>ms=[]∧∃ i:Nat,i≤L.length∧n=L.length - i∧σ 0=pp p∧σ 6 = .slice a L.length c∧σ 7 = .int .i64 0∧σ 16 = .slice a L.length c∧σ 17 = .int .i64 L.length∧σ 18 = .int .i64 i∧Q0 w (IL (.slice a L.length c) L::Qo p last ((L.take i).foldl QN par)::fr)) (m:=L.length) ⟨rfl,0,by omega,rfl,rfl,rfl,rfl,rfl,rfl,rfl,H⟩ ?_;clear H;rintro ms σ w n ⟨rfl,i,hi,rfl,g0,g6,g7,g16,g17,g18,H⟩;rw[Q1 g0,Q1 g6,Q1 g7,Q1 g16,Q1 g17,Q1 g18];refine J7 H ?_;refine Qm rfl (fun h=>QF ?_) (fun h=>Qv ?_)
  ·have Q6:i < L.length:=by omega
   have hx:=getElem?_eq_getElem Q6;generalize L[i]=x at hx;have Qj:L.take (i+1)=L.take i++[x]:=by rw[take_add_one,hx];rfl
   obtain⟨bT,sT,rfl,H,QM⟩:=VX H (by omega);refine Z7 H ?_;refine Jd ?_;refine Q5 rfl (QA H rfl (by simpa using RZ hx) rfl ?_);refine J0 H ?_;replace H:=(QM _ _ H).swap;obtain⟨bm,H⟩:=BV H;refine VM H ?_;refine Q5 rfl (Wk (key:=x) H.swap rfl rfl Vp rfl ?_);clear H;intro w H;refine J2 H ?_;replace H:=A3 H.swap;refine J3 H ?_;exact⟨_,⟨rfl,i+1,Q6,rfl,rfl,rfl,rfl,rfl,rfl,Qh (by omega),by rw[Qj,foldl_append];exact H.swap⟩,by omega⟩
  ·have V2:i=L.length:=by omega
   subst V2;rw[take_length] at H;exact⟨rfl,rfl,rfl,rfl,H⟩
 clear H;rintro ms σ w ⟨rfl,g6,g7,H⟩;rw[Q1 g6,Q1 g7];refine DN H ?_;exact Q3 (Jy H rfl fun w' H'=>⟨_,L,rfl,h1,h2,h3,h4,H'⟩)
theorem tI [Q4] (v:Value) (l:List Int) (hs:l.Pairwise (· < ·)) (hl:l.length≤1000000) {w:World} {fr:List Q2} (H:Q0 w (IL v l::fr)) :
  Calls Tryz.prog 119 #[v] w (ret fun x w'=>x=v∧Q0 w' (IL v l::fr)):=by
 obtain⟨a,c,rfl⟩:=QI H (YC l) (by decide);refine QQ Tryz.func119 rfl (by kernel_rfl) ?_;refine Vl H ?_;refine KF H ?_;by_cases h2:l.length < 2
 ·rw[show decide ((l.length:Int) < 2)=true from decide_eq_true (by omega)];refine G2 H ?_;exact Q3 (Jy H rfl fun w' H'=>⟨rfl,H'⟩)
 rw[show decide ((l.length:Int) < 2)=false from decide_eq_false (by omega)];refine Vf H ?_;refine J7 H ?_;refine Qt (fun ms σ w=>ms=[]∧σ 0 = .slice a l.length c∧Q0 w (IL (.slice a l.length c) l::fr)) ?_ ?_
 ·refine Qe ?_;refine Qq (fun ms σ w n=>ms=[]∧∃ k:Nat,1≤k∧k≤l.length∧n=l.length - k∧σ 0 = .slice a l.length c∧σ 3 = .int .i64 k∧Q0 w (IL (.slice a l.length c) l::fr)) (m:=l.length - 1) ⟨rfl,1,by omega,by omega,rfl,rfl,rfl,H⟩ ?_;clear H;rintro ms σ w n ⟨rfl,k,XT,hk,rfl,g0,g3,H⟩;rw[Q1 g0,Q1 g3];refine As H ?_;refine Qm rfl (fun h=>QF ?_) (fun h=>Qv ?_)
  ·have Q6:k < l.length:=by omega
   have hx:=getElem?_eq_getElem Q6;have hy:=getElem?_eq_getElem (show k - 1 < l.length by omega);have Yv:=(pairwise_iff_getElem.1 hs) (k - 1) k (by omega) Q6 (by omega);generalize l[k]=x at hx Yv;generalize l[k - 1]=y at hy Yv;obtain⟨bT,sT,rfl,H,QM⟩:=VX H (by omega);have ek:IntKind.i64.wrap ((k:Int) - 1)=((k - 1:Nat):Int):=by rw[Qg (by omega) (by omega)];omega
   refine IJ H ?_;clear H;intro w H;refine DU H ?_;refine Ji 2 ?_;refine YZ 3 [] H rfl (Q9.none rfl) rfl (by simpa using RZ hx) (by kernel_rfl) ?_;refine KI H ?_;refine Ja 6 ?_;rw[ek];refine Ji 7 ?_;refine YZ 8 [] H rfl (Q9.none rfl) rfl (by simpa using RZ hy) (by kernel_rfl) ?_;refine Ja 9 ?_;rw[show (x == y)=false from by rw[beq_eq_false_iff_ne];omega];refine Jx H ?_;replace H:=QM _ _ H;refine Ex H ?_;exact⟨_,⟨rfl,k+1,by omega,Q6,rfl,rfl,Qh (by omega),H⟩,by omega⟩
  ·exact⟨rfl,rfl,rfl,H⟩
 clear H;rintro ms σ w ⟨rfl,g0,H⟩;rw[Q1 g0];refine J3 H ?_;exact Q3 (Jy H rfl fun w' H'=>⟨rfl,H'⟩)
theorem tJ [Q4] {w:World} {v:Value} {l:List Nat} {fr:List Q2} (H:Q0 w (IL v (l.map fun x:Nat=>(x:Int))::fr)):Q0 w (NL v l::fr):=by
 show Q0 w (QE 3 1 v (QH l)::fr);rw[JY];exact H
def Ke (l m:List Nat):List Nat:=(l++m).mergeSort fun x y=>decide (x≤y)
theorem tL {l m:List Nat} {x:Nat}:x∈Ke l m↔x∈l∨x∈m:=by
 unfold Ke;rw[mem_mergeSort,mem_append]
theorem tM (l m:List Nat):(Ke l m).length=l.length+m.length:=by
 unfold Ke;rw[length_mergeSort,length_append]
theorem jX {l m:List Nat} (hl:l.Pairwise (· < ·)) (hm:m.Pairwise (· < ·)) (hd:∀ x∈l,x∉m):(Ke l m).Pairwise (· < ·):=by
 have h1:(Ke l m).Pairwise (fun x y=>decide (x≤y)=true):=pairwise_mergeSort (fun a b c h1 h2=>by simp at *;omega) (fun a b=>by simp;omega) _
 have h2:(Ke l m).Nodup:=by
  unfold Ke;rw[(mergeSort_perm _ _).nodup_iff,nodup_append];exact⟨hl.imp fun h=>by omega,hm.imp fun h=>by omega,fun a ha b hb Xx=>hd a ha (Xx▸hb)⟩
 refine(h1.and h2).imp fun h=>?_;have:=h.1;have h3:_≠_:=h.2;simp at this;omega
theorem tN (l m:List Nat):(Ke l m).map (fun x:Nat=>(x:Int))=(((l++m).map fun x:Nat=>(x:Int)).mergeSort fun x y=>decide (x≤y)):=by
 unfold Ke;rw[map_mergeSort];intro a _ b _;simp
theorem tO [Q4] (p q:Nat) (l m:List Nat) (hl:l.Pairwise (· < ·)) (hm:m.Pairwise (· < ·)) (hd:∀ x∈l,x∉m) (Ch:l.length≤100000) (GW:m.length≤100000) {w:World} {fr:List Q2} (H:Q0 w (VQ p l::VQ q m::fr)) :
  Calls Tryz.prog 57 #[pp p,pp q] w (ret fun v w'=>v = .tuple #[]∧Q0 w' (VQ p (Ke l m)::VQ q m::fr)):=by
 obtain⟨a,c,H⟩:=CL H;replace H:=Js [2,0,0] 0 H;obtain⟨a',c',H⟩:=CL H;refine QQ Tryz.func57 rfl (by kernel_rfl) ?_;refine Ep H ?_;refine Ej H ?_;refine ID H ?_;replace H:=Js [3,2,0,0] 0 H;obtain⟨D1,H,Y2,Vo⟩:=sls_rd H (QJ l) (by decide);replace H:=Js [3,1,1,0] 0 H;obtain⟨D2,H,Zj,ZR⟩:=sls_rd H (QJ m) (by decide);refine J1 H ?_;clear H;intro w H;refine W8 H ?_;refine Eu H ?_;refine Jl 8 [] H ?_;replace H:=Js [3,0,0,0] 0 H;refine Jo 4 H ?_;refine Jk rfl rfl (Ir _ l (by omega) (Y2 _) H) ?_;clear H;intro v15 w H;obtain⟨a15,c15,rfl⟩:=QI H (QJ l) (by decide);refine Jo 9 H ?_;refine Pm H rfl rfl ((Zj _).there) (by simp[QH,all_eq_true,Value.oneCell']) (by rw[QJ,QJ];omega) rfl rfl ?_;clear H;intro v20 w H;rw[← B4,JY] at H;obtain⟨a20,c20,rfl⟩:=QI (m:=l.length+m.length) H (by rw[YC,length_map,length_append]) (by decide);refine DR H ?_;refine Z4 H ?_;refine Jc rfl rfl (Nu (.slice a20 (l.length+m.length) c20) ((l++m).map fun x:Nat=>(x:Int)) (by rw[length_map,length_append];omega) H) ?_;clear H;rintro v w ⟨rfl,H⟩;refine J2 H ?_;rw[← tN] at H;have tP:=jX hl hm hd;have ZP:=tM l m;refine J9 H ?_;refine Jc rfl rfl (tI (.slice a20 (l.length+m.length) c20) ((Ke l m).map fun x:Nat=>(x:Int)) (List.Pairwise.map _ (fun a b h=>by omega) tP) (by rw[length_map];omega) H) ?_;clear H;rintro v w ⟨rfl,H⟩;refine XH H ?_;clear H;intro w H;refine J2 H ?_;replace H:=tJ H;replace H:=Js [2,3,2,0] 1 H;replace H:=ZR _ _ H;replace H:=Js [2,2,1,0] 0 H;replace H:=A8 H;replace H:=A8 (Q0.sel [1,1,0] 0 H);exact Z2 _ (.inl rfl) H.swap rfl fun w' H'=>⟨rfl,H'⟩
theorem tS [Q4] (a:Option Addr) (n c:Nat) {w:World} {fr:List Q2} (H:Q0 w fr) :
  Calls Tryz.prog 121 #[.slice a n c] w (ret fun v w'=>∃ b1,v = .func (.func 198) #[] #[pp b1]∧Q0 w' (pts b1 (row 31 [.slice a n c])::fr)):=by
 refine QQ Tryz.func121 rfl (by kernel_rfl) ?_;refine GV H ?_;clear H;intro b1 w H;refine ZX H ?_;exact Q3 (Jy H rfl fun w' H'=>⟨_,rfl,H'⟩)
theorem OW [Q4] (p:Nat) (l:List Nat) (hl:l.length≤1000000) {w:World} {fr:List Q2} (H:Q0 w (VQ p l::fr)) :
  Calls Tryz.prog 58 #[pp p] w (ret fun v w'=>∃ (b1:Nat) (a:Option Addr) (c:Nat),v = .func (.func 198) #[] #[pp b1]∧Q0 w' (pts b1 (row 31 [.slice a l.length c])::NL (.slice a l.length c) l::VQ p l::fr)):=by
 obtain⟨a,c,H⟩:=CL H;refine QQ Tryz.func58 rfl (by kernel_rfl) ?_;refine Wp H ?_;obtain⟨D1,H,Y2,Vo⟩:=sls_rd H.swap (QJ l) (by decide);refine Jc rfl rfl (Ir _ l hl (Y2 _) H) ?_;clear H;intro v w H;obtain⟨a9,c9,rfl⟩:=QI H (QJ l) (by decide);refine Jc rfl rfl (tS a9 l.length c9 H) ?_;clear H;rintro v w ⟨b1,rfl,H⟩;refine J0 H ?_;replace H:=Js [2,0,0,0] 0 H;replace H:=Vo _ _ H;replace H:=Js [3,0,0,0] 0 H;replace H:=A8 H;replace H:=Js [1,1,0] 0 H;exact Q3 (Jy H rfl fun w' H'=>⟨_,a9,c9,rfl,H'⟩)
theorem OA [Q4] (yl b1:Nat) (a:Option Addr) (c:Nat) (l:List Nat) (hl:l.length≤1000000) (J:List Nat→Q2) {w:World} {fr:List Q2}
  (hy:∀ (ks:List Nat) (k:Nat) (t:List Nat) (rest:List Q2) (w:World),l=ks++k::t→Q0 w (J ks::rest)→SL.Yields Tryz.prog yl #[.int .i64 k] w (fun v w'=>v = .bool true∧Q0 w' (J (ks++[k])::rest)))
  (H:Q0 w (J []::pts b1 (row 31 [.slice a l.length c])::NL (.slice a l.length c) l::fr)) :
  Calls Tryz.prog 198 #[.func (.yield yl) #[] #[],pp b1] w (ret fun _ w'=>Q0 w' (J l::pts b1 (row 31 [.slice a l.length c])::NL (.slice a l.length c) l::fr)):=by
 refine QQ Tryz.func198 rfl (by kernel_rfl) ?_;refine UB H ?_;refine Ax H ?_;refine Qq (fun ms σ w n=>ms=[]∧∃ i:Nat,i≤l.length∧n=l.length - i∧σ 0 = .func (.yield yl) #[] #[]∧σ 5 = .slice a l.length c∧σ 6 = .int .i64 l.length∧σ 7 = .int .i64 i∧Q0 w (J (l.take i)::pts b1 (row 31 [.slice a l.length c])::NL (.slice a l.length c) l::fr)) (m:=l.length) ⟨rfl,0,by omega,rfl,rfl,rfl,rfl,rfl,H⟩ ?_;clear H;rintro ms σ w n ⟨rfl,i,hi,rfl,g0,g5,g6,g7,H⟩;rw[Q1 g0,Q1 g5,Q1 g6,Q1 g7];refine J7 H ?_;refine Qm rfl (fun h=>QF ?_) (fun h=>Qv ?_)
 ·have Q6:i < l.length:=by omega
  have hx:=getElem?_eq_getElem Q6;have Yw:l=l.take i++l[i]::l.drop (i+1):=by rw[getElem_cons_drop,take_append_drop]
  have Qj:l.take (i+1)=l.take i++[l[i]]:=by rw[take_add_one,hx];rfl
  generalize l[i]=x at hx Yw Qj;replace H:=Js [2,0,0] 0 H;obtain⟨bT,sT,rfl,H,QM⟩:=VX H (by omega);refine Z7 H ?_;refine Jd ?_;refine Q5 rfl (QA H rfl (U4 hx) rfl ?_);refine J0 H ?_;replace H:=QM _ _ H;refine J9 H ?_;replace H:=Js [1,1,0] 0 H;refine Q5 rfl (Bk rfl rfl (SL.Yields.mono (hy _ x _ _ _ Yw H) ?_));clear H;rintro v w ⟨rfl,H⟩;rw[← Qj] at H;refine CV H ?_;exact⟨_,⟨rfl,i+1,Q6,rfl,rfl,rfl,rfl,Qh (by omega),H⟩,by omega⟩
 ·have V2:i=l.length:=by omega
  subst V2;rw[take_length] at H;exact Z2 _ (.inl rfl) H rfl fun w' H'=>H'
def Xm (n x:Nat):List Nat:=(List.range n).filter fun i=>x.testBit i
theorem jK {x a e:Nat} (h:a≤e) (h0:∀ i,a≤i→i < e→x.testBit i=false):Xm e x=Xm a x:=by
 obtain⟨d,rfl⟩:∃ d,e=a+d:=⟨e - a,by omega⟩;unfold Xm
 have h2:((List.range d).map (a+·)).filter (fun i=>x.testBit i)=[]:=by
  refine filter_eq_nil_iff.2 fun i hi=>?_;obtain⟨j,hj,rfl⟩:=mem_map.1 hi;have:=mem_range.1 hj;rw[h0 (a+j) (by omega) (by omega)];decide
 rw[range_add,filter_append,h2,append_nil]
theorem jR {x a:Nat} (h:x.testBit a=true):Xm (a+1) x=Xm a x++[a]:=by
 unfold Xm;rw[range_succ,filter_append,filter_cons,if_pos h];rfl
theorem tT {x a n:Nat} (h:a < n) (hx:x.testBit a=true):∃ t,Xm n x=Xm a x++a::t:=by
 obtain⟨d,rfl⟩:∃ d,n=(a+1)+d:=⟨n - (a+1),by omega⟩;refine⟨((List.range d).map (a+1+·)).filter fun i=>x.testBit i,?_⟩;have h1:=jR hx;unfold Xm at h1 ⊢;rw[range_add,filter_append,h1,append_assoc];rfl
theorem tc [Q4] (p:Nat) {w:World} {fr:List Q2} (H:Q0 w fr) :
  Calls Tryz.prog 109 #[pp p] w (ret fun v w'=>∃ b1,v = .func (.func 181) #[] #[pp b1]∧Q0 w' (pts b1 (row 139 [pp p])::fr)):=by
 refine QQ Tryz.func109 rfl (by kernel_rfl) ?_;refine GV H ?_;clear H;intro b1 w H;refine ZX H ?_;exact Q3 (Jy H rfl fun w' H'=>⟨_,rfl,H'⟩)
theorem tf [Q4] (yl b1 p n x m:Nat) (hb:Gn n x) (J:List Nat→Q2)
  {w:World} {fr:List Q2} [hT:Z6 0 Lib.deBruijn64tab fr]
  (hy:∀ (ks:List Nat) (i:Nat) (rest:List Q2) (w:World),i < n→x.testBit i=true→(∃ t,Xm n x=ks++i::t)→Q0 w (J ks::BM p n [x] m::rest)→SL.Yields Tryz.prog yl #[.int .i64 i] w (fun v w'=>v = .bool true∧Q0 w' (J (ks++[i])::BM p n [x] m::rest)))
  (H:Q0 w (J []::pts b1 (row 139 [pp p])::BM p n [x] m::fr)) :
  Calls Tryz.prog 181 #[.func (.yield yl) #[] #[],pp b1] w (ret fun _ w'=>Q0 w' (J (Xm n x)::pts b1 (row 139 [pp p])::BM p n [x] m::fr)):=by
 have VO:=hb.le;refine QQ Tryz.func181 rfl (by kernel_rfl) ?_;refine UB H ?_;refine NX H ?_;refine C5 H ?_;replace H:=Js [2,1,0] 0 H;refine UB H ?_;refine Jc rfl rfl (SH p n x 0 m hb (by omega) H) ?_;clear H;rintro v w ⟨⟨a,rfl,_,ha,h0,h1⟩,H⟩;refine J0 H ?_;have e0:J []=J (Xm a x):=by rw[jK (Nat.zero_le a) h0];rfl
 rw[e0] at H;clear e0 h0;refine XE H ?_;refine Qq (fun ms σ w z=>ms=[]∧∃ a:Nat,a≤n∧(a < n→x.testBit a=true)∧z=n - a∧σ 0 = .func (.yield yl) #[] #[]∧σ 1=pp b1∧σ 3 = .int .i64 a∧Q0 w (BM p n [x] m::pts b1 (row 139 [pp p])::J (Xm a x)::fr)) (m:=n - a) ⟨rfl,a,ha,h1,rfl,rfl,rfl,rfl,H⟩ ?_;clear H;rintro ms σ w z ⟨rfl,a,ha,h1,rfl,g0,g1,g3,H⟩;rw[Q1 g0,Q1 g1,Q1 g3];obtain⟨v,H⟩:=NS H;refine Z4 H ?_;refine W4 H ?_;refine Jv ?_;refine Gm H ?_;refine J0 H ?_;replace H:=Il H;refine J6 H ?_;refine Qm rfl (fun h=>QF ?_) (fun h=>Qv ?_)
 ·have Q6:a < n:=by omega
  refine Wt H ?_;replace H:=Js [2,0,0] 0 H;refine Q5 rfl (Bk rfl rfl (SL.Yields.mono (hy (Xm a x) a _ _ Q6 (h1 Q6) (tT Q6 (h1 Q6)) H) ?_));clear H;rintro v w ⟨rfl,H⟩;refine YS H ?_;rw[← jR (h1 Q6)] at H;replace H:=Js [1,1,0] 0 H;refine UB H ?_;refine ZS H ?_;rw[show IntKind.i64.wrap ((a:Int)+1)=((a+1:Nat):Int) by rw[Qg (by omega) (by omega)];omega];refine Jc rfl rfl (SH p n x (a+1) m hb (by omega) H) ?_;clear H;rintro v w ⟨⟨e,rfl,h2,h3,h4,h5⟩,H⟩;refine J0 H ?_;rw[← jK h2 h4] at H;exact⟨_,⟨rfl,e,h3,h5,rfl,rfl,rfl,rfl,H⟩,by omega⟩
 ·have V2:a=n:=by omega
  subst V2;replace H:=Js [2,1,0] 0 H;exact Z2 _ (.inl rfl) H rfl fun w' H'=>H'
structure TQ where
 b:Nat
 c:Nat
 s:List Value
 u:Nat
 x:Nat
def Gx (p:Nat) (ts:List QW) (q:TQ):Q2:=star [prop (X8 ts q.x∧ts.length≤q.c),pts p (row 144 [.slice (some ⟨q.b,0,none⟩) ts.length q.c,pp q.u,.int .i64 (ZV ts)]),pts q.b (row 199 (ts.flatMap Y6++q.s)),GO q.u ts.length q.x]
theorem Cj [Q4] {w:World} {p:Nat} {ts:List QW} {b c:Nat} {s:List Value} {u x:Nat} {l:List Q2} (H:Q0 w (Gx p ts ⟨b,c,s,u,x⟩::l)):X8 ts x∧ts.length≤c ∧
  Q0 w (pts p (row 144 [.slice (some ⟨b,0,none⟩) ts.length c,pp u,.int .i64 (ZV ts)])::pts b (row 199 (ts.flatMap Y6++s))::GO u ts.length x::l) ∧
  ∀ w' l' ts' x',ts'=ts→x'=x→X8 ts x→Q0 w' (pts p (row 144 [.slice (some ⟨b,0,none⟩) ts.length c,pp u,.int .i64 (ZV ts)])::pts b (row 199 (ts.flatMap Y6++s))::GO u ts.length x::l')→Q0 w' (Gx p ts ⟨b,c,s,u,x⟩::l'):=by
 have H:=Q0.star.1 H;obtain⟨h,H⟩:=Q0.prop.1 H;exact⟨h.1,h.2,H,fun w' l' ts' x' _ _ _ H'=>Q0.star.2 (Q0.prop.2 ⟨h,H'⟩)⟩
theorem jW [Q4] {w:World} {p:Nat} {ts:List QW} {l:List Q2} (H:Q0 w (Qr p ts::l)):∃ q,Q0 w (Gx p ts q::l)∧∀ w' l',Q0 w' (Gx p ts q::l')→Q0 w' (Qr p ts::l'):=by
 obtain⟨b,c,s,u,x,QX,hc,H,QK⟩:=BB H;refine⟨⟨b,c,s,u,x⟩,Q0.star.2 (Q0.prop.2 ⟨⟨QX,hc⟩,H⟩),fun w' l' H'=>?_⟩;obtain⟨_,_,H',_⟩:=Cj H';exact QK _ _ ts x rfl rfl QX H'
theorem th [Q4] (p:Nat) (ts:List QW) (q:TQ) (i g:Int) {w:World} {fr:List Q2} (H:Q0 w (Gx p ts q::fr)) :
  Calls Tryz.prog 68 #[pp p,GB i g] w (ret fun v w'=>v=(match Qk ts i g with|some (_,e) => .tuple #[.agg (YX e).toArray,.int .i64 0]|none => .tuple #[.agg #[.int .i64 0,.int .i64 0,.bool false,.bool false],.int .i64 8])∧Q0 w' (Gx p ts q::fr)):=by
 obtain⟨b,c,s,u,x⟩:=q;obtain⟨QX,hc,H,QK⟩:=Cj H;refine QQ Tryz.func68 rfl (by kernel_rfl) ?_;refine J8 H ?_;clear H;intro b3 w H;refine VS H ?_;clear H;intro b4 w H;refine Au H ?_;replace H:=Js [2,2,0,0,0] 0 H;refine Jc rfl rfl (O4 p b c u _ rfl ts s QX.bits.le i g H) ?_;clear H;rintro v w ⟨rfl,H⟩;cases hL:Qk ts i g with
 | some q=>
  obtain⟨k,e⟩:=q;obtain⟨n,rfl,rfl,hk⟩:=Yz.1 hL;have Qu:QY (ts.flatMap Y6++s) (k*6+2) 4 (YX e):=Bs (vs:=YX e) ZH hk (by repeat first|exact .nil _|apply QY.cons rfl);refine UA H ?_;refine N9 H ?_;refine Q5 rfl (Vz H rfl Qu rfl ?_);refine J5 H ?_;clear H;intro w H;refine J0 H ?_;replace H:=Js [2,0,0,1] 1 H;exact Q3 (Jz H (fun w' H' => .cellN H' rfl (by repeat first|exact .nil _|apply QY.cons rfl) (.tmp .nil)) fun w' H'=>⟨rfl,QK _ _ ts x rfl rfl QX H'.drop⟩)
 | none=>
  refine IS H ?_;refine IT H ?_;clear H;intro w H;refine J0 H ?_;replace H:=Js [2,0,0,1] 1 H;exact Q3 (Jz H (fun w' H' => .cellN H' rfl (by repeat first|exact .nil _|apply QY.cons rfl) (.tmp .nil)) fun w' H'=>⟨rfl,QK _ _ ts x rfl rfl QX H'.drop⟩)
theorem Fy [Q4] (p:Nat) (ts:List QW) (q:TQ) (i g:Int) {w:World} {fr:List Q2} (H:Q0 w (Gx p ts q::fr)) :
  Calls Tryz.prog 68 #[pp p,GB i g] w (ret fun v w'=>v=O8 (Qk ts i g)∧Q0 w' (Gx p ts q::fr)):=
 call (th p ts q i g H) fun v w h=>⟨by rw[h.1];cases Qk ts i g <;> rfl,h.2⟩
theorem tj [Q4] (p:Nat) (ts:List QW) (q:TQ) (k n:Nat) (e:Q8) (hk:ts[k]? = some ⟨n,some e⟩) {w:World} {fr:List Q2} (H:Q0 w (Gx p ts q::fr)) :
  Calls Tryz.prog 110 #[pp p,.int .i64 k] w (ret fun v w'=>v = .tuple #[Xv k n,.bool true]∧Q0 w' (Gx p ts q::fr)):=by
 obtain⟨b,c,s,u,x⟩:=q;obtain⟨QX,hc,H,QK⟩:=Cj H;have hb:=QX.bits.le;have VB:k < ts.length:=(List.getElem?_eq_some_iff.1 hk).1;have c1:(ts.flatMap Y6++s)[k*6+1]? = some (.bool true):=Kl ZH hk rfl;have c0:(ts.flatMap Y6++s)[k*6+0]? = some (.int .i64 n):=Kl ZH hk rfl;have ei:0+((k:Nat):Int).toNat*6=k*6:=by simp
 refine QQ Tryz.func110 rfl (by kernel_rfl) ?_;refine YM H ?_;clear H;intro b4 w H;refine J0 H ?_;refine Ep H ?_;refine Rb H ?_;rw[show decide ((k:Int) < 0)=false from decide_eq_false (by omega)];refine ZS H ?_;refine Mb H ?_;rw[show decide ((k:Int)≥(ts.length:Int))=false from decide_eq_false (by omega)];refine Wu H ?_;refine QS rfl rfl rfl (Ut rfl rfl (by omega) (by omega) rfl ?_);rw[ei];refine En H ?_;refine QS rfl rfl rfl (QA H rfl c1 rfl ?_);refine W2 H ?_;refine F7 H ?_;refine Jd ?_;rw[ei];refine DP H ?_;refine Q5 rfl (QA H rfl c0 rfl ?_);refine NQ H ?_;clear H;intro w H;refine J0 H ?_;exact Q3 (Jz H (fun w' H' => .cellN H' rfl (by repeat first|exact .nil _|apply QY.cons rfl) (.tmp .nil)) fun w' H'=>⟨rfl,QK _ _ ts x rfl rfl QX H'.drop⟩)
theorem tk [Q4] (p:Nat) (ts:List QW) (q:TQ) (i:Int) (VZ:¬ Used ts i) {w:World} {fr:List Q2} (H:Q0 w (Gx p ts q::fr)) :
  Calls Tryz.prog 110 #[pp p,.int .i64 i] w (ret fun v w'=>v = .tuple #[GB 0 0,.bool false]∧Q0 w' (Gx p ts q::fr)):=by
 obtain⟨b,c,s,u,x⟩:=q;obtain⟨QX,hc,H,QK⟩:=Cj H;have hb:=QX.bits.le;refine QQ Tryz.func110 rfl (by kernel_rfl) ?_;refine YM H ?_;clear H;intro b4 w H;refine J0 H ?_;refine Ep H ?_;refine Rb H ?_;by_cases h0:i < 0
 ·rw[show decide (i < 0)=true from decide_eq_true (by omega)];refine U3 H ?_;refine Ap H ?_;refine U3 H ?_;refine IV H ?_;refine Aq H ?_;clear H;intro w H;refine J0 H ?_;exact Q3 (Jz H (fun w' H' => .cellN H' rfl (by repeat first|exact .nil _|apply QY.cons rfl) (.tmp .nil)) fun w' H'=>⟨rfl,QK _ _ ts x rfl rfl QX H'.drop⟩)
 ·rw[show decide (i < 0)=false from decide_eq_false (by omega)];refine ZS H ?_;refine Mb H ?_;by_cases h1:i≥(ts.length:Int)
  ·rw[show decide (i≥(ts.length:Int))=true from decide_eq_true (by omega)];refine U3 H ?_;refine IV H ?_;refine Aq H ?_;clear H;intro w H;refine J0 H ?_;exact Q3 (Jz H (fun w' H' => .cellN H' rfl (by repeat first|exact .nil _|apply QY.cons rfl) (.tmp .nil)) fun w' H'=>⟨rfl,QK _ _ ts x rfl rfl QX H'.drop⟩)
  ·rw[show decide (i≥(ts.length:Int))=false from decide_eq_false (by omega)];obtain⟨k,rfl⟩:∃ k:Nat,i=k:=⟨i.toNat,by omega⟩;have hk:=getElem?_eq_getElem (l:=ts) (i:=k) (by omega);generalize ts[k]=t at hk;obtain⟨g,e⟩:=t
   obtain rfl:e=none:=by
    cases e with
    | none=>rfl
    | some e=>exact absurd ⟨k,g,e,rfl,hk⟩ VZ
   have c1:(ts.flatMap Y6++s)[k*6+1]? = some (.bool false):=Kl ZH hk rfl;have ei:0+((k:Nat):Int).toNat*6=k*6:=by simp
   refine Wu H ?_;refine QS rfl rfl rfl (Ut rfl rfl (by omega) (by omega) rfl ?_);rw[ei];refine En H ?_;refine QS rfl rfl rfl (QA H rfl c1 rfl ?_);refine Zm H ?_;refine Aq H ?_;clear H;intro w H;refine J0 H ?_;exact Q3 (Jz H (fun w' H' => .cellN H' rfl (by repeat first|exact .nil _|apply QY.cons rfl) (.tmp .nil)) fun w' H'=>⟨rfl,QK _ _ ts x rfl rfl QX H'.drop⟩)
def XY (ts:List QW) (i:Nat):Bool:=match ts[i]? with
 | some ⟨_,some _⟩=>true
 | _=>false
theorem Fz {ts:List QW} {i:Nat}:XY ts i=true↔∃ g e,ts[i]? = some ⟨g,some e⟩:=by
 unfold XY;split
 ·rename_i g e h;exact⟨fun _=>⟨g,e,h⟩,fun _=>rfl⟩
 ·rename_i h;exact⟨fun h=>(by cases h),fun ⟨g,e,h'⟩=>absurd h' (h g e)⟩
def Um (ts:List QW):List Nat:=(List.range ts.length).filter (XY ts)
theorem jA {ts:List QW} {x:Nat} (h:X8 ts x):(Xm ts.length x).filter (XY ts)=Um ts:=by
 unfold Xm Um;rw[filter_filter];refine filter_congr fun i hi=>?_;have hi:=mem_range.1 hi;have ht:=getElem?_eq_getElem hi;cases hu:XY ts i with
 | false=>rfl
 | true=>
  obtain⟨g,e,h1⟩:=Fz.1 hu;rw[h.bit i _ h1];rfl
theorem jH [Q4] (p:Nat) {w:World} {fr:List Q2} (H:Q0 w fr) :
  Calls Tryz.prog 44 #[pp p] w (ret fun v w'=>∃ b1,v = .func (.func 108) #[] #[pp b1]∧Q0 w' (pts b1 (row 37 [pp p])::fr)):=by
 refine QQ Tryz.func44 rfl (by kernel_rfl) ?_;refine GV H ?_;clear H;intro b1 w H;refine ZX H ?_;exact Q3 (Jy H rfl fun w' H'=>⟨_,rfl,H'⟩)
theorem jI [Q4] (yl b1 p:Nat) (ts:List QW) (q:TQ) (J:List Nat→Q2)
  {w:World} {fr:List Q2} [hT:Z6 0 Lib.deBruijn64tab fr]
  (hy:∀ (ks:List Nat) (k g:Nat) (e:Q8) (rest:List Q2) (w:World),ts[k]? = some ⟨g,some e⟩→(∃ t,Um ts=ks++k::t)→Q0 w (J ks::Gx p ts q::rest)→SL.Yields Tryz.prog yl #[Xv k g,.agg (YX e).toArray] w (fun v w'=>v = .bool true∧Q0 w' (J (ks++[k])::Gx p ts q::rest)))
  (H:Q0 w (J []::pts b1 (row 37 [pp p])::Gx p ts q::fr)) :
  Calls Tryz.prog 108 #[.func (.yield yl) #[] #[],pp b1] w (ret fun _ w'=>Q0 w' (J (Um ts)::pts b1 (row 37 [pp p])::Gx p ts q::fr)):=by
 obtain⟨b,c,s,u,x⟩:=q;refine QQ Tryz.func108 rfl (by kernel_rfl) ?_;refine GV H ?_;clear H;intro b2 w H;refine J2 H ?_;refine UB H ?_;refine NX H ?_;refine C5 H ?_;replace H:=Js [3,2,1,0] 0 H;obtain⟨QX,hc,H,QK⟩:=Cj H;refine XJ H ?_;refine Gm H ?_;refine Jc rfl rfl (tc u H) ?_;clear H;rintro v w ⟨bb,rfl,H⟩;refine Bw H ?_;refine Qe (W0 (a:=[]) (b:=[pp bb]) H rfl (fun yl2 D w H=>?_));generalize hL:LR _ yl2 _ _ _ _ D .ready=L at H ⊢;obtain⟨J2,L9⟩:∃ J2:List Nat→Q2,J2=fun ks=>star [L,J (ks.filter (XY ts)),pts b1 (row 37 [pp p]),pts p (row 144 [.slice (some ⟨b,0,none⟩) ts.length c,pp u,.int .i64 (ZV ts)]),pts b (row 199 (ts.flatMap Y6++s)),pts b2 (row 195 [.func (.yield yl) #[] #[]])]:=⟨_,rfl⟩
 have V9:∀ (ks:List Nat) (w:World) (l':List Q2),Q0 w (L::J (ks.filter (XY ts))::pts b1 (row 37 [pp p])::pts p (row 144 [.slice (some ⟨b,0,none⟩) ts.length c,pp u,.int .i64 (ZV ts)])::pts b (row 199 (ts.flatMap Y6++s))::pts b2 (row 195 [.func (.yield yl) #[] #[]])::l')→Q0 w (J2 ks::l'):=by
  intro ks w l' H;rw[L9];exact Q0.star.2 H
 have YW:∀ (ks:List Nat) (w:World) (l':List Q2),Q0 w (J2 ks::l')→Q0 w (L::J (ks.filter (XY ts))::pts b1 (row 37 [pp p])::pts p (row 144 [.slice (some ⟨b,0,none⟩) ts.length c,pp u,.int .i64 (ZV ts)])::pts b (row 199 (ts.flatMap Y6++s))::pts b2 (row 195 [.func (.yield yl) #[] #[]])::l'):=by
  intro ks w l' H;rw[L9] at H;exact Q0.star.1 H
 replace H:=Js [0,6,5,2,2,3,1,1,0] 0 H;replace H:=V9 [] _ _ H;refine call (tf yl2 bb u ts.length x _ QX.bits J2 ?_ H) ?_
 ·clear H;intro ks i rest w hi Ud Yc H;replace H:=YW _ _ _ H;obtain⟨t,Yc⟩:=Yc;have hu:=jA QX;rw[Yc,filter_append,filter_cons] at hu;have GM:=fun (w:World) (rest:List Q2) (g:Nat) (e:Q8)=>hy (ks.filter (XY ts)) i g e rest w;subst hL;refine Kj (args:=[.int .i64 i]) H rfl rfl ?_;refine Vl H ?_;refine⟨rfl,_,H,fun w H=>Qe ?_⟩;replace H:=Js [3,3,4,2,0,0,0] 0 H;replace H:=QK _ _ ts x rfl rfl QX H;have Dz:=getElem?_eq_getElem hi;generalize ts[i]=ti at Dz;obtain⟨g,en⟩:=ti;refine XJ H ?_;cases en with
  | some e=>
   have OB:XY ts i=true:=Fz.2 ⟨g,e,Dz⟩;rw[if_pos OB] at hu;have Qu:QY (ts.flatMap Y6++s) (i*6+2) 4 (YX e):=Bs (vs:=YX e) ZH Dz (by repeat first|exact .nil _|apply QY.cons rfl);have ei:0+((i:Nat):Int).toNat*6=i*6:=by simp
   refine Jc rfl rfl (tj p ts ⟨b,c,s,u,x⟩ i g e Dz H) ?_;clear H;rintro v w ⟨rfl,H⟩;refine YA H ?_;clear H;intro b4 w H;refine J5 H ?_;clear H;intro w H;refine J0 H ?_;replace H:=Js [1,0,0,0,0,0] 0 H;obtain⟨_,_,H,_⟩:=Cj H;refine J1 H ?_;clear H;intro w H;refine DU H ?_;refine Jl 2 [12] H ?_;refine Vw 3 [12] H rfl (Q9.of rfl rfl rfl) rfl (by repeat first|exact .nil _|apply QY.cons rfl) (by kernel_rfl) ?_;refine Jl 4 [12] H ?_;refine Ja 5 ?_;refine Jf 6 ?_;refine Jl 7 [12] H ?_;refine Ja 8 ?_;refine Ji 9 ?_;rw[ei];refine Jf 10 ?_;refine Vw 11 [12] H rfl (Q9.of rfl rfl rfl) rfl Qu (by kernel_rfl) ?_;have Hc:=QK _ _ ts x rfl rfl QX H;replace Hc:=Js [4,0,0,0,0,0] 0 Hc;refine Jo 12 H ?_;refine Bk rfl rfl (SL.Yields.mono (GM _ _ g e Dz ⟨_,hu.symm⟩ Hc) ?_);clear Hc;clear H;rintro v w ⟨rfl,H⟩;have he:(ks++[i]).filter (XY ts)=ks.filter (XY ts)++[i]:=by rw[filter_append,filter_cons,if_pos OB];rfl
   rw[← he] at H;refine B0 H ?_;refine Vf H ?_;replace H:=Js [1,0,0,0,0,0] 0 H;obtain⟨_,_,H,_⟩:=Cj H;replace H:=Js [6,3,4,0,0,2,0] 1 H;exact⟨rfl,_,H,fun w H=>⟨rfl,V9 _ _ _ H⟩⟩
  | none=>
   have OB:XY ts i=false:=by
    cases hu:XY ts i with
    | false=>rfl
    | true=>
     obtain⟨g',e',h1⟩:=Fz.1 hu;rw[Dz] at h1;cases h1
   refine Q5 rfl (V1 (a:=[]) (b:=[]) rfl rfl (call (tk p ts ⟨b,c,s,u,x⟩ i (by
       rintro⟨k2,n2,e2,h1,h2⟩;obtain rfl:i=k2:=by omega
       rw[Dz] at h2;cases h2) H) ?_))
   clear H;rintro v w ⟨rfl,H⟩;refine YA H ?_;clear H;intro b4 w H;refine J5 H ?_;clear H;intro w H;refine Yy H ?_;refine Ae H mixed ?_;clear H;intro w H;refine DU H ?_;refine Jn 2 ?_;refine Jn 3 ?_;refine N6 H ?_;refine Jn 12 ?_;have he:(ks++[i]).filter (XY ts)=ks.filter (XY ts):=by rw[filter_append,filter_cons,if_neg (by rw[OB];decide)];exact append_nil _
   rw[← he] at H;refine Jn 13 ?_;refine Ja 14 ?_;refine Jx H ?_;refine Vf H ?_;replace H:=Js [1,0,0,0,0,0] 0 H;obtain⟨_,_,H,_⟩:=Cj H;replace H:=Js [5,5,4,0,0,2,0] 1 H;exact⟨rfl,_,H,fun w H=>⟨rfl,V9 _ _ _ H⟩⟩
 ·clear H;rintro v w H;replace H:=YW _ _ _ H;rw[jA QX] at H;subst hL;refine⟨_,H,fun w H=>?_⟩;replace H:=Js [2,2,4,4,0,0,0,0] 0 H;replace H:=QK _ _ ts x rfl rfl QX H;replace H:=Js [1,1,1,0] 2 H;exact Bj (ms:=[D]) _ (.inl rfl) ((Q0.star (k:=[pts D (.deferred (some []))])).2 H) rfl fun w' H'=>H'
theorem jJ [Q4] (p:Nat) (q:Xf) (ts:List QW) (k n:Nat) (e:Q8) (hk:ts[k]? = some ⟨n,some e⟩) {w:World} {fr:List Q2} (H:Q0 w (Qr q.tp ts::VY p q::fr)) :
  Calls Tryz.prog 127 #[pp p,.int .i64 k] w (ret fun v w'=>v = .tuple #[.agg (YX e).toArray,.bool true]∧Q0 w' (Qr q.tp ts::VY p q::fr)):=by
 have hL:Qk ts k n=some (k,e):=Yz.2 ⟨n,rfl,rfl,hk⟩;refine QQ Tryz.func127 rfl (by kernel_rfl) ?_;refine YM H ?_;clear H;intro b4 w H;refine F4 H ?_;replace H:=Js [1,0] 0 H;refine VM H ?_;refine Jc rfl rfl (O6 q.tp ts k n e hk H) ?_;clear H;rintro v w ⟨rfl,H⟩;refine YA H ?_;clear H;intro b6 w H;refine J5 H ?_;clear H;intro w H;refine Yy H ?_
 refine Qt (fun ms σ w=>ms=[]∧∃ b8,σ 4=pp b4∧σ 7 = .bool true∧σ 8=pp b8 ∧
   Q0 w (pts b4 (row 113 [.int .i64 0,.int .i64 0,.bool false,.bool false])::pts b8 (row 113 (YX e))::Qr q.tp ts::VY p q::fr)) ?_ ?_
 ·replace H:=Js [1,0] 0 H;refine J1 H ?_;clear H;intro w H;refine C6 H ?_;refine Jw 5 9 H rfl rfl (V1 (a:=[]) (b:=[]) rfl rfl (call (U9 q.tp ts k n H) ?_)) (YH H rfl ?_)
  ·clear H;rintro v w ⟨rfl,H⟩;rw[hL];refine C7 H ?_;clear H;intro b8 w H;refine C8 H ?_;clear H;intro w H;refine XI H ?_;replace H:=Js [3,0,0,1] 1 H;exact⟨rfl,rfl,b8,rfl,rfl,rfl,H⟩
  ·clear H;intro b8 w H;refine Jo 5 H ?_;refine Jk rfl rfl (U9 q.tp ts k n H.swap) ?_;clear H;rintro v w ⟨rfl,H⟩;rw[hL];refine C9 H ?_;clear H;intro w H;refine XI H ?_;replace H:=Js [3,1,0,1] 1 H;exact⟨rfl,rfl,b8,rfl,rfl,rfl,H⟩
 ·clear H;rintro ms σ w ⟨rfl,b8,g4,g7,g8,H⟩;rw[Q1 g4,Q1 g7,Q1 g8];refine Aw H ?_;clear H;intro w H;refine J0 H ?_;exact Q3 (Jz H (fun w' H' => .cellN H' rfl (by repeat first|exact .nil _|apply QY.cons rfl) (.tmp .nil)) fun w' H'=>⟨rfl,H'.drop.drop⟩)
theorem Tu [Q4] (p:Nat) (q:Xf) (ts:List QW) (k n:Nat) (e:Q8) (hk:ts[k]? = some ⟨n,some e⟩) {w:World} {fr:List Q2} (H:Q0 w (Qr q.tp ts::VY p q::fr)) :
  Calls Tryz.prog 60 #[pp p,.int .i64 k] w (ret fun v w'=>v = .tuple #[Xv k n,.agg (YX e).toArray]∧Q0 w' (Qr q.tp ts::VY p q::fr)):=by
 have hL:Qk ts k n=some (k,e):=Yz.2 ⟨n,rfl,rfl,hk⟩;refine QQ Tryz.func60 rfl (by kernel_rfl) ?_;refine YM H ?_;clear H;intro b4 w H;refine VS H ?_;clear H;intro b5 w H;refine J2 H ?_;replace H:=Js [2,0,0] 0 H;refine VM H ?_;refine Jc rfl rfl (O6 q.tp ts k n e hk H) ?_;clear H;rintro v w ⟨rfl,H⟩;refine YA H ?_;clear H;intro b6 w H;refine J5 H ?_;clear H;intro w H;refine Yy H ?_
 refine Qt (fun ms σ w=>ms=[]∧∃ b8,σ 4=pp b4∧σ 5=pp b5∧σ 6=pp b6∧σ 8=pp b8 ∧
   Q0 w (pts b4 (row 69 [.int .i64 0,.int .i64 0])::pts b5 (row 113 [.int .i64 0,.int .i64 0,.bool false,.bool false])::pts b8 (row 113 (YX e))::pts b6 (row 69 [.int .i64 k,.int .i64 n])::Qr q.tp ts::VY p q::fr)) ?_ ?_
 ·replace H:=Js [1,0] 0 H;refine J1 H ?_;clear H;intro w H;refine C6 H ?_;refine Jw 5 9 H rfl rfl (V1 (a:=[]) (b:=[]) rfl rfl (call (U9 q.tp ts k n H) ?_)) (YH H rfl ?_)
  ·clear H;rintro v w ⟨rfl,H⟩;rw[hL];refine C7 H ?_;clear H;intro b8 w H;refine C8 H ?_;clear H;intro w H;refine XI H ?_;replace H:=Js [4,3,0,1,0,0] 0 H;exact⟨rfl,rfl,b8,rfl,rfl,rfl,rfl,H⟩
  ·clear H;intro b8 w H;refine Jo 5 H ?_;refine Jk rfl rfl (U9 q.tp ts k n H.swap) ?_;clear H;rintro v w ⟨rfl,H⟩;rw[hL];refine C9 H ?_;clear H;intro w H;refine XI H ?_;replace H:=Js [4,3,1,1,0,0] 0 H;exact⟨rfl,rfl,b8,rfl,rfl,rfl,rfl,H⟩
 ·clear H;rintro ms σ w ⟨rfl,b8,g4,g5,g6,g8,H⟩;rw[Q1 g4,Q1 g5,Q1 g6,Q1 g8];refine J1 H ?_;clear H;intro w H;refine Vw 0 [2,3] H rfl (Q9.none rfl) rfl (by repeat first|exact .nil _|apply QY.cons rfl) (by kernel_rfl) ?_;refine Vw 1 [3] H rfl (Q9.none rfl) rfl (by repeat first|exact .nil _|apply QY.cons rfl) (by kernel_rfl) ?_;refine Jo 2 H ?_;refine KD H ?_;clear H;intro w H;refine Jo 3 H ?_;refine KD H ?_;clear H;intro w H;refine Jx H ?_;exact Q3 (Jz H (fun w' H' => .cellN H' rfl (by repeat first|exact .nil _|apply QY.cons rfl) (.cellN H' rfl (by repeat first|exact .nil _|apply QY.cons rfl) .nil)) fun w' H'=>⟨rfl,H'.drop.drop.drop.drop⟩)
theorem tm [Q4] {w:World} {b m E:Nat} {l l':List Int} {s:List Value} {fr:List Q2} (H:Q0 w (pts b (row E (Qn l++s))::fr)) (hl:l'.length=l.length) :
  Q0 (Go.Sort.putRow (Value.int .i64) (Go.Sort.ahead w m) b 0 l'.toArray) (pts b (row E (Qn l'++s))::fr):=by
 have hb:=H.pts;have e1:(Go.Sort.putRow (Value.int .i64) (Go.Sort.ahead w m) b 0 l'.toArray).heap=w.heap.modify b (Go.Sort.onCells (Go.Sort.putCells (Value.int .i64) 0 l'.toArray)):=rfl;refine H.set ?_ ?_
 ·rw[e1,Array.getElem?_modify,if_pos rfl,hb];simp only[Option.map_some,row,Go.Sort.onCells];congr 2;apply Array.ext';apply ext_getElem?;intro t;simp only[Go.Sort.putCells,Array.getElem?_toList,Array.getElem?_mapIdx,getElem?_toArray,Nat.zero_le,true_and,Nat.zero_add,Nat.sub_zero,size_toArray];have l1:(Qn l).length=l.length:=by simp[Qn]
  have l2:(Qn l').length=l.length:=by simp[Qn,hl]
  by_cases ht:t < l.length
  ·rw[getElem?_append_left (by omega),getElem?_append_left (by omega)];have WB:t < l'.length:=by omega
   simp only[Qn,getElem?_map,getElem?_eq_getElem ht,getElem?_eq_getElem WB,Option.map_some,if_pos WB];rw[getElem!_pos _ t (by simpa using WB)];simp
  ·rw[getElem?_append_right (by omega),getElem?_append_right (by omega),l1,l2];have WB:¬ t < l'.length:=by omega
   cases s[t - l.length]? with
   | none=>rfl
   | some y=>simp;intro h;omega
 ·intro c hc;rw[e1,Array.getElem?_modify,if_neg (Ne.symm hc)]
theorem tn [Q4] (v:Value) (l:List Nat) (i:Nat) (hi:i < l.length) (hl:l.length≤1000000) {w:World} {fr:List Q2} (H:Q0 w (NL v l::fr)) :
  Calls Tryz.prog 210 #[v,.int .i64 i,.int .i64 ((i+1:Nat):Int)] w (ret fun v' w'=>Q0 w' (NL v' (l.eraseIdx i)::fr)):=by
 rcases XB H with ⟨rfl,h0,_⟩|⟨b,n,cap,s,rfl,e3,e4,e5,H2⟩
 ·have:(QH l).length=0:=by rw[h0];rfl
  rw[QJ] at this;omega
 ·rw[QJ] at e3;obtain rfl:n=l.length:=by omega
  have hb:=H2.pts;have D7:(l.map fun x:Nat=>(x:Int)).length=l.length:=length_map _;rw[JY] at H2;have AX:(Qn (l.map fun x:Nat=>(x:Int))).length=l.length:=by simp[Qn]
  have tr:=e4.2
  have hd:=Any.slices_Delete_int Tryz.laysDel b 0 cap i (i+1) (l.map fun x:Nat=>(x:Int)) w (fun j hj=>by
   have Zz:j < l.length:=by simpa using hj
   refine⟨?_,Cx hb⟩;refine Ua H2.pts ?_;rw[Nat.zero_add,getElem?_append_left (by omega)];simp[Qn,Zz]) (by omega) tr (by omega) (by omega)
  rw[D7] at hd;refine hd.mono ?_;rintro e w' ⟨rfl,q,rfl⟩;have h3:=tm (m:=q) (l':=(l.map fun x:Nat=>(x:Int)).take i++(l.map fun x:Nat=>(x:Int)).drop (i+1)++List.replicate (i+1 - i) 0) H2 (by simp;omega);rw[show i+1 - i=1 by omega] at h3 ⊢
  have e6:Qn ((l.map fun x:Nat=>(x:Int)).take i++(l.map fun x:Nat=>(x:Int)).drop (i+1)++List.replicate 1 0)++s=QH (l.eraseIdx i)++(.int .i64 0::s):=by
   rw[JY,eraseIdx_eq_take_drop_succ];simp[Qn]
  rw[e6] at h3;exact GI (by rw[QJ,length_eraseIdx,if_pos hi] <;> omega) (by omega) (by first|(simp;omega)|simp) h3
theorem tu {l:List Nat} (hs:l.Pairwise (· < ·)) {x:Nat} (hx:x∈l):GS l x < l.length∧l.eraseIdx (GS l x)=l.filter (·≠x):=by
 induction l with
 | nil=>cases hx
 | cons a l ih=>
  rw[pairwise_cons] at hs;unfold GS
  rcases mem_cons.1 hx with rfl|VA
  ·have h0:(x::l).countP (· < x)=0:=by
    rw[countP_eq_zero];intro y hy
    rcases mem_cons.1 hy with rfl|hy
    ·simp
    ·have:=hs.1 y hy;simp;omega
   rw[h0];refine⟨by simp,?_⟩;rw[eraseIdx_cons_zero,filter_cons_of_neg (by simp)];exact(filter_eq_self.2 fun y hy=>by have:=hs.1 y hy;simp;omega).symm
  ·have tv:=hs.1 x VA;have h1:(a::l).countP (· < x)=GS l x+1:=by rw[countP_cons_of_pos (by simpa using tv)];rfl
   obtain⟨i1,i2⟩:=ih hs.2 VA;rw[h1];refine⟨by simp;omega,?_⟩;rw[eraseIdx_cons_succ,i2,filter_cons_of_pos (by simp;omega)]
theorem jL [Q4] (p:Nat) (l:List Nat) (x:Nat) (hs:l.Pairwise (· < ·)) (hl:l.length≤100000) {w:World} {fr:List Q2} (H:Q0 w (VQ p l::fr)) :
  Calls Tryz.prog 129 #[pp p,.int .i64 x] w (ret fun v w'=>v = .bool (decide (x∈l))∧Q0 w' (VQ p (l.filter (·≠x))::fr)):=by
 obtain⟨a,c,H⟩:=CL H;refine QQ Tryz.func129 rfl (by kernel_rfl) ?_;refine DO H ?_;obtain⟨D1,H,Y2,Vo⟩:=sls_rd H.swap (QJ _) (by decide);refine Jc rfl rfl (Fa _ l (by omega) hs x (Y2 _) H) ?_;clear H;rintro v w ⟨rfl,H⟩;replace H:=Vo _ _ H;refine U2 H ?_;refine J7 H ?_;refine Qt (fun ms σ w=>ms=[]∧σ 6 = .bool (decide (x∈l))∧Q0 w (VQ p (l.filter (·≠x))::fr)) ?_ ?_
 ·by_cases hx:x∈l
  ·obtain⟨h1,h2⟩:=tu hs hx;rw[decide_eq_true hx];refine YY rfl ?_;refine Es H ?_;refine Ev H ?_;rw[Qh (by omega)];refine Jc rfl rfl (tn _ l (GS l x) h1 (by omega) H) ?_;clear H;intro v w H;obtain⟨a28,m28,c28,rfl⟩:=V8 H;rw[h2] at H;refine XH H ?_;clear H;intro w H;refine J2 H ?_;exact⟨rfl,rfl,rfl,A8 H.swap⟩
  ·rw[decide_eq_false hx];refine Vu rfl (QF ?_);rw[show l.filter (·≠x)=l from filter_eq_self.2 fun y hy=>by simp;rintro rfl;exact hx hy];exact⟨rfl,rfl,rfl,A8 H.swap⟩
 ·clear H;rintro ms σ w ⟨rfl,g6,H⟩;rw[Q1 g6];refine J3 H ?_;exact Q3 (Jy H rfl fun w' H'=>⟨rfl,H'⟩)
theorem X8.drop {ts:List QW} {x k n:Nat} {e:Q8} (h:X8 ts x) (hk:ts[k]? = some ⟨n,some e⟩) (hn:n < 255):X8 (ts.set k ⟨n,none⟩) (G3 x k false):=by
 have VB:=(List.getElem?_eq_some_iff.1 hk).1;refine⟨by rw[length_set];exact h.bits.set VB,fun i u hu=>?_,fun i u hu=>?_⟩
 ·rw[Da]
  rcases VE hu with ⟨rfl,rfl,_⟩|⟨QB,hu⟩
  ·rw[if_pos rfl];show false=((none:Option Q8).isSome || n == 255);have:(n == 255)=false:=by rw[beq_eq_false_iff_ne];omega
   rw[this];rfl
  ·rw[if_neg QB];exact h.bit _ _ hu
 ·rcases VE hu with ⟨rfl,rfl,_⟩|⟨_,hu⟩
  ·show n≤255;omega
  ·exact h.gen _ _ hu
theorem tz [Q4] (p:Nat) (ts:List QW) (k n:Nat) (e:Q8) (hk:ts[k]? = some ⟨n,some e⟩) (hn:n < 255) {w:World} {fr:List Q2} (H:Q0 w (Qr p ts::fr)) :
  Calls Tryz.prog 130 #[pp p,Xv k n] w (ret fun v w'=>v = .int .i64 0∧Q0 w' (Qr p (ts.set k ⟨n,none⟩)::fr)):=by
 obtain⟨b,c,s,u,x,QX,hc,H,QK⟩:=BB H;have hL:Qk ts k n=some (k,e):=Yz.2 ⟨n,rfl,rfl,hk⟩;have Qw:=Xs ZH ts;have VB:k < ts.length:=(List.getElem?_eq_some_iff.1 hk).1;refine QQ Tryz.func130 rfl (by kernel_rfl) ?_;refine J8 H ?_;clear H;intro b3 w H;refine Au H ?_;replace H:=Js [1,1,0,0] 0 H;refine Jc rfl rfl (O4 p b c u _ rfl ts s QX.bits.le k n H) ?_;clear H;rintro v w ⟨rfl,H⟩;rw[hL];refine UA H ?_;refine J9 H ?_;refine W3 H ?_;refine Jv ?_;refine DP H ?_;replace H:=Js [1,0,0,0] 0 H;refine Q5 rfl (Zv H rfl rfl inferInstance rfl (by rw[length_append,Qw];omega) rfl ?_);clear H;intro w H;refine Jv ?_;refine DP H ?_;refine Q5 rfl (U0 (vs:=[.int .i64 0,.int .i64 0,.bool false,.bool false]) H rfl rfl inferInstance rfl rfl (by rw[length_set,length_append,Qw];omega) rfl ?_);clear H;intro w H;replace H:Q0 w (pts b (row 199 (wr (ts.flatMap Y6++s) (k*6+1) [.bool false,.int .i64 0,.int .i64 0,.bool false,.bool false]))::_):=H;rw[MA (x':=⟨n,none⟩) ZH hk (by simp) rfl] at H;refine J2 H ?_;have c0:((ts.set k ⟨n,none⟩).flatMap Y6++s)[k*6+0]? = some (.int .i64 n):=Kl ZH (getElem?_set_self VB) rfl;refine N9 H ?_;refine Q5 rfl (QA H rfl c0 rfl ?_);refine J0 H ?_;rw[show ((n:Int) == 255)=false by rw[beq_eq_false_iff_ne];omega];refine IW H ?_;clear H;intro w H;refine S7 H ?_;replace H:=Js [3,0,0,0] 0 H;refine Jo 6 H ?_;refine Jk rfl rfl (SC u ts.length x k false QX.bits VB H) ?_;clear H;rintro v w ⟨rfl,H⟩;refine I7 H ?_;replace H:=Js [2,1,0] 1 H;refine Q3 (Jy H rfl fun w' H'=>⟨rfl,QK _ _ (ts.set k ⟨n,none⟩) _ (by simp) (O5 hk ?_) (QX.drop hk hn) H'⟩);show ((none:Option Q8).isNone && n == 255)=((some e).isNone && n == 255);have:(n == 255)=false:=by rw[beq_eq_false_iff_ne];omega
 rw[this];rfl
structure WP (s:CS):Prop where
 nd:(s.rem.map (·.1)).Nodup
 key:∀ r t,QV s.rem r=some t→∃ (k p g:Nat) (e:Q8),r=((k:Int),(p:Int))∧s.tab[k]? = some ⟨g,some e⟩∧p < e.ws.length
theorem Inv.rk {s:CS} (h:Inv s):WP s:=⟨h.nd,fun r t hr=>by
 obtain⟨k,p,g,e,a,b,f,h1,h2,h3,_⟩:=(h.rem r t).1 hr;exact⟨k,p,g,e,h1,h2,h3⟩⟩
def Tv (ts:List QW) (r:Int×Int):Nat:=match ts[r.1.toNat]? with
 | some ⟨_,some e⟩=>e.addr+1+r.2.toNat
 | _=>0
theorem Tw {ts:List QW} {k p g:Nat} {e:Q8} (h:ts[k]? = some ⟨g,some e⟩):Tv ts ((k:Int),(p:Int))=e.addr+1+p:=by
 unfold Tv;show (match ts[((k:Int)).toNat]? with|some ⟨_,some e⟩=>e.addr+1+((p:Int)).toNat|_=>0)=_;rw[Int.toNat_natCast,h,Int.toNat_natCast]
theorem OD {s:CS} (hw:WF s) (h:WP s):s.rem.length≤1000000:=by
 have key:∀ r∈s.rem.map (·.1),∃ (k p g:Nat) (e:Q8),r=((k:Int),(p:Int))∧s.tab[k]? = some ⟨g,some e⟩∧p < e.ws.length:=by
  intro r hr;obtain⟨⟨r',t⟩,h1,rfl⟩:=mem_map.1 hr;exact h.key r' t ((YI h.nd).2 h1)
 have h1:((s.rem.map (·.1)).map (Tv s.tab)).Nodup:=by
  refine pairwise_map.2 (List.Pairwise.imp_of_mem ?_ h.nd);intro r r' hr Ym QB RI;obtain⟨k,p,g,e,rfl,h2,h3⟩:=key r hr;obtain⟨k',p',g',e',rfl,Yj,Sy⟩:=key r' Ym;rw[Tw h2,Tw Yj] at RI;by_cases hk:k=k'
  ·subst hk;rw[h2] at Yj;injection Yj with Yj
   injection Yj with _ Yj
   injection Yj with Yj
   subst Yj;obtain rfl:p=p':=by omega
   exact QB rfl
  ·have:=hw.apart k k' g g' e e' hk h2 Yj;unfold Qa at this;omega
 have h2:=U5 h1 (l₂:=List.range 64512) (by
  intro z hz;obtain⟨r,hr,rfl⟩:=mem_map.1 hz;obtain⟨k,p,g,e,rfl,h2,h3⟩:=key r hr;rw[Tw h2,mem_range];have h4:=(hw.obj k g e h2).2.1.1;have h5:s.own.length*s.size≤63*1024:=Nat.mul_le_mul hw.own.2 hw.size.2;unfold Qa at h4;omega)
 rw[length_map,length_map,length_range] at h2;omega
theorem jM:∀ (ks:List (Int×Int)) {m:List ((Int×Int)×Int)},(m.map (·.1)).Nodup→∀ r,QV (ks.foldl QN m) r=if r∈ks then none else QV m r
 | [],m,h,r=>by rw[if_neg (by simp)];rfl
 | k::ks,m,h,r=>by
  rw[foldl_cons,jM ks (Rw h),Wi h];by_cases h1:r∈ks
  ·rw[if_pos h1,if_pos (mem_cons_of_mem _ h1)]
  ·rw[if_neg h1];by_cases h2:k=r
   ·rw[if_pos h2,if_pos (by rw[h2];exact mem_cons_self)]
   ·rw[if_neg h2,if_neg (by rw[mem_cons];exact fun h3=>h3.elim (fun h=>h2 h.symm) h1)]
structure OE (s:CS) (k n:Nat) (s':CS):Prop where
 size:s'.size=s.size
 own:s'.own=s.own
 lays:s'.lays=s.lays
 last:s'.last=s.last
 par:s'.par=s.par
 sps:s'.sps=s.sps
 tab:s'.tab=s.tab.set k ⟨n,none⟩
 nd:(s'.rem.map (·.1)).Nodup
 rem:∀ r,QV s'.rem r=if r.1=(k:Int) then none else QV s.rem r
theorem OE.rk {s s':CS} {k n:Nat} (h:OE s k n s') (hR:WP s):WP s':=by
 refine⟨h.nd,fun r t hr=>?_⟩;rw[h.rem] at hr;split at hr
 ·cases hr
 ·rename_i QB;obtain⟨j,p,g,e,rfl,h1,h2⟩:=hR.key r t hr;exact⟨j,p,g,e,rfl,by rw[h.tab,getElem?_set_ne (by rintro rfl;exact QB rfl)];exact h1,h2⟩
theorem Ck {ts:List QW} {k n j g:Nat} {f:Q8} (h:(ts.set k ⟨n,none⟩)[j]? = some ⟨g,some f⟩):j≠k∧ts[j]? = some ⟨g,some f⟩:=by
 rcases VE h with ⟨_,h2,_⟩|h2
 ·injection h2 with _ h2
  cases h2
 ·exact h2
theorem u0 {s:CS} (h:WF s) (QP:(s.par.map (·.1)).Nodup) {k n:Nat} {e:Q8} (hk:s.tab[k]? = some ⟨n,some e⟩) {q:Nat} {L:List Nat} {m1 m2:List (Int×Nat×List Nat)} (hm:s.mns=m1++(e.region,q,L)::m2) (R:List ((Int×Int)×Int)) :
  WF { s with tab:=s.tab.set k ⟨n,none⟩,rem:=R,mns:=m1++(e.region,q,L.filter (·≠k))::m2 }:=by
 have Iz:((m1++(e.region,q,L)::m2).map (·.1)).Nodup:=by rw[← hm,h.mkeys];exact QP
 have Sp:(m1++(e.region,q,L.filter (·≠k))::m2).map (·.1)=s.par.map (·.1):=by rw[← h.mkeys,hm];exact Ix rfl
 refine⟨h.size,h.own,by show 1≤(s.tab.set _ _).length∧(s.tab.set _ _).length≤63;rw[length_set];exact h.slots,h.lays,?_,fun i g f hi=>h.obj i g f (Ck hi).2,fun i j g g' f f' QB hi hj=>h.apart i j g g' f f' QB (Ck hi).2 (Ck hj).2,h.par,h.skeys,Sp,h.spc,fun x hx i g f hi=>h.free x hx i g f (Ck hi).2,h.live,?_⟩
 ·intro i t hi
  rcases VE hi with ⟨rfl,rfl,_⟩|⟨_,hi⟩
  ·exact⟨(h.gen _ _ hk).1,fun h=>by cases h⟩
  ·exact h.gen _ _ hi
 ·intro x hx
  have VA:x=(e.region,q,L.filter (·≠k))∨(x∈s.mns∧x.1≠e.region):=by
   rcases Uz hx with h1|h1
   ·exact .inl h1
   ·refine .inr ⟨by rw[hm];exact Rj h1,fun UH=>?_⟩;rw[map_append,map_cons,nodup_append] at Iz;obtain⟨_,h2,h3⟩:=Iz
    rcases mem_append.1 h1 with hx|hx
    ·exact h3 x.1 (mem_map.2 ⟨x,hx,rfl⟩) e.region (by simp) UH
    ·rw[nodup_cons] at h2;exact h2.1 (mem_map.2 ⟨x,hx,UH⟩)
  rcases VA with rfl|⟨hx,QB⟩
  ·obtain⟨h1,h2⟩:=h.mine (e.region,q,L) (by rw[hm];simp);refine⟨h1.filter _,fun j=>?_⟩;show j∈L.filter (·≠k)↔_;rw[mem_filter,h2];constructor
   ·rintro⟨⟨g,f,h3,h4⟩,h5⟩;have h5:j≠k:=by simpa using h5
    exact⟨g,f,by show (s.tab.set _ _)[_]? = _;rw[getElem?_set_ne (Ne.symm h5)];exact h3,h4⟩
   ·rintro⟨g,f,h3,h4⟩;obtain⟨h5,h6⟩:=Ck h3;exact⟨⟨g,f,h6,h4⟩,by simpa using h5⟩
  ·obtain⟨h1,h2⟩:=h.mine x hx;refine⟨h1,fun j=>?_⟩;rw[h2];constructor
   ·rintro⟨g,f,h3,h4⟩;refine⟨g,f,?_,h4⟩;show (s.tab.set _ _)[_]? = _;rw[getElem?_set_ne]
    ·exact h3
    ·rintro rfl;rw[hk] at h3;injection h3 with h3
     injection h3 with _ h3
     injection h3 with h3
     subst h3;exact QB h4.symm
   ·rintro⟨g,f,h3,h4⟩;exact⟨g,f,(Ck h3).2,h4⟩
theorem u5 {s s':CS} {mem:List Nat} (m:Y8 s mem) {k n:Nat} (h1:s'.own=s.own) (h2:s'.size=s.size) (h3:s'.tab=s.tab.set k ⟨n,none⟩):Y8 s' mem:=
 ⟨by rw[h1,h2];exact m.len,fun i g e hi=>m.head i g e (by rw[h3] at hi;exact(Ck hi).2),fun i g e hi=>m.words i g e (by rw[h3] at hi;exact(Ck hi).2)⟩
def Xn (p:Nat) (q:Xf) (s:CS):Q2:=ex fun mem:List Nat=>star [prop (WF s∧Y8 s mem),VY p q,V6 q.ip q.sp q.bp,Qp q.bp s.lays,ST q.sp s.size mem s.own,Qr q.tp s.tab,RS q.rp s.rem,
 mp (ki .i64) Qz q.sm (s.sps.map Vt),star (s.sps.map (Vx q.sp)),mp (ki .i64) Qz q.mm (s.mns.map VU),star (s.mns.map VV)]
theorem LK [Q4] {w:World} {p:Nat} {q:Xf} {s:CS} {fr:List Q2} (H:Q0 w (Xn p q s::fr)):∃ mem:List Nat,WF s∧Y8 s mem ∧
  Q0 w (VY p q::V6 q.ip q.sp q.bp::Qp q.bp s.lays::ST q.sp s.size mem s.own::Qr q.tp s.tab::RS q.rp s.rem::mp (ki .i64) Qz q.sm (s.sps.map Vt)::star (s.sps.map (Vx q.sp))::mp (ki .i64) Qz q.mm (s.mns.map VU)::star (s.mns.map VV)::fr):=by
 obtain⟨mem,H⟩:=Q0.ex.1 H;have H:=Q0.star.1 H;obtain⟨⟨h1,h2⟩,H⟩:=Q0.prop.1 H;exact⟨mem,h1,h2,H⟩
theorem LW [Q4] {w:World} {p:Nat} {q:Xf} {s:CS} {fr:List Q2} {mem:List Nat} (h:WF s) (hm:Y8 s mem)
  (H:Q0 w (VY p q::V6 q.ip q.sp q.bp::Qp q.bp s.lays::ST q.sp s.size mem s.own::Qr q.tp s.tab::RS q.rp s.rem::mp (ki .i64) Qz q.sm (s.sps.map Vt)::star (s.sps.map (Vx q.sp))::mp (ki .i64) Qz q.mm (s.mns.map VU)::star (s.mns.map VV)::fr)):Q0 w (Xn p q s::fr):=
 Q0.ex.2 ⟨mem,Q0.star.2 (Q0.prop.2 ⟨⟨h,hm⟩,H⟩)⟩
theorem u6 [Q4] {w:World} {p:Nat} {q:Xf} {s:CS} {fr:List Q2} (H:Q0 w (Xn p q s::Qo q.trp s.last s.par::fr)):Q0 w (QD p s::fr):=by
 obtain⟨mem,hw,hm,H⟩:=LK H;replace H:=Js [0,0,0,0,0,5,0,0,0,0,0] 0 H;exact VJ hw hm H
theorem u7 [Q4] (p:Nat) (q:Xf) (s:CS) (QP:(s.par.map (·.1)).Nodup) (k n:Nat) (e:Q8) (hk:s.tab[k]? = some ⟨n,some e⟩) (hn:n < 255) (hR:WP s) {w:World} {fr:List Q2} (H:Q0 w (Xn p q s::fr)) :
  Calls Tryz.prog 63 #[pp p,.int .i64 k] w (ret fun v w'=>v = .tuple #[]∧∃ s',OE s k n s'∧Q0 w' (Xn p q s'::fr)):=by
 obtain⟨mem,hw,hm,H⟩:=LK H;replace H:=Js [4,0,0,0,0] 0 H;refine QQ Tryz.func63 rfl (by kernel_rfl) ?_;refine J9 H ?_;refine Jc rfl rfl (jJ p q s.tab k n e hk H) ?_;clear H;rintro v w ⟨rfl,H⟩;refine YA H ?_;clear H;intro b4 w H;refine J5 H ?_;clear H;intro w H;refine ZT H ?_;have VB:=(List.getElem?_eq_some_iff.1 hk).1;obtain⟨_,_,y,hy⟩:=hw.obj k n e hk;have K6:e.region∈s.mns.map (·.1):=by rw[hw.mkeys];exact mem_map.2 ⟨(e.region,y),hy,rfl⟩
 obtain⟨b2,ZW⟩:=R8 (l:=s.mns) (f:=fun x=>x.1) (g:=fun x=>x.2.1) (k:=e.region) K6;obtain⟨⟨r1,b1,L⟩,m1,m2,Vk,VC,YD⟩:=R7 ZW;have VC:r1=e.region:=VC;have YD:b1=b2:=YD;subst VC YD;have Xh:QV (s.mns.map VU) e.region=some b1:=ZW;have hL:=hw.mine (e.region,b1,L) (by rw[Vk];simp)
 have UN:L.length≤100000:=by
  have:=B6 L 0 64 (fun x hx=>⟨Nat.zero_le _,by
   obtain⟨g,f,h3,_⟩:=(hL.2 x).1 hx;have h4:=(List.getElem?_eq_some_iff.1 h3).1;have:=hw.slots.2;omega⟩) hL.1
  omega
 replace H:=Js [1,0] 0 H;refine VM H ?_;refine Jc rfl rfl (O6 q.tp s.tab k n e hk H) ?_;clear H;rintro v w ⟨rfl,H⟩;refine YA H ?_;clear H;intro b6 w H;refine J5 H ?_;clear H;intro w H;refine J0 H ?_;replace H:=Js [7,0,0,0,0,0,0,0] 0 H;refine VM H ?_;refine Jc rfl rfl (qJ q.rp s.rem hR.nd (OD hw hR) k H) ?_;clear H;rintro v w ⟨ks,Xz,_,rfl,H⟩;refine J2 H ?_;replace H:=Js [11,10,2,2,2,0,0,0,0,0,0,0] 0 H;replace H:Q0 w (VQ b1 L::star ((m1++m2).map VV)::_):=(Q0.pick (R:=VV) (x:=(e.region,b1,L)) Vk).1 H;refine J1 H ?_;clear H;intro w H;refine YN H ?_;refine Jl 3 [8] H ?_;refine Jf 4 ?_;refine Jl 5 [8] H ?_;refine RL 6 [8] (key:=e.region) H rfl (Q9.none rfl) rfl rfl Vp (by kernel_rfl) ?_;rw[Xh];refine Ja 7 ?_;refine Jo 8 H ?_;refine Jk rfl rfl (jL b1 L k hL.1 UN H) ?_;clear H;rintro v w ⟨rfl,H⟩;refine Jx H ?_;replace H:=Js [3,0,0,0] 0 H;refine J1 H ?_;clear H;intro w H;refine Mr H ?_;refine Jk rfl rfl (tz q.tp s.tab k n e hk hn H) ?_;clear H;rintro v w ⟨rfl,H⟩;refine Jx H ?_;have Dt:=u0 hw QP hk Vk (ks.foldl QN s.rem);have VR:=u5 (s':={ s with tab:=s.tab.set k ⟨n,none⟩,rem:=ks.foldl QN s.rem,mns:=m1++(e.region,b1,L.filter (·≠k))::m2 }) hm rfl rfl rfl;have Du:s.mns.map VU=(m1++(e.region,b1,L.filter (·≠k))::m2).map VU:=by rw[Vk];simp
 rw[Du] at H;replace H:=Js [1,1,0,0] 0 H;have H:=(Q0.pick (R:=VV) (x:=(e.region,b1,L.filter (·≠k))) (g1:=m1) (g2:=m2) rfl).2 H;replace H:=Js [4,6,6,6,1,3,4,4,1,0] 2 H;have H:=LW Dt VR H;refine Z2 _ (.inl rfl) H rfl fun w' H'=>⟨rfl,{ s with tab:=s.tab.set k ⟨n,none⟩,rem:=ks.foldl QN s.rem,mns:=m1++(e.region,b1,L.filter (·≠k))::m2 },⟨rfl,rfl,rfl,rfl,rfl,rfl,rfl,Sw ks hR.nd,fun r=>?_⟩,H'⟩;show QV (ks.foldl QN s.rem) r=_;rw[jM ks hR.nd];by_cases hr:r.1=(k:Int)
 ·rw[if_pos hr];by_cases h1:r∈ks
  ·rw[if_pos h1]
  ·rw[if_neg h1];cases hf:QV s.rem r with
   | none=>rfl
   | some t=>exact absurd ((Xz r).2 ⟨hr,by rw[hf];rfl⟩) h1
 ·rw[if_neg hr,if_neg];intro h1;exact hr ((Xz r).1 h1).1
theorem u9 [Q4] (p:Nat) (m:List (Rf×Int)) (hm:m.length≤1000000) (t:Int) {w:World} {fr:List Q2} (H:Q0 w (RS p m::fr)) :
  Calls Tryz.prog 59 #[pp p,.int .i64 t] w (ret fun v w'=>∃ ks,(∀ r,r∈ks↔QV m r=some t)∧JZ ks∧Q0 w' (QE 133 2 v (Gs ks)::RS p m::fr)):=by
 refine QQ Tryz.func59 rfl (by kernel_rfl) ?_;obtain⟨bt,bo,bf,H⟩:=Df H;refine DO H ?_;replace H:=Js [2,0,0,0] 0 H;obtain⟨G,hG,H⟩:=Nm H;refine Q5 rfl (GH (key:=t) H rfl rfl Vp rfl ?_);have B9:=B8 bo H;have hn:(G.map (·.key)).Nodup:=by rw[← Dd];exact B9
 cases hf:QV (G.map Uf) t with
 | none=>
  replace H:=eU kp v1 H;refine Jc rfl rfl (Nx none [] (by simp) (by simp) H) ?_;rintro v w ⟨ks,hp,hs,H⟩;refine Ko H ?_;have Xz:ks=[]:=by simpa using hp
  subst Xz;replace H:=Js [2,2,2,2,2,0] 1 H;replace H:=A2 G hG H;replace H:=Js [1,1,0,0,0] 0 H;replace H:=BQ bt bo bf (fun _ _=>Iff.rfl) (fun _ _=>Iff.rfl) H;refine Q3 (Jy H.swap rfl fun w' H'=>⟨[],fun r=>?_,hs,H'⟩);have h1:=D3.1 hf;rw[Dd] at h1;exact⟨fun h=>by simp at h,fun h=>absurd (CH ((hG t r).2 h)) h1⟩
 | some bi=>
  obtain⟨g,g1,g2,rfl,rfl,rfl⟩:=Nn hf;have H:=(Q0.pick rfl).1 H.swap;have hi:=B8 g.blk H
  have Qw:g.m.length≤1000000:=by
   have:=U5 hi (l₂:=m.map (·.1)) (fun r hr=>by
    have:=(hG g.key r).1 ((Ny hn).2 hr);exact mem_map_of_mem (f:=(·.1)) (KK this))
   simp at this;omega
  replace H:=MU H;refine Jc rfl rfl (Nx (some g.blk) g.m Qw hi H) ?_;rintro v w ⟨ks,hp,hs,H⟩;refine Ko H ?_;replace H:=Sv H.swap;replace H:=Js [0,1,0,0,0,0,0] 0 H;replace H:=(Q0.pick (R:=CE) (gs:=g1++g::g2) rfl).2 H;replace H:=Js [2,0,1,1,1,0] 0 H;replace H:=A2 (g1++g::g2) hG H;replace H:=Js [1,1,0,0,0] 0 H;replace H:=BQ bt bo bf (fun _ _=>Iff.rfl) (fun _ _=>Iff.rfl) H;refine Q3 (Jy H.swap rfl fun w' H'=>⟨ks,fun r=>?_,hs,H'⟩);rw[hp.mem_iff,← hG,Ny hn]
theorem jN [Q4] (p sp owner:Nat) (S:QO) (hp:S.parts.length≤100000) (hq:∀ x∈S.parts,x.1+x.2≤100000) (hc:(QR S.parts).length≤100000) {w:World} {fr:List Q2} (H:Q0 w (Qy p sp owner S::fr)) :
  Calls Tryz.prog 50 #[pp p] w (ret fun v w'=>∃ a c,v = .slice a (QR S.parts).length c∧Q0 w' (NL v (QR S.parts)::Qy p sp owner S::fr)):=by
 obtain⟨a,c,H⟩:=X4 H;refine QQ Tryz.func50 rfl (by kernel_rfl) ?_;refine Vl H ?_;refine Wp H ?_;refine W7 H ?_;replace H:=Zy (E:=3) (k:=1) H;refine XE H ?_;refine Qq (fun ms σ w z=>ms=[]∧∃ (i:Nat) (a3:Option Addr) (c3:Nat),i≤S.parts.length∧z=S.parts.length - i∧σ 3 = .slice a3 (QR (S.parts.take i)).length c3∧σ 13 = .slice a S.parts.length c∧σ 14 = .int .i64 S.parts.length∧σ 15 = .int .i64 i∧Q0 w (NL (.slice a3 (QR (S.parts.take i)).length c3) (QR (S.parts.take i))::pts p (row 206 [pp sp,.int .i64 owner,.slice a S.parts.length c,.int .i64 S.at',.int .i64 S.fin])::QE 208 2 (.slice a S.parts.length c) (S.parts.flatMap YB)::fr)) (m:=S.parts.length) ⟨rfl,0,none,0,by omega,rfl,rfl,rfl,rfl,rfl,H⟩ ?_;clear H;rintro ms σ w z ⟨rfl,i,a3,c3,hi,rfl,g3,g13,g14,g15,H⟩;rw[Q1 g3,Q1 g13,Q1 g14,Q1 g15];refine J7 H ?_;refine Qm rfl (fun h=>QF ?_) (fun h=>Qv ?_)
 ·have Q6:i < S.parts.length:=by omega
  have hn:=getElem?_eq_getElem Q6;have Qj:S.parts.take (i+1)=S.parts.take i++[S.parts[i]]:=by rw[take_add_one,hn];rfl
  have VO:(QR (S.parts.take (i+1))).length≤100000:=by
   refine Nat.le_trans ?_ hc
   conv=>rhs;rw[← take_append_drop (i+1) S.parts]
   rw[XP,length_append];omega
  have hx:=hq _ (getElem_mem Q6);generalize S.parts[i]=x at hn Qj hx;obtain⟨x1,x2⟩:=x;rw[Qj,XP,A4,length_append,length_map,length_range] at VO;have hx:x1+x2≤100000:=hx;have Tx:QR (S.parts.take (i+1))=QR (S.parts.take i)++(List.range x2).map (x1+·):=by rw[Qj,XP,A4]
  clear g3;generalize QR (S.parts.take i)=Q at H VO Tx ⊢;have hl:(QR (S.parts.take (i+1))).length=Q.length+x2:=by rw[Tx,length_append,length_map,length_range]
  replace H:=Js [2,0,0] 0 H;obtain⟨bT,sT,rfl,H,QM⟩:=VX H (by omega);have Qu:QY (S.parts.flatMap YB++sT) (i*2+0) 2 (YB (x1,x2)):=Bs (vs:=YB (x1,x2)) WW hn (by repeat first|exact .nil _|apply QY.cons rfl);have ei:0+((i:Nat):Int).toNat*2=i*2:=by simp
  refine Z7 H ?_;refine Jd ?_;rw[ei];refine Q5 rfl (Vz H rfl Qu rfl ?_);refine VS H ?_;clear H;intro b5 w H;refine J5 H ?_;clear H;intro w H;refine J2 H ?_;refine FR H ?_;replace H:=QM _ _ H.swap;replace H:=Js [2,1,1,0] 0 H;refine J6 H ?_;refine Qt (fun ms σ w=>ms=[]∧∃ (a3:Option Addr) (c3:Nat),σ 3 = .slice a3 (Q.length+x2) c3∧σ 13 = .slice (some ⟨bT,0,none⟩) S.parts.length c∧σ 14 = .int .i64 S.parts.length∧σ 15 = .int .i64 i∧Q0 w (NL (.slice a3 (Q.length+x2) c3) (Q++(List.range x2).map (x1+·))::pts p (row 206 [pp sp,.int .i64 owner,.slice (some ⟨bT,0,none⟩) S.parts.length c,.int .i64 S.at',.int .i64 S.fin])::QE 208 2 (.slice (some ⟨bT,0,none⟩) S.parts.length c) (S.parts.flatMap YB)::fr)) ?_ ?_
  ·refine Qe ?_;refine Qq (fun ms σ w z=>ms=[]∧∃ (j:Nat) (a3:Option Addr) (c3:Nat),j≤x2∧z=x2 - j∧σ 3 = .slice a3 (Q.length+j) c3∧σ 5=pp b5∧σ 13 = .slice (some ⟨bT,0,none⟩) S.parts.length c∧σ 14 = .int .i64 S.parts.length∧σ 15 = .int .i64 i∧σ 20 = .int .i64 x2∧σ 21 = .int .i64 j∧Q0 w (NL (.slice a3 (Q.length+j) c3) (Q++(List.range j).map (x1+·))::pts b5 (row 208 [.int .i64 x1,.int .i64 x2])::pts p (row 206 [pp sp,.int .i64 owner,.slice (some ⟨bT,0,none⟩) S.parts.length c,.int .i64 S.at',.int .i64 S.fin])::QE 208 2 (.slice (some ⟨bT,0,none⟩) S.parts.length c) (S.parts.flatMap YB)::fr)) (m:=x2) ⟨rfl,0,a3,c3,by omega,rfl,rfl,rfl,rfl,rfl,rfl,rfl,rfl,by rw[range_zero,map_nil,append_nil];exact H⟩ ?_;clear H;rintro ms σ w z ⟨rfl,j,a3,c3,hj,rfl,g3,g5,g13,g14,g15,g20,g21,H⟩;rw[Q1 g3,Q1 g5,Q1 g13,Q1 g14,Q1 g15,Q1 g20,Q1 g21];refine J7 H ?_;refine Qm rfl (fun h=>QF ?_) (fun h=>Qv ?_)
   ·have ZP:j < x2:=by omega
    refine F8 H ?_;refine Z4 H ?_;refine DJ H ?_;rw[show IntKind.i64.wrap ((x1:Int)+(j:Int))=((x1+j:Nat):Int) by rw[Qg (by omega) (by omega)];omega];refine Uw H ?_;clear H;intro b29 w H;replace H:=Js [1,0,0,0,0] 0 H;refine Q5 rfl (ZU H rfl rfl (by repeat first|exact .nil _|apply QY.cons rfl) rfl (by decide) (by rw[QJ,length_append,length_map,length_range];simp only[length_cons,length_nil];omega) rfl rfl ?_);clear H;intro v30 w H;rw[show QH (Q++(List.range j).map (x1+·))++[.int .i64 ((x1+j:Nat):Int)]=QH (Q++(List.range (j+1)).map (x1+·)) by rw[range_succ,map_append,← append_assoc];exact(B4 (Q++(List.range j).map (x1+·)) [x1+j]).symm] at H;obtain⟨a30,c30,rfl⟩:=QI H (m:=Q.length+(j+1)) (by rw[QJ,length_append,length_map,length_range]) (by decide);refine ZX H ?_;replace H:=Js [0,1,1,1] 1 H;exact⟨_,⟨rfl,j+1,a30,c30,ZP,rfl,rfl,rfl,rfl,rfl,rfl,rfl,Qh (by omega),H⟩,by omega⟩
   ·have V2:j=x2:=by omega
    subst V2;replace H:=Js [0,1,1] 1 H;exact⟨rfl,rfl,a3,c3,rfl,rfl,rfl,rfl,H⟩
  clear H;rintro ms σ w ⟨rfl,a3,c3,g3,g13,g14,g15,H⟩;rw[Q1 g3,Q1 g13,Q1 g14,Q1 g15];refine J3 H ?_;exact⟨_,⟨rfl,i+1,a3,c3,Q6,rfl,by rw[hl];rfl,rfl,rfl,Qh (by omega),by rw[hl,Tx];exact H⟩,by omega⟩
 ·have V2:i=S.parts.length:=by omega
  subst V2;rw[take_length] at H ⊢;refine J3 H ?_;replace H:=Js [1,1,0] 0 H;exact Q3 (Jy (Gb H) rfl fun w' H'=>⟨_,_,rfl,H'.swap⟩)
theorem jO [Q4] (p size:Nat) (mem own:List Nat) (c:Nat) (hc:c < own.length) (h0:own.getD c 0≠0) {w:World} {fr:List Q2} (H:Q0 w (ST p size mem own::fr)) :
  Calls Tryz.prog 248 #[pp p,.int .i64 c] w (ret fun v w'=>v = .int .i64 0∧Q0 w' (ST p size mem own::fr)):=by
 obtain⟨v,v2,u,ws,many,QX,H⟩:=KJ H;obtain⟨a2,c2,rfl⟩:=QI (H.drop.drop) (QJ own) (by decide);have QM:=QX.c2;refine QQ Tryz.func248 rfl (by kernel_rfl) ?_;refine Vl H ?_;replace H:=Js [2,0,0] 0 H;have hx:own[c]? = some (own.getD c 0):=by rw[getD_eq_getElem?_getD,getElem?_eq_getElem hc];rfl
 generalize own.getD c 0=o at h0 hx;obtain⟨b,s,rfl,H,QK⟩:=VX H (by omega);refine J6 H ?_;refine Yx (fun ms σ w=>ms=[]∧Q0 w (pts b (row 3 (QH own++s))::pts p (row 141 [v,.int .i64 size,.slice (some ⟨b,0,none⟩) own.length c2,pp u])::UL v mem::BM u own.length ws many::fr)) ?_ ?_
 ·refine Qe ?_;refine J9 H ?_;rw[show decide ((c:Int) < 0)=false from decide_eq_false (by omega)];refine Ar H ?_;rw[show decide ((c:Int)≥(own.length:Int))=false from decide_eq_false (by omega)];refine Aj H ?_;refine VM H ?_;refine Jd ?_;refine Q5 rfl (QA H rfl (U4 hx) rfl ?_);refine Jv ?_;rw[show ((o:Int) == 0)=false by rw[beq_eq_false_iff_ne];omega];refine YS H ?_;exact .inl ⟨rfl,rfl,H⟩
 ·clear H;rintro ms σ w ⟨rfl,H⟩;replace H:=QK _ _ H;replace H:=Js [1,1,0] 0 H;replace H:=XM QX H;refine Vl H ?_;exact Q3 (Jy H rfl fun w' H'=>⟨rfl,H'⟩)
theorem uQ [Q4] (p size:Nat) (mem own:List Nat) (c:Nat) (XN:own.length≤63) (hc:c < own.length) (h0:own.getD c 0≠0) {w:World} {fr:List Q2} (H:Q0 w (ST p size mem own::fr)) :
  Calls Tryz.prog 211 #[pp p,.int .i64 c] w (ret fun v w'=>v = .int .i64 0∧Q0 w' (ST p size mem (own.set c 0)::fr)):=by
 refine QQ Tryz.func211 rfl (by kernel_rfl) ?_;refine Md H ?_;refine Jc rfl rfl (jO p size mem own c hc h0 H) ?_;clear H;rintro v w ⟨rfl,H⟩;refine ZX H ?_;obtain⟨v,v2,u,ws,many,QX,H⟩:=KJ H;obtain⟨x,rfl,hb,rfl,hx⟩:=SO QX XN;obtain⟨a2,c2,rfl⟩:=QI (H.drop.drop) (QJ own) (by decide);have QM:=QX.c2;replace H:=Js [2,0,0] 0 H;obtain⟨b,s,rfl,H,_,_,QK⟩:=GJ H (by omega);refine J6 H ?_;refine Qt (fun ms σ w=>ms=[]∧σ 5 = .int .i64 0∧Q0 w (GO u own.length (G3 x c false)::NL (.slice (some ⟨b,0,none⟩) own.length c2) (own.set c 0)::pts p (row 141 [v,.int .i64 size,.slice (some ⟨b,0,none⟩) own.length c2,pp u])::UL v mem::fr)) ?_ ?_
 ·refine YY rfl ?_;refine VM H ?_;refine Jd ?_;refine Q5 rfl (Zv H rfl rfl inferInstance rfl (by simp only[length_append,QJ];omega) rfl ?_);clear H;intro w H;have e0:(QH own++s).set (0+((c:Nat):Int).toNat*1) (.int .i64 0)=QH (own.set c 0)++s:=Nb (by omega);rw[e0] at H;replace H:=QK _ _ _ (by rw[QJ,QJ,length_set]) H;refine J2 H ?_;replace H:=Js [3,0,0,0] 0 H;refine VM H ?_;refine Jc rfl rfl (SC u _ x c false hb hc H) ?_;clear H;rintro v' w ⟨rfl,H⟩;refine J2 H ?_;exact⟨rfl,rfl,rfl,H⟩
 ·clear H;rintro ms σ w ⟨rfl,g5,H⟩;rw[Q1 g5];refine J3 H ?_;replace H:=Js [2,2,1,0] 0 H
  have VA:∀ i,i < (own.set c 0).length→(G3 x c false).testBit i=decide ((own.set c 0).getD i 0≠0):=by
   intro i hi;rw[length_set] at hi;rw[Da,getD_eq_getElem?_getD,getElem?_set];by_cases AX:i=c
   ·subst AX;rw[if_pos rfl,if_pos rfl,if_pos hc];simp
   ·rw[if_neg AX,if_neg (fun h=>AX h.symm),hx i hi,getD_eq_getElem?_getD]
  refine Q3 (Jy (XM (own:=own.set c 0) (ws:=[G3 x c false]) (many:=Zi own.length (G3 x c false)) ⟨QX.s1,QX.s2,by rw[length_set];exact QX.c1,by rw[length_set];exact QX.c2,by rw[length_set];exact QX.len,by have:=Nc _ _ VA;rw[length_set] at this;exact this,fun _=>⟨_,rfl,by rw[length_set];exact(Gn.set hb hc).lt,VA⟩⟩ (by rw[length_set];exact H)) rfl fun w' H'=>⟨rfl,H'⟩)
end Go.Proofs.YtmjdnljneifpcaaGreatDoor
