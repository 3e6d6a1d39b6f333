/- Cells: what is proved on the way: every input of the statement; no condition. Texts joined: LawK TreB BagC BagD BmpC TabE JoiA DelA DelB DelC JoiB RmO BumB StoC. -/
import Derived.Test.YtmjdnljneifpcaaGreatDoorBfe
import Derived.Test.YtmjdnljneifpcaaGreatDoorBfl
import Derived.Test.YtmjdnljneifpcaaGreatDoorBff
import Derived.Test.YtmjdnljneifpcaaGreatDoorBfj
import Derived.Test.YtmjdnljneifpcaaGreatDoorBfk
import Derived.Test.YtmjdnljneifpcaaGreatDoorBfh
import Derived.Test.YtmjdnljneifpcaaGreatDoorBfc
set_option linter.unusedVariables false
set_option linter.unusedSimpArgs false
set_option linter.unusedSectionVars false
namespace Go.Proofs.YtmjdnljneifpcaaGreatDoor
open List
open Go.SL
theorem jP:∀ {a b:List Int},a.Pairwise (· < ·)→b.Pairwise (· < ·)→(∀ x,x∈a↔x∈b)→a=b
 | [],[],_,_,_=>rfl
 | [],y::b,_,_,h=>by have:=(h y).2 mem_cons_self;cases this
 | x::a,[],_,_,h=>by have:=(h x).1 mem_cons_self;cases this
 | x::a,y::b,ha,hb,h=>by
  obtain⟨jS,ML⟩:=pairwise_cons.1 ha;obtain⟨DG,DU⟩:=pairwise_cons.1 hb
  have Yy:x=y:=by
   have h1:=(h x).1 mem_cons_self;have h2:=(h y).2 mem_cons_self
   rcases mem_cons.1 h1 with h1|h1
   ·exact h1
   ·rcases mem_cons.1 h2 with h2|h2
    ·exact h2.symm
    ·have:=jS y h2;have:=DG x h1;omega
  subst Yy;congr 1;refine jP ML DU fun z=>?_;constructor
  ·intro hz
   rcases mem_cons.1 ((h z).1 (mem_cons_of_mem _ hz)) with h1|h1
   ·have:=jS z hz;omega
   ·exact h1
  ·intro hz
   rcases mem_cons.1 ((h z).2 (mem_cons_of_mem _ hz)) with h1|h1
   ·have:=DG z hz;omega
   ·exact h1
theorem tk (v:Value) (l:List Nat):NL v l=IL v (l.map fun x:Nat=>(x:Int)):=by
 show QF _ 1 v (QH l)=_;rw[JL]
theorem tm {s:CS} {m:MS} {told:List (Nat×Nat)} (R:KG s m told) {id:Int} (h0:0≤id) {K:List Int} (hp:K.Perm ((s.par.map (·.1)).filter (Xg s.par id))) (hs:K.Pairwise (·≤·)):K=(Cg m.P id).map fun x:Nat=>(x:Int):=by
 have QN:K.Nodup:=hp.nodup_iff.2 (List.Pairwise.filter _ R.nd)
 have Q6:K.Pairwise (· < ·):=by
  have:=pairwise_and_iff.2 ⟨hs,QN⟩;exact this.imp (fun h=>by have h1:=h.1;have h2:=h.2;omega)
 refine jP Q6 ?_ fun x=>?_
 ·refine List.Pairwise.map _ ?_ (gl m.P _ _);intro a b K2;omega
 ·rw[hp.mem_iff,mem_filter];unfold Xg Cg;rw[decide_eq_true_iff];constructor
  ·rintro⟨_,h2⟩;obtain⟨k,rfl,h3,h4,h5⟩:=(R.tree x id).1 (KE h2);refine mem_map.2 ⟨k,JN.2 ⟨(List.getElem?_eq_some_iff.1 h4).1,h3,?_⟩,rfl⟩;rw[getD_eq_getElem?_getD,h4];exact beq_self_eq_true id
  ·intro h;obtain⟨k,hk,rfl⟩:=mem_map.1 h;obtain⟨h1,h2,h3⟩:=JN.1 hk;have h4:=getElem?_eq_getElem h1;rw[getD_eq_getElem?_getD,h4] at h3;have h5:m.P[k]=id:=by simpa using h3
   rw[h5] at h4;have h6:=(R.tree k id).2 ⟨k,rfl,h2,h4,h0⟩;exact⟨mem_map.2 ⟨_,h6,rfl⟩,(YP R.nd).2 h6⟩
theorem jT [Q4] (p:Nat) (s:CS) (m:MS) (told:List (Nat×Nat)) (R:KG s m told) {w:World} {fr:List Q2} (H:Q0 w (Ua p s m told::fr)) :
  Calls Tryz.prog 11 #[pp p] w (ret fun v w'=>v = .bool true∧Q0 w' (Ua p s m told::fr)):=by
 obtain⟨c,mo,a,cap,H⟩:=E8 H;obtain⟨_,_,hw,_,_⟩:=YQ H.swap;obtain⟨_,_,_,_,_,_,_,U4,_⟩:=GI (H.sel [2,0,0,0] 0);have Qw:told.length≤100000:=by rw[R.len];exact U4.few
 refine QQ Tryz.func11 rfl (by kernel_rfl) ?_;refine Vg H ?_;refine NK H ?_;replace H:=Js [3,0,0,0] 0 H;refine J6 H ?_;refine Qt (fun ms σ w=>ms=[]∧σ 0=pp p∧Q0 w (V8 (.slice a told.length cap) told::Y8 p c mo (.slice a told.length cap)::QD c s::Qy mo m::fr)) ?_ ?_
 ·refine Qd ?_;refine Qp (fun ms σ w n=>ms=[]∧∃ i:Nat,i≤told.length∧n=told.length - i∧σ 0=pp p∧σ 18 = .slice a told.length cap∧σ 19 = .int .i64 told.length∧σ 20 = .int .i64 i∧Q0 w (V8 (.slice a told.length cap) told::Y8 p c mo (.slice a told.length cap)::QD c s::Qy mo m::fr)) (m:=told.length) ⟨rfl,0,by omega,rfl,rfl,rfl,rfl,rfl,H⟩ ?_;rintro ms σ w n ⟨rfl,i,hi,rfl,g0,g18,g19,g20,H⟩;rw[Q1 g0,Q1 g18,Q1 g19,Q1 g20];refine J7 H ?_;refine Qk rfl (fun h=>QE ?_) (fun h=>Qu ?_)
  ·have Q6:i < told.length:=by omega
   have hn:=getElem?_eq_getElem Q6;generalize told[i]=kg at hn;obtain⟨k,g⟩:=kg;have GZ:Vd s m told k g i:=iL R hn;obtain⟨bT,sT,rfl,H,QJ⟩:=VY H (by omega);refine DD H ?_;refine Jd ?_;refine Q5 rfl (Vy H rfl (Wa hn) rfl ?_);refine VO H ?_;intro b4 w H;refine F0 H ?_;intro w H;refine J2 H ?_;replace H:=QJ _ _ H.swap;replace H:=Js [2,2,2,1,0] 0 H;refine It H ?_;refine Jc rfl rfl (im p c mo _ s m told R k g i GZ H) ?_;rintro v w ⟨rfl,H⟩;refine YT H ?_;replace H:=Js [2,0,0,0,0] 0 H;refine Vb H ?_;refine Jc rfl rfl (Dx mo m i H) ?_;rintro v w ⟨rfl,H⟩;cases hv:VL m i with
   | none=>
    refine Yn H ?_;refine YU rfl (Qu ?_);refine J3 H ?_;replace H:=Js [4,1,1,0] 1 H;exact⟨_,⟨rfl,i+1,Q6,rfl,rfl,rfl,rfl,Qg (by omega),H⟩,by omega⟩
   | some nx=>
    obtain⟨n',x⟩:=nx;obtain⟨VQ,hx,hh,hg⟩:=WM hv;obtain rfl:i=n':=by omega
    obtain⟨t,lc,aL,cL,bO,cO,sO,ptrs,q,vw,vk,vt,rest,hm,h2,hp,H,QU⟩:=UT H hx;have V7:=BJ hx hm;have Kg:=hm.objs x (mem_of_getElem? hx);have U0:=Kg.kind;have OX:=Kg.to;have Zi:=BL (w:=hm) hx;have Cp:=hm.lays.1;have VH:=(List.getElem?_eq_some_iff.1 hx).1;obtain⟨y,hy,CT,Ys,Vu,hR,Va⟩:=gn hm h2 hx;obtain⟨aw,cw,rfl⟩:=QI H.drop (GA _) (by decide);obtain⟨ak,ck,rfl⟩:=QI H.drop.drop (QM _) (by decide);obtain⟨at',ct,rfl⟩:=QI H.drop.drop.drop (QM _) (by decide);replace H:=Js [6,6,0,0,0,0,0,0,0,0] 0 H;obtain⟨bL,sL,D1,D2,Rr,rfl,H,hD,tn⟩:=T8 (by rw[← h2,length_map]) H hy;obtain⟨vr,vq,ly⟩:=y;obtain rfl:ly=YF m x:=CT;have Q1t:lc.length=m.lays.length:=by rw[← h2,length_map]
    refine YT H ?_;refine Iu H ?_;refine Jd ?_;refine Q5 rfl (QC H rfl hp rfl ?_);refine J0 H ?_;refine G6 H ?_;refine FJ H ?_;refine Qt (fun ms σ w=>ms=[]∧σ 0=pp p∧σ 18 = .slice (some ⟨bT,0,none⟩) told.length cap∧σ 19 = .int .i64 told.length∧σ 20 = .int .i64 i∧Q0 w (pts bL (row 102 (Vf lc++sL))::D1::D2::Rr::pts q (K7 (.slice aw x.w.length cw) (.slice ak x.kind.length ck) (.slice at' x.to.length ct) x)::UL (.slice aw x.w.length cw) x.w::NL (.slice ak x.kind.length ck) x.kind::NL (.slice at' x.to.length ct) x.to::pts bO (row 77 (ptrs++sO))::pts mo (row 58 [pp t,.slice (some ⟨bL,0,none⟩) m.lays.length cL,.slice (some ⟨bO,0,none⟩) m.objs.length cO])::Vi t m.P::star rest::Y8 p c mo (.slice (some ⟨bT,0,none⟩) told.length cap)::QD c s::pts b4 (row 69 [.int .i64 k,.int .i64 g])::V8 (.slice (some ⟨bT,0,none⟩) told.length cap) told::fr)) ?_ ?_
    ·refine Qd ?_;refine Qp (fun ms σ w n=>ms=[]∧∃ j:Nat,j≤x.w.length∧n=x.w.length - j∧σ 0=pp p∧σ 4=pp b4∧σ 5=pp q∧σ 18 = .slice (some ⟨bT,0,none⟩) told.length cap∧σ 19 = .int .i64 told.length∧σ 20 = .int .i64 i∧σ 51 = .int .i64 x.w.length∧σ 52 = .int .i64 j∧Q0 w (pts bL (row 102 (Vf lc++sL))::D1::D2::Rr::pts q (K7 (.slice aw x.w.length cw) (.slice ak x.kind.length ck) (.slice at' x.to.length ct) x)::UL (.slice aw x.w.length cw) x.w::NL (.slice ak x.kind.length ck) x.kind::NL (.slice at' x.to.length ct) x.to::pts bO (row 77 (ptrs++sO))::pts mo (row 58 [pp t,.slice (some ⟨bL,0,none⟩) m.lays.length cL,.slice (some ⟨bO,0,none⟩) m.objs.length cO])::Vi t m.P::star rest::Y8 p c mo (.slice (some ⟨bT,0,none⟩) told.length cap)::QD c s::pts b4 (row 69 [.int .i64 k,.int .i64 g])::V8 (.slice (some ⟨bT,0,none⟩) told.length cap) told::fr)) (m:=x.w.length) ⟨rfl,0,by omega,rfl,rfl,rfl,rfl,rfl,rfl,rfl,rfl,rfl,H⟩ ?_;rintro ms σ w n ⟨rfl,j,hj,rfl,g0,g4,g5,g18,g19,g20,g51,g52,H⟩;rw[Q1 g0,Q1 g4,Q1 g5,Q1 g18,Q1 g19,Q1 g20,Q1 g51,Q1 g52];refine J7 H ?_;refine Qk rfl (fun h=>QE ?_) (fun h=>Qu ?_)
     ·have ZS:j < x.w.length:=by omega
      refine NT H ?_;intro w H;refine YI H ?_;refine Jl 3 [15] H ?_;refine Ja 4 ?_;refine Jf 5 ?_;refine Jl 6 [15] H ?_;refine Df H ?_;refine Jf 9 ?_;refine Jl 10 [15] H ?_;refine Ja 11 ?_;rw[show IntKind.i64.wrap ((x.lay:Int) - 1)=((x.lay - 1:Nat):Int) by rw[Qh (by omega) (by omega)];omega];refine Ji 12 ?_;refine Vz 13 [15] H rfl (Q8.none rfl) rfl (Nz hy) (by kernel_rfl) ?_;refine Ja 14 ?_;refine Jo 15 H ?_;refine Jk rfl rfl (gG vr vq (YF m x) hR j (gp Va (by omega)) (by omega) ((hD _).there) H) ?_;rintro v w ⟨rfl,H⟩;refine Jx H ?_;cases hb:Ve (YF m x) j with
      | true=>
       refine Vt H ?_;have Us:Vr m i j true=0:=by rw[K9 hv];unfold Qb;rw[if_neg (by omega),Int.toNat_natCast,if_neg (fun h=>h hb)]
       have Xj:=getElem?_eq_getElem (l:=x.kind) (i:=j) (by omega);have WO:=getElem?_eq_getElem (l:=x.to) (i:=j) (by omega);have GQ:x.kind.getD j 0=x.kind[j]:=by rw[getD_eq_getElem?_getD,Xj];rfl
       have BN:x.to.getD j 0=x.to[j]:=by rw[getD_eq_getElem?_getD,WO];rfl
       have KQ:=Kg.goes j;rw[BN] at KQ
       obtain⟨VP,h1⟩:x.kind.getD j 0≤2∧Yu s k g j=(GY told (x.kind.getD j 0) (x.to.getD j 0),0):=by
        rcases iP R GZ j with ⟨h0,_⟩|⟨_,n',j',x',e1,e2,e3,_,_,_,e4,e5⟩
        ·exact absurd Us h0
        ·obtain rfl:n'=i:=by omega
         obtain rfl:j'=j:=by omega
         rw[hx] at e3;injection e3 with e3
         subst e3;exact⟨e4,e5⟩
       rw[GQ] at VP;rw[GQ,BN] at h1;generalize x.kind[j]=kd at *;generalize x.to[j]=td at *;have tr:kd=2→td < told.length:=fun h=>by rw[R.len];exact KQ (by rw[Xj,h])
       have UG:=fun (w:World) (fr:List Q2) (H:Q0 w (QD c s::fr))=>L5 c s k g j H;rw[h1] at UG;obtain⟨l1,l2,l3,ZD⟩:=Xf (GY told kd td);rw[ZD] at UG;have Cn:=fun (w:World) (fr:List Q2) (H:Q0 w (Y8 p c mo (.slice (some ⟨bT,0,none⟩) told.length cap)::V8 (.slice (some ⟨bT,0,none⟩) told.length cap) told::fr))=>Tn p c mo (some ⟨bT,0,none⟩) cap told kd td VP tr H;rw[ZD] at Cn;replace H:=Js [13,0,0,0,0,0,0,0,0,0,0,0,0,0,0,0] 0 H;refine J6 H ?_;refine Qt (fun ms σ w=>ms=[]∧∃ b7,σ 7=pp b7∧σ 8 = .int .i64 0∧σ 0=pp p∧σ 4=pp b4∧σ 5=pp q∧σ 6 = .int .i64 j∧σ 18 = .slice (some ⟨bT,0,none⟩) told.length cap∧σ 19 = .int .i64 told.length∧σ 20 = .int .i64 i∧σ 51 = .int .i64 x.w.length∧σ 52 = .int .i64 j∧Q0 w (pts b7 (row 88 [.int .i64 l1,.int .i64 l2,.int .i64 l3])::pts bL (row 102 (Vf lc++sL))::D1::D2::Rr::pts q (K7 (.slice aw x.w.length cw) (.slice ak x.kind.length ck) (.slice at' x.to.length ct) x)::UL (.slice aw x.w.length cw) x.w::NL (.slice ak x.kind.length ck) x.kind::NL (.slice at' x.to.length ct) x.to::pts bO (row 77 (ptrs++sO))::pts mo (row 58 [pp t,.slice (some ⟨bL,0,none⟩) m.lays.length cL,.slice (some ⟨bO,0,none⟩) m.objs.length cO])::Vi t m.P::star rest::Y8 p c mo (.slice (some ⟨bT,0,none⟩) told.length cap)::QD c s::pts b4 (row 69 [.int .i64 k,.int .i64 g])::V8 (.slice (some ⟨bT,0,none⟩) told.length cap) told::fr)) ?_ ?_
       ·refine J1 H ?_;intro w H;refine YI H ?_;refine Jl 3 [6,11] H ?_;refine Vz 4 [6,11] H rfl (Q8.none rfl) rfl (by repeat first|exact .nil _|apply QY.cons rfl) (by kernel_rfl) ?_;refine Ja 5 ?_;refine Jw 6 10 H rfl rfl (V3 (a:=[]) (b:=[]) rfl rfl (call (UG _ _ H) ?_)) (YW H rfl ?_)
        ·rintro v w ⟨rfl,H⟩;refine CR H ?_;intro b7 w H;refine Kv H ?_;intro w H;refine KN H ?_;replace H:=Js [0,1,1,1,1,1,1,1,1,1,1,1,1,1,0,0,0] 0 H;exact⟨rfl,rfl,b7,rfl,rfl,rfl,rfl,rfl,rfl,rfl,rfl,rfl,rfl,rfl,H⟩
        ·intro b7 w H;refine Jo 6 H ?_;refine Jk rfl rfl (UG _ _ H.swap) ?_;rintro v w ⟨rfl,H⟩;refine Il H ?_;intro w H;refine KN H ?_;replace H:=Js [1,1,1,1,1,1,1,1,1,1,1,1,1,1,0,0,0] 0 H;exact⟨rfl,rfl,b7,rfl,rfl,rfl,rfl,rfl,rfl,rfl,rfl,rfl,rfl,rfl,H⟩
       rintro ms σ w ⟨rfl,b7,g7,g8,g0,g4,g5,g6,g18,g19,g20,g51,g52,H⟩;rw[Q1 g7,Q1 g8,Q1 g0,Q1 g4,Q1 g5,Q1 g6,Q1 g18,Q1 g19,Q1 g20,Q1 g51,Q1 g52];replace H:=Js [7,7,0,0,0,0,0,0,0,0,0,0,0,0,0,0,0] 0 H;obtain⟨bk,sk,rfl,H,UV⟩:=VY H (by omega);obtain⟨bt,st,rfl,H,R9⟩:=VY H.swap (by omega);refine J1 H ?_;intro w H;refine JQ H ?_;refine Vz 4 [19] H rfl (Q8.of rfl rfl rfl) rfl (by repeat first|exact .nil _|apply QY.cons rfl) (by kernel_rfl) ?_;refine F9 H ?_;refine Jl 8 [19] H ?_;refine Ja 9 ?_;refine Ji 10 ?_;refine Y2 11 [19] H rfl (Q8.of rfl rfl rfl) rfl (Gb Xj) (by kernel_rfl) ?_;refine Dg H ?_;refine Jf 14 ?_;refine Jl 15 [19] H ?_;refine Ja 16 ?_;refine Ji 17 ?_;refine Y2 18 [19] H rfl (Q8.of rfl rfl rfl) rfl (Gb WO) (by kernel_rfl) ?_;replace H:=Js [13,15,0,0,0,0,0,0,0,0,0,0,0,0,0,0,0] 0 H;refine Jo 19 H ?_;refine Jk rfl rfl (Cn _ _ H) ?_;rintro v w ⟨rfl,H⟩;refine Ja 20 ?_;refine Ja 21 ?_;refine Ax H ?_;replace H:=Js [2,2,0,0,0,0,0,0,0,0,0,0,0,0,0,0,0] 0 H;replace H:=R9 _ _ H;replace H:=UV _ _ H.swap;replace H:=Js [5,5,5,5,5,5,0,0,3,3,3,3,0,2,2,0] 1 H;refine J3 H ?_;exact⟨_,⟨rfl,j+1,ZS,rfl,rfl,rfl,rfl,rfl,rfl,rfl,rfl,Qg (by omega),H⟩,by omega⟩
      | false=>
       refine FF H ?_;have Us:Vr m i j false=0:=by rw[K9 hv];unfold Qb;rw[if_neg (by omega),Int.toNat_natCast,if_neg (fun h=>h hb)]
       have E9:=getElem?_eq_getElem ZS;have Tz:x.w.getD j 0=x.w[j]:=by rw[getD_eq_getElem?_getD,E9];rfl
       have h1:KV s k g j=(x.w.getD j 0,0):=by
        rcases iM R GZ j with ⟨h0,_⟩|⟨_,n',j',x',e1,e2,e3,_,e5⟩
        ·exact absurd Us h0
        ·obtain rfl:n'=i:=by omega
         obtain rfl:j'=j:=by omega
         rw[hx] at e3;injection e3 with e3
         subst e3;exact e5
       rw[Tz] at h1;generalize x.w[j]=y at E9 h1;replace H:=Js [13,0,0,0,0,0,0,0,0,0,0,0,0,0,0,0] 0 H;refine J1 H ?_;intro w H;refine FA H ?_;refine Ij H ?_;refine Ja 5 ?_;refine Jo 6 H ?_;refine Jk rfl rfl (iZ c s k g j H) ?_;rintro v w ⟨rfl,H⟩;rw[h1];refine KJ H ?_;replace H:=Js [6,0,0,0,0,0,0,0,0,0,0,0,0,0,0,0] 0 H;obtain⟨bW,sW,rfl,H,LP⟩:=VY H (by omega);refine Na H ?_;refine Ug H ?_;refine Qe rfl rfl rfl (X4 rfl rfl (by omega) (by omega) rfl ?_);refine Qe rfl rfl rfl (QC H rfl (Ng E9) rfl ?_);refine Zq H ?_;rw[show ((y:Int) != (y:Int))=false by simp];refine YT H ?_;replace H:=LP _ _ H;replace H:=Js [2,2,2,2,2,0,1,1,1,1,1,1,1,0,0,0] 0 H;refine J3 H ?_;exact⟨_,⟨rfl,j+1,ZS,rfl,rfl,rfl,rfl,rfl,rfl,rfl,rfl,Qg (by omega),H⟩,by omega⟩
     ·exact⟨rfl,rfl,rfl,rfl,rfl,rfl,H⟩
    rintro ms σ w ⟨rfl,g0,g18,g19,g20,H⟩;rw[Q1 g0,Q1 g18,Q1 g19,Q1 g20];replace H:=tn _ _ H;replace H:=Js [2,2,2,2,2,2,0,0,0,0] 0 H;replace H:=K8 hx (QU _ _ _ V7 H);refine J3 H ?_;replace H:=Js [4,1,1,0] 1 H;exact⟨_,⟨rfl,i+1,Q6,rfl,rfl,rfl,rfl,Qg (by omega),H⟩,by omega⟩
  ·exact⟨rfl,rfl,rfl,H⟩
 rintro ms σ w ⟨rfl,g0,H⟩;rw[Q1 g0];replace H:=Js [3,0,0,0] 0 H;obtain⟨t,lc,oc,aL,cL,aO,cO,hm,h2,h3,Ys,Vu,H⟩:=GI H;have Bh:=hm.P.2;replace H:=Js [1,0,0,0,0,0,0,0,0] 0 H;refine Fg H ?_;refine Jc rfl rfl (JO t m.P (by omega) H) ?_;intro v w H;obtain⟨aA,cA,rfl⟩:=QI H (QM _) (by decide);refine X7 H ?_;intro b136 w H;replace H:=H.swap
 have I5:(V5 m.P).length≤100000:=by
  have:(V5 m.P).length≤m.P.length:=OZ m.P _ _;omega
 refine Q5 rfl (ZY H rfl rfl (by repeat first|exact .nil _|apply QY.cons rfl) rfl (by decide) (by rw[QM];simp only[length_cons,length_nil];omega) rfl rfl ?_);intro vS w H;have e1:QH (V5 m.P)++[.int .i64 0]=QH (V5 m.P++[0]):=by rw[BU];rfl
 rw[e1] at H
 have ja:∀ x∈V5 m.P++[0],((x:Nat):Int)=0∨(QV s.par ((x:Nat):Int)).isSome=true:=by
  intro x hx
  rcases mem_append.1 hx with hx|hx
  ·right;obtain⟨qq,q1,q2,q3⟩:=LA.1 hx;rw[(YP R.nd).2 ((R.tree x qq).2 ⟨x,rfl,q2,q1,q3⟩)];rfl
  ·left;simp at hx;omega
 have OS:(V5 m.P++[0]).length≤100001:=by simp;omega
 generalize V5 m.P++[0]=L at H ja OS;obtain⟨aS,cS,rfl⟩:=QI H (QM L) (by decide);refine WU H ?_;replace H:=Js [0,1,1,1,1,1,1,1,1,1] 1 H;refine J6 H ?_;refine Qt (fun ms σ w=>ms=[]∧σ 0=pp p∧Q0 w (NL (.slice aS L.length cS) L::Vi t m.P::pts mo (row 58 [pp t,.slice aL m.lays.length cL,.slice aO m.objs.length cO])::QF 102 4 (.slice aL m.lays.length cL) (Vf lc)::star (lc.map Yq)::QF 77 1 (.slice aO m.objs.length cO) (oc.map fun x=>pp x.ptr)::star (oc.map Zm)::V8 (.slice a told.length cap) told::Y8 p c mo (.slice a told.length cap)::QD c s::fr)) ?_ ?_
 ·refine Qd ?_;refine Qp (fun ms σ w n=>ms=[]∧∃ i:Nat,i≤L.length∧n=L.length - i∧σ 0=pp p∧σ 137 = .slice aS L.length cS∧σ 138 = .int .i64 L.length∧σ 139 = .int .i64 i∧Q0 w (NL (.slice aS L.length cS) L::Vi t m.P::pts mo (row 58 [pp t,.slice aL m.lays.length cL,.slice aO m.objs.length cO])::QF 102 4 (.slice aL m.lays.length cL) (Vf lc)::star (lc.map Yq)::QF 77 1 (.slice aO m.objs.length cO) (oc.map fun x=>pp x.ptr)::star (oc.map Zm)::V8 (.slice a told.length cap) told::Y8 p c mo (.slice a told.length cap)::QD c s::fr)) (m:=L.length) ⟨rfl,0,by omega,rfl,rfl,rfl,rfl,rfl,H⟩ ?_;rintro ms σ w n ⟨rfl,i,hi,rfl,g0,g137,g138,g139,H⟩;rw[Q1 g0,Q1 g137,Q1 g138,Q1 g139];refine J7 H ?_;refine Qk rfl (fun h=>QE ?_) (fun h=>Qu ?_)
  ·have Q6:i < L.length:=by omega
   have hn:=getElem?_eq_getElem Q6;generalize L[i]=id at hn;have Qx:=ja id (mem_of_getElem? hn);obtain⟨bA,sA,rfl,H,tu⟩:=VY H (by omega);refine Z8 H ?_;refine Jd ?_;refine Q5 rfl (QC H rfl (Gb hn) rfl ?_);refine J0 H ?_;replace H:=tu _ _ H;replace H:=Js [9,0,0,0,0,0,0,0,0,0] 0 H;obtain⟨q,mem,VB,Gy,H⟩:=YQ H;replace H:=Js [5,0,0,0,0,0,0,0,0,0,0,0,0,0,0,0,0,0,0,0] 0 H;refine Iu H ?_;refine Jc rfl rfl (gf q.trp s.last s.par id Qx (by have:=VB.par.1;omega) H) ?_;rintro v w ⟨u,K,rfl,tv,jb,H⟩;obtain⟨aK,cK,rfl⟩:=QI H (YZ K) (by decide);refine Gt H ?_;have R7:=tm R (id:=id) (by omega) tv jb;replace H:=Js [2,2,2,2,2,1,1,1,1,1,1,0,0,0,0,0,0,0,0,0,0] 0 H;replace H:=VM VB Gy H;replace H:=Js [3,0,0,0,0,0,0,0,0,0,0] 0 H;refine Na H ?_;refine Ug H ?_;refine Ug H ?_;refine Qe rfl rfl rfl (V3 (a:=[]) (b:=[]) rfl rfl (call (qx t m.P id (by omega) H) ?_));intro v2 w H;obtain⟨a2,c2,rfl⟩:=QI H (QM _) (by decide);replace H:=Js [3,0,0,0,0,0,0,0,0,0,0,0] 0 H;rw[tk _ (Cg m.P id)] at H;refine Qe rfl rfl rfl (V3 (a:=[]) (b:=[]) rfl rfl (call (OY _ _ K ((Cg m.P id).map fun x:Nat=>(x:Int)) (by rw[R7,length_map];have:(Cg m.P id).length≤m.P.length:=OZ m.P _ _;omega) H) ?_));rintro v w ⟨rfl,H⟩;rw[decide_eq_true R7];refine WQ H ?_;refine J3 H ?_;replace H:=Js [4,2,3,3,3,3,3,3,3,2] 2 H;exact⟨_,⟨rfl,i+1,Q6,rfl,rfl,rfl,rfl,Qg (by omega),H⟩,by omega⟩
  ·exact⟨rfl,rfl,rfl,H⟩
 rintro ms σ w ⟨rfl,g0,H⟩;rw[Q1 g0];replace H:=Js [9,0,0,0,0,0,0,0,0,0] 0 H;obtain⟨q,mem,VB,Gy,H⟩:=YQ H;replace H:=Js [5,0,0,0,0,0,0,0,0,0,0,0,0,0,0,0,0,0,0,0] 0 H;refine J1 H ?_;intro w H;refine YI H ?_;refine Jl 3 [7,15] H ?_;refine Ja 4 ?_;refine Jf 5 ?_;refine Jl 6 [7,15] H ?_;refine Iw H ?_;refine Jl 11 [15] H ?_;refine Ja 12 ?_;refine Jf 13 ?_;refine Jl 14 [15] H ?_;refine Jo 7 H ?_;refine Jk rfl rfl (JD q.trp s.last s.par H) ?_;rintro v w ⟨rfl,H⟩;replace H:=Js [12,0,0,0,0,0,0,0,0,0,0,0,0,0,0,0,0,0,0,0] 0 H;refine Jo 15 H ?_;refine Jk rfl rfl (JO t m.P (by omega) H) ?_;intro v w H;obtain⟨aA2,cA2,rfl⟩:=QI H (QM _) (by decide);refine Ap 16 rfl (Q8.none rfl) rfl (by kernel_rfl) ?_;refine Ja 17 ?_;rw[HK R,XK ((V5 m.P).length:Int)];refine Ja 18 ?_;refine Jx H ?_;replace H:=Js [3,3,3,3,3,2,2,2,2,2,2,1,2,2,2,2,2,2,2] 2 H;replace H:=VM VB Gy H;replace H:=Js [2,1,1,1,1,1,0,0,0] 0 H;replace H:=Zv hm h2 h3 H;replace H:=Js [3,1,0,0] 0 H;exact Q3 (Jy (Yw H) rfl fun w' H'=>⟨rfl,H'⟩)
theorem RJ {l:List Int} {s:List Value} {i:Nat} {x:Int} (h:l[i]? = some x):(Qm l++s)[0+i*1]? = some (.int .i64 x):=by
 have hi:=(List.getElem?_eq_some_iff.1 h).1;rw[Nat.zero_add,Nat.mul_one,getElem?_append_left (by rw[YZ];omega)];unfold Qm;rw[getElem?_map,h];rfl
theorem tz (l:List Int):(Qm l).all (·.oneCell')=true:=by simp[Qm,all_eq_true,Value.oneCell']
theorem u0 [Q4] (p last:Nat) (par:List (Int×Int)) (id:Int) (hT:ZK par) (Qx:(QV par id).isSome=true) (hl:par.length≤1000) {w:World} {fr:List Q2} (H:Q0 w (Qo p last par::fr)) :
  Calls Tryz.prog 117 #[pp p,.int .i64 id] w (ret fun v w'=>∃ u L,v = .tuple #[u,.int .i64 0]∧L.Nodup∧L.Pairwise (·≤·)∧(∀ c,c∈L↔UK par id c)∧L.length≤par.length∧Q0 w' (IL u L::Qo p last par::fr)):=by
 refine QQ Tryz.func117 rfl (by kernel_rfl) ?_;refine WR H ?_;refine Jc rfl rfl (Ss p last par id H) ?_;rintro v w ⟨rfl,H⟩;rw[if_pos Qx];refine Za H ?_;refine Z6 H ?_;refine X7 H ?_;intro b18 w H;refine J0 H ?_;replace H:Q0 w (IL _ [id]::_):=Rd (c:=Qm [id]) rfl H;refine J7 H ?_;refine Qt (fun ms σ w=>ms=[]∧∃ (l:List Int) (a:Option Addr) (c:Nat),Rx par id l l.length∧σ 7 = .slice a l.length c∧Q0 w (IL (.slice a l.length c) l::Qo p last par::fr)) ?_ ?_
 ·refine Qd ?_;refine Qp (fun ms σ w n=>ms=[]∧∃ (i:Nat) (l:List Int) (a:Option Addr) (c:Nat),Rx par id l i∧n=par.length - i∧σ 0=pp p∧σ 7 = .slice a l.length c∧σ 8 = .int .i64 i∧Q0 w (IL (.slice a l.length c) l::Qo p last par::fr)) (m:=par.length) ⟨rfl,0,[id],_,_,Rx.start par id,rfl,rfl,rfl,rfl,H⟩ ?_;rintro ms σ w n ⟨rfl,i,l,a,c,hB,rfl,g0,g7,g8,H⟩;rw[Q1 g0,Q1 g7,Q1 g8];have Cp:=hB.len Qx;have UN:=hB.le;refine B4 H ?_;refine Qk rfl (fun h=>QE ?_) (fun h=>Qu ?_)
  ·have Q6:i < l.length:=by omega
   have hx:=getElem?_eq_getElem Q6;have RT:=hB.desc _ (getElem_mem Q6);generalize l[i]=x at hx RT;obtain⟨bT,sT,rfl,H,QJ⟩:=VY H (by omega);refine DI H ?_;refine Jd ?_;refine Q5 rfl (QC H rfl (by simpa using RJ hx) rfl ?_);replace H:=QJ _ _ H;refine Jc rfl rfl (gf p last par x (.inr (RT.live Qx)) hl H.swap) ?_;rintro v w ⟨u,K,rfl,hK,jb,H⟩;obtain⟨au,mu,cu,rfl⟩:=VZ H;refine Gt H ?_
   have u5:∀ c,c∈K↔QV par c=some x:=fun c=>by
    rw[hK.mem_iff,mem_filter];unfold Xg;constructor
    ·rintro⟨_,h1⟩;simpa using h1
    ·intro h1;exact⟨mem_map.2 ⟨(c,x),KE h1,rfl⟩,by simpa using h1⟩
   have u6:K.Nodup:=hK.nodup_iff.2 (hT.nd.filter _);have Cq:=hB.step hT hx u6 u5;have Vu:=Cq.len Qx;rw[length_append] at Vu;refine J9 H ?_;replace H:=Js [0,1,0] 0 H;obtain⟨DK,H,u7,hCK⟩:=sls_rd H (YZ K) (by decide);replace H:=Js [1,0] 0 H;refine Q5 rfl (Pu H rfl rfl (u7 _) (tz K) (by rw[YZ,YZ];omega) rfl rfl ?_);intro v36 w H;rw[← Fx] at H;obtain⟨a36,c36,rfl⟩:=QI H (YZ _) (by decide);refine FR H ?_;replace H:=Js [0,1] 1 H;exact⟨_,⟨rfl,i+1,l++K,a36,c36,Cq,rfl,rfl,rfl,Qg (by omega),H⟩,by omega⟩
  ·have V0:i=l.length:=by omega
   subst V0;exact⟨rfl,rfl,l,a,c,hB,rfl,H⟩
 rintro ms σ w ⟨rfl,l,a,c,hB,g7,H⟩;rw[Q1 g7];have Cp:=hB.len Qx;refine Z6 H ?_;refine Jc rfl rfl (O7 _ l (by omega) H) ?_;rintro v w ⟨rfl,H⟩;refine DJ H ?_;have hp:(l.mergeSort fun x y=>decide (x≤y)).Perm l:=mergeSort_perm l _;refine Q3 (Jy H rfl fun w' H'=>⟨_,l.mergeSort fun x y=>decide (x≤y),rfl,hp.nodup_iff.2 hB.nd,?_,fun c=>?_,?_,H'⟩)
 ·have:=pairwise_mergeSort (le:=fun x y:Int=>decide (x≤y)) (fun a b c h1 h2=>by simp at *;omega) (fun a b=>by simp;omega) l;exact this.imp fun h=>by simpa using h
 ·rw[hp.mem_iff];exact hB.ends c
 ·rw[hp.length_eq];exact Cp
theorem u9 [Q4] (p last:Nat) (par:List (Int×Int)) (id:Int) (hT:ZK par) (Qx:(QV par id).isSome=true) (hl:par.length≤1000) {w:World} {fr:List Q2} (H:Q0 w (Qo p last par::fr)) :
  Calls Tryz.prog 55 #[pp p,.int .i64 id] w (ret fun v w'=>∃ u L,v = .tuple #[u,.int .i64 0]∧L.Nodup∧L.Pairwise (·≤·)∧(∀ c,c∈L↔UK par id c)∧L.length≤par.length∧Q0 w' (IL u L::Qo p last (L.foldl QO par)::fr)):=by
 refine QQ Tryz.func55 rfl (by kernel_rfl) ?_;refine WR H ?_;refine Jc rfl rfl (u0 p last par id hT Qx hl H) ?_;rintro v w ⟨u,L,rfl,h1,h2,h3,h4,H⟩;obtain⟨a,c,rfl⟩:=QI H (YZ _) (by decide);refine Gt H ?_;refine Z6 H ?_;refine FJ H ?_;refine Qt (fun ms σ w=>ms=[]∧σ 6 = .slice a L.length c∧σ 7 = .int .i64 0∧Q0 w (IL (.slice a L.length c) L::Qo p last (L.foldl QO par)::fr)) ?_ ?_
 ·refine Qd ?_;refine Qp (fun ms σ w n=>ms=[]∧∃ i:Nat,i≤L.length∧n=L.length - i∧σ 0=pp p∧σ 6 = .slice a L.length c∧σ 7 = .int .i64 0∧σ 16 = .slice a L.length c∧σ 17 = .int .i64 L.length∧σ 18 = .int .i64 i∧Q0 w (IL (.slice a L.length c) L::Qo p last ((L.take i).foldl QO par)::fr)) (m:=L.length) ⟨rfl,0,by omega,rfl,rfl,rfl,rfl,rfl,rfl,rfl,H⟩ ?_;rintro ms σ w n ⟨rfl,i,hi,rfl,g0,g6,g7,g16,g17,g18,H⟩;rw[Q1 g0,Q1 g6,Q1 g7,Q1 g16,Q1 g17,Q1 g18];refine J7 H ?_;refine Qk rfl (fun h=>QE ?_) (fun h=>Qu ?_)
  ·have Q6:i < L.length:=by omega
   have hx:=getElem?_eq_getElem Q6;generalize L[i]=x at hx;have Qi:L.take (i+1)=L.take i++[x]:=by rw[take_add_one,hx];rfl
   obtain⟨bT,sT,rfl,H,QJ⟩:=VY H (by omega);refine Z8 H ?_;refine Jd ?_;refine Q5 rfl (QC H rfl (by simpa using RJ hx) rfl ?_);refine J0 H ?_;replace H:=(QJ _ _ H).swap;obtain⟨bm,H⟩:=BC H;refine Vb H ?_;refine Q5 rfl (Ws (key:=x) H.swap rfl rfl Vp rfl ?_);intro w H;refine J2 H ?_;replace H:=AG H.swap;refine J3 H ?_;exact⟨_,⟨rfl,i+1,Q6,rfl,rfl,rfl,rfl,rfl,rfl,Qg (by omega),by rw[Qi,foldl_append];exact H.swap⟩,by omega⟩
  ·have V0:i=L.length:=by omega
   subst V0;rw[take_length] at H;exact⟨rfl,rfl,rfl,rfl,H⟩
 rintro ms σ w ⟨rfl,g6,g7,H⟩;rw[Q1 g6,Q1 g7];refine Db H ?_;exact Q3 (Jy H rfl fun w' H'=>⟨_,L,rfl,h1,h2,h3,h4,H'⟩)
theorem uQ [Q4] (v:Value) (l:List Int) (hs:l.Pairwise (· < ·)) (hl:l.length≤1000000) {w:World} {fr:List Q2} (H:Q0 w (IL v l::fr)) :
  Calls Tryz.prog 119 #[v] w (ret fun x w'=>x=v∧Q0 w' (IL v l::fr)):=by
 obtain⟨a,c,rfl⟩:=QI H (YZ l) (by decide);refine QQ Tryz.func119 rfl (by kernel_rfl) ?_;refine Vg H ?_;refine XN H ?_;by_cases h2:l.length < 2
 ·rw[show decide ((l.length:Int) < 2)=true from decide_eq_true (by omega)];refine G7 H ?_;exact Q3 (Jy H rfl fun w' H'=>⟨rfl,H'⟩)
 rw[show decide ((l.length:Int) < 2)=false from decide_eq_false (by omega)];refine Vk H ?_;refine J7 H ?_;refine Qt (fun ms σ w=>ms=[]∧σ 0 = .slice a l.length c∧Q0 w (IL (.slice a l.length c) l::fr)) ?_ ?_
 ·refine Qd ?_;refine Qp (fun ms σ w n=>ms=[]∧∃ k:Nat,1≤k∧k≤l.length∧n=l.length - k∧σ 0 = .slice a l.length c∧σ 3 = .int .i64 k∧Q0 w (IL (.slice a l.length c) l::fr)) (m:=l.length - 1) ⟨rfl,1,by omega,by omega,rfl,rfl,rfl,H⟩ ?_;rintro ms σ w n ⟨rfl,k,Xe,hk,rfl,g0,g3,H⟩;rw[Q1 g0,Q1 g3];refine B4 H ?_;refine Qk rfl (fun h=>QE ?_) (fun h=>Qu ?_)
  ·have Q6:k < l.length:=by omega
   have hx:=getElem?_eq_getElem Q6;have hy:=getElem?_eq_getElem (show k - 1 < l.length by omega);have Yy:=(pairwise_iff_getElem.1 hs) (k - 1) k (by omega) Q6 (by omega);generalize l[k]=x at hx Yy;generalize l[k - 1]=y at hy Yy;obtain⟨bT,sT,rfl,H,QJ⟩:=VY H (by omega);have ek:IntKind.i64.wrap ((k:Int) - 1)=((k - 1:Nat):Int):=by rw[Qh (by omega) (by omega)];omega
   refine Ip H ?_;intro w H;refine DB H ?_;refine Ji 2 ?_;refine Y2 3 [] H rfl (Q8.none rfl) rfl (by simpa using RJ hx) (by kernel_rfl) ?_;refine Ku H ?_;refine Ja 6 ?_;rw[ek];refine Ji 7 ?_;refine Y2 8 [] H rfl (Q8.none rfl) rfl (by simpa using RJ hy) (by kernel_rfl) ?_;refine Ja 9 ?_;rw[show (x == y)=false from by rw[beq_eq_false_iff_ne];omega];refine Jx H ?_;replace H:=QJ _ _ H;refine FG H ?_;exact⟨_,⟨rfl,k+1,by omega,Q6,rfl,rfl,Qg (by omega),H⟩,by omega⟩
  ·exact⟨rfl,rfl,rfl,H⟩
 rintro ms σ w ⟨rfl,g0,H⟩;rw[Q1 g0];refine J3 H ?_;exact Q3 (Jy H rfl fun w' H'=>⟨rfl,H'⟩)
theorem uV [Q4] {w:World} {v:Value} {l:List Nat} {fr:List Q2} (H:Q0 w (IL v (l.map fun x:Nat=>(x:Int))::fr)):Q0 w (NL v l::fr):=by
 show Q0 w (QF 3 1 v (QH l)::fr);rw[JL];exact H
def Ki (l m:List Nat):List Nat:=(l++m).mergeSort fun x y=>decide (x≤y)
theorem uY {l m:List Nat} {x:Nat}:x∈Ki l m↔x∈l∨x∈m:=by
 unfold Ki;rw[mem_mergeSort,mem_append]
theorem uZ (l m:List Nat):(Ki l m).length=l.length+m.length:=by
 unfold Ki;rw[length_mergeSort,length_append]
theorem jc {l m:List Nat} (hl:l.Pairwise (· < ·)) (hm:m.Pairwise (· < ·)) (hd:∀ x∈l,x∉m):(Ki l m).Pairwise (· < ·):=by
 have h1:(Ki l m).Pairwise (fun x y=>decide (x≤y)=true):=pairwise_mergeSort (fun a b c h1 h2=>by simp at *;omega) (fun a b=>by simp;omega) _
 have h2:(Ki l m).Nodup:=by
  unfold Ki;rw[(mergeSort_perm _ _).nodup_iff,nodup_append];exact⟨hl.imp fun h=>by omega,hm.imp fun h=>by omega,fun a ha b hb K2=>hd a ha (K2▸hb)⟩
 refine(h1.and h2).imp fun h=>?_;have:=h.1;have h3:_≠_:=h.2;simp at this;omega
theorem uG (l m:List Nat):(Ki l m).map (fun x:Nat=>(x:Int))=(((l++m).map fun x:Nat=>(x:Int)).mergeSort fun x y=>decide (x≤y)):=by
 unfold Ki;rw[map_mergeSort];intro a _ b _;simp
theorem uU [Q4] (p q:Nat) (l m:List Nat) (hl:l.Pairwise (· < ·)) (hm:m.Pairwise (· < ·)) (hd:∀ x∈l,x∉m) (Cp:l.length≤100000) (Zb:m.length≤100000) {w:World} {fr:List Q2} (H:Q0 w (VV p l::VV q m::fr)) :
  Calls Tryz.prog 57 #[pp p,pp q] w (ret fun v w'=>v = .tuple #[]∧Q0 w' (VV p (Ki l m)::VV q m::fr)):=by
 obtain⟨a,c,H⟩:=Cf H;replace H:=Js [2,0,0] 0 H;obtain⟨a',c',H⟩:=Cf H;refine QQ Tryz.func57 rfl (by kernel_rfl) ?_;refine F5 H ?_;refine Ez H ?_;refine Ik H ?_;replace H:=Js [3,2,0,0] 0 H;obtain⟨D1,H,Y5,Vo⟩:=sls_rd H (QM l) (by decide);replace H:=Js [3,1,1,0] 0 H;obtain⟨D2,H,Zl,ZU⟩:=sls_rd H (QM m) (by decide);refine J1 H ?_;intro w H;refine WX H ?_;refine F9 H ?_;refine Jl 8 [] H ?_;replace H:=Js [3,0,0,0] 0 H;refine Jo 4 H ?_;refine Jk rfl rfl (JK _ l (by omega) (Y5 _) H) ?_;intro v15 w H;obtain⟨a15,c15,rfl⟩:=QI H (QM l) (by decide);refine Jo 9 H ?_;refine Pu H rfl rfl ((Zl _).there) (by simp[QH,all_eq_true,Value.oneCell']) (by rw[QM,QM];omega) rfl rfl ?_;intro v20 w H;rw[← BU,JL] at H;obtain⟨a20,c20,rfl⟩:=QI (m:=l.length+m.length) H (by rw[YZ,length_map,length_append]) (by decide);refine Ja 10 ?_;refine Jx H ?_;refine Z6 H ?_;refine Jc rfl rfl (O7 (.slice a20 (l.length+m.length) c20) ((l++m).map fun x:Nat=>(x:Int)) (by rw[length_map,length_append];omega) H) ?_;rintro v w ⟨rfl,H⟩;refine J2 H ?_;rw[← uG] at H;have uX:=jc hl hm hd;have ZS:=uZ l m;refine J9 H ?_;refine Jc rfl rfl (uQ (.slice a20 (l.length+m.length) c20) ((Ki l m).map fun x:Nat=>(x:Int)) (List.Pairwise.map _ (fun a b h=>by omega) uX) (by rw[length_map];omega) H) ?_;rintro v w ⟨rfl,H⟩;refine XO H ?_;intro w H;refine J2 H ?_;replace H:=uV H;replace H:=Js [2,3,2,0] 1 H;replace H:=ZU _ _ H;replace H:=Js [2,2,1,0] 0 H;replace H:=AW H;replace H:=AW (Q0.sel [1,1,0] 0 H);exact Z2 _ (.inl rfl) H.swap rfl fun w' H'=>⟨rfl,H'⟩
theorem uK [Q4] (a:Option Addr) (n c:Nat) {w:World} {fr:List Q2} (H:Q0 w fr) :
  Calls Tryz.prog 121 #[.slice a n c] w (ret fun v w'=>∃ b1,v = .func (.func 198) #[] #[pp b1]∧Q0 w' (pts b1 (row 31 [.slice a n c])::fr)):=by
 refine QQ Tryz.func121 rfl (by kernel_rfl) ?_;refine GW H ?_;intro b1 w H;refine ZZ H ?_;exact Q3 (Jy H rfl fun w' H'=>⟨_,rfl,H'⟩)
theorem OT [Q4] (p:Nat) (l:List Nat) (hl:l.length≤1000000) {w:World} {fr:List Q2} (H:Q0 w (VV p l::fr)) :
  Calls Tryz.prog 58 #[pp p] w (ret fun v w'=>∃ (b1:Nat) (a:Option Addr) (c:Nat),v = .func (.func 198) #[] #[pp b1]∧Q0 w' (pts b1 (row 31 [.slice a l.length c])::NL (.slice a l.length c) l::VV p l::fr)):=by
 obtain⟨a,c,H⟩:=Cf H;refine QQ Tryz.func58 rfl (by kernel_rfl) ?_;refine A1 H ?_;obtain⟨D1,H,Y5,Vo⟩:=sls_rd H.swap (QM l) (by decide);refine Jc rfl rfl (JK _ l hl (Y5 _) H) ?_;intro v w H;obtain⟨a9,c9,rfl⟩:=QI H (QM l) (by decide);refine Jc rfl rfl (uK a9 l.length c9 H) ?_;rintro v w ⟨b1,rfl,H⟩;refine J0 H ?_;replace H:=Js [2,0,0,0] 0 H;replace H:=Vo _ _ H;replace H:=Js [3,0,0,0] 0 H;replace H:=AW H;replace H:=Js [1,1,0] 0 H;exact Q3 (Jy H rfl fun w' H'=>⟨_,a9,c9,rfl,H'⟩)
theorem Oa [Q4] (yl b1:Nat) (a:Option Addr) (c:Nat) (l:List Nat) (hl:l.length≤1000000) (J:List Nat→Q2) {w:World} {fr:List Q2}
  (hy:∀ (ks:List Nat) (k:Nat) (t:List Nat) (rest:List Q2) (w:World),l=ks++k::t→Q0 w (J ks::rest)→SL.Yields Tryz.prog yl #[.int .i64 k] w (fun v w'=>v = .bool true∧Q0 w' (J (ks++[k])::rest)))
  (H:Q0 w (J []::pts b1 (row 31 [.slice a l.length c])::NL (.slice a l.length c) l::fr)) :
  Calls Tryz.prog 198 #[.func (.yield yl) #[] #[],pp b1] w (ret fun _ w'=>Q0 w' (J l::pts b1 (row 31 [.slice a l.length c])::NL (.slice a l.length c) l::fr)):=by
 refine QQ Tryz.func198 rfl (by kernel_rfl) ?_;refine UJ H ?_;refine B7 H ?_;refine Qp (fun ms σ w n=>ms=[]∧∃ i:Nat,i≤l.length∧n=l.length - i∧σ 0 = .func (.yield yl) #[] #[]∧σ 5 = .slice a l.length c∧σ 6 = .int .i64 l.length∧σ 7 = .int .i64 i∧Q0 w (J (l.take i)::pts b1 (row 31 [.slice a l.length c])::NL (.slice a l.length c) l::fr)) (m:=l.length) ⟨rfl,0,by omega,rfl,rfl,rfl,rfl,rfl,H⟩ ?_;rintro ms σ w n ⟨rfl,i,hi,rfl,g0,g5,g6,g7,H⟩;rw[Q1 g0,Q1 g5,Q1 g6,Q1 g7];refine J7 H ?_;refine Qk rfl (fun h=>QE ?_) (fun h=>Qu ?_)
 ·have Q6:i < l.length:=by omega
  have hx:=getElem?_eq_getElem Q6;have Yz:l=l.take i++l[i]::l.drop (i+1):=by rw[getElem_cons_drop,take_append_drop]
  have Qi:l.take (i+1)=l.take i++[l[i]]:=by rw[take_add_one,hx];rfl
  generalize l[i]=x at hx Yz Qi;replace H:=Js [2,0,0] 0 H;obtain⟨bT,sT,rfl,H,QJ⟩:=VY H (by omega);refine Z8 H ?_;refine Jd ?_;refine Q5 rfl (QC H rfl (Gb hx) rfl ?_);refine J0 H ?_;replace H:=QJ _ _ H;refine J9 H ?_;replace H:=Js [1,1,0] 0 H;refine Q5 rfl (By rfl rfl (SL.Yields.mono (hy _ x _ _ _ Yz H) ?_));rintro v w ⟨rfl,H⟩;rw[← Qi] at H;refine BV H ?_;exact⟨_,⟨rfl,i+1,Q6,rfl,rfl,rfl,rfl,Qg (by omega),H⟩,by omega⟩
 ·have V0:i=l.length:=by omega
  subst V0;rw[take_length] at H;exact Z2 _ (.inl rfl) H rfl fun w' H'=>H'
def Xq (n x:Nat):List Nat:=(List.range n).filter fun i=>x.testBit i
theorem jd {x a e:Nat} (h:a≤e) (h0:∀ i,a≤i→i < e→x.testBit i=false):Xq e x=Xq a x:=by
 obtain⟨d,rfl⟩:∃ d,e=a+d:=⟨e - a,by omega⟩;unfold Xq
 have h2:((List.range d).map (a+·)).filter (fun i=>x.testBit i)=[]:=by
  refine filter_eq_nil_iff.2 fun i hi=>?_;obtain⟨j,hj,rfl⟩:=mem_map.1 hi;have:=mem_range.1 hj;rw[h0 (a+j) (by omega) (by omega)];decide
 rw[range_add,filter_append,h2,append_nil]
theorem je {x a:Nat} (h:x.testBit a=true):Xq (a+1) x=Xq a x++[a]:=by
 unfold Xq;rw[range_succ,filter_append,filter_cons,if_pos h];rfl
theorem uR {x a n:Nat} (h:a < n) (hx:x.testBit a=true):∃ t,Xq n x=Xq a x++a::t:=by
 obtain⟨d,rfl⟩:∃ d,n=(a+1)+d:=⟨n - (a+1),by omega⟩;refine⟨((List.range d).map (a+1+·)).filter fun i=>x.testBit i,?_⟩;have h1:=je hx;unfold Xq at h1 ⊢;rw[range_add,filter_append,h1,append_assoc];rfl
theorem uW [Q4] (p:Nat) {w:World} {fr:List Q2} (H:Q0 w fr) :
  Calls Tryz.prog 109 #[pp p] w (ret fun v w'=>∃ b1,v = .func (.func 181) #[] #[pp b1]∧Q0 w' (pts b1 (row 139 [pp p])::fr)):=by
 refine QQ Tryz.func109 rfl (by kernel_rfl) ?_;refine GW H ?_;intro b1 w H;refine ZZ H ?_;exact Q3 (Jy H rfl fun w' H'=>⟨_,rfl,H'⟩)
theorem uA [Q4] (yl b1 p n x m:Nat) (hb:Gu n x) (J:List Nat→Q2)
  {w:World} {fr:List Q2} [hT:Z5 0 Lib.deBruijn64tab fr]
  (hy:∀ (ks:List Nat) (i:Nat) (rest:List Q2) (w:World),i < n→x.testBit i=true→(∃ t,Xq n x=ks++i::t)→Q0 w (J ks::BM p n [x] m::rest)→SL.Yields Tryz.prog yl #[.int .i64 i] w (fun v w'=>v = .bool true∧Q0 w' (J (ks++[i])::BM p n [x] m::rest)))
  (H:Q0 w (J []::pts b1 (row 139 [pp p])::BM p n [x] m::fr)) :
  Calls Tryz.prog 181 #[.func (.yield yl) #[] #[],pp b1] w (ret fun _ w'=>Q0 w' (J (Xq n x)::pts b1 (row 139 [pp p])::BM p n [x] m::fr)):=by
 have VS:=hb.le;refine QQ Tryz.func181 rfl (by kernel_rfl) ?_;refine UJ H ?_;refine NJ H ?_;refine CB H ?_;replace H:=Js [2,1,0] 0 H;refine UJ H ?_;refine Jc rfl rfl (Sc p n x 0 m hb (by omega) H) ?_;rintro v w ⟨⟨a,rfl,_,ha,h0,h1⟩,H⟩;refine J0 H ?_;have e0:J []=J (Xq a x):=by rw[jd (Nat.zero_le a) h0];rfl
 rw[e0] at H;clear e0 h0;refine Uh H ?_;refine Qp (fun ms σ w z=>ms=[]∧∃ a:Nat,a≤n∧(a < n→x.testBit a=true)∧z=n - a∧σ 0 = .func (.yield yl) #[] #[]∧σ 1=pp b1∧σ 3 = .int .i64 a∧Q0 w (BM p n [x] m::pts b1 (row 139 [pp p])::J (Xq a x)::fr)) (m:=n - a) ⟨rfl,a,ha,h1,rfl,rfl,rfl,rfl,H⟩ ?_;rintro ms σ w z ⟨rfl,a,ha,h1,rfl,g0,g1,g3,H⟩;rw[Q1 g0,Q1 g1,Q1 g3];obtain⟨v,H⟩:=Nm H;refine Z6 H ?_;refine WY H ?_;refine Jv ?_;refine Gs H ?_;refine J0 H ?_;replace H:=JZ H;refine J6 H ?_;refine Qk rfl (fun h=>QE ?_) (fun h=>Qu ?_)
 ·have Q6:a < n:=by omega
  refine A4 H ?_;replace H:=Js [2,0,0] 0 H;refine Q5 rfl (By rfl rfl (SL.Yields.mono (hy (Xq a x) a _ _ Q6 (h1 Q6) (uR Q6 (h1 Q6)) H) ?_));rintro v w ⟨rfl,H⟩;refine YT H ?_;rw[← je (h1 Q6)] at H;replace H:=Js [1,1,0] 0 H;refine UJ H ?_;refine ZT H ?_;rw[show IntKind.i64.wrap ((a:Int)+1)=((a+1:Nat):Int) by rw[Qh (by omega) (by omega)];omega];refine Jc rfl rfl (Sc p n x (a+1) m hb (by omega) H) ?_;rintro v w ⟨⟨e,rfl,h2,h3,h4,h5⟩,H⟩;refine J0 H ?_;rw[← jd h2 h4] at H;exact⟨_,⟨rfl,e,h3,h5,rfl,rfl,rfl,rfl,H⟩,by omega⟩
 ·have V0:a=n:=by omega
  subst V0;replace H:=Js [2,1,0] 0 H;exact Z2 _ (.inl rfl) H rfl fun w' H'=>H'
structure TQ where
 b:Nat
 c:Nat
 s:List Value
 u:Nat
 x:Nat
def U5 (p:Nat) (ts:List QW) (q:TQ):Q2:=star [prop (XU ts q.x∧ts.length≤q.c),pts p (row 144 [.slice (some ⟨q.b,0,none⟩) ts.length q.c,pp q.u,.int .i64 (ZI ts)]),pts q.b (row 199 (ts.flatMap Y9++q.s)),Ga q.u ts.length q.x]
theorem Cr [Q4] {w:World} {p:Nat} {ts:List QW} {b c:Nat} {s:List Value} {u x:Nat} {l:List Q2} (H:Q0 w (U5 p ts ⟨b,c,s,u,x⟩::l)):XU ts x∧ts.length≤c ∧
  Q0 w (pts p (row 144 [.slice (some ⟨b,0,none⟩) ts.length c,pp u,.int .i64 (ZI ts)])::pts b (row 199 (ts.flatMap Y9++s))::Ga u ts.length x::l) ∧
  ∀ w' l' ts' x',ts'=ts→x'=x→XU ts x→Q0 w' (pts p (row 144 [.slice (some ⟨b,0,none⟩) ts.length c,pp u,.int .i64 (ZI ts)])::pts b (row 199 (ts.flatMap Y9++s))::Ga u ts.length x::l')→Q0 w' (U5 p ts ⟨b,c,s,u,x⟩::l'):=by
 have H:=Q0.star.1 H;obtain⟨h,H⟩:=Q0.prop.1 H;exact⟨h.1,h.2,H,fun w' l' ts' x' _ _ _ H'=>Q0.star.2 (Q0.prop.2 ⟨h,H'⟩)⟩
theorem jf [Q4] {w:World} {p:Nat} {ts:List QW} {l:List Q2} (H:Q0 w (Qr p ts::l)):∃ q,Q0 w (U5 p ts q::l)∧∀ w' l',Q0 w' (U5 p ts q::l')→Q0 w' (Qr p ts::l'):=by
 obtain⟨b,c,s,u,x,QK,hc,H,QU⟩:=BP H;refine⟨⟨b,c,s,u,x⟩,Q0.star.2 (Q0.prop.2 ⟨⟨QK,hc⟩,H⟩),fun w' l' H'=>?_⟩;obtain⟨_,_,H',_⟩:=Cr H';exact QU _ _ ts x rfl rfl QK H'
theorem uB [Q4] (p:Nat) (ts:List QW) (q:TQ) (i g:Int) {w:World} {fr:List Q2} (H:Q0 w (U5 p ts q::fr)) :
  Calls Tryz.prog 68 #[pp p,GJ i g] w (ret fun v w'=>v=(match Ql ts i g with|some (_,e) => .tuple #[.agg (YR e).toArray,.int .i64 0]|none => .tuple #[.agg #[.int .i64 0,.int .i64 0,.bool false,.bool false],.int .i64 8])∧Q0 w' (U5 p ts q::fr)):=by
 obtain⟨b,c,s,u,x⟩:=q;obtain⟨QK,hc,H,QU⟩:=Cr H;refine QQ Tryz.func68 rfl (by kernel_rfl) ?_;refine J8 H ?_;intro b3 w H;refine VO H ?_;intro b4 w H;refine B5 H ?_;replace H:=Js [2,2,0,0,0] 0 H;refine Jc rfl rfl (OR p b c u _ rfl ts s QK.bits.le i g H) ?_;rintro v w ⟨rfl,H⟩;cases hL:Ql ts i g with
 | some q=>
  obtain⟨k,e⟩:=q;obtain⟨n,rfl,rfl,hk⟩:=Z1.1 hL;have Qv:QY (ts.flatMap Y9++s) (k*6+2) 4 (YR e):=C7 (vs:=YR e) ZH hk (by repeat first|exact .nil _|apply QY.cons rfl);refine UI H ?_;refine NB H ?_;refine Q5 rfl (Vy H rfl Qv rfl ?_);refine J5 H ?_;intro w H;refine J0 H ?_;replace H:=Js [2,0,0,1] 1 H;exact Q3 (Jz H (fun w' H' => .cellN H' rfl (by repeat first|exact .nil _|apply QY.cons rfl) (.tmp .nil)) fun w' H'=>⟨rfl,QU _ _ ts x rfl rfl QK H'.drop⟩)
 | none=>
  refine Rk H ?_;refine Is H ?_;intro w H;refine J0 H ?_;replace H:=Js [2,0,0,1] 1 H;exact Q3 (Jz H (fun w' H' => .cellN H' rfl (by repeat first|exact .nil _|apply QY.cons rfl) (.tmp .nil)) fun w' H'=>⟨rfl,QU _ _ ts x rfl rfl QK H'.drop⟩)
theorem HB [Q4] (p:Nat) (ts:List QW) (q:TQ) (i g:Int) {w:World} {fr:List Q2} (H:Q0 w (U5 p ts q::fr)) :
  Calls Tryz.prog 68 #[pp p,GJ i g] w (ret fun v w'=>v=OD (Ql ts i g)∧Q0 w' (U5 p ts q::fr)):=
 call (uB p ts q i g H) fun v w h=>⟨by rw[h.1];cases Ql ts i g <;> rfl,h.2⟩
theorem uC [Q4] (p:Nat) (ts:List QW) (q:TQ) (k n:Nat) (e:Q9) (hk:ts[k]? = some ⟨n,some e⟩) {w:World} {fr:List Q2} (H:Q0 w (U5 p ts q::fr)) :
  Calls Tryz.prog 110 #[pp p,.int .i64 k] w (ret fun v w'=>v = .tuple #[Xz k n,.bool true]∧Q0 w' (U5 p ts q::fr)):=by
 obtain⟨b,c,s,u,x⟩:=q;obtain⟨QK,hc,H,QU⟩:=Cr H;have hb:=QK.bits.le;have VC:k < ts.length:=(List.getElem?_eq_some_iff.1 hk).1;have c1:(ts.flatMap Y9++s)[k*6+1]? = some (.bool true):=Ks ZH hk rfl;have c0:(ts.flatMap Y9++s)[k*6+0]? = some (.int .i64 n):=Ks ZH hk rfl;have ei:0+((k:Nat):Int).toNat*6=k*6:=by simp
 refine QQ Tryz.func110 rfl (by kernel_rfl) ?_;refine YN H ?_;intro b4 w H;refine J0 H ?_;refine F5 H ?_;refine KO H ?_;rw[show decide ((k:Int) < 0)=false from decide_eq_false (by omega)];refine ZT H ?_;refine Mm H ?_;rw[show decide ((k:Int)≥(ts.length:Int))=false from decide_eq_false (by omega)];refine CW H ?_;refine Qe rfl rfl rfl (X4 rfl rfl (by omega) (by omega) rfl ?_);rw[ei];refine F3 H ?_;refine Qe rfl rfl rfl (QC H rfl c1 rfl ?_);refine WQ H ?_;refine FI H ?_;refine Jd ?_;rw[ei];refine Dh H ?_;refine Q5 rfl (QC H rfl c0 rfl ?_);refine NC H ?_;intro w H;refine J0 H ?_;exact Q3 (Jz H (fun w' H' => .cellN H' rfl (by repeat first|exact .nil _|apply QY.cons rfl) (.tmp .nil)) fun w' H'=>⟨rfl,QU _ _ ts x rfl rfl QK H'.drop⟩)
theorem uD [Q4] (p:Nat) (ts:List QW) (q:TQ) (i:Int) (VK:¬ Used ts i) {w:World} {fr:List Q2} (H:Q0 w (U5 p ts q::fr)) :
  Calls Tryz.prog 110 #[pp p,.int .i64 i] w (ret fun v w'=>v = .tuple #[GJ 0 0,.bool false]∧Q0 w' (U5 p ts q::fr)):=by
 obtain⟨b,c,s,u,x⟩:=q;obtain⟨QK,hc,H,QU⟩:=Cr H;have hb:=QK.bits.le;refine QQ Tryz.func110 rfl (by kernel_rfl) ?_;refine YN H ?_;intro b4 w H;refine J0 H ?_;refine F5 H ?_;refine KO H ?_;by_cases h0:i < 0
 ·rw[show decide (i < 0)=true from decide_eq_true (by omega)];refine WK H ?_;refine B1 H ?_;refine WK H ?_;refine IP H ?_;refine B2 H ?_;intro w H;refine J0 H ?_;exact Q3 (Jz H (fun w' H' => .cellN H' rfl (by repeat first|exact .nil _|apply QY.cons rfl) (.tmp .nil)) fun w' H'=>⟨rfl,QU _ _ ts x rfl rfl QK H'.drop⟩)
 ·rw[show decide (i < 0)=false from decide_eq_false (by omega)];refine ZT H ?_;refine Mm H ?_;by_cases h1:i≥(ts.length:Int)
  ·rw[show decide (i≥(ts.length:Int))=true from decide_eq_true (by omega)];refine WK H ?_;refine IP H ?_;refine B2 H ?_;intro w H;refine J0 H ?_;exact Q3 (Jz H (fun w' H' => .cellN H' rfl (by repeat first|exact .nil _|apply QY.cons rfl) (.tmp .nil)) fun w' H'=>⟨rfl,QU _ _ ts x rfl rfl QK H'.drop⟩)
  ·rw[show decide (i≥(ts.length:Int))=false from decide_eq_false (by omega)];obtain⟨k,rfl⟩:∃ k:Nat,i=k:=⟨i.toNat,by omega⟩;have hk:=getElem?_eq_getElem (l:=ts) (i:=k) (by omega);generalize ts[k]=t at hk;obtain⟨g,e⟩:=t
   obtain rfl:e=none:=by
    cases e with
    | none=>rfl
    | some e=>exact absurd ⟨k,g,e,rfl,hk⟩ VK
   have c1:(ts.flatMap Y9++s)[k*6+1]? = some (.bool false):=Ks ZH hk rfl;have ei:0+((k:Nat):Int).toNat*6=k*6:=by simp
   refine CW H ?_;refine Qe rfl rfl rfl (X4 rfl rfl (by omega) (by omega) rfl ?_);rw[ei];refine F3 H ?_;refine Qe rfl rfl rfl (QC H rfl c1 rfl ?_);refine Zq H ?_;refine B2 H ?_;intro w H;refine J0 H ?_;exact Q3 (Jz H (fun w' H' => .cellN H' rfl (by repeat first|exact .nil _|apply QY.cons rfl) (.tmp .nil)) fun w' H'=>⟨rfl,QU _ _ ts x rfl rfl QK H'.drop⟩)
def XW (ts:List QW) (i:Nat):Bool:=match ts[i]? with
 | some ⟨_,some _⟩=>true
 | _=>false
theorem HC {ts:List QW} {i:Nat}:XW ts i=true↔∃ g e,ts[i]? = some ⟨g,some e⟩:=by
 unfold XW;split
 ·rename_i g e h;exact⟨fun _=>⟨g,e,h⟩,fun _=>rfl⟩
 ·rename_i h;exact⟨fun h=>(by cases h),fun ⟨g,e,h'⟩=>absurd h' (h g e)⟩
def Ut (ts:List QW):List Nat:=(List.range ts.length).filter (XW ts)
theorem jg {ts:List QW} {x:Nat} (h:XU ts x):(Xq ts.length x).filter (XW ts)=Ut ts:=by
 unfold Xq Ut;rw[filter_filter];refine filter_congr fun i hi=>?_;have hi:=mem_range.1 hi;have ht:=getElem?_eq_getElem hi;cases hu:XW ts i with
 | false=>rfl
 | true=>
  obtain⟨g,e,h1⟩:=HC.1 hu;rw[h.bit i _ h1];rfl
theorem jh [Q4] (p:Nat) {w:World} {fr:List Q2} (H:Q0 w fr) :
  Calls Tryz.prog 44 #[pp p] w (ret fun v w'=>∃ b1,v = .func (.func 108) #[] #[pp b1]∧Q0 w' (pts b1 (row 37 [pp p])::fr)):=by
 refine QQ Tryz.func44 rfl (by kernel_rfl) ?_;refine GW H ?_;intro b1 w H;refine ZZ H ?_;exact Q3 (Jy H rfl fun w' H'=>⟨_,rfl,H'⟩)
theorem ji [Q4] (yl b1 p:Nat) (ts:List QW) (q:TQ) (J:List Nat→Q2)
  {w:World} {fr:List Q2} [hT:Z5 0 Lib.deBruijn64tab fr]
  (hy:∀ (ks:List Nat) (k g:Nat) (e:Q9) (rest:List Q2) (w:World),ts[k]? = some ⟨g,some e⟩→(∃ t,Ut ts=ks++k::t)→Q0 w (J ks::U5 p ts q::rest)→SL.Yields Tryz.prog yl #[Xz k g,.agg (YR e).toArray] w (fun v w'=>v = .bool true∧Q0 w' (J (ks++[k])::U5 p ts q::rest)))
  (H:Q0 w (J []::pts b1 (row 37 [pp p])::U5 p ts q::fr)) :
  Calls Tryz.prog 108 #[.func (.yield yl) #[] #[],pp b1] w (ret fun _ w'=>Q0 w' (J (Ut ts)::pts b1 (row 37 [pp p])::U5 p ts q::fr)):=by
 obtain⟨b,c,s,u,x⟩:=q;refine QQ Tryz.func108 rfl (by kernel_rfl) ?_;refine GW H ?_;intro b2 w H;refine J2 H ?_;refine UJ H ?_;refine NJ H ?_;refine CB H ?_;replace H:=Js [3,2,1,0] 0 H;obtain⟨QK,hc,H,QU⟩:=Cr H;refine XP H ?_;refine Gs H ?_;refine Jc rfl rfl (uW u H) ?_;rintro v w ⟨bb,rfl,H⟩;refine CV H ?_;refine Qd (W9 (a:=[]) (b:=[pp bb]) H rfl (fun yl2 D w H=>?_));generalize hL:LR _ yl2 _ _ _ _ D .ready=L at H ⊢;obtain⟨J2,LI⟩:∃ J2:List Nat→Q2,J2=fun ks=>star [L,J (ks.filter (XW ts)),pts b1 (row 37 [pp p]),pts p (row 144 [.slice (some ⟨b,0,none⟩) ts.length c,pp u,.int .i64 (ZI ts)]),pts b (row 199 (ts.flatMap Y9++s)),pts b2 (row 195 [.func (.yield yl) #[] #[]])]:=⟨_,rfl⟩
 have VQ:∀ (ks:List Nat) (w:World) (l':List Q2),Q0 w (L::J (ks.filter (XW ts))::pts b1 (row 37 [pp p])::pts p (row 144 [.slice (some ⟨b,0,none⟩) ts.length c,pp u,.int .i64 (ZI ts)])::pts b (row 199 (ts.flatMap Y9++s))::pts b2 (row 195 [.func (.yield yl) #[] #[]])::l')→Q0 w (J2 ks::l'):=by
  intro ks w l' H;rw[LI];exact Q0.star.2 H
 have YB:∀ (ks:List Nat) (w:World) (l':List Q2),Q0 w (J2 ks::l')→Q0 w (L::J (ks.filter (XW ts))::pts b1 (row 37 [pp p])::pts p (row 144 [.slice (some ⟨b,0,none⟩) ts.length c,pp u,.int .i64 (ZI ts)])::pts b (row 199 (ts.flatMap Y9++s))::pts b2 (row 195 [.func (.yield yl) #[] #[]])::l'):=by
  intro ks w l' H;rw[LI] at H;exact Q0.star.1 H
 replace H:=Js [0,6,5,2,2,3,1,1,0] 0 H;replace H:=VQ [] _ _ H;refine call (uA yl2 bb u ts.length x _ QK.bits J2 ?_ H) ?_
 ·intro ks i rest w hi Uk Yd H;replace H:=YB _ _ _ H;obtain⟨t,Yd⟩:=Yd;have hu:=jg QK;rw[Yd,filter_append,filter_cons] at hu;have Zr:=fun (w:World) (rest:List Q2) (g:Nat) (e:Q9)=>hy (ks.filter (XW ts)) i g e rest w;subst hL;refine Kp (args:=[.int .i64 i]) H rfl rfl ?_;refine Vg H ?_;refine⟨rfl,_,H,fun w H=>Qd ?_⟩;replace H:=Js [3,3,4,2,0,0,0] 0 H;replace H:=QU _ _ ts x rfl rfl QK H;have EQ:=getElem?_eq_getElem hi;generalize ts[i]=ti at EQ;obtain⟨g,en⟩:=ti;refine XP H ?_;cases en with
  | some e=>
   have Ob:XW ts i=true:=HC.2 ⟨g,e,EQ⟩;rw[if_pos Ob] at hu;have Qv:QY (ts.flatMap Y9++s) (i*6+2) 4 (YR e):=C7 (vs:=YR e) ZH EQ (by repeat first|exact .nil _|apply QY.cons rfl);have ei:0+((i:Nat):Int).toNat*6=i*6:=by simp
   refine Jc rfl rfl (uC p ts ⟨b,c,s,u,x⟩ i g e EQ H) ?_;rintro v w ⟨rfl,H⟩;refine YC H ?_;intro b4 w H;refine J5 H ?_;intro w H;refine J0 H ?_;replace H:=Js [1,0,0,0,0,0] 0 H;obtain⟨_,_,H,_⟩:=Cr H;refine J1 H ?_;intro w H;refine DB H ?_;refine Jl 2 [12] H ?_;refine Vz 3 [12] H rfl (Q8.of rfl rfl rfl) rfl (by repeat first|exact .nil _|apply QY.cons rfl) (by kernel_rfl) ?_;refine Jl 4 [12] H ?_;refine Ja 5 ?_;refine Jf 6 ?_;refine Jl 7 [12] H ?_;refine Ja 8 ?_;refine Ji 9 ?_;rw[ei];refine Jf 10 ?_;refine Vz 11 [12] H rfl (Q8.of rfl rfl rfl) rfl Qv (by kernel_rfl) ?_;have Hc:=QU _ _ ts x rfl rfl QK H;replace Hc:=Js [4,0,0,0,0,0] 0 Hc;refine Jo 12 H ?_;refine By rfl rfl (SL.Yields.mono (Zr _ _ g e EQ ⟨_,hu.symm⟩ Hc) ?_);clear Hc;rintro v w ⟨rfl,H⟩;have he:(ks++[i]).filter (XW ts)=ks.filter (XW ts)++[i]:=by rw[filter_append,filter_cons,if_pos Ob];rfl
   rw[← he] at H;refine Rl H ?_;refine Vk H ?_;replace H:=Js [1,0,0,0,0,0] 0 H;obtain⟨_,_,H,_⟩:=Cr H;replace H:=Js [6,3,4,0,0,2,0] 1 H;exact⟨rfl,_,H,fun w H=>⟨rfl,VQ _ _ _ H⟩⟩
  | none=>
   have Ob:XW ts i=false:=by
    cases hu:XW ts i with
    | false=>rfl
    | true=>
     obtain⟨g',e',h1⟩:=HC.1 hu;rw[EQ] at h1;cases h1
   refine Q5 rfl (V3 (a:=[]) (b:=[]) rfl rfl (call (uD p ts ⟨b,c,s,u,x⟩ i (by
       rintro⟨k2,n2,e2,h1,h2⟩;obtain rfl:i=k2:=by omega
       rw[EQ] at h2;cases h2) H) ?_))
   rintro v w ⟨rfl,H⟩;refine YC H ?_;intro b4 w H;refine J5 H ?_;intro w H;refine Yn H ?_;refine Wu H mixed ?_;intro w H;refine DB H ?_;refine Jn 2 ?_;refine Jn 3 ?_;refine NR H ?_;refine Jn 12 ?_;have he:(ks++[i]).filter (XW ts)=ks.filter (XW ts):=by rw[filter_append,filter_cons,if_neg (by rw[Ob];decide)];exact append_nil _
   rw[← he] at H;refine Jn 13 ?_;refine Ja 14 ?_;refine Ax H ?_;replace H:=Js [1,0,0,0,0,0] 0 H;obtain⟨_,_,H,_⟩:=Cr H;replace H:=Js [5,5,4,0,0,2,0] 1 H;exact⟨rfl,_,H,fun w H=>⟨rfl,VQ _ _ _ H⟩⟩
 ·rintro v w H;replace H:=YB _ _ _ H;rw[jg QK] at H;subst hL;refine⟨_,H,fun w H=>?_⟩;replace H:=Js [2,2,4,4,0,0,0,0] 0 H;replace H:=QU _ _ ts x rfl rfl QK H;replace H:=Js [1,1,1,0] 2 H;exact Bx (ms:=[D]) _ (.inl rfl) ((Q0.star (k:=[pts D (.deferred (some []))])).2 H) rfl fun w' H'=>H'
theorem jj [Q4] (p:Nat) (q:Xk) (ts:List QW) (k n:Nat) (e:Q9) (hk:ts[k]? = some ⟨n,some e⟩) {w:World} {fr:List Q2} (H:Q0 w (Qr q.tp ts::VU p q::fr)) :
  Calls Tryz.prog 127 #[pp p,.int .i64 k] w (ret fun v w'=>v = .tuple #[.agg (YR e).toArray,.bool true]∧Q0 w' (Qr q.tp ts::VU p q::fr)):=by
 have hL:Ql ts k n=some (k,e):=Z1.2 ⟨n,rfl,rfl,hk⟩;refine QQ Tryz.func127 rfl (by kernel_rfl) ?_;refine YN H ?_;intro b4 w H;refine FE H ?_;replace H:=Js [1,0] 0 H;refine Vb H ?_;refine Jc rfl rfl (OA q.tp ts k n e hk H) ?_;rintro v w ⟨rfl,H⟩;refine YC H ?_;intro b6 w H;refine J5 H ?_;intro w H;refine Yn H ?_
 refine Qt (fun ms σ w=>ms=[]∧∃ b8,σ 4=pp b4∧σ 7 = .bool true∧σ 8=pp b8 ∧
   Q0 w (pts b4 (row 113 [.int .i64 0,.int .i64 0,.bool false,.bool false])::pts b8 (row 113 (YR e))::Qr q.tp ts::VU p q::fr)) ?_ ?_
 ·replace H:=Js [1,0] 0 H;refine J1 H ?_;intro w H;refine B8 H ?_;refine Jw 5 9 H rfl rfl (V3 (a:=[]) (b:=[]) rfl rfl (call (UZ q.tp ts k n H) ?_)) (YW H rfl ?_)
  ·rintro v w ⟨rfl,H⟩;rw[hL];refine B9 H ?_;intro b8 w H;refine A7 H ?_;intro w H;refine Uj H ?_;replace H:=Js [3,0,0,1] 1 H;exact⟨rfl,rfl,b8,rfl,rfl,rfl,H⟩
  ·intro b8 w H;refine Jo 5 H ?_;refine Jk rfl rfl (UZ q.tp ts k n H.swap) ?_;rintro v w ⟨rfl,H⟩;rw[hL];refine CC H ?_;intro w H;refine Uj H ?_;replace H:=Js [3,1,0,1] 1 H;exact⟨rfl,rfl,b8,rfl,rfl,rfl,H⟩
 ·rintro ms σ w ⟨rfl,b8,g4,g7,g8,H⟩;rw[Q1 g4,Q1 g7,Q1 g8];refine B6 H ?_;intro w H;refine J0 H ?_;exact Q3 (Jz H (fun w' H' => .cellN H' rfl (by repeat first|exact .nil _|apply QY.cons rfl) (.tmp .nil)) fun w' H'=>⟨rfl,H'.drop.drop⟩)
theorem aX [Q4] (p:Nat) (q:Xk) (ts:List QW) (k n:Nat) (e:Q9) (hk:ts[k]? = some ⟨n,some e⟩) {w:World} {fr:List Q2} (H:Q0 w (Qr q.tp ts::VU p q::fr)) :
  Calls Tryz.prog 60 #[pp p,.int .i64 k] w (ret fun v w'=>v = .tuple #[Xz k n,.agg (YR e).toArray]∧Q0 w' (Qr q.tp ts::VU p q::fr)):=by
 have hL:Ql ts k n=some (k,e):=Z1.2 ⟨n,rfl,rfl,hk⟩;refine QQ Tryz.func60 rfl (by kernel_rfl) ?_;refine YN H ?_;intro b4 w H;refine VO H ?_;intro b5 w H;refine J2 H ?_;replace H:=Js [2,0,0] 0 H;refine Vb H ?_;refine Jc rfl rfl (OA q.tp ts k n e hk H) ?_;rintro v w ⟨rfl,H⟩;refine YC H ?_;intro b6 w H;refine J5 H ?_;intro w H;refine Yn H ?_
 refine Qt (fun ms σ w=>ms=[]∧∃ b8,σ 4=pp b4∧σ 5=pp b5∧σ 6=pp b6∧σ 8=pp b8 ∧
   Q0 w (pts b4 (row 69 [.int .i64 0,.int .i64 0])::pts b5 (row 113 [.int .i64 0,.int .i64 0,.bool false,.bool false])::pts b8 (row 113 (YR e))::pts b6 (row 69 [.int .i64 k,.int .i64 n])::Qr q.tp ts::VU p q::fr)) ?_ ?_
 ·replace H:=Js [1,0] 0 H;refine J1 H ?_;intro w H;refine B8 H ?_;refine Jw 5 9 H rfl rfl (V3 (a:=[]) (b:=[]) rfl rfl (call (UZ q.tp ts k n H) ?_)) (YW H rfl ?_)
  ·rintro v w ⟨rfl,H⟩;rw[hL];refine B9 H ?_;intro b8 w H;refine A7 H ?_;intro w H;refine Uj H ?_;replace H:=Js [4,3,0,1,0,0] 0 H;exact⟨rfl,rfl,b8,rfl,rfl,rfl,rfl,H⟩
  ·intro b8 w H;refine Jo 5 H ?_;refine Jk rfl rfl (UZ q.tp ts k n H.swap) ?_;rintro v w ⟨rfl,H⟩;rw[hL];refine CC H ?_;intro w H;refine Uj H ?_;replace H:=Js [4,3,1,1,0,0] 0 H;exact⟨rfl,rfl,b8,rfl,rfl,rfl,rfl,H⟩
 ·rintro ms σ w ⟨rfl,b8,g4,g5,g6,g8,H⟩;rw[Q1 g4,Q1 g5,Q1 g6,Q1 g8];refine J1 H ?_;intro w H;refine Vz 0 [2,3] H rfl (Q8.none rfl) rfl (by repeat first|exact .nil _|apply QY.cons rfl) (by kernel_rfl) ?_;refine Vz 1 [3] H rfl (Q8.none rfl) rfl (by repeat first|exact .nil _|apply QY.cons rfl) (by kernel_rfl) ?_;refine Jo 2 H ?_;refine KM H ?_;intro w H;refine Jo 3 H ?_;refine KM H ?_;intro w H;refine Jx H ?_;exact Q3 (Jz H (fun w' H' => .cellN H' rfl (by repeat first|exact .nil _|apply QY.cons rfl) (.cellN H' rfl (by repeat first|exact .nil _|apply QY.cons rfl) .nil)) fun w' H'=>⟨rfl,H'.drop.drop.drop.drop⟩)
theorem uE [Q4] {w:World} {b m E:Nat} {l l':List Int} {s:List Value} {fr:List Q2} (H:Q0 w (pts b (row E (Qm l++s))::fr)) (hl:l'.length=l.length) :
  Q0 (Go.Sort.putRow (Value.int .i64) (Go.Sort.ahead w m) b 0 l'.toArray) (pts b (row E (Qm l'++s))::fr):=by
 have hb:=H.pts;have e1:(Go.Sort.putRow (Value.int .i64) (Go.Sort.ahead w m) b 0 l'.toArray).heap=w.heap.modify b (Go.Sort.onCells (Go.Sort.putCells (Value.int .i64) 0 l'.toArray)):=rfl;refine H.set ?_ ?_
 ·rw[e1,Array.getElem?_modify,if_pos rfl,hb];simp only[Option.map_some,row,Go.Sort.onCells];congr 2;apply Array.ext';apply ext_getElem?;intro t;simp only[Go.Sort.putCells,Array.getElem?_toList,Array.getElem?_mapIdx,getElem?_toArray,Nat.zero_le,true_and,Nat.zero_add,Nat.sub_zero,size_toArray];have l1:(Qm l).length=l.length:=by simp[Qm]
  have l2:(Qm l').length=l.length:=by simp[Qm,hl]
  by_cases ht:t < l.length
  ·rw[getElem?_append_left (by omega),getElem?_append_left (by omega)];have WJ:t < l'.length:=by omega
   simp only[Qm,getElem?_map,getElem?_eq_getElem ht,getElem?_eq_getElem WJ,Option.map_some,if_pos WJ];rw[getElem!_pos _ t (by simpa using WJ)];simp
  ·rw[getElem?_append_right (by omega),getElem?_append_right (by omega),l1,l2];have WJ:¬ t < l'.length:=by omega
   cases s[t - l.length]? with
   | none=>rfl
   | some y=>simp;intro h;omega
 ·intro c hc;rw[e1,Array.getElem?_modify,if_neg (Ne.symm hc)]
theorem uF [Q4] (v:Value) (l:List Nat) (i:Nat) (hi:i < l.length) (hl:l.length≤1000000) {w:World} {fr:List Q2} (H:Q0 w (NL v l::fr)) :
  Calls Tryz.prog 210 #[v,.int .i64 i,.int .i64 ((i+1:Nat):Int)] w (ret fun v' w'=>Q0 w' (NL v' (l.eraseIdx i)::fr)):=by
 rcases XI H with ⟨rfl,h0,_⟩|⟨b,n,cap,s,rfl,e3,e4,e5,H2⟩
 ·have:(QH l).length=0:=by rw[h0];rfl
  rw[QM] at this;omega
 ·rw[QM] at e3;obtain rfl:n=l.length:=by omega
  have hb:=H2.pts;have DZ:(l.map fun x:Nat=>(x:Int)).length=l.length:=length_map _;rw[JL] at H2;have AH:(Qm (l.map fun x:Nat=>(x:Int))).length=l.length:=by simp[Qm]
  have uH:=e4.2
  have hd:=Any.slices_Delete_int Tryz.laysDel b 0 cap i (i+1) (l.map fun x:Nat=>(x:Int)) w (fun j hj=>by
   have G4:j < l.length:=by simpa using hj
   refine⟨?_,D5 hb⟩;refine Ud H2.pts ?_;rw[Nat.zero_add,getElem?_append_left (by omega)];simp[Qm,G4]) (by omega) uH (by omega) (by omega)
  rw[DZ] at hd;refine hd.mono ?_;rintro e w' ⟨rfl,q,rfl⟩;have h3:=uE (m:=q) (l':=(l.map fun x:Nat=>(x:Int)).take i++(l.map fun x:Nat=>(x:Int)).drop (i+1)++List.replicate (i+1 - i) 0) H2 (by simp;omega);rw[show i+1 - i=1 by omega] at h3 ⊢
  have e6:Qm ((l.map fun x:Nat=>(x:Int)).take i++(l.map fun x:Nat=>(x:Int)).drop (i+1)++List.replicate 1 0)++s=QH (l.eraseIdx i)++(.int .i64 0::s):=by
   rw[JL,eraseIdx_eq_take_drop_succ];simp[Qm]
  rw[e6] at h3;exact Gn (by rw[QM,length_eraseIdx,if_pos hi] <;> omega) (by omega) (by first|(simp;omega)|simp) h3
theorem uI {l:List Nat} (hs:l.Pairwise (· < ·)) {x:Nat} (hx:x∈l):Ge l x < l.length∧l.eraseIdx (Ge l x)=l.filter (·≠x):=by
 induction l with
 | nil=>cases hx
 | cons a l ih=>
  rw[pairwise_cons] at hs;unfold Ge
  rcases mem_cons.1 hx with rfl|V9
  ·have h0:(x::l).countP (· < x)=0:=by
    rw[countP_eq_zero];intro y hy
    rcases mem_cons.1 hy with rfl|hy
    ·simp
    ·have:=hs.1 y hy;simp;omega
   rw[h0];refine⟨by simp,?_⟩;rw[eraseIdx_cons_zero,filter_cons_of_neg (by simp)];exact(filter_eq_self.2 fun y hy=>by have:=hs.1 y hy;simp;omega).symm
  ·have uJ:=hs.1 x V9;have h1:(a::l).countP (· < x)=Ge l x+1:=by rw[countP_cons_of_pos (by simpa using uJ)];rfl
   obtain⟨i1,i2⟩:=ih hs.2 V9;rw[h1];refine⟨by simp;omega,?_⟩;rw[eraseIdx_cons_succ,i2,filter_cons_of_pos (by simp;omega)]
theorem jk [Q4] (p:Nat) (l:List Nat) (x:Nat) (hs:l.Pairwise (· < ·)) (hl:l.length≤100000) {w:World} {fr:List Q2} (H:Q0 w (VV p l::fr)) :
  Calls Tryz.prog 129 #[pp p,.int .i64 x] w (ret fun v w'=>v = .bool (decide (x∈l))∧Q0 w' (VV p (l.filter (·≠x))::fr)):=by
 obtain⟨a,c,H⟩:=Cf H;refine QQ Tryz.func129 rfl (by kernel_rfl) ?_;refine Dc H ?_;obtain⟨D1,H,Y5,Vo⟩:=sls_rd H.swap (QM _) (by decide);refine Jc rfl rfl (Ft _ l (by omega) hs x (Y5 _) H) ?_;rintro v w ⟨rfl,H⟩;replace H:=Vo _ _ H;refine Gt H ?_;refine J7 H ?_;refine Qt (fun ms σ w=>ms=[]∧σ 6 = .bool (decide (x∈l))∧Q0 w (VV p (l.filter (·≠x))::fr)) ?_ ?_
 ·by_cases hx:x∈l
  ·obtain⟨h1,h2⟩:=uI hs hx;rw[decide_eq_true hx];refine YU rfl ?_;refine F7 H ?_;refine FV H ?_;rw[Qg (by omega)];refine Jc rfl rfl (uF _ l (Ge l x) h1 (by omega) H) ?_;intro v w H;obtain⟨a28,m28,c28,rfl⟩:=VZ H;rw[h2] at H;refine XO H ?_;intro w H;refine J2 H ?_;exact⟨rfl,rfl,rfl,AW H.swap⟩
  ·rw[decide_eq_false hx];refine Vw rfl (QE ?_);rw[show l.filter (·≠x)=l from filter_eq_self.2 fun y hy=>by simp;rintro rfl;exact hx hy];exact⟨rfl,rfl,rfl,AW H.swap⟩
 ·rintro ms σ w ⟨rfl,g6,H⟩;rw[Q1 g6];refine J3 H ?_;exact Q3 (Jy H rfl fun w' H'=>⟨rfl,H'⟩)
theorem XU.drop {ts:List QW} {x k n:Nat} {e:Q9} (h:XU ts x) (hk:ts[k]? = some ⟨n,some e⟩) (hn:n < 255):XU (ts.set k ⟨n,none⟩) (G8 x k false):=by
 have VC:=(List.getElem?_eq_some_iff.1 hk).1;refine⟨by rw[length_set];exact h.bits.set VC,fun i u hu=>?_,fun i u hu=>?_⟩
 ·rw[Dj]
  rcases VE hu with ⟨rfl,rfl,_⟩|⟨QA,hu⟩
  ·rw[if_pos rfl];show false=((none:Option Q9).isSome || n == 255);have:(n == 255)=false:=by rw[beq_eq_false_iff_ne];omega
   rw[this];rfl
  ·rw[if_neg QA];exact h.bit _ _ hu
 ·rcases VE hu with ⟨rfl,rfl,_⟩|⟨_,hu⟩
  ·show n≤255;omega
  ·exact h.gen _ _ hu
theorem uL [Q4] (p:Nat) (ts:List QW) (k n:Nat) (e:Q9) (hk:ts[k]? = some ⟨n,some e⟩) (hn:n < 255) {w:World} {fr:List Q2} (H:Q0 w (Qr p ts::fr)) :
  Calls Tryz.prog 130 #[pp p,Xz k n] w (ret fun v w'=>v = .int .i64 0∧Q0 w' (Qr p (ts.set k ⟨n,none⟩)::fr)):=by
 obtain⟨b,c,s,u,x,QK,hc,H,QU⟩:=BP H;have hL:Ql ts k n=some (k,e):=Z1.2 ⟨n,rfl,rfl,hk⟩;have Qw:=Xx ZH ts;have VC:k < ts.length:=(List.getElem?_eq_some_iff.1 hk).1;refine QQ Tryz.func130 rfl (by kernel_rfl) ?_;refine J8 H ?_;intro b3 w H;refine B5 H ?_;replace H:=Js [1,1,0,0] 0 H;refine Jc rfl rfl (OR p b c u _ rfl ts s QK.bits.le k n H) ?_;rintro v w ⟨rfl,H⟩;rw[hL];refine UI H ?_;refine J9 H ?_;refine WV H ?_;refine Jv ?_;refine Dh H ?_;replace H:=Js [1,0,0,0] 0 H;refine Q5 rfl (G1 H rfl rfl inferInstance rfl (by rw[length_append,Qw];omega) rfl ?_);intro w H;refine Jv ?_;refine Dh H ?_;refine Q5 rfl (U8 (vs:=[.int .i64 0,.int .i64 0,.bool false,.bool false]) H rfl rfl inferInstance rfl rfl (by rw[length_set,length_append,Qw];omega) rfl ?_);intro w H;replace H:Q0 w (pts b (row 199 (wr (ts.flatMap Y9++s) (k*6+1) [.bool false,.int .i64 0,.int .i64 0,.bool false,.bool false]))::_):=H;rw[Ma (x':=⟨n,none⟩) ZH hk (by simp) rfl] at H;refine J2 H ?_;have c0:((ts.set k ⟨n,none⟩).flatMap Y9++s)[k*6+0]? = some (.int .i64 n):=Ks ZH (getElem?_set_self VC) rfl;refine NB H ?_;refine Q5 rfl (QC H rfl c0 rfl ?_);refine J0 H ?_;rw[show ((n:Int) == 255)=false by rw[beq_eq_false_iff_ne];omega];refine N0 H ?_;intro w H;refine SU H ?_;replace H:=Js [3,0,0,0] 0 H;refine Jo 6 H ?_;refine Jk rfl rfl (SO u ts.length x k false QK.bits VC H) ?_;rintro v w ⟨rfl,H⟩;refine II H ?_;replace H:=Js [2,1,0] 1 H;refine Q3 (Jy H rfl fun w' H'=>⟨rfl,QU _ _ (ts.set k ⟨n,none⟩) _ (by simp) (OW hk ?_) (QK.drop hk hn) H'⟩);show ((none:Option Q9).isNone && n == 255)=((some e).isNone && n == 255);have:(n == 255)=false:=by rw[beq_eq_false_iff_ne];omega
 rw[this];rfl
structure We (s:CS):Prop where
 nd:(s.rem.map (·.1)).Nodup
 key:∀ r t,QV s.rem r=some t→∃ (k p g:Nat) (e:Q9),r=((k:Int),(p:Int))∧s.tab[k]? = some ⟨g,some e⟩∧p < e.ws.length
theorem Inv.rk {s:CS} (h:Inv s):We s:=⟨h.nd,fun r t hr=>by
 obtain⟨k,p,g,e,a,b,f,h1,h2,h3,_⟩:=(h.rem r t).1 hr;exact⟨k,p,g,e,h1,h2,h3⟩⟩
def aR (ts:List QW) (r:Int×Int):Nat:=match ts[r.1.toNat]? with
 | some ⟨_,some e⟩=>e.addr+1+r.2.toNat
 | _=>0
theorem aW {ts:List QW} {k p g:Nat} {e:Q9} (h:ts[k]? = some ⟨g,some e⟩):aR ts ((k:Int),(p:Int))=e.addr+1+p:=by
 unfold aR;show (match ts[((k:Int)).toNat]? with|some ⟨_,some e⟩=>e.addr+1+((p:Int)).toNat|_=>0)=_;rw[Int.toNat_natCast,h,Int.toNat_natCast]
theorem Oc {s:CS} (hw:WF s) (h:We s):s.rem.length≤1000000:=by
 have key:∀ r∈s.rem.map (·.1),∃ (k p g:Nat) (e:Q9),r=((k:Int),(p:Int))∧s.tab[k]? = some ⟨g,some e⟩∧p < e.ws.length:=by
  intro r hr;obtain⟨⟨r',t⟩,h1,rfl⟩:=mem_map.1 hr;exact h.key r' t ((YP h.nd).2 h1)
 have h1:((s.rem.map (·.1)).map (aR s.tab)).Nodup:=by
  refine pairwise_map.2 (List.Pairwise.imp_of_mem ?_ h.nd);intro r r' hr Ym QA Ra;obtain⟨k,p,g,e,rfl,h2,h3⟩:=key r hr;obtain⟨k',p',g',e',rfl,Yk,T9⟩:=key r' Ym;rw[aW h2,aW Yk] at Ra;by_cases hk:k=k'
  ·subst hk;rw[h2] at Yk;injection Yk with Yk
   injection Yk with _ Yk
   injection Yk with Yk
   subst Yk;obtain rfl:p=p':=by omega
   exact QA rfl
  ·have:=hw.apart k k' g g' e e' hk h2 Yk;unfold QT at this;omega
 have h2:=UQ h1 (l₂:=List.range 64512) (by
  intro z hz;obtain⟨r,hr,rfl⟩:=mem_map.1 hz;obtain⟨k,p,g,e,rfl,h2,h3⟩:=key r hr;rw[aW h2,mem_range];have h4:=(hw.obj k g e h2).2.1.1;have h5:s.own.length*s.size≤63*1024:=Nat.mul_le_mul hw.own.2 hw.size.2;unfold QT at h4;omega)
 rw[length_map,length_map,length_range] at h2;omega
theorem jl:∀ (ks:List (Int×Int)) {m:List ((Int×Int)×Int)},(m.map (·.1)).Nodup→∀ r,QV (ks.foldl QO m) r=if r∈ks then none else QV m r
 | [],m,h,r=>by rw[if_neg (by simp)];rfl
 | k::ks,m,h,r=>by
  rw[foldl_cons,jl ks (W5 h),Wq h];by_cases h1:r∈ks
  ·rw[if_pos h1,if_pos (mem_cons_of_mem _ h1)]
  ·rw[if_neg h1];by_cases h2:k=r
   ·rw[if_pos h2,if_pos (by rw[h2];exact mem_cons_self)]
   ·rw[if_neg h2,if_neg (by rw[mem_cons];exact fun h3=>h3.elim (fun h=>h2 h.symm) h1)]
structure Od (s:CS) (k n:Nat) (s':CS):Prop where
 size:s'.size=s.size
 own:s'.own=s.own
 lays:s'.lays=s.lays
 last:s'.last=s.last
 par:s'.par=s.par
 sps:s'.sps=s.sps
 tab:s'.tab=s.tab.set k ⟨n,none⟩
 nd:(s'.rem.map (·.1)).Nodup
 rem:∀ r,QV s'.rem r=if r.1=(k:Int) then none else QV s.rem r
theorem Od.rk {s s':CS} {k n:Nat} (h:Od s k n s') (hR:We s):We s':=by
 refine⟨h.nd,fun r t hr=>?_⟩;rw[h.rem] at hr;split at hr
 ·cases hr
 ·rename_i QA;obtain⟨j,p,g,e,rfl,h1,h2⟩:=hR.key r t hr;exact⟨j,p,g,e,rfl,by rw[h.tab,getElem?_set_ne (by rintro rfl;exact QA rfl)];exact h1,h2⟩
theorem Cs {ts:List QW} {k n j g:Nat} {f:Q9} (h:(ts.set k ⟨n,none⟩)[j]? = some ⟨g,some f⟩):j≠k∧ts[j]? = some ⟨g,some f⟩:=by
 rcases VE h with ⟨_,h2,_⟩|h2
 ·injection h2 with _ h2
  cases h2
 ·exact h2
theorem uM {s:CS} (h:WF s) (QN:(s.par.map (·.1)).Nodup) {k n:Nat} {e:Q9} (hk:s.tab[k]? = some ⟨n,some e⟩) {q:Nat} {L:List Nat} {m1 m2:List (Int×Nat×List Nat)} (hm:s.mns=m1++(e.region,q,L)::m2) (R:List ((Int×Int)×Int)) :
  WF { s with tab:=s.tab.set k ⟨n,none⟩,rem:=R,mns:=m1++(e.region,q,L.filter (·≠k))::m2 }:=by
 have JH:((m1++(e.region,q,L)::m2).map (·.1)).Nodup:=by rw[← hm,h.mkeys];exact QN
 have Sz:(m1++(e.region,q,L.filter (·≠k))::m2).map (·.1)=s.par.map (·.1):=by rw[← h.mkeys,hm];exact JE rfl
 refine⟨h.size,h.own,by show 1≤(s.tab.set _ _).length∧(s.tab.set _ _).length≤63;rw[length_set];exact h.slots,h.lays,?_,fun i g f hi=>h.obj i g f (Cs hi).2,fun i j g g' f f' QA hi hj=>h.apart i j g g' f f' QA (Cs hi).2 (Cs hj).2,h.par,h.skeys,Sz,h.spc,fun x hx i g f hi=>h.free x hx i g f (Cs hi).2,h.live,?_⟩
 ·intro i t hi
  rcases VE hi with ⟨rfl,rfl,_⟩|⟨_,hi⟩
  ·exact⟨(h.gen _ _ hk).1,fun h=>by cases h⟩
  ·exact h.gen _ _ hi
 ·intro x hx
  have V9:x=(e.region,q,L.filter (·≠k))∨(x∈s.mns∧x.1≠e.region):=by
   rcases XQ hx with h1|h1
   ·exact .inl h1
   ·refine .inr ⟨by rw[hm];exact Rt h1,fun UO=>?_⟩;rw[map_append,map_cons,nodup_append] at JH;obtain⟨_,h2,h3⟩:=JH
    rcases mem_append.1 h1 with hx|hx
    ·exact h3 x.1 (mem_map.2 ⟨x,hx,rfl⟩) e.region (by simp) UO
    ·rw[nodup_cons] at h2;exact h2.1 (mem_map.2 ⟨x,hx,UO⟩)
  rcases V9 with rfl|⟨hx,QA⟩
  ·obtain⟨h1,h2⟩:=h.mine (e.region,q,L) (by rw[hm];simp);refine⟨h1.filter _,fun j=>?_⟩;show j∈L.filter (·≠k)↔_;rw[mem_filter,h2];constructor
   ·rintro⟨⟨g,f,h3,h4⟩,h5⟩;have h5:j≠k:=by simpa using h5
    exact⟨g,f,by show (s.tab.set _ _)[_]? = _;rw[getElem?_set_ne (Ne.symm h5)];exact h3,h4⟩
   ·rintro⟨g,f,h3,h4⟩;obtain⟨h5,h6⟩:=Cs h3;exact⟨⟨g,f,h6,h4⟩,by simpa using h5⟩
  ·obtain⟨h1,h2⟩:=h.mine x hx;refine⟨h1,fun j=>?_⟩;rw[h2];constructor
   ·rintro⟨g,f,h3,h4⟩;refine⟨g,f,?_,h4⟩;show (s.tab.set _ _)[_]? = _;rw[getElem?_set_ne]
    ·exact h3
    ·rintro rfl;rw[hk] at h3;injection h3 with h3
     injection h3 with _ h3
     injection h3 with h3
     subst h3;exact QA h4.symm
   ·rintro⟨g,f,h3,h4⟩;exact⟨g,f,(Cs h3).2,h4⟩
theorem uN {s s':CS} {mem:List Nat} (m:YY s mem) {k n:Nat} (h1:s'.own=s.own) (h2:s'.size=s.size) (h3:s'.tab=s.tab.set k ⟨n,none⟩):YY s' mem:=
 ⟨by rw[h1,h2];exact m.len,fun i g e hi=>m.head i g e (by rw[h3] at hi;exact(Cs hi).2),fun i g e hi=>m.words i g e (by rw[h3] at hi;exact(Cs hi).2)⟩
def Xr (p:Nat) (q:Xk) (s:CS):Q2:=ex fun mem:List Nat=>star [prop (WF s∧YY s mem),VU p q,V6 q.ip q.sp q.bp,Qq q.bp s.lays,ST q.sp s.size mem s.own,Qr q.tp s.tab,RS q.rp s.rem,
 mp (ki .i64) V2 q.sm (s.sps.map Vv),star (s.sps.map (Y0 q.sp)),mp (ki .i64) V2 q.mm (s.mns.map VX),star (s.mns.map VG)]
theorem La [Q4] {w:World} {p:Nat} {q:Xk} {s:CS} {fr:List Q2} (H:Q0 w (Xr p q s::fr)):∃ mem:List Nat,WF s∧YY s mem ∧
  Q0 w (VU p q::V6 q.ip q.sp q.bp::Qq q.bp s.lays::ST q.sp s.size mem s.own::Qr q.tp s.tab::RS q.rp s.rem::mp (ki .i64) V2 q.sm (s.sps.map Vv)::star (s.sps.map (Y0 q.sp))::mp (ki .i64) V2 q.mm (s.mns.map VX)::star (s.mns.map VG)::fr):=by
 obtain⟨mem,H⟩:=Q0.ex.1 H;have H:=Q0.star.1 H;obtain⟨⟨h1,h2⟩,H⟩:=Q0.prop.1 H;exact⟨mem,h1,h2,H⟩
theorem Lb [Q4] {w:World} {p:Nat} {q:Xk} {s:CS} {fr:List Q2} {mem:List Nat} (h:WF s) (hm:YY s mem)
  (H:Q0 w (VU p q::V6 q.ip q.sp q.bp::Qq q.bp s.lays::ST q.sp s.size mem s.own::Qr q.tp s.tab::RS q.rp s.rem::mp (ki .i64) V2 q.sm (s.sps.map Vv)::star (s.sps.map (Y0 q.sp))::mp (ki .i64) V2 q.mm (s.mns.map VX)::star (s.mns.map VG)::fr)):Q0 w (Xr p q s::fr):=
 Q0.ex.2 ⟨mem,Q0.star.2 (Q0.prop.2 ⟨⟨h,hm⟩,H⟩)⟩
theorem uO [Q4] {w:World} {p:Nat} {q:Xk} {s:CS} {fr:List Q2} (H:Q0 w (Xr p q s::Qo q.trp s.last s.par::fr)):Q0 w (QD p s::fr):=by
 obtain⟨mem,hw,hm,H⟩:=La H;replace H:=Js [0,0,0,0,0,5,0,0,0,0,0] 0 H;exact VM hw hm H
theorem uP [Q4] (p:Nat) (q:Xk) (s:CS) (QN:(s.par.map (·.1)).Nodup) (k n:Nat) (e:Q9) (hk:s.tab[k]? = some ⟨n,some e⟩) (hn:n < 255) (hR:We s) {w:World} {fr:List Q2} (H:Q0 w (Xr p q s::fr)) :
  Calls Tryz.prog 63 #[pp p,.int .i64 k] w (ret fun v w'=>v = .tuple #[]∧∃ s',Od s k n s'∧Q0 w' (Xr p q s'::fr)):=by
 obtain⟨mem,hw,hm,H⟩:=La H;replace H:=Js [4,0,0,0,0] 0 H;refine QQ Tryz.func63 rfl (by kernel_rfl) ?_;refine J9 H ?_;refine Jc rfl rfl (jj p q s.tab k n e hk H) ?_;rintro v w ⟨rfl,H⟩;refine YC H ?_;intro b4 w H;refine J5 H ?_;intro w H;refine Za H ?_;have VC:=(List.getElem?_eq_some_iff.1 hk).1;obtain⟨_,_,y,hy⟩:=hw.obj k n e hk;have KY:e.region∈s.mns.map (·.1):=by rw[hw.mkeys];exact mem_map.2 ⟨(e.region,y),hy,rfl⟩
 obtain⟨b2,ZX⟩:=RK (l:=s.mns) (f:=fun x=>x.1) (g:=fun x=>x.2.1) (k:=e.region) KY;obtain⟨⟨r1,b1,L⟩,m1,m2,Vl,VD,YE⟩:=RX ZX;have VD:r1=e.region:=VD;have YE:b1=b2:=YE;subst VD YE;have Xm:QV (s.mns.map VX) e.region=some b1:=ZX;have hL:=hw.mine (e.region,b1,L) (by rw[Vl];simp)
 have Rv:L.length≤100000:=by
  have:=BK L 0 64 (fun x hx=>⟨Nat.zero_le _,by
   obtain⟨g,f,h3,_⟩:=(hL.2 x).1 hx;have h4:=(List.getElem?_eq_some_iff.1 h3).1;have:=hw.slots.2;omega⟩) hL.1
  omega
 replace H:=Js [1,0] 0 H;refine Vb H ?_;refine Jc rfl rfl (OA q.tp s.tab k n e hk H) ?_;rintro v w ⟨rfl,H⟩;refine YC H ?_;intro b6 w H;refine J5 H ?_;intro w H;refine J0 H ?_;replace H:=Js [7,0,0,0,0,0,0,0] 0 H;refine Vb H ?_;refine Jc rfl rfl (qu q.rp s.rem hR.nd (Oc hw hR) k H) ?_;rintro v w ⟨ks,K4,_,rfl,H⟩;refine J2 H ?_;replace H:=Js [11,10,2,2,2,0,0,0,0,0,0,0] 0 H;replace H:Q0 w (VV b1 L::star ((m1++m2).map VG)::_):=(Q0.pick (R:=VG) (x:=(e.region,b1,L)) Vl).1 H;refine J1 H ?_;intro w H;refine YI H ?_;refine Jl 3 [8] H ?_;refine Jf 4 ?_;refine Jl 5 [8] H ?_;refine Rc 6 [8] (key:=e.region) H rfl (Q8.none rfl) rfl rfl Vp (by kernel_rfl) ?_;rw[Xm];refine Ja 7 ?_;refine Jo 8 H ?_;refine Jk rfl rfl (jk b1 L k hL.1 Rv H) ?_;rintro v w ⟨rfl,H⟩;refine Jx H ?_;replace H:=Js [3,0,0,0] 0 H;refine J1 H ?_;intro w H;refine N3 H ?_;refine Jk rfl rfl (uL q.tp s.tab k n e hk hn H) ?_;rintro v w ⟨rfl,H⟩;refine Jx H ?_;have E3:=uM hw QN hk Vl (ks.foldl QO s.rem);have VR:=uN (s':={ s with tab:=s.tab.set k ⟨n,none⟩,rem:=ks.foldl QO s.rem,mns:=m1++(e.region,b1,L.filter (·≠k))::m2 }) hm rfl rfl rfl;have E4:s.mns.map VX=(m1++(e.region,b1,L.filter (·≠k))::m2).map VX:=by rw[Vl];simp
 rw[E4] at H;replace H:=Js [1,1,0,0] 0 H;have H:=(Q0.pick (R:=VG) (x:=(e.region,b1,L.filter (·≠k))) (g1:=m1) (g2:=m2) rfl).2 H;replace H:=Js [4,6,6,6,1,3,4,4,1,0] 2 H;have H:=Lb E3 VR H;refine Z2 _ (.inl rfl) H rfl fun w' H'=>⟨rfl,{ s with tab:=s.tab.set k ⟨n,none⟩,rem:=ks.foldl QO s.rem,mns:=m1++(e.region,b1,L.filter (·≠k))::m2 },⟨rfl,rfl,rfl,rfl,rfl,rfl,rfl,T7 ks hR.nd,fun r=>?_⟩,H'⟩;show QV (ks.foldl QO s.rem) r=_;rw[jl ks hR.nd];by_cases hr:r.1=(k:Int)
 ·rw[if_pos hr];by_cases h1:r∈ks
  ·rw[if_pos h1]
  ·rw[if_neg h1];cases hf:QV s.rem r with
   | none=>rfl
   | some t=>exact absurd ((K4 r).2 ⟨hr,by rw[hf];rfl⟩) h1
 ·rw[if_neg hr,if_neg];intro h1;exact hr ((K4 r).1 h1).1
theorem uS [Q4] (p:Nat) (m:List (Rf×Int)) (hm:m.length≤1000000) (t:Int) {w:World} {fr:List Q2} (H:Q0 w (RS p m::fr)) :
  Calls Tryz.prog 59 #[pp p,.int .i64 t] w (ret fun v w'=>∃ ks,(∀ r,r∈ks↔QV m r=some t)∧JM ks∧Q0 w' (QF 133 2 v (Gz ks)::RS p m::fr)):=by
 refine QQ Tryz.func59 rfl (by kernel_rfl) ?_;obtain⟨bt,bo,bf,H⟩:=Dq H;refine Dc H ?_;replace H:=Js [2,0,0,0] 0 H;obtain⟨G,hG,H⟩:=O0 H;refine Q5 rfl (GO (key:=t) H rfl rfl Vp rfl ?_);have BA:=BW bo H;have hn:(G.map (·.key)).Nodup:=by rw[← Dm];exact BA
 cases hf:QV (G.map Um) t with
 | none=>
  replace H:=eO kp v1 H;refine Jc rfl rfl (OQ none [] (by simp) (by simp) H) ?_;rintro v w ⟨ks,hp,hs,H⟩;refine Kx H ?_;have K4:ks=[]:=by simpa using hp
  subst K4;replace H:=Js [2,2,2,2,2,0] 1 H;replace H:=AZ G hG H;replace H:=Js [1,1,0,0,0] 0 H;replace H:=BB bt bo bf (fun _ _=>Iff.rfl) (fun _ _=>Iff.rfl) H;refine Q3 (Jy H.swap rfl fun w' H'=>⟨[],fun r=>?_,hs,H'⟩);have h1:=D9.1 hf;rw[Dm] at h1;exact⟨fun h=>by simp at h,fun h=>absurd (Cd ((hG t r).2 h)) h1⟩
 | some bi=>
  obtain⟨g,g1,g2,rfl,rfl,rfl⟩:=O1 hf;have H:=(Q0.pick rfl).1 H.swap;have hi:=BW g.blk H
  have Qw:g.m.length≤1000000:=by
   have:=UQ hi (l₂:=m.map (·.1)) (fun r hr=>by
    have:=(hG g.key r).1 ((OV hn).2 hr);exact mem_map_of_mem (f:=(·.1)) (KE this))
   simp at this;omega
  replace H:=MM H;refine Jc rfl rfl (OQ (some g.blk) g.m Qw hi H) ?_;rintro v w ⟨ks,hp,hs,H⟩;refine Kx H ?_;replace H:=T6 H.swap;replace H:=Js [0,1,0,0,0,0,0] 0 H;replace H:=(Q0.pick (R:=Cc) (gs:=g1++g::g2) rfl).2 H;replace H:=Js [2,0,1,1,1,0] 0 H;replace H:=AZ (g1++g::g2) hG H;replace H:=Js [1,1,0,0,0] 0 H;replace H:=BB bt bo bf (fun _ _=>Iff.rfl) (fun _ _=>Iff.rfl) H;refine Q3 (Jy H.swap rfl fun w' H'=>⟨ks,fun r=>?_,hs,H'⟩);rw[hp.mem_iff,← hG,OV hn]
theorem jm [Q4] (p sp owner:Nat) (S:QP) (hp:S.parts.length≤100000) (hq:∀ x∈S.parts,x.1+x.2≤100000) (hc:(QR S.parts).length≤100000) {w:World} {fr:List Q2} (H:Q0 w (V1 p sp owner S::fr)) :
  Calls Tryz.prog 50 #[pp p] w (ret fun v w'=>∃ a c,v = .slice a (QR S.parts).length c∧Q0 w' (NL v (QR S.parts)::V1 p sp owner S::fr)):=by
 obtain⟨a,c,H⟩:=XY H;refine QQ Tryz.func50 rfl (by kernel_rfl) ?_;refine Vg H ?_;refine A1 H ?_;refine WU H ?_;replace H:=GK (E:=3) (k:=1) H;refine Uh H ?_;refine Qp (fun ms σ w z=>ms=[]∧∃ (i:Nat) (a3:Option Addr) (c3:Nat),i≤S.parts.length∧z=S.parts.length - i∧σ 3 = .slice a3 (QR (S.parts.take i)).length c3∧σ 13 = .slice a S.parts.length c∧σ 14 = .int .i64 S.parts.length∧σ 15 = .int .i64 i∧Q0 w (NL (.slice a3 (QR (S.parts.take i)).length c3) (QR (S.parts.take i))::pts p (row 206 [pp sp,.int .i64 owner,.slice a S.parts.length c,.int .i64 S.at',.int .i64 S.fin])::QF 208 2 (.slice a S.parts.length c) (S.parts.flatMap YD)::fr)) (m:=S.parts.length) ⟨rfl,0,none,0,by omega,rfl,rfl,rfl,rfl,rfl,H⟩ ?_;rintro ms σ w z ⟨rfl,i,a3,c3,hi,rfl,g3,g13,g14,g15,H⟩;rw[Q1 g3,Q1 g13,Q1 g14,Q1 g15];refine J7 H ?_;refine Qk rfl (fun h=>QE ?_) (fun h=>Qu ?_)
 ·have Q6:i < S.parts.length:=by omega
  have hn:=getElem?_eq_getElem Q6;have Qi:S.parts.take (i+1)=S.parts.take i++[S.parts[i]]:=by rw[take_add_one,hn];rfl
  have VS:(QR (S.parts.take (i+1))).length≤100000:=by
   refine Nat.le_trans ?_ hc
   conv=>rhs;rw[← take_append_drop (i+1) S.parts]
   rw[Xc,length_append];omega
  have hx:=hq _ (getElem_mem Q6);generalize S.parts[i]=x at hn Qi hx;obtain⟨x1,x2⟩:=x;rw[Qi,Xc,AU,length_append,length_map,length_range] at VS;have hx:x1+x2≤100000:=hx;have aB:QR (S.parts.take (i+1))=QR (S.parts.take i)++(List.range x2).map (x1+·):=by rw[Qi,Xc,AU]
  clear g3;generalize QR (S.parts.take i)=Q at H VS aB ⊢;have hl:(QR (S.parts.take (i+1))).length=Q.length+x2:=by rw[aB,length_append,length_map,length_range]
  replace H:=Js [2,0,0] 0 H;obtain⟨bT,sT,rfl,H,QJ⟩:=VY H (by omega);have Qv:QY (S.parts.flatMap YD++sT) (i*2+0) 2 (YD (x1,x2)):=C7 (vs:=YD (x1,x2)) WH hn (by repeat first|exact .nil _|apply QY.cons rfl);have ei:0+((i:Nat):Int).toNat*2=i*2:=by simp
  refine Z8 H ?_;refine Jd ?_;rw[ei];refine Q5 rfl (Vy H rfl Qv rfl ?_);refine VO H ?_;intro b5 w H;refine J5 H ?_;intro w H;refine J2 H ?_;refine Fb H ?_;replace H:=QJ _ _ H.swap;replace H:=Js [2,1,1,0] 0 H;refine J6 H ?_;refine Qt (fun ms σ w=>ms=[]∧∃ (a3:Option Addr) (c3:Nat),σ 3 = .slice a3 (Q.length+x2) c3∧σ 13 = .slice (some ⟨bT,0,none⟩) S.parts.length c∧σ 14 = .int .i64 S.parts.length∧σ 15 = .int .i64 i∧Q0 w (NL (.slice a3 (Q.length+x2) c3) (Q++(List.range x2).map (x1+·))::pts p (row 206 [pp sp,.int .i64 owner,.slice (some ⟨bT,0,none⟩) S.parts.length c,.int .i64 S.at',.int .i64 S.fin])::QF 208 2 (.slice (some ⟨bT,0,none⟩) S.parts.length c) (S.parts.flatMap YD)::fr)) ?_ ?_
  ·refine Qd ?_;refine Qp (fun ms σ w z=>ms=[]∧∃ (j:Nat) (a3:Option Addr) (c3:Nat),j≤x2∧z=x2 - j∧σ 3 = .slice a3 (Q.length+j) c3∧σ 5=pp b5∧σ 13 = .slice (some ⟨bT,0,none⟩) S.parts.length c∧σ 14 = .int .i64 S.parts.length∧σ 15 = .int .i64 i∧σ 20 = .int .i64 x2∧σ 21 = .int .i64 j∧Q0 w (NL (.slice a3 (Q.length+j) c3) (Q++(List.range j).map (x1+·))::pts b5 (row 208 [.int .i64 x1,.int .i64 x2])::pts p (row 206 [pp sp,.int .i64 owner,.slice (some ⟨bT,0,none⟩) S.parts.length c,.int .i64 S.at',.int .i64 S.fin])::QF 208 2 (.slice (some ⟨bT,0,none⟩) S.parts.length c) (S.parts.flatMap YD)::fr)) (m:=x2) ⟨rfl,0,a3,c3,by omega,rfl,rfl,rfl,rfl,rfl,rfl,rfl,rfl,by rw[range_zero,map_nil,append_nil];exact H⟩ ?_;rintro ms σ w z ⟨rfl,j,a3,c3,hj,rfl,g3,g5,g13,g14,g15,g20,g21,H⟩;rw[Q1 g3,Q1 g5,Q1 g13,Q1 g14,Q1 g15,Q1 g20,Q1 g21];refine J7 H ?_;refine Qk rfl (fun h=>QE ?_) (fun h=>Qu ?_)
   ·have ZS:j < x2:=by omega
    refine Dd H ?_;refine Z6 H ?_;refine DO H ?_;rw[show IntKind.i64.wrap ((x1:Int)+(j:Int))=((x1+j:Nat):Int) by rw[Qh (by omega) (by omega)];omega];refine X7 H ?_;intro b29 w H;replace H:=Js [1,0,0,0,0] 0 H;refine Q5 rfl (ZY H rfl rfl (by repeat first|exact .nil _|apply QY.cons rfl) rfl (by decide) (by rw[QM,length_append,length_map,length_range];simp only[length_cons,length_nil];omega) rfl rfl ?_);intro v30 w H;rw[show QH (Q++(List.range j).map (x1+·))++[.int .i64 ((x1+j:Nat):Int)]=QH (Q++(List.range (j+1)).map (x1+·)) by rw[range_succ,map_append,← append_assoc];exact(BU (Q++(List.range j).map (x1+·)) [x1+j]).symm] at H;obtain⟨a30,c30,rfl⟩:=QI H (m:=Q.length+(j+1)) (by rw[QM,length_append,length_map,length_range]) (by decide);refine ZZ H ?_;replace H:=Js [0,1,1,1] 1 H;exact⟨_,⟨rfl,j+1,a30,c30,ZS,rfl,rfl,rfl,rfl,rfl,rfl,rfl,Qg (by omega),H⟩,by omega⟩
   ·have V0:j=x2:=by omega
    subst V0;replace H:=Js [0,1,1] 1 H;exact⟨rfl,rfl,a3,c3,rfl,rfl,rfl,rfl,H⟩
  rintro ms σ w ⟨rfl,a3,c3,g3,g13,g14,g15,H⟩;rw[Q1 g3,Q1 g13,Q1 g14,Q1 g15];refine J3 H ?_;exact⟨_,⟨rfl,i+1,a3,c3,Q6,rfl,by rw[hl];rfl,rfl,rfl,Qg (by omega),by rw[hl,aB];exact H⟩,by omega⟩
 ·have V0:i=S.parts.length:=by omega
  subst V0;rw[take_length] at H ⊢;refine J3 H ?_;replace H:=Js [1,1,0] 0 H;exact Q3 (Jy (Gg H) rfl fun w' H'=>⟨_,_,rfl,H'.swap⟩)
theorem jn [Q4] (p size:Nat) (mem own:List Nat) (c:Nat) (hc:c < own.length) (h0:own.getD c 0≠0) {w:World} {fr:List Q2} (H:Q0 w (ST p size mem own::fr)) :
  Calls Tryz.prog 248 #[pp p,.int .i64 c] w (ret fun v w'=>v = .int .i64 0∧Q0 w' (ST p size mem own::fr)):=by
 obtain⟨v,v2,u,ws,many,QK,H⟩:=KP H;obtain⟨a2,c2,rfl⟩:=QI (H.drop.drop) (QM own) (by decide);have QJ:=QK.c2;refine QQ Tryz.func248 rfl (by kernel_rfl) ?_;refine Vg H ?_;replace H:=Js [2,0,0] 0 H;have hx:own[c]? = some (own.getD c 0):=by rw[getD_eq_getElem?_getD,getElem?_eq_getElem hc];rfl
 generalize own.getD c 0=o at h0 hx;obtain⟨b,s,rfl,H,QU⟩:=VY H (by omega);refine J6 H ?_;refine Z0 (fun ms σ w=>ms=[]∧Q0 w (pts b (row 3 (QH own++s))::pts p (row 141 [v,.int .i64 size,.slice (some ⟨b,0,none⟩) own.length c2,pp u])::UL v mem::BM u own.length ws many::fr)) ?_ ?_
 ·refine Qd ?_;refine J9 H ?_;rw[show decide ((c:Int) < 0)=false from decide_eq_false (by omega)];refine B3 H ?_;rw[show decide ((c:Int)≥(own.length:Int))=false from decide_eq_false (by omega)];refine Aw H ?_;refine Vb H ?_;refine Jd ?_;refine Q5 rfl (QC H rfl (Gb hx) rfl ?_);refine Jv ?_;rw[show ((o:Int) == 0)=false by rw[beq_eq_false_iff_ne];omega];refine YT H ?_;exact .inl ⟨rfl,rfl,H⟩
 ·rintro ms σ w ⟨rfl,H⟩;replace H:=QU _ _ H;replace H:=Js [1,1,0] 0 H;replace H:=XT QK H;refine Vg H ?_;exact Q3 (Jy H rfl fun w' H'=>⟨rfl,H'⟩)
theorem uT [Q4] (p size:Nat) (mem own:List Nat) (c:Nat) (Xa:own.length≤63) (hc:c < own.length) (h0:own.getD c 0≠0) {w:World} {fr:List Q2} (H:Q0 w (ST p size mem own::fr)) :
  Calls Tryz.prog 211 #[pp p,.int .i64 c] w (ret fun v w'=>v = .int .i64 0∧Q0 w' (ST p size mem (own.set c 0)::fr)):=by
 refine QQ Tryz.func211 rfl (by kernel_rfl) ?_;refine Mo H ?_;refine Jc rfl rfl (jn p size mem own c hc h0 H) ?_;rintro v w ⟨rfl,H⟩;refine ZZ H ?_;obtain⟨v,v2,u,ws,many,QK,H⟩:=KP H;obtain⟨x,rfl,hb,rfl,hx⟩:=Sh QK Xa;obtain⟨a2,c2,rfl⟩:=QI (H.drop.drop) (QM own) (by decide);have QJ:=QK.c2;replace H:=Js [2,0,0] 0 H;obtain⟨b,s,rfl,H,_,_,QU⟩:=GP H (by omega);refine J6 H ?_;refine Qt (fun ms σ w=>ms=[]∧σ 5 = .int .i64 0∧Q0 w (Ga u own.length (G8 x c false)::NL (.slice (some ⟨b,0,none⟩) own.length c2) (own.set c 0)::pts p (row 141 [v,.int .i64 size,.slice (some ⟨b,0,none⟩) own.length c2,pp u])::UL v mem::fr)) ?_ ?_
 ·refine YU rfl ?_;refine Vb H ?_;refine Jd ?_;refine Q5 rfl (G1 H rfl rfl inferInstance rfl (by simp only[length_append,QM];omega) rfl ?_);intro w H;have e0:(QH own++s).set (0+((c:Nat):Int).toNat*1) (.int .i64 0)=QH (own.set c 0)++s:=Nq (by omega);rw[e0] at H;replace H:=QU _ _ _ (by rw[QM,QM,length_set]) H;refine J2 H ?_;replace H:=Js [3,0,0,0] 0 H;refine Vb H ?_;refine Jc rfl rfl (SO u _ x c false hb hc H) ?_;rintro v' w ⟨rfl,H⟩;refine J2 H ?_;exact⟨rfl,rfl,rfl,H⟩
 ·rintro ms σ w ⟨rfl,g5,H⟩;rw[Q1 g5];refine J3 H ?_;replace H:=Js [2,2,1,0] 0 H
  have V9:∀ i,i < (own.set c 0).length→(G8 x c false).testBit i=decide ((own.set c 0).getD i 0≠0):=by
   intro i hi;rw[length_set] at hi;rw[Dj,getD_eq_getElem?_getD,getElem?_set];by_cases AH:i=c
   ·subst AH;rw[if_pos rfl,if_pos rfl,if_pos hc];simp
   ·rw[if_neg AH,if_neg (fun h=>AH h.symm),hx i hi,getD_eq_getElem?_getD]
  refine Q3 (Jy (XT (own:=own.set c 0) (ws:=[G8 x c false]) (many:=Zk own.length (G8 x c false)) ⟨QK.s1,QK.s2,by rw[length_set];exact QK.c1,by rw[length_set];exact QK.c2,by rw[length_set];exact QK.len,by have:=Nr _ _ V9;rw[length_set] at this;exact this,fun _=>⟨_,rfl,by rw[length_set];exact(Gu.set hb hc).lt,V9⟩⟩ (by rw[length_set];exact H)) rfl fun w' H'=>⟨rfl,H'⟩)
end Go.Proofs.YtmjdnljneifpcaaGreatDoor
