/- Cells: what is proved on the way: every input of the statement; no condition. Texts joined: ActD ActE JnB ActF GrvW. -/
import Derived.Test.YtbnnnljagkjpiaaGreatDoorBgf
import Derived.Test.YtbnnnljagkjpiaaGreatDoorBgy
import Derived.Test.YtbnnnljagkjpiaaGreatDoorBge
import Derived.Test.YtbnnnljagkjpiaaGreatDoorBgx
import Derived.Test.YtbnnnljagkjpiaaGreatDoorBgt
import Derived.Test.YtbnnnljagkjpiaaGreatDoorBgm
import Derived.Test.YtbnnnljagkjpiaaGreatDoorBgn
set_option linter.unusedVariables false
set_option linter.unusedSimpArgs false
set_option linter.unusedSectionVars false
namespace Go.Proofs.YtbnnnljagkjpiaaGreatDoor
open List
open Go.SL
theorem iP {s:CS} {r:Int} {l:List (Nat×Nat)} (h:Zb s r l=0):l.length≤64∧ZU s.tab r [] l=0:=by
 unfold Zb at h;split at h
 ·cases h
 ·rename_i h1;split at h
  ·rename_i h2;exact absurd h h2
  ·rename_i h2;exact⟨by omega,Classical.not_not.1 h2⟩
theorem iS {m:MS} {r:Int} {os:List Int} (h:Gl m r os=0):ZV m.P r=0:=by
 unfold Gl at h;split at h
 ·cases h
 ·rename_i h1;split at h
  ·cases h
  ·split at h
   ·rename_i h2;exact absurd h h2
   ·split at h
    ·cases h
    ·rename_i h3;unfold ZV;rw[if_neg (fun h4=>h1 h4.2),if_neg h3]
theorem iT [Q4] (p:Nat) (m:MS) (r:Nat) (os:List Nat) (al:Option Addr) (cl:Nat) (hd:ZV m.P (r:Int)=0) (hPl:m.P.length < 100000) (hos:∀ o∈os,o < m.objs.length) (hl:os.length≤64) (OL:List Int) (hOL:OL=os.map fun o:Nat=>(o:Int)) {w:World} {fr:List Q2} (H:Q0 w (Qq p m::IL (.slice al OL.length cl) OL::fr)) :
  Calls Tryz.prog 94 #[pp p,.int .i64 r,.slice al OL.length cl] w (ret fun v w'=>v = .int .i64 m.P.length∧Q0 w' (Qq p (Wm m r os)::IL (.slice al OL.length cl) OL::fr)):=by
 have e:OL.length=os.length:=by rw[hOL,length_map]
 have h:=iK p m r os al cl hd hPl hos hl (w:=w) (fr:=fr) (by rw[D5,← hOL,← e];exact H);rw[D5,← hOL,← e] at h;exact h
theorem ia [Q4] (p:Nat) (s:CS) (m:MS) (told:List (Nat×Nat)) (n:Nat) (J:Yb s m told n) (hn:n≤60) (k A B C i g:Int) (X:Nat) (hX:X < 18446744073709551616) (vW:Value) (ws:List Nat) (hws:∀ x∈ws,x < 18446744073709551616) (raw:Bool) (rg:Int) (vL:Value) (L:List Int) (hL:L.length≤80)
  {w:World} {fr:List Q2} [hT:YW 0 Lib.deBruijn64tab fr] (hrW:Vt fr vW ws.length 1 (Qa ws)) (hrL:Vt fr vL L.length 1 (Qe L)) (H:Q0 w (Uk p s m told::fr)) :
  Calls Tryz.prog 29 #[.agg (BQ 3 k A B C X vW raw i g rg vL).toArray,pp p] w (ret fun v w'=>v = .bool true∧∃ s' m' told',Yb s' m' told' (n+1)∧Q0 w' (Uk p s' m' told'::fr)):=by
 obtain⟨_,adW,capW,rfl,_⟩:=id hrW;obtain⟨_,adL,capL,rfl,_⟩:=id hrL;have hO:=J.O;have hQ:=J.Q;have hlen:=J.R.len;have hOl:=Iz J.R J.T;have Jn:Yb s m told (n+1):=⟨J.R,J.I,J.T,J.P,J.G,by omega,by omega⟩
 have hgen:∀ (k g:Nat) (e:Q8),s.tab[k]? = some ⟨g,some e⟩→g < 255:=fun k g e hk=>by
  have:=J.G k _ hk;dsimp only at this;omega
 refine QQ Tryz.func29 rfl (by kernel_rfl) ?_;refine J7 H ?_;clear H;intro b2 w H;refine WX H ?_;refine J2 H ?_;refine RH H ?_;refine Zf H ?_;obtain⟨c,mo,a,cap,H⟩:=FT H.swap;obtain⟨_,_,hw,_,_⟩:=Vz H.swap;obtain⟨_,_,_,_,_,_,_,hmw,_⟩:=Zj (H.sel [2,0,0,0] 0);refine Zf H ?_;refine Zf H ?_;refine VH H ?_;replace H:=Js [0,2,0,0,0] 0 H;refine WI H ?_;refine Jc rfl rfl (iJ p c mo a cap told (by omega) _ L (by omega) hrL.there.there.there H) ?_;clear H;rintro v w ⟨ys,vt,vo,rfl,hys,hch,H⟩;generalize hTL:ys.map (·.1)=TL at H;generalize hOL:ys.map (·.2)=OL at H;obtain⟨at',ct,rfl⟩:=QE (m:=TL.length) H (W0 _) (by decide);obtain⟨ao,co,rfl⟩:=QE (m:=OL.length) H.drop (Vo _) (by decide);have hl1:TL.length=ys.length:=by rw[← hTL,length_map]
 have hl2:OL.length=ys.length:=by rw[← hOL,length_map]
 refine G3 H ?_;replace H:=Js [4,0,0,0,0] 0 H;refine J1 H ?_;clear H;intro w H;refine Ja 0 ?_;refine Ja 1 ?_;refine Jf 2 ?_;refine Jl 3 [7] H ?_;refine Jf 4 ?_;refine Jl 5 [7] H ?_;refine Ja 6 ?_;cases hf:QY s.par rg with
 | none=>
  have hlv:Y1 m.P rg=false:=by rw[← Wj J.R,hf];rfl
  have hW:Gl m rg OL=15:=by unfold Gl;rw[if_pos hlv]
  refine Jo 7 H ?_;refine Jk rfl rfl (iM c s rg (.slice at' TL.length ct) hf H) ?_;clear H;rintro v w ⟨rfl,H⟩;refine Ad H ?_;replace H:=Js [5,2,0,0,0,0] 0 H;refine J1 H ?_;clear H;intro w H;refine Ea H ?_;refine Jk rfl rfl (Fe mo m rg OL ao co (by omega) H) ?_;clear H;rintro v w ⟨rfl,H⟩;rw[hW];refine XH H ?_;refine Xs H ?_;refine XE H ?_;refine Xq H ?_;refine Zm H ?_;refine J3 H ?_;replace H:=Js [6,3,1,2,1,0,0] 0 H;exact Q3 (Jy (YH H.drop.drop.drop) rfl fun w' H'=>⟨rfl,s,m,told,Jn,H'⟩)
 | some q=>
  obtain⟨r,rfl,hr1,hPr,hq0⟩:=(J.R.tree _ _).1 ((Z1 J.R.nd).1 hf);have hid:(QY s.par (r:Int)).isSome=true:=by rw[hf];rfl
  have hlast:=J.R.last;have hck:=fm J.R hw hid hch;rw[hTL,hOL] at hck;refine Jo 7 H ?_;refine Jk rfl rfl (gE c s r hid J.T J.P (by omega) (.slice at' TL.length ct) TL (by omega) H) ?_;clear H;rintro v w (⟨hc,rfl,H⟩|⟨hc,rfl,hroom,H⟩|⟨hc,rfl,Z,s',hZ,hS,H⟩)
  ·refine Ad H ?_;replace H:=Js [5,2,0,0,0,0] 0 H;refine J1 H ?_;clear H;intro w H;refine Ea H ?_;refine Jk rfl rfl (Fe mo m r OL ao co (by omega) H) ?_;clear H;rintro v w ⟨rfl,H⟩;rw[← hck];refine XH H ?_;generalize Zb s r TL=E at hc hck;refine G1 H ?_;refine VX H ?_;rw[show (((E:Nat):Int) != 0)=true by rw[bne_iff_ne];omega];refine EJ H ?_;rw[Gm ((E:Nat):Int)];refine UQ H ?_;refine J3 H ?_;replace H:=Js [6,3,1,2,1,0,0] 0 H;exact Q3 (Jy (YH H.drop.drop.drop) rfl fun w' H'=>⟨rfl,s,m,told,Jn,H'⟩)
  ·refine Ad H ?_;replace H:=Js [5,2,0,0,0,0] 0 H;refine J1 H ?_;clear H;intro w H;refine Ea H ?_;refine Jk rfl rfl (Fe mo m r OL ao co (by omega) H) ?_;clear H;rintro v w ⟨rfl,H⟩;rw[← hck,hc];refine XH H ?_;refine Xs H ?_;refine CY H ?_;refine XE H ?_;replace H:=Js [2,0,0] 0 H;obtain⟨u,mem,hw2,hm2,H⟩:=Vz H;refine WD H ?_;refine U9 H ?_;refine Ur H ?_;replace H:=Js [3,0,0,0] 0 H;refine QT rfl rfl rfl (Qy (a:=[]) (b:=[]) rfl rfl (call (Ta u.sp s.size mem s.own H) ?_));clear H;rintro v w ⟨rfl,H⟩;replace H:=Js [1,1,1,0] 0 H;replace H:=VY hw2 hm2 H;refine Yj H ?_;refine QT rfl rfl rfl (ZJ rfl rfl ?_);refine Yj H ?_;have hTO:TL.length=OL.length:=by omega
   rw[show decide (((s.own.length - (s.own.filter (· != 0)).length:Nat):Int) < ((OL.length:Nat):Int))=true from decide_eq_true (by omega)];refine J3 H ?_;replace H:=Js [6,3,2,2,0,0,0] 0 H;exact Q3 (Jy (YH H.drop.drop.drop) rfl fun w' H'=>⟨rfl,s,m,told,Jn,H'⟩)
  ·refine Ad H ?_;replace H:=Js [5,2,0,0,0,0] 0 H;refine J1 H ?_;clear H;intro w H;refine Ea H ?_;refine Jk rfl rfl (Fe mo m r OL ao co (by omega) H) ?_;clear H;rintro v w ⟨rfl,H⟩;rw[← hck,hc];refine XH H ?_;refine Xs H ?_;refine CY H ?_;refine Vx H ?_;refine J1 H ?_;clear H;intro w H;refine EL H ?_;refine E4 H ?_;refine Jl 7 [11] H ?_;refine Jf 8 ?_;refine Jl 9 [11] H ?_;refine Ja 10 ?_;have hm0:Gl m r OL=0:=by rw[← hck];exact hc
   obtain⟨hlT,hc0⟩:=iP hc;rw[← hTL] at hc0 hZ;obtain⟨ho1,ho2,ho3⟩:=gw J.R hch hc0 hZ;have J':=J.split hw hid hS ho3;have hol:(ys.map fun y=>y.2.toNat).length=ys.length:=length_map _;have hOLe:OL=(ys.map fun y=>y.2.toNat).map fun o:Nat=>(o:Int):=by rw[← hOL];exact ho2
   generalize (ys.map fun y=>y.2.toNat)=os at ho1 hOLe J' hol;refine Jo 11 H ?_;refine Jk rfl rfl (iT mo m r os ao co (iS hm0) (by omega) ho1 (by omega) OL hOLe H) ?_;clear H;rintro v w ⟨rfl,H⟩;refine Ja 12 ?_;rw[hlast,Gm ((m.P.length:Nat):Int)];refine WM H ?_;replace H:=Js [6,3,1,2,1,0,0] 0 H;exact Q3 (Jy (YH H.drop.drop.drop) rfl fun w' H'=>⟨rfl,s',_,told,J',H'⟩)
structure YL where
 K:Int
 a:Ac
 rg:Int
 vL:Value
 L:List Int
def Zk (x:YL):List Value:=BQ x.K x.a.k x.a.A x.a.B x.a.C x.a.X x.a.vW x.a.raw x.a.i x.a.g x.rg x.vL
def KZ (l:List YL):List Value:=l.flatMap Zk
def Wr (fr:List Q2) (x:YL):Prop:=Fb fr x.a∧Vt fr x.vL x.L.length 1 (Qe x.L)
theorem Wr.there {A:Q2} {fr:List Q2} {x:YL} (h:Wr fr x):Wr (A::fr) x:=⟨⟨h.1.1,h.1.2.1,h.1.2.2.there⟩,h.2.there⟩
theorem ib (l:List YL):(KZ l).length=l.length*12:=by
 induction l with
 | nil=>rfl
 | cons p L ih=>simp only[KZ,Zk,flatMap_cons,length_append,length_cons,length_nil] at ih ⊢;omega
theorem ic {L:List YL} {i:Nat} {x:YL} (h:L[i]? = some x):∀ j v,(Zk x)[j]? = some v→(KZ L)[i*12+j]? = some v:=by
 induction L generalizing i with
 | nil=>simp at h
 | cons y L ih=>
  intro j v hj;have hj9:j < 12:=(List.getElem?_eq_some_iff.1 hj).1;cases i with
  | zero=>
   simp at h;subst h;show (Zk y++L.flatMap Zk)[0*12+j]? = _;rw[Nat.zero_mul,Nat.zero_add,getElem?_append_left hj9];exact hj
  | succ i=>
   have:=ih (i:=i) (by simpa using h) j v hj;show (Zk y++L.flatMap Zk)[(i+1)*12+j]? = _;rw[getElem?_append_right (by show 12≤_;omega)];show (L.flatMap Zk)[(i+1)*12+j - 12]? = _;rw[show (i+1)*12+j - 12=i*12+j by omega];exact this
theorem Pb {c:List Value} {o n:Nat} {L:List YL} (h:Q9 c o n (KZ L)) {i:Nat} {x:YL} (hp:L[i]? = some x):Q9 c (o+i*12) 12 (Zk x):=
 h.part (es:=Zk x) fun j v hj=>ic hp j v hj
theorem ie {i:Nat} (h:i < 9223372036854775807):Value.int .i64 (IntKind.i64.wrap ((i:Int)+1)) = .int .i64 ((i+1:Nat):Int):=by
 rw[Qb (by omega) (by omega)];rfl
theorem sls_rd [Q4] {w:World} {l:List Q2} {E k m cap:Nat} {a:Option Addr} {c:List Value} (hc:c.length=m*k) (H:Q0 w (QX E k (.slice a m cap) c::l)):∃ A:Q2,Q0 w (A::l)∧Vt (A::l) (.slice a m cap) m k c:=by
 by_cases hm:m=0
 ·exact⟨prop True,Q0.prop.2 ⟨trivial,H.drop⟩,hc,a,cap,rfl,.inl hm⟩
 ·obtain⟨b,s,rfl,H,_⟩:=V3 H (by omega);refine⟨_,H,hc,_,cap,rfl,.inr ⟨b,0,E,(0,0),c++s,rfl,inferInstance,?_⟩⟩;rw[← hc];refine Q9.of_get fun j v hj=>?_;rw[Nat.zero_add,getElem?_append_left (List.getElem?_eq_some_iff.1 hj).1];exact hj
theorem ig [Q4] (v:Value) (l:List Ac) (hl:l.length≤9223372036854775807) {w:World} {fr:List Q2} (hr:Vt fr v l.length 9 (KY l)) (hok:∀ x∈l,Fb fr x) (H:Q0 w fr) :
  Calls Tryz.prog 27 #[v] w (ret fun r w'=>∃ b:Bool,r = .int .i64 (if b then 1 else 0)∧(b=false→l.length≤60)∧Q0 w' fr):=by
 refine QQ Tryz.func27 rfl (by kernel_rfl) ?_;refine VF H ?_;obtain⟨_,ad,cap,rfl,_⟩:=id hr;refine YZ H ?_;refine Jc rfl rfl (gk _ l hl hr hok H) ?_;clear H;rintro r w ⟨b,rfl,hb,H⟩;refine J2 H ?_;cases b with
 | true=>
  refine YC H ?_;exact Q3 (Jy H rfl fun w' H'=>⟨true,rfl,fun h=>(by cases h),H'⟩)
 | false=>
  refine KS H ?_;exact Q3 (Jy H rfl fun w' H'=>⟨false,rfl,hb,H'⟩)
theorem ii [Q4] (v:Value) (l:List YL) (hl:l.length*128≤140737488351232) {w:World} {fr:List Q2} (hr:Vt fr v l.length 12 (KZ l)) (hok:∀ x∈l,Wr fr x) (H:Q0 w fr) :
  Calls Tryz.prog 6 #[v] w (ret fun r w'=>∃ b,r = .bool b∧(b=false→l.length≤60∧∀ x∈l,x.L.length≤80)∧Q0 w' fr):=by
 obtain⟨h0,ad,cap,rfl,hrd⟩:=hr;refine QQ Tryz.func6 rfl (by kernel_rfl) ?_;refine VF H ?_;refine A5 H ?_;refine Ql (fun ms σ w n=>ms=[]∧∃ (i:Nat) (vi:Value),i≤l.length∧n=l.length - i∧(∀ x∈l.take i,x.L.length≤80)∧σ 3=vi∧σ 6 = .slice ad l.length cap∧σ 7 = .int .i64 l.length∧σ 8 = .int .i64 i∧Q0 w (QX 103 9 vi (KY ((l.take i).map YL.a))::fr)) (m:=l.length) ⟨rfl,0,_,by omega,rfl,fun x hx=>(by simp at hx),rfl,rfl,rfl,rfl,Yt H⟩ ?_;clear H;rintro ms σ w n ⟨rfl,i,vi,hi,rfl,hsm,g3,g6,g7,g8,H⟩;obtain⟨ai,mi,ci,rfl⟩:=Qs H;rw[Q1 g3,Q1 g6,Q1 g7,Q1 g8];refine J8 H ?_;refine Qj rfl (fun h=>QD ?_) (fun h=>Qp ?_)
 ·have hlt:i < l.length:=by omega
  have hy:=getElem?_eq_getElem hlt;have htk:l.take (i+1)=l.take i++[l[i]]:=by rw[take_add_one,hy];rfl
  generalize l[i]=y at hy htk;have hym:=hok y (mem_of_getElem? hy)
  rcases hrd with hz|⟨b,o,E,fz,c,rfl,hA,hrd⟩
  ·omega
  haveI:=hA;obtain⟨K,⟨k,A,B,C,X,vW,ws,raw,i1,gg1⟩,rg,vL,L⟩:=y;obtain⟨⟨_,_,_,adW,capW,hvW,_⟩,_,adL,capL,hvL,_⟩:=hym;replace hvW:vW = .slice adW ws.length capW:=hvW;replace hvL:vL = .slice adL L.length capL:=hvL;subst hvW hvL;refine YB H ?_;refine Jd ?_;refine Q5 rfl (VA H rfl (Pb hrd hy) rfl ?_);refine VZ H ?_;clear H;intro b5 w H;refine J5 H ?_;clear H;intro w H;refine J2 H ?_;replace H:Q0 w (pts b5 (row 105 (BQ K k A B C X (.slice adW ws.length capW) raw i1 gg1 rg (.slice adL L.length capL)))::_):=H;refine KE H ?_;refine Gx H ?_;by_cases h80:(L.length:Int) > 80
  ·rw[show decide ((L.length:Int) > 80)=true from decide_eq_true (by omega)];refine YC H ?_;exact Q3 (Jy H.drop.drop rfl fun w' H'=>⟨true,rfl,fun h=>(by cases h),H'⟩)
  ·rw[show decide ((L.length:Int) > 80)=false from decide_eq_false (by omega)];refine AU H ?_;refine CZ H ?_;refine GJ H ?_;clear H;intro b19 w H;replace H:=Js [2,0,0] 0 H
   refine Q5 rfl (T9 H rfl rfl (by repeat first|exact .nil _|apply Q9.cons rfl) rfl (by decide) (fun n hn=>by
    rw[JX,length_map,length_take] at hn;omega) rfl rfl ?_);clear H;intro v20 w H
   obtain⟨a20,m20,c20,rfl⟩:=Qs H;refine J0 H ?_;replace H:=Js [1,1,0] 0 H;replace H:=H.drop.drop
   have e1:KY ((l.take i).map YL.a)++[.int .i64 k,.int .i64 A,.int .i64 B,.int .i64 C,.int .u64 X,.slice adW ws.length capW,.bool raw,.int .i64 i1,.int .i64 gg1]=KY ((l.take (i+1)).map YL.a):=by
    rw[htk,map_append];unfold KY;rw[flatMap_append];rfl
   rw[e1] at H;refine J4 H ?_;refine⟨_,⟨rfl,i+1,_,hlt,rfl,fun x hx=>?_,rfl,rfl,rfl,ie (by omega),H⟩,by omega⟩;rw[htk] at hx
   rcases mem_append.1 hx with hx|hx
   ·exact hsm x hx
   ·rw[mem_singleton] at hx;subst hx;show L.length≤80;omega
 ·obtain rfl:i=l.length:=by omega
  rw[take_length] at H hsm;have hla:(l.map YL.a).length=l.length:=length_map _;obtain⟨ai,ci,hv⟩:=QE (m:=(l.map YL.a).length) H (JX _) (by decide);injection hv with hv1 hv2 hv3
  subst hv1 hv2 hv3;refine YZ H ?_;obtain⟨A,H,hR⟩:=sls_rd (JX _) H
  refine Q5 rfl (Qy (a:=[]) (b:=[]) rfl rfl (call (ig _ (l.map YL.a) (by omega) hR (fun x hx=>by
     obtain⟨y,hy,rfl⟩:=mem_map.1 hx;have:=(hok y hy).1;exact⟨this.1,this.2.1,this.2.2.there⟩) H) ?_))
  clear H;rintro r w ⟨b,rfl,hb,H⟩;cases b with
  | true=>
   refine J3 H ?_;exact Q3 (Jy H.drop rfl fun w' H'=>⟨true,rfl,fun h=>(by cases h),H'⟩)
  | false=>
   refine J3 H ?_;have:=hb rfl;exact Q3 (Jy H.drop rfl fun w' H'=>⟨false,rfl,fun _=>⟨by omega,hsm⟩,H'⟩)
def jB:MS:=⟨[-1,0,1],[L0],[]⟩
def jC:MS:=Kq jB 1 1 0
def jD:MS:=Kq jC 2 1 0
def jE:MS:=(Yg jD 0 1 1).1
def jF:MS:=KV jE [2]
theorem Pc:V9 jB:=⟨⟨by simp[jB],by simp[jB]⟩,⟨by simp[jB],fun l h=>by simp[jB] at h;subst h;exact gp⟩,(fun x h=>by simp[jB] at h),by simp[jB]⟩
theorem Pd:Vq jB 1 1 0=(2,0):=by decide
theorem Pe:Vq jC 2 1 0=(2,0):=by decide
theorem Pf:V9 jC:=Ii (by rw[Pd]) Pc (by simp[jB])
theorem JH:V9 jD:=Ii (by rw[Pe]) Pf (by show (jB.objs++[_]).length < _;simp[jB])
theorem ij:V9 jE:=by
 show V9 (Yq jD 0 { GZ 1 1 0 2 with kind:=(GZ 1 1 0 2).kind.set 1 2,to:=(GZ 1 1 0 2).to.set 1 1 });exact Wi JH (Ih (JH.objs _ (show GZ 1 1 0 2∈[GZ 1 1 0 2,GZ 2 1 0 2] from mem_cons_self)) 1 2 1 (fun _=>by decide))
theorem ik {s:CS} {m:MS} {told:List (Nat×Nat)} (R:Rel s m told) (h:m.P=[-1,0,1]) (r q:Int):QY s.par r=some q↔(r=1∧q=0)∨(r=2∧q=1):=by
 rw[Z1 R.nd,R.tree,h];constructor
 ·rintro⟨k,rfl,h1,h2,h3⟩
  match k,h1,h2 with
  | 1,_,h2=>injection h2 with h2;exact .inl ⟨rfl,h2.symm⟩
  | 2,_,h2=>injection h2 with h2;exact .inr ⟨rfl,h2.symm⟩
  | k+3,_,h2=>cases h2
 ·rintro(⟨rfl,rfl⟩|⟨rfl,rfl⟩)
  ·exact⟨1,rfl,by omega,rfl,by omega⟩
  ·exact⟨2,rfl,by omega,rfl,by omega⟩
theorem il {L:List Int} {x:Int} (hnd:L.Nodup) (h:∀ c,c∈L↔c=x):L=[x]:=by
 cases L with
 | nil=>have:=(h x).2 rfl;cases this
 | cons a L=>
  obtain rfl:=(h a).1 mem_cons_self;cases L with
  | nil=>rfl
  | cons b L=>
   obtain rfl:=(h b).1 (by simp);simp at hnd
theorem Pg [Q4] {w:World} {fr:List Q2} [hT:YW 0 Lib.deBruijn64tab fr] (H:Q0 w fr) :
  Calls Tryz.prog 5 #[] w (ret fun v w'=>v = .bool true∧Q0 w' fr):=by
 have Rs0:=PW 6 8 6;have hdS:Ud (Xd 6 8 6) [2,2,0]=({ Xd 6 8 6 with lays:=[L0] },1,0):=by rw[Av gn];rfl
 refine QQ Tryz.func5 rfl (by kernel_rfl) ?_;refine Bs H ?_;refine Jc rfl rfl (NI 6 8 6 (by omega) (by omega) (by omega) (by omega) (by omega) (by omega) H) ?_;clear H;rintro v w ⟨c,rfl,H⟩;replace H:Q0 w (QW c (Xd 6 8 6)::fr):=H;refine G3 H ?_;refine Vc H ?_;refine Yj H ?_;refine E8 H ?_;refine YZ H ?_;refine GJ H ?_;clear H;intro b22 w H;replace H:=H.swap;have hrd:Vt (pts b22 (row 94 [.int .u64 2,.int .u64 2,.int .u64 0])::fr) (.slice (some ⟨b22,0,none⟩) 3 3) 3 1 (Qa [2,2,0]):=⟨rfl,_,_,rfl,.inr ⟨b22,0,_,_,_,rfl,inferInstance,.cons rfl (.cons rfl (.cons rfl (.nil _)))⟩⟩;refine Jc rfl rfl (NH c (Xd 6 8 6) _ [2,2,0] (by decide) hrd H) ?_;clear H;rintro v w ⟨rfl,H⟩;rw[hdS] at H ⊢
 have RA:Rel { Xd 6 8 6 with lays:=[L0] } ⟨[-1],[L0],[]⟩ []:=by
  have h:=(OT Rs0 gr [2,2,0]).2;rw[hdS] at h;exact h
 refine By H ?_;refine Jc rfl rfl (IU c _ 0 (by decide) H) ?_;clear H;rintro v w (⟨h1,rfl,H⟩|⟨_,ob,ob2,rfl,H⟩)
 ·exact absurd rfl h1
 have RO:=Il RA (parent:=0) rfl ob ob2;generalize hsA:Wf { Xd 6 8 6 with lays:=[L0] } 0 ob ob2=sA at H RO;have hA1:sA.par=[(1,0)]∧sA.last=1:=by rw[← hsA];exact⟨rfl,rfl⟩
 refine By H ?_;have hadd:Z7 sA.par 1=0:=by rw[hA1.1];decide
 refine Jc rfl rfl (IU c _ 1 (by rw[hA1.2];decide) H) ?_;clear H;rintro v w (⟨h1,rfl,H⟩|⟨_,oc,oc2,rfl,H⟩)
 ·exact absurd hadd h1
 have RB:=Il RO (parent:=1) (by decide) oc oc2;generalize hsB:Wf sA 1 oc oc2=sB at H RB;have hB1:sB.size=8:=by rw[← hsB,← hsA];rfl
 have hB2:sB.own=List.replicate 6 0:=by rw[← hsB,← hsA];rfl
 have hB3:sB.tab=List.replicate 6 ⟨0,none⟩:=by rw[← hsB,← hsA];rfl
 have FB:W1 sB []:=⟨⟨6,by rw[hB3];rfl⟩,rfl,Nh (by rw[← hsB,← hsA];rfl) (by rw[hB3];exact Ni)⟩;replace RB:Rel sB jB []:=RB;refine By H ?_;refine Jc rfl rfl (Fa c sB 1 1 0 H) ?_;clear H;rintro v w ⟨i1,g1,e1,sC,rfl,hM1,H⟩;obtain⟨rfl,rfl,rfl,RC,FC,hC1,hC2,hC3⟩:=PA RB Pc FB hM1 Pd hB1 (by rw[hB3];decide) ⟨0,by rw[hB2];decide,by rw[hB2];rfl⟩;rw[hB3] at hC3;rw[hB2] at hC2;replace RC:Rel sC jC [(0,1)]:=RC;replace FC:W1 sC [(0,1)]:=FC
 have hfree:∃ a,a < sC.own.length∧sC.own.getD a 0=0:=by
  obtain⟨hl,a0,k0,hk0,hg⟩:=hC2
  have hz:∀ a,a≠a0→sC.own.getD a 0=0:=by
   intro a ha;refine Classical.byContradiction fun h=>?_
   rcases hg a h with h1|h1
   ·exact h1 (Ip 6 a)
   ·omega
  have hl4:sC.own.length=6:=hl;by_cases h0:a0=0
  ·exact⟨1,by omega,hz 1 (by omega)⟩
  ·exact⟨0,by omega,hz 0 (by omega)⟩
 refine Ve H ?_;clear H;intro b3 w H;refine J5 H ?_;clear H;intro w H;refine J0 H ?_;replace H:=H.swap;refine YZ H ?_;refine Jc rfl rfl (Fa c sC 2 1 0 H) ?_;clear H;rintro v w ⟨i2,g2,e2,sD,rfl,hM2,H⟩;obtain⟨rfl,rfl,rfl,RD,FD,hD1,hD2,hD3⟩:=PA RC Pf FC hM2 Pe hC1 (by rw[hC3];decide) hfree;replace RD:Rel sD jD [(0,1),(1,1)]:=RD;refine Ve H ?_;clear H;intro b5 w H;refine J5 H ?_;clear H;intro w H;refine J0 H ?_;replace H:=Js [1,0,0] 0 H;refine WD H ?_;refine BL H ?_;refine Eb H ?_;obtain⟨_,_,hwD,_,_⟩:=Vz H;have P0:U4 [(0,1),(1,1)] 0 1 0 := .inl ⟨0,1,0,rfl,rfl,rfl,rfl⟩;have P1:U4 [(0,1),(1,1)] 1 1 1 := .inl ⟨1,1,1,rfl,rfl,rfl,rfl⟩;obtain⟨t1,RE⟩:=OO RD hwD JH P0 P1 1;rw[show (Yg jD 0 1 1).2=0 by decide] at t1;replace RE:Rel (Yn sD 0 1 1 1 1).1 jE [(0,1),(1,1)]:=RE;have IE:=Nf hwD FD.inv 0 1 1 1 1;have shE:=P8 sD 0 1 1 1 1;refine QT rfl rfl rfl (Qy (a:=[]) (b:=[]) rfl rfl (call (NF c sD 0 1 1 1 1 H) ?_));clear H;rintro v w ⟨rfl,H⟩;rw[t1];generalize (Yn sD 0 1 1 1 1).1=sE at H RE IE shE
 have hgE:∀ (k g:Nat) (e:Q8),sE.tab[k]? = some ⟨g,some e⟩→g < 255:=by
  intro k g e hk;obtain⟨⟨r,hs⟩,_,_⟩:=id FD;rw[← shE] at hs
  rcases B8 hs hk with ⟨_,h1,_⟩|⟨_,_,h1,_⟩
  ·have h1:g=1:=h1;omega
  ·have h1:g=0:=h1;omega
 have hparE:=ik RE rfl
 have hTE:Yo sE.par:=by
  refine⟨RE.nd,fun r q hr=>?_⟩
  rcases (hparE r q).1 hr with ⟨rfl,rfl⟩|⟨rfl,rfl⟩
  ·exact⟨by omega,by omega,.inl rfl⟩
  ·exact⟨by omega,by omega,.inr (by rw[(hparE 1 0).2 (.inl ⟨rfl,rfl⟩)];rfl)⟩
 refine WZ H ?_;refine YZ H ?_;refine Jc rfl rfl (Iu c sE 2 hTE (by rw[(hparE 2 1).2 (.inr ⟨rfl,rfl⟩)];rfl) IE hgE H) ?_;clear H;rintro v w ⟨u,L,sF,rfl,hL1,hL2,hL3,hL4,hF,H⟩
 have hLd:L=[2]:=il hL1 fun c=>by
  rw[hL3];constructor
  ·intro d;cases d with
   | self=>rfl
   | kid hd hf=>
    rcases (hparE _ _).1 hf with ⟨rfl,rfl⟩|⟨rfl,rfl⟩
    ·have:=hd.ge hTE;omega
    ·have:=hd.ge hTE;omega
  ·rintro rfl;exact .self
 subst hLd;obtain⟨aL,cL,rfl⟩:=QE H (Vo [2]) (by decide);obtain⟨G,D,hT⟩:=hF.t;have RF:Rel sF jF [(0,1),(1,1)]:=On (L:=[2]) RE ij IE hT;refine G3 H ?_
 have t4:Y5 sF 0 1 1=(.grave,0):=by
  rcases Ik RF P0 1 with ⟨h1,h2⟩|⟨h1,n,j,x,h2,h3,h4,_,_,_,_,h5⟩
  ·exact absurd (by decide) h1
  ·obtain rfl:n=0:=by omega
   obtain rfl:j=1:=by omega
   rw[h5];have h6:jF.objs[0]? = some ⟨1,1,0,[0,0],[0,1],[0,0],true,false,false⟩:=by rfl
   rw[h6] at h4;injection h4 with h4
   rw[← h4];rfl
 replace H:=Js [1,0,0,0] 0 H;refine Gv H ?_;refine Jc rfl rfl (FQ c sF 0 1 1 H) ?_;clear H;rintro v w ⟨rfl,H⟩;rw[t4];refine Ve H ?_;clear H;intro b9 w H;refine J5 H ?_;clear H;intro w H;refine E6 H ?_;refine Yj H ?_;refine QT rfl rfl rfl (R7 H rfl rfl rfl ?_);clear H;intro b66 w H;replace H:Q0 w (IL (.slice (some ⟨b66,0,none⟩) 1 1) [2]::_):=Uq rfl H;replace H:=Js [3,0,0,0,0,0] 0 H;have hSame:=If (.slice aL 1 cL) (.slice (some ⟨b66,0,none⟩) 1 1) [2] [2] (by decide) H;refine QT rfl rfl rfl (Qy (a:=[]) (b:=[]) rfl rfl (call (hSame) ?_));clear hSame;clear H;rintro v w ⟨rfl,H⟩;rw[show decide ([2]=([2]:List Int))=true from rfl];refine Jv ?_;refine Jv ?_;refine VU rfl rfl rfl rfl ?_;refine VU rfl rfl rfl rfl ?_;refine YA H ?_;refine CV H ?_;refine QT rfl rfl rfl (R9 rfl rfl rfl rfl (.inl rfl) rfl ?_);refine J3 H ?_;replace H:Q0 w fr:=H.drop.drop.drop.drop.drop.drop.drop;exact Q3 (Jy H rfl fun w' H'=>⟨rfl,H'⟩)
theorem im [Q4] (p:Nat) (s:CS) (m:MS) (told:List (Nat×Nat)) (n:Nat) (J:Yb s m told n) (hn:n≤60) (K k A B C i g:Int) (X:Nat) (hX:X < 18446744073709551616) (vW:Value) (ws:List Nat) (hws:∀ x∈ws,x < 18446744073709551616) (raw:Bool) (rg:Int) (vL:Value) (L:List Int) (hL:L.length≤80)
  {w:World} {fr:List Q2} [hT:YW 0 Lib.deBruijn64tab fr] (hrW:Vt fr vW ws.length 1 (Qa ws)) (hrL:Vt fr vL L.length 1 (Qe L)) (H:Q0 w (Uk p s m told::fr)) :
  Calls Tryz.prog 29 #[.agg (BQ K k A B C X vW raw i g rg vL).toArray,pp p] w (ret fun v w'=>v = .bool true∧∃ s' m' told',Yb s' m' told' (n+1)∧Q0 w' (Uk p s' m' told'::fr)):=by
 by_cases hK:K=3
 ·subst hK;exact ia p s m told n J hn k A B C i g X hX vW ws hws raw rg vL L hL hrW hrL H
 ·exact iO p s m told n J hn K k A B C i g hK X hX vW ws hws raw rg vL L hL hrW hrL H
theorem io [Q4] (z1 z2 z3:Int) (v:Value) (l:List YL) (hl:l.length≤60) (h80:∀ x∈l,x.L.length≤80) {w:World} {fr:List Q2} [hT:YW 0 Lib.deBruijn64tab fr] (hr:Vt fr v l.length 12 (KZ l)) (hok:∀ x∈l,Wr fr x) (H:Q0 w fr) :
  Calls Tryz.prog 7 #[.agg #[.int .i64 z1,.int .i64 z2,.int .i64 z3],v] w (ret fun r w'=>∃ p s m told,r = .tuple #[pp p,.bool true]∧Yb s m told 60∧Q0 w' (Uk p s m told::fr)):=by
 obtain⟨_,ad,cap,rfl,hrd⟩:=id hr;refine QQ Tryz.func7 rfl (by kernel_rfl) ?_;refine J7 H ?_;clear H;intro b2 w H;refine J3 H ?_;refine GH H ?_;refine Jc rfl rfl (gm z1 z2 z3 H) ?_;clear H;rintro r w ⟨p,n,size,slots,rfl,hn1,hn2,hs1,hs2,ht1,ht2,H⟩;refine AD H ?_;replace H:=H.swap.drop;refine YZ H ?_;refine KP H ?_;refine Ql (fun ms σ w n=>ms=[]∧∃ (i:Nat) (s:CS) (m:MS) (told:List (Nat×Nat)),i≤l.length∧n=l.length - i∧Yb s m told i∧σ 6=pp p∧σ 13 = .slice ad l.length cap∧σ 14 = .int .i64 l.length∧σ 15 = .int .i64 i∧Q0 w (Uk p s m told::fr)) (m:=l.length) ⟨rfl,0,_,_,_,by omega,rfl,Yb.start n size slots,rfl,rfl,rfl,rfl,H⟩ ?_;clear H;rintro ms σ w n' ⟨rfl,i,s,m,told,hi,rfl,J,g6,g13,g14,g15,H⟩;rw[Q1 g6,Q1 g13,Q1 g14,Q1 g15];refine J8 H ?_;refine Qj rfl (fun h=>QD ?_) (fun h=>Qp ?_)
 ·have hlt:i < l.length:=by omega
  have hy:=getElem?_eq_getElem hlt;generalize l[i]=y at hy;have hm:=mem_of_getElem? hy;obtain⟨⟨hX,hws,hrW⟩,hrL⟩:=hok y hm;have hL:=h80 y hm
  rcases hrd with hz|⟨b,o,E,fz,c,rfl,hA,hrd⟩
  ·omega
  haveI:=hA;obtain⟨K,⟨k,A,B,C,X,vW,ws,raw,i1,gg1⟩,rg,vL,L⟩:=y;obtain⟨_,adW,capW,hvW,_⟩:=id hrW;obtain⟨_,adL,capL,hvL,_⟩:=id hrL;replace hvW:vW = .slice adW ws.length capW:=hvW;replace hvL:vL = .slice adL L.length capL:=hvL;subst hvW hvL;refine YB H ?_;refine Jd ?_;refine Q5 rfl (VA H rfl (Pb hrd hy) rfl ?_);refine VZ H ?_;clear H;intro b8 w H;refine J5 H ?_;clear H;intro w H;refine J2 H ?_;replace H:Q0 w (pts b8 (row 105 (BQ K k A B C X (.slice adW ws.length capW) raw i1 gg1 rg (.slice adL L.length capL)))::_):=H;refine AA H ?_;refine Jc rfl rfl (im p s m told i J (by omega) K k A B C i1 gg1 X hX _ ws hws raw rg _ L hL hrW.there hrL.there H.swap) ?_;clear H;rintro r w ⟨rfl,s',m',told',J',H⟩;refine Uv H ?_;exact⟨_,⟨rfl,i+1,s',m',told',hlt,rfl,J',rfl,rfl,rfl,Qc (by omega),H.swap.drop⟩,by omega⟩
 ·refine VX H ?_;have UV:Yb s m told 60:=⟨J.R,J.I,J.T,J.P,J.G,by have:=J.O;omega,by have:=J.Q;omega⟩;exact Q3 (Jy H rfl fun w' H'=>⟨p,s,m,told,rfl,UV,H'⟩)
theorem iq [Q4] (c:Nat) (s:CS) (R:Int) (hT:Yo s.par) (hI:Inv s) (hgen:∀ (k g:Nat) (e:Q8),s.tab[k]? = some ⟨g,some e⟩→g < 255) {w:World} {fr:List Q2} (H:Q0 w (QW c s::fr)) :
  Calls Tryz.prog 13 #[pp c,.int .i64 R] w (ret fun v w'=>∃ (u:Value) (E:Int) (s':CS),v = .tuple #[u,.int .i64 E]∧(∀ y,D0 s y→JW s' y∨(E=0∧QS s'.tab y.k y.g=none))∧Q0 w' (QW c s'::fr)):=by
 cases hf:QY s.par R with
 | none=>
  refine(Pa c s R hf H).mono ?_;intro e w' h;cases e with
  | panicked c=>exact h.elim
  | outgrown=>exact h.elim
  | returned x=>
   obtain⟨rfl,h⟩:=h;exact⟨_,15,s,rfl,fun y hy => .inl (gz hI hy),h⟩
 | some q=>
  have hid:(QY s.par R).isSome=true:=by rw[hf];rfl
  refine(Iu c s R hT hid hI hgen H).mono ?_;intro e w' h;cases e with
  | panicked c=>exact h.elim
  | outgrown=>exact h.elim
  | returned x=>
   obtain⟨u,L,s',rfl,h1,h2,h3,h4,h5,h⟩:=h;obtain⟨G,D,t⟩:=h5.t;exact⟨u,0,s',rfl,fun y hy=>(hY t hI hy).elim (fun h => .inr ⟨rfl,h⟩) .inl,h.drop⟩
theorem ir (s:CS) (ks:List Nat) (k g:Nat) (e:Q8) (kp:List Nat) (pl:Nat):YU (ks.flatMap (Yr s)++Zy k g e kp)++Gp ⟨k,g,pl,Qx e pl⟩=YU (ks.flatMap (Yr s)++Zy k g e (kp++[pl])):=by
 rw[i8,← append_assoc,hU (ks.flatMap (Yr s)++Zy k g e kp)];rfl
theorem iu (o:Option (Nat×Q8)):∃ e1 e2 h1 h2 e4,CI o = .tuple #[.agg #[.int .i64 e1,.int .i64 e2,.bool h1,.bool h2],.int .i64 e4]∧e4=(if o.isSome then (0:Int) else 8):=by
 cases o <;> exact⟨_,_,_,_,_,rfl,rfl⟩
theorem iv (ts:List QK) (l:VP):(Gn l=2∧QS ts (GX l) (GK l)=none→JR ts l = .grave)∧(¬ (Gn l=2∧QS ts (GX l) (GK l)=none)→JR ts l=l):=by
 cases l with
 | none=>exact⟨fun h=>(by cases h.1),fun _=>rfl⟩
 | grave=>exact⟨fun h=>(by cases h.1),fun _=>rfl⟩
 | obj a b=>
  constructor
  ·rintro⟨_,h⟩;have h:QS ts (a:Int) (b:Int)=none:=h;show (if (QS ts a b).isSome then _ else _)=_;rw[h];rfl
  ·intro h;show (if (QS ts a b).isSome then _ else _)=_;cases h2:QS ts (a:Int) (b:Int) with
   | none=>exact absurd ⟨rfl,h2⟩ h
   | some q=>rfl
theorem Ph (a b d:Int):veq [.int .i64 a,.int .i64 b,.int .i64 d] [.int .i64 a,.int .i64 b,.int .i64 d]=true:=by simp[veq]
set_option maxRecDepth 10000 in
theorem iw [Q4] (z1 z2 z3:Int) (v:Value) (l:List YL) (hl:l.length*128≤140737488351232) (r0:Int) {w:World} {fr:List Q2} [hT:YW 0 Lib.deBruijn64tab fr] (hr:Vt fr v l.length 12 (KZ l)) (hok:∀ x∈l,Wr fr x) (H:Q0 w fr) :
  Calls Tryz.prog 4 #[.agg #[.int .i64 z1,.int .i64 z2,.int .i64 z3],v,.int .i64 r0] w (ret fun r w'=>r = .bool true∧Q0 w' fr):=by
 obtain⟨_,ad,cap,rfl,_⟩:=id hr;refine QQ Tryz.func4 rfl (by kernel_rfl) ?_;refine J7 H ?_;clear H;intro b3 w H;refine J0 H ?_;refine Zn H ?_;refine Jc rfl rfl (Pg H) ?_;clear H;rintro v w ⟨rfl,H⟩;refine BL H ?_;refine QT rfl rfl rfl (Qy (a:=[]) (b:=[]) rfl rfl (call (ii _ l hl hr.there (fun x hx=>(hok x hx).there) H) ?_));clear H;rintro r w ⟨b,rfl,hb,H⟩;cases b with
 | true=>
  refine XE H ?_;refine Zn H ?_;refine Jc rfl rfl (Pg H) ?_;clear H;rintro v w ⟨rfl,H⟩;refine J0 H ?_;exact Q3 (Jy H.drop rfl fun w' H'=>⟨rfl,H'⟩)
 | false=>
 obtain⟨h60,h80⟩:=hb rfl;refine Vx H ?_;refine AA H ?_;refine Jc rfl rfl (io z1 z2 z3 _ l h60 h80 hr.there (fun x hx=>(hok x hx).there) H) ?_;clear H;rintro r w ⟨p,s,m,told,rfl,J,H⟩;refine Ve H ?_;clear H;intro b7 w H;refine CQ H ?_;clear H;intro w H;refine Yl H ?_;refine Y7 H ?_;clear H;intro b9 w H;refine J2 H ?_;replace H:=Js [2,0,0] 0 H;obtain⟨c,mo,a,capT,H⟩:=FT H;obtain⟨q,mem,hw,hm,H⟩:=Vz H.swap;have hO:=J.O;have hlen:=J.R.len;have hslots:=hw.slots.2;replace H:=Js [4,0,0,0,0,0,0,0,0,0,0,0,2,2] 3 H;obtain⟨tq,H,hTAB⟩:=d5 H;refine Uz H ?_;refine ZW H ?_;refine Jc rfl rfl (d9 q.tp H) ?_;clear H;rintro v w ⟨bt,rfl,H⟩;refine J2 H ?_;replace H:=Yt (E:=87) (k:=6) H;replace H:=H.swap;refine J6 H ?_;refine QP (Xn (a:=[]) (b:=[pp bt]) H rfl (fun yl D w H=>?_));generalize hL:LR _ yl _ _ _ _ D .ready=L at H ⊢;obtain⟨JJ,hJ⟩:∃ JJ:List Nat→Q2,JJ=fun ks=>ex fun v:Value=>star [L,pts b9 (row 73 [v]),QX 87 6 v (YU (ks.flatMap (Yr s))),pts b7 (row 30 [pp p]),Va p c mo (.slice a told.length capT),Qt c q,Qr q.ip q.sp q.bp,Qi q.bp s.lays,ST q.sp s.size mem s.own]:=⟨_,rfl⟩
 have hin:∀ (ks:List Nat) (v:Value) (w:World) (l':List Q2),Q0 w (L::pts b9 (row 73 [v])::QX 87 6 v (YU (ks.flatMap (Yr s)))::pts b7 (row 30 [pp p])::Va p c mo (.slice a told.length capT)::Qt c q::Qr q.ip q.sp q.bp::Qi q.bp s.lays::ST q.sp s.size mem s.own::l')→Q0 w (JJ ks::l'):=by
  intro ks v w l' H;rw[hJ];exact Q0.ex.2 ⟨v,Q0.star.2 H⟩
 have hout:∀ (ks:List Nat) (w:World) (l':List Q2),Q0 w (JJ ks::l')→∃ v:Value,Q0 w (L::pts b9 (row 73 [v])::QX 87 6 v (YU (ks.flatMap (Yr s)))::pts b7 (row 30 [pp p])::Va p c mo (.slice a told.length capT)::Qt c q::Qr q.ip q.sp q.bp::Qi q.bp s.lays::ST q.sp s.size mem s.own::l'):=by
  intro ks w l' H;rw[hJ] at H;obtain⟨v,H⟩:=Q0.ex.1 H;exact⟨v,Q0.star.1 H⟩
 replace H:=Js [0,15,2,14,13,3,3,3,3,1,1,0,0,0,0,0,0,0] 0 H;replace H:=hin [] (.slice none 0 0) _ _ H;refine call (dQ yl bt q.tp s.tab tq JJ ?_ H) ?_
 ·clear H;intro ks k g e rest w hk hpre H;obtain⟨t1,hpre⟩:=hpre;obtain⟨v,H⟩:=hout _ _ _ H;have hL1:QS s.tab k g=some (k,e):=Ku hk;have hks:=PI hpre;have hsl:=PH hw ks;subst hL;refine XX (args:=[UY k g,.agg (Vl e).toArray]) H rfl rfl ?_;refine Y7 H ?_;clear H;intro b10 w H;refine J5 H ?_;clear H;intro w H;refine J2 H ?_;replace H:=Js [1,0] 0 H;refine⟨rfl,_,H,fun w H=>QP ?_⟩;generalize hLB:LR _ yl _ _ _ _ D .busy=LB at H ⊢;replace H:=Js [10,0,0,0,0,0,0,0,0,0,0] 0 H;refine J6 H ?_;refine Qk (fun ms σ w=>ms=[]∧∃ b11,σ 7=pp b7∧σ 9=pp b9∧σ 10=pp b10∧σ 11=pp b11∧Q0 w (LB::pts b11 (row 78 (Vl e))::ZP q.tp s.tab tq::pts b10 (row 62 [.int .i64 k,.int .i64 g])::pts b9 (row 73 [v])::QX 87 6 v (YU (ks.flatMap (Yr s)))::pts b7 (row 30 [pp p])::Va p c mo (.slice a told.length capT)::Qt c q::Qr q.ip q.sp q.bp::Qi q.bp s.lays::ST q.sp s.size mem s.own::rest)) ?_ ?_
  ·refine J1 H ?_;clear H;intro w H;refine Jl 0 [8,13] H ?_;refine G4 H ?_;refine Jl 3 [8,13] H ?_;refine RU H ?_;refine Jl 6 [8,13] H ?_;refine VB 7 [8,13] H rfl (Q7.none rfl) rfl (by repeat first|exact .nil _|apply Q9.cons rfl) (by kernel_rfl) ?_;refine Jw 8 12 H rfl rfl (Qy (a:=[]) (b:=[]) rfl rfl (call (Nm q.tp s.tab tq k g H) ?_)) (VN H rfl ?_)
   ·clear H;rintro v w ⟨rfl,H⟩;rw[hL1];refine Ja 9 ?_;refine Ja 10 ?_;refine Ja 11 ?_;refine Jo 12 H ?_;refine VN H rfl ?_;clear H;intro b11 w H;refine Jo 13 H ?_;refine Gy H ?_;clear H;intro w H;refine Ja 14 ?_;refine Jx H ?_;replace H:=Js [2,0,0] 0 H;exact⟨rfl,rfl,b11,rfl,rfl,rfl,rfl,H⟩
   ·clear H;intro b11 w H;refine Jo 8 H ?_;refine Jk rfl rfl (Nm q.tp s.tab tq k g H.swap) ?_;clear H;rintro v' w ⟨rfl,H⟩;rw[hL1];refine Ja 9 ?_;refine Ja 10 ?_;refine Ja 11 ?_;replace H:=H.swap;refine Jo 13 H ?_;refine Gy H ?_;clear H;intro w H;refine Ja 14 ?_;refine Jx H ?_;replace H:=Js [2,0,0] 0 H;exact⟨rfl,rfl,b11,rfl,rfl,rfl,rfl,H⟩
  clear H;rintro ms σ w ⟨rfl,b11,g7,g9,g10,g11,H⟩;rw[Q1 g7,Q1 g9,Q1 g10,Q1 g11];subst hLB;refine J1 H ?_;clear H;intro w H;refine Jl 0 [9] H ?_;refine G4 H ?_;refine Jl 3 [9] H ?_;refine RU H ?_;refine Jl 6 [9] H ?_;refine Jf 7 ?_;refine Jl 8 [9] H ?_;refine Jo 9 H ?_;refine Jk rfl rfl (NC q.ip e.addr H) ?_;clear H;rintro v' w ⟨bm,ba,rfl,H⟩;refine Jx H ?_;replace H:=Js [2,0,0] 0 H;refine J6 H ?_;refine QP (T0 (a:=[]) (b:=[pp bm,pp ba]) H rfl (fun yl2 w H=>?_));generalize hL2:LR _ yl2 _ _ _ _ D .ready=L2 at H ⊢;generalize hLB:LR _ yl _ _ _ _ D .busy=LB at H ⊢;obtain⟨J3,hJ3⟩:∃ J3:List Nat→Q2,J3=fun kp=>ex fun v:Value=>star [L2,LB,pts b11 (row 78 (Vl e)),pts b10 (row 62 [.int .i64 k,.int .i64 g]),pts b9 (row 73 [v]),QX 87 6 v (YU (ks.flatMap (Yr s)++Zy k g e kp)),pts b7 (row 30 [pp p]),Va p c mo (.slice a told.length capT),Qt c q,ZP q.tp s.tab tq]:=⟨_,rfl⟩
  have hin3:∀ (kp:List Nat) (v:Value) (w:World) (l':List Q2),Q0 w (L2::LB::pts b11 (row 78 (Vl e))::pts b10 (row 62 [.int .i64 k,.int .i64 g])::pts b9 (row 73 [v])::QX 87 6 v (YU (ks.flatMap (Yr s)++Zy k g e kp))::pts b7 (row 30 [pp p])::Va p c mo (.slice a told.length capT)::Qt c q::ZP q.tp s.tab tq::l')→Q0 w (J3 kp::l'):=by
   intro kp v w l' H;rw[hJ3];exact Q0.ex.2 ⟨v,Q0.star.2 H⟩
  have hout3:∀ (kp:List Nat) (w:World) (l':List Q2),Q0 w (J3 kp::l')→∃ v:Value,Q0 w (L2::LB::pts b11 (row 78 (Vl e))::pts b10 (row 62 [.int .i64 k,.int .i64 g])::pts b9 (row 73 [v])::QX 87 6 v (YU (ks.flatMap (Yr s)++Zy k g e kp))::pts b7 (row 30 [pp p])::Va p c mo (.slice a told.length capT)::Qt c q::ZP q.tp s.tab tq::l'):=by
   intro kp w l' H;rw[hJ3] at H;obtain⟨v,H⟩:=Q0.ex.1 H;exact⟨v,Q0.star.1 H⟩
  replace H:=Js [0,0,2,3,3,3,3,3,3,2,0,0,0,0,0] 0 H;have hnil:YU (ks.flatMap (Yr s))=YU (ks.flatMap (Yr s)++Zy k g e []):=by rw[show Zy k g e []=[] from rfl,append_nil]
  rw[hnil] at H;replace H:=hin3 [] v _ _ H;refine call (ND yl2 bm ba q.ip q.sp q.bp s.size s.lays s.own e.addr e.lay e.count k e.ws.length (QJ s e) (Qx e) (fun x=>x=mem) (fun x hx=>by rw[hx];exact IX hw hm hk) J3 ?_ rfl H) ?_
  ·clear H;intro kp pl mem' rest2 w hme hpre2 H;have hme:mem'=mem:=hme;rw[hme] at H;obtain⟨t2,hpre2⟩:=hpre2;have hsl2:=iQ hw hk hpre2;obtain⟨v3,H⟩:=hout3 _ _ _ H;rw[JA (Qx e pl)];subst hL2;refine XX (args:=[.int .i64 pl,.agg #[.int .i64 (Gn (Qx e pl)),.int .i64 (GX (Qx e pl)),.int .i64 (GK (Qx e pl))]]) H rfl rfl ?_;refine VF H ?_;refine Y7 H ?_;clear H;intro b14 w H;refine J5 H ?_;clear H;intro w H;refine J2 H ?_;replace H:=Js [1,0] 0 H;refine⟨rfl,_,H,fun w H=>QP ?_⟩;refine EC H ?_;refine KA H ?_;refine A7 H ?_;clear H;intro b80 w H;replace H:=Js [7,0,0,0,0,0,0,0] 0 H;refine Q5 rfl (YR H rfl rfl (by repeat first|exact .nil _|apply Q9.cons rfl) rfl (by decide) (by rw[PD,length_append];simp only[length_cons,length_nil];omega) rfl rfl ?_);clear H;intro v81 w H;obtain⟨au,mu,cu,rfl⟩:=Qs H;replace H:Q0 w (QX 87 6 (.slice au mu cu) (YU (ks.flatMap (Yr s)++Zy k g e kp)++Gp ⟨k,g,pl,Qx e pl⟩)::_):=H;rw[ir] at H;refine CQ H ?_;clear H;intro w H;refine J2 H ?_;replace H:=Js [2,3,3,3,3,0,2,2,2,2,2,2,2] 2 H;exact⟨rfl,_,H,fun w H=>⟨rfl,mem,rfl,hin3 _ _ _ _ H⟩⟩
  ·clear H;rintro v' w H;obtain⟨mem',hme,H⟩:=H;have hme:mem'=mem:=hme;rw[hme] at H;obtain⟨v3,H⟩:=hout3 _ _ _ H;subst hL2;refine⟨_,H,fun w H=>?_⟩;subst hLB
   have hc:ks.flatMap (Yr s)++Zy k g e (X6 (QJ s e) e.ws.length)=(ks++[k]).flatMap (Yr s):=by
    rw[flatMap_append,← PE hk];simp
   rw[hc] at H;replace H:=Js [0,2,2,2,2,2,5,5,5,2] 4 H;exact⟨rfl,_,H,fun w H=>⟨rfl,hin _ _ _ _ H⟩⟩
 ·clear H;rintro v' w H;obtain⟨v,H⟩:=hout _ _ _ H;have hAs:∀ y∈(XO s.tab).flatMap (Yr s),D0 s y:=fun y hy=>i9 hy;have hAl:=PH hw (XO s.tab);have hul:=PI (ts:=s.tab) (ks:=XO s.tab) (t:=[]) (by rw[append_nil]);generalize (XO s.tab).flatMap (Yr s)=A at H hAs hAl;obtain⟨av,cv,rfl⟩:=QE (m:=A.length) H.drop.drop (PD A) (by decide);subst hL;refine⟨_,H,fun w H=>?_⟩;replace H:=Js [9,0,0,0,0,0,0,0,0,0,0,0,0,0,0,0,0] 0 H;replace H:=hTAB _ _ H;replace H:=Js [5,5,5,5,0,6,6,6,6,6,6,3,2,0,0,1] 1 H;replace H:=VY hw hm H;refine Uz H ?_;refine Jc rfl rfl (iq c s r0 J.T J.I (fun k g e hk=>by have:=J.G k _ hk;dsimp only at this;omega) H) ?_;clear H;rintro v w ⟨u,E,s',rfl,hE,H⟩;refine WC H ?_;refine Up rfl rfl ?_;refine J0 H ?_;refine Zg H ?_;refine Gx H ?_;replace H:=Js [4,0,1,0,1] 1 H;refine G1 H ?_;refine Ql (fun ms σ w n=>ms=[D]∧∃ i:Nat,i≤A.length∧n=A.length - i∧σ 7=pp b7∧σ 16 = .int .i64 E∧σ 91=(.slice av A.length cv)∧σ 92 = .int .i64 A.length∧σ 93 = .int .i64 i∧Q0 w (QX 87 6 (.slice av A.length cv) (YU A)::QW c s'::pts b7 (row 30 [pp p])::Va p c mo (.slice a told.length capT)::pts D (.deferred (some []))::fr)) (m:=A.length) ⟨rfl,0,by omega,rfl,rfl,rfl,rfl,rfl,rfl,H⟩ ?_;clear H;rintro ms σ w n' ⟨rfl,i,hi,rfl,g7,g16,g91,g92,g93,H⟩;rw[Q1 g7,Q1 g16,Q1 g91,Q1 g92,Q1 g93];refine J8 H ?_;refine Qj rfl (fun h=>QD ?_) (fun h=>Qp ?_)
  ·have hlt:i < A.length:=by omega
   have hx:=getElem?_eq_getElem hlt;generalize A[i]=y at hx;have hcase:=hE y (hAs y (mem_of_getElem? hx));obtain⟨bT,sT,rfl,H,hcl⟩:=V3 H (by omega);refine YB H ?_;refine Jd ?_;refine Q5 rfl (VA H rfl (i7 hx) rfl ?_);refine VZ H ?_;clear H;intro b18 w H;refine J5 H ?_;clear H;intro w H;refine J2 H ?_;replace H:=Js [1,0] 0 H;replace H:=hcl _ _ H;replace H:Q0 w (QX 87 6 (.slice (some ⟨bT,0,none⟩) A.length cv) (YU A)::pts b18 (row 87 (Gp y))::_):=H;replace H:=Js [2,0,0] 0 H;obtain⟨q',mem',hw',hm',H⟩:=Vz H;replace H:=Js [4,0,0,0,0] 0 H
   rcases hcase with ⟨e',hk',hp',hr',hl'⟩|⟨rfl,hnone⟩
   ·have hL1:QS s'.tab y.k y.g=some (y.k,e'):=Ku hk';refine J6 H ?_;refine Qk (fun ms σ w=>ms=[D]∧∃ b19,σ 7=pp b7∧σ 16 = .int .i64 E∧σ 18=pp b18∧σ 91=(.slice (some ⟨bT,0,none⟩) A.length cv)∧σ 92 = .int .i64 A.length∧σ 93 = .int .i64 i∧σ 19=pp b19∧σ 20 = .int .i64 0∧Q0 w (Qg q'.tp s'.tab::Qt c q'::Qr q'.ip q'.sp q'.bp::Qi q'.bp s'.lays::ST q'.sp s'.size mem' s'.own::Qf q'.trp s'.last s'.par::RS q'.rp s'.rem::mp (ki .i64) Qo q'.sm (s'.sps.map VJ)::star (s'.sps.map (VL q'.sp))::mp (ki .i64) Qo q'.mm (s'.mns.map V0)::star (s'.mns.map V8)::QX 87 6 (.slice (some ⟨bT,0,none⟩) A.length cv) (YU A)::pts b18 (row 87 (Gp y))::pts b7 (row 30 [pp p])::Va p c mo (.slice a told.length capT)::pts D (.deferred (some []))::pts b19 (row 78 (Vl e'))::fr)) ?_ ?_
    ·refine J1 H ?_;clear H;intro w H;refine Jl 0 [9,14] H ?_;refine G4 H ?_;refine Jl 3 [9,14] H ?_;refine RU H ?_;refine Jl 6 [9,14] H ?_;refine Jf 7 ?_;refine MC H ?_;refine Jw 9 13 H rfl rfl (Qy (a:=[]) (b:=[]) rfl rfl (call (Ya q'.tp s'.tab y.k y.g H) ?_)) (VN H rfl ?_)
     ·clear H;rintro v w ⟨rfl,H⟩;rw[hL1];refine Ec H ?_;refine Jo 13 H ?_;refine VN H rfl ?_;clear H;intro b19 w H;refine BS H ?_;clear H;intro w H;refine Ja 15 ?_;refine Jx H ?_;replace H:=Js [1,1,1,1,1,1,1,1,1,1,1,1,1,1,1,1,0] 0 H;exact⟨rfl,rfl,b19,rfl,rfl,rfl,rfl,rfl,rfl,rfl,rfl,H⟩
     ·clear H;intro b19 w H;refine Jo 9 H ?_;refine Jk rfl rfl (Ya q'.tp s'.tab y.k y.g H.swap) ?_;clear H;rintro v w ⟨rfl,H⟩;replace H:=H.swap;rw[hL1];refine Ec H ?_;refine BS H ?_;clear H;intro w H;refine Ja 15 ?_;refine Jx H ?_;replace H:=Js [1,1,1,1,1,1,1,1,1,1,1,1,1,1,1,1,0] 0 H;exact⟨rfl,rfl,b19,rfl,rfl,rfl,rfl,rfl,rfl,rfl,rfl,H⟩
    clear H;rintro ms σ w ⟨rfl,b19,g7,g16,g18,g91,g92,g93,g19,g20,H⟩;rw[Q1 g7,Q1 g16,Q1 g18,Q1 g91,Q1 g92,Q1 g93,Q1 g19,Q1 g20];refine Gw H ?_;replace H:=Js [2,2,2,0,0] 0 H
    have hk1:QM (QJ s' e') e'.ws.length ((y.p:Nat):Int) true=0→G7 (Qx e' y.p)∧mem'.getD (e'.addr+1+((y.p:Nat):Int).toNat) 0=VG (Qx e' y.p):=fun _=>by
     rw[Int.toNat_natCast];exact(IX hw' hm' hk').link y.p hp' hr'
    have hk2:QM (QJ s' e') e'.ws.length ((y.p:Nat):Int) true≠0→Qx e' y.p = .none:=fun h=>absurd (FR hp' hr') h;refine J6 H ?_;refine Qk (fun ms σ w=>ms=[D]∧∃ b21,σ 7=pp b7∧σ 16 = .int .i64 E∧σ 18=pp b18∧σ 91=(.slice (some ⟨bT,0,none⟩) A.length cv)∧σ 92 = .int .i64 A.length∧σ 93 = .int .i64 i∧σ 21=pp b21∧σ 22 = .int .i64 0∧Q0 w (Qr q'.ip q'.sp q'.bp::Qi q'.bp s'.lays::ST q'.sp s'.size mem' s'.own::Qg q'.tp s'.tab::Qt c q'::Qf q'.trp s'.last s'.par::RS q'.rp s'.rem::mp (ki .i64) Qo q'.sm (s'.sps.map VJ)::star (s'.sps.map (VL q'.sp))::mp (ki .i64) Qo q'.mm (s'.mns.map V0)::star (s'.mns.map V8)::QX 87 6 (.slice (some ⟨bT,0,none⟩) A.length cv) (YU A)::pts b18 (row 87 (Gp y))::pts b7 (row 30 [pp p])::Va p c mo (.slice a told.length capT)::pts D (.deferred (some []))::pts b21 (row 85 [.int .i64 (Gn (Qx e' y.p)),.int .i64 (GX (Qx e' y.p)),.int .i64 (GK (Qx e' y.p))])::fr)) ?_ ?_
    ·refine J1 H ?_;clear H;intro w H;refine Jl 0 [11,16] H ?_;refine G4 H ?_;refine Jl 3 [11,16] H ?_;refine RU H ?_;refine Jl 6 [11,16] H ?_;refine Jf 7 ?_;refine Jl 8 [11,16] H ?_;refine Jf 9 ?_;refine Jl 10 [11,16] H ?_;refine Jw 11 15 H rfl rfl (Qy (a:=[]) (b:=[]) rfl rfl (call (F0 q'.ip q'.sp q'.bp s'.size s'.lays mem' s'.own e'.addr e'.lay e'.count y.k e'.ws.length (QJ s' e') (XN hw' hm' hk') ((y.p:Nat):Int) (Qx e' y.p) hk1 hk2 H) ?_)) (VN H rfl ?_)
     ·clear H;rintro v w ⟨rfl,H⟩;rw[JA (Qx e' y.p),FR hp' hr'];refine RR H ?_;refine Jo 15 H ?_;refine VN H rfl ?_;clear H;intro b21 w H;refine Jo 16 H ?_;refine Gy H ?_;clear H;intro w H;refine Ra H ?_;replace H:=Js [1,1,1,1,1,1,1,1,1,1,1,1,1,1,1,1,0] 1 H;exact⟨rfl,rfl,b21,rfl,rfl,rfl,rfl,rfl,rfl,rfl,rfl,H⟩
     ·clear H;intro b21 w H;refine Jo 11 H ?_;refine Jk rfl rfl (F0 q'.ip q'.sp q'.bp s'.size s'.lays mem' s'.own e'.addr e'.lay e'.count y.k e'.ws.length (QJ s' e') (XN hw' hm' hk') ((y.p:Nat):Int) (Qx e' y.p) hk1 hk2 (H.sel [1,1,1,0] 0)) ?_;clear H;rintro v w ⟨rfl,H⟩;dsimp only[SL.sel,SL.pull,List.drop] at H;replace H:=Js [3,0,0,0] 0 H;rw[JA (Qx e' y.p),FR hp' hr'];refine RR H ?_;refine Jo 16 H ?_;refine Gy H ?_;clear H;intro w H;refine Ra H ?_;replace H:=Js [1,1,1,1,1,1,1,1,1,1,1,1,1,1,1,1,0] 1 H;exact⟨rfl,rfl,b21,rfl,rfl,rfl,rfl,rfl,rfl,rfl,rfl,H⟩
    clear H;rintro ms σ w ⟨rfl,b21,g7,g16,g18,g91,g92,g93,g21,g22,H⟩;rw[Q1 g7,Q1 g16,Q1 g18,Q1 g91,Q1 g92,Q1 g93,Q1 g21,Q1 g22];refine Zn H ?_;refine CZ H ?_;refine VZ H ?_;clear H;intro b23 w H;refine J5 H ?_;clear H;intro w H;refine J2 H ?_;replace H:=Js [4,0,0,0,0] 0 H;obtain⟨e1,e2,h1,h2,e4,hgv,he4⟩:=iu (QS s'.tab (GX y.l) (GK y.l));refine J6 H ?_;refine Qk (fun ms σ w=>ms=[D]∧σ 7=pp b7∧σ 16 = .int .i64 E∧σ 18=pp b18∧σ 91=(.slice (some ⟨bT,0,none⟩) A.length cv)∧σ 92 = .int .i64 A.length∧σ 93 = .int .i64 i∧σ 21=pp b21∧σ 22 = .int .i64 0∧σ 23=pp b23∧σ 25 = .int .i64 e4∧Q0 w (Qg q'.tp s'.tab::pts b23 (row 85 [.int .i64 (Gn y.l),.int .i64 (GX y.l),.int .i64 (GK y.l)])::Qr q'.ip q'.sp q'.bp::Qi q'.bp s'.lays::ST q'.sp s'.size mem' s'.own::Qt c q'::Qf q'.trp s'.last s'.par::RS q'.rp s'.rem::mp (ki .i64) Qo q'.sm (s'.sps.map VJ)::star (s'.sps.map (VL q'.sp))::mp (ki .i64) Qo q'.mm (s'.mns.map V0)::star (s'.mns.map V8)::QX 87 6 (.slice (some ⟨bT,0,none⟩) A.length cv) (YU A)::pts b18 (row 87 (Gp y))::pts b7 (row 30 [pp p])::Va p c mo (.slice a told.length capT)::pts D (.deferred (some []))::pts b21 (row 85 [.int .i64 (Gn (Qx e' y.p)),.int .i64 (GX (Qx e' y.p)),.int .i64 (GK (Qx e' y.p))])::fr)) ?_ ?_
    ·refine J1 H ?_;clear H;intro w H;refine Jl 0 [10,15] H ?_;refine G4 H ?_;refine Jl 3 [10,15] H ?_;refine RU H ?_;refine Jl 6 [10,15] H ?_;refine Jf 7 ?_;refine Jf 8 ?_;refine VB 9 [10,15] H rfl (Q7.none rfl) rfl (by repeat first|exact .nil _|apply Q9.cons rfl) (by kernel_rfl) ?_;refine Jw 10 14 H rfl rfl (Qy (a:=[]) (b:=[]) rfl rfl (call (Ya q'.tp s'.tab (GX y.l) (GK y.l) H) ?_)) (VN H rfl ?_)
     ·clear H;rintro v w ⟨rfl,H⟩;rw[hgv];refine C5 H ?_;refine Jo 14 H ?_;refine VN H rfl ?_;clear H;intro b24 w H;refine EP H ?_;clear H;intro w H;refine Ja 16 ?_;refine Jx H ?_;replace H:=Js [1,1,1,1,1,1,1,1,1,1,1,1,1,1,1,1,1,1] 1 H;exact⟨rfl,rfl,rfl,rfl,rfl,rfl,rfl,rfl,rfl,rfl,rfl,rfl,H⟩
     ·clear H;intro b24 w H;refine Jo 10 H ?_;refine Jk rfl rfl (Ya q'.tp s'.tab (GX y.l) (GK y.l) H.swap) ?_;clear H;rintro v w ⟨rfl,H⟩;replace H:=H.swap;rw[hgv];refine C5 H ?_;refine EP H ?_;clear H;intro w H;refine Ja 16 ?_;refine Jx H ?_;replace H:=Js [1,1,1,1,1,1,1,1,1,1,1,1,1,1,1,1,1,1] 1 H;exact⟨rfl,rfl,rfl,rfl,rfl,rfl,rfl,rfl,rfl,rfl,rfl,rfl,H⟩
    clear H;rintro ms σ w ⟨rfl,g7,g16,g18,g91,g92,g93,g21,g22,g23,g25,H⟩;rw[Q1 g7,Q1 g16,Q1 g18,Q1 g91,Q1 g92,Q1 g93,Q1 g21,Q1 g22,Q1 g23,Q1 g25];have hwant:=iv s'.tab y.l;refine Zn H ?_;refine RI H ?_;refine AF H ?_;by_cases h20:Gn y.l=2
    ·rw[show (Gn y.l == 2)=true from beq_iff_eq.2 h20];cases ho:QS s'.tab (GX y.l) (GK y.l) with
     | none=>
      rw[ho] at he4;obtain rfl:e4=8:=he4;have hEq:Qx e' y.p = .grave:=hl'.trans (hwant.1 ⟨h20,ho⟩);rw[hEq] at H;refine UQ H ?_;refine Xt H ?_;clear H;intro w H;refine J2 H ?_;refine Vc H ?_;refine Eb H ?_;refine QT rfl rfl rfl (R9 rfl rfl rfl rfl (.inr rfl) rfl ?_);rw[show veq [.int .i64 (Gn .grave),.int .i64 (GX .grave),.int .i64 (GK .grave)] [.int .i64 1,.int .i64 0,.int .i64 0]=true from rfl];refine Uv H ?_;replace H:=Js [5,2,2,2,0,1,1,1,1,1,1,1,2,2,2] 3 H;replace H:=VY hw' hm' H;replace H:=Js [1,0] 0 H;exact⟨_,⟨rfl,i+1,hlt,rfl,rfl,rfl,rfl,rfl,Qc (by omega),H⟩,by omega⟩
     | some q2=>
      rw[ho] at he4;obtain rfl:e4=0:=he4;have hEq:Qx e' y.p=y.l:=hl'.trans (hwant.2 (fun h=>by rw[ho] at h;cases h.2));rw[hEq] at H;refine UQ H ?_;refine Vx H ?_;refine Vc H ?_;refine Eb H ?_;refine QT rfl rfl rfl (R9 rfl rfl rfl rfl (.inr rfl) rfl ?_);rw[show veq [.int .i64 (Gn y.l),.int .i64 (GX y.l),.int .i64 (GK y.l)] [.int .i64 (Gn y.l),.int .i64 (GX y.l),.int .i64 (GK y.l)]=true from Ph _ _ _];refine Uv H ?_;replace H:=Js [5,2,2,2,0,1,1,1,1,1,1,1,2,2,2] 3 H;replace H:=VY hw' hm' H;replace H:=Js [1,0] 0 H;exact⟨_,⟨rfl,i+1,hlt,rfl,rfl,rfl,rfl,rfl,Qc (by omega),H⟩,by omega⟩
    ·rw[show (Gn y.l == 2)=false from beq_eq_false_iff_ne.2 h20];have hEq:Qx e' y.p=y.l:=hl'.trans (hwant.2 (fun h=>h20 h.1));rw[hEq] at H;refine Jv ?_;refine KI H ?_;refine Vx H ?_;refine Vc H ?_;refine Eb H ?_;refine QT rfl rfl rfl (R9 rfl rfl rfl rfl (.inr rfl) rfl ?_);rw[show veq [.int .i64 (Gn y.l),.int .i64 (GX y.l),.int .i64 (GK y.l)] [.int .i64 (Gn y.l),.int .i64 (GX y.l),.int .i64 (GK y.l)]=true from Ph _ _ _];refine Uv H ?_;replace H:=Js [5,2,2,2,0,1,1,1,1,1,1,1,2,2,2] 3 H;replace H:=VY hw' hm' H;replace H:=Js [1,0] 0 H;exact⟨_,⟨rfl,i+1,hlt,rfl,rfl,rfl,rfl,rfl,Qc (by omega),H⟩,by omega⟩
   ·refine J6 H ?_;refine Qk (fun ms σ w=>ms=[D]∧∃ b19,σ 7=pp b7∧σ 16 = .int .i64 0∧σ 18=pp b18∧σ 91=(.slice (some ⟨bT,0,none⟩) A.length cv)∧σ 92 = .int .i64 A.length∧σ 93 = .int .i64 i∧σ 19=pp b19∧σ 20 = .int .i64 8∧Q0 w (Qg q'.tp s'.tab::Qt c q'::Qr q'.ip q'.sp q'.bp::Qi q'.bp s'.lays::ST q'.sp s'.size mem' s'.own::Qf q'.trp s'.last s'.par::RS q'.rp s'.rem::mp (ki .i64) Qo q'.sm (s'.sps.map VJ)::star (s'.sps.map (VL q'.sp))::mp (ki .i64) Qo q'.mm (s'.mns.map V0)::star (s'.mns.map V8)::QX 87 6 (.slice (some ⟨bT,0,none⟩) A.length cv) (YU A)::pts b18 (row 87 (Gp y))::pts b7 (row 30 [pp p])::Va p c mo (.slice a told.length capT)::pts D (.deferred (some []))::pts b19 (row 78 [.int .i64 0,.int .i64 0,.bool false,.bool false])::fr)) ?_ ?_
    ·refine J1 H ?_;clear H;intro w H;refine Jl 0 [9,14] H ?_;refine G4 H ?_;refine Jl 3 [9,14] H ?_;refine RU H ?_;refine Jl 6 [9,14] H ?_;refine Jf 7 ?_;refine MC H ?_;refine Jw 9 13 H rfl rfl (Qy (a:=[]) (b:=[]) rfl rfl (call (Ya q'.tp s'.tab y.k y.g H) ?_)) (VN H rfl ?_)
     ·clear H;rintro v w ⟨rfl,H⟩;rw[hnone];refine Ec H ?_;refine Jo 13 H ?_;refine VN H rfl ?_;clear H;intro b19 w H;refine BS H ?_;clear H;intro w H;refine Ja 15 ?_;refine Jx H ?_;replace H:=Js [1,1,1,1,1,1,1,1,1,1,1,1,1,1,1,1,0] 0 H;exact⟨rfl,rfl,b19,rfl,rfl,rfl,rfl,rfl,rfl,rfl,rfl,H⟩
     ·clear H;intro b19 w H;refine Jo 9 H ?_;refine Jk rfl rfl (Ya q'.tp s'.tab y.k y.g H.swap) ?_;clear H;rintro v w ⟨rfl,H⟩;replace H:=H.swap;rw[hnone];refine Ec H ?_;refine BS H ?_;clear H;intro w H;refine Ja 15 ?_;refine Jx H ?_;replace H:=Js [1,1,1,1,1,1,1,1,1,1,1,1,1,1,1,1,0] 0 H;exact⟨rfl,rfl,b19,rfl,rfl,rfl,rfl,rfl,rfl,rfl,rfl,H⟩
    clear H;rintro ms σ w ⟨rfl,b19,g7,g16,g18,g91,g92,g93,g19,g20,H⟩;rw[Q1 g7,Q1 g16,Q1 g18,Q1 g91,Q1 g92,Q1 g93,Q1 g19,Q1 g20];refine J4 H ?_;refine Yc H ?_;refine V4 H ?_;refine Qp ?_;show C _ _ _ _ _ _ _ _;refine J4 H ?_;replace H:=Js [1,1,1,1,0,0,0,0,0,0,0,0,1,1,1] 2 H;replace H:=VY hw' hm' H;replace H:=Js [1,0] 0 H;exact⟨_,⟨rfl,i+1,hlt,rfl,rfl,rfl,rfl,rfl,Qc (by omega),H⟩,by omega⟩
  ·refine VF H ?_;replace H:=Js [4] 4 H;exact Q3 (MU (ms:=[D]) _ (.inr rfl) ((Q0.star (k:=[pts D (.deferred (some []))])).2 H) (fun w' H' => .tmp .nil) fun w' H'=>⟨rfl,H'⟩)
end Go.Proofs.YtbnnnljagkjpiaaGreatDoor
