/- Cells: what is proved on the way: every input of the statement; no condition. Texts joined: LayC LayD LayE RefA RefB RemA RmB TreA CelP. -/
import Derived.Test.YtmjdnljneifpcaaGreatDoorBee
import Derived.Test.YtmjdnljneifpcaaGreatDoorBef
import Derived.Test.YtmjdnljneifpcaaGreatDoorBec
set_option linter.unusedVariables false
set_option linter.unusedSimpArgs false
set_option linter.unusedSectionVars false
namespace Go.Proofs.YtmjdnljneifpcaaGreatDoor
open Go.SL
theorem FP (x y z:Nat):Gq [x,y,z]=if x < 65536∧YU (CA x y z) then some (CA x y z) else none:=rfl
theorem pC [Q4] (v:Value) (n:Nat) (hn:n≠3) (hv:∃ a c,v = .slice a n c) {w:World} {fr:List Q2} (H:Q0 w fr) :
  Calls Tryz.prog 86 #[v] w (ret fun x w'=>x = .tuple #[GU 0 (.slice none 0 0) 0 (.slice none 0 0),.int .i64 4]∧Q0 w' fr):=by
 obtain⟨a,c,rfl⟩:=hv;refine QQ Tryz.func86 rfl (by kernel_rfl) ?_;refine YM H ?_;clear H;intro b2 w H;refine Ml H ?_;rw[show ((n:Int) != 3)=true by simp;omega];refine I4 H ?_;clear H;intro w H;refine J0 H ?_;exact Q3 (Jz H (fun w' H' => .cellN H' rfl (by repeat first|exact .nil _|apply QY.cons rfl) (.tmp .nil)) fun w' H'=>⟨rfl,H'.drop⟩)
theorem pD [Q4] (v:Value) (x y z:Nat) (hx:x < 18446744073709551616) (hy:y < 18446744073709551616) (hz:z < 18446744073709551616) {w:World} {fr:List Q2} [hT:Z6 0 Lib.deBruijn64tab fr] (hr:Ya fr v 3 1 (Qi [x,y,z])) (H:Q0 w fr) :
  Calls Tryz.prog 86 #[v] w (ret fun r w'=>(Gq [x,y,z]=none∧r = .tuple #[GU 0 (.slice none 0 0) 0 (.slice none 0 0),.int .i64 4]∧Q0 w' fr) ∨
   ∃ l vr vq,Gq [x,y,z]=some l∧r = .tuple #[GU l.fixed vr l.record vq,.int .i64 0]∧Q0 w' (NL vr l.refs::NL vq l.recs::fr)):=by
 obtain⟨_,ad,cap,rfl,Ym⟩:=id hr
 rcases Ym with h|⟨b,o,E,fz,c,rfl,hA,Qu⟩
 ·omega
 haveI:=hA;have c0:c[o+0*1]? = some (.int .u64 x):=by have:=Qu.get 0 (.int .u64 x) (by simp[Qi]);simpa using this
 have c1:c[o+1*1]? = some (.int .u64 y):=by have:=Qu.get 1 (.int .u64 y) (by simp[Qi]);simpa using this
 have c2:c[o+2*1]? = some (.int .u64 z):=by have:=Qu.get 2 (.int .u64 z) (by simp[Qi]);simpa using this
 refine QQ Tryz.func86 rfl (by kernel_rfl) ?_;refine YM H ?_;clear H;intro b2 w H;refine Em H ?_;refine Q5 rfl (Gk rfl rfl ?_);refine YS H ?_;refine J1 H ?_;clear H;intro w H;refine Ja 0 ?_;refine Ji 1 ?_;refine YZ 2 [4] H rfl (Q9.none rfl) rfl c0 (by kernel_rfl) ?_;refine Jo 3 H ?_;refine Jk rfl rfl (pB H) ?_;clear H;rintro v w H;refine Jo 4 H ?_;refine Jk rfl rfl (SQ x hx _ A0 pA (by decide) H) ?_;clear H;rintro v2 w ⟨u,rfl,H⟩;obtain⟨au,cu,rfl⟩:=QI H (m:=3) (by simp[Qi,A0]) (by decide);refine Ja 5 ?_;refine IZ H ?_;refine Jx H ?_;obtain⟨bu,su,rfl,H,QK⟩:=VX H (by omega);have d0:(Qi (A0.map (GZ x))++su)[0+0*1]? = some (.int .u64 (GZ x (0,8))):=rfl;have d1:(Qi (A0.map (GZ x))++su)[0+1*1]? = some (.int .u64 (GZ x (8,8))):=rfl;have d2:(Qi (A0.map (GZ x))++su)[0+2*1]? = some (.int .u64 (GZ x (16,48))):=rfl
 have e8:IntKind.i64.wrap ((GZ x (0,8):Nat):Int)=((x % 256:Nat):Int):=by
  rw[Ag (by have:=Nat.mod_lt (x / 2 ^ 0) (show 0 < 2 ^ 8 by decide);show x / 2 ^ 0 % 2 ^ 8 < _;omega)];show ((x / 2 ^ 0 % 2 ^ 8:Nat):Int)=_;simp
 have e16:IntKind.i64.wrap ((GZ x (8,8):Nat):Int)=((x / 256 % 256:Nat):Int):=by
  rw[Ag (by have:=Nat.mod_lt (x / 2 ^ 8) (show 0 < 2 ^ 8 by decide);show x / 2 ^ 8 % 2 ^ 8 < _;omega)];rfl
 refine J6 H ?_
 refine Yx (fun ms σ w=>ms=[]∧∃ b6 va vb,σ 2=pp b2∧σ 4 = .slice (some ⟨bu,0,none⟩) 3 cu∧σ 6=pp b6 ∧
  Q0 w (pts b6 (row 102 [.int .i64 ((x % 256:Nat):Int),va,.int .i64 ((x / 256 % 256:Nat):Int),vb])::NL va (YG y 64)::NL vb (YG z 64)::pts bu (row 83 (Qi (A0.map (GZ x))++su))::pts b2 (row 102 [.int .i64 0,.slice none 0 0,.int .i64 0,.slice none 0 0])::fr)) ?_ ?_
 ·replace H:=Js [0,1] 1 H;refine J1 H ?_;clear H;intro w H;refine Ja 0 ?_;refine Ji 1 ?_;refine YZ 2 [18] H rfl (Q9.none rfl) rfl d0 (by kernel_rfl) ?_;refine MH H ?_;refine Ja 4 ?_;refine Ji 5 ?_;refine YZ 6 [7] H rfl (Q9.none rfl) rfl c1 (by kernel_rfl) ?_;refine Ja 8 ?_;refine Ji 9 ?_;refine YZ 10 [18] H rfl (Q9.none rfl) rfl d1 (by kernel_rfl) ?_;refine KA 11 rfl (Q9.none rfl) rfl (by kernel_rfl) ?_;refine Ja 12 ?_;refine Ji 13 ?_;refine YZ 14 [15] H rfl (Q9.none rfl) rfl c2 (by kernel_rfl) ?_;rw[e8,e16];refine Jw 7 17 H rfl rfl (V1 (a:=[]) (b:=[]) rfl rfl (call (Is y hy H) ?_)) (YH H rfl ?_)
  ·clear H;intro va w H;obtain⟨aa,ma,ca,rfl⟩:=V8 H;refine Jw 15 17 H rfl rfl (V1 (a:=[]) (b:=[]) rfl rfl (call (Is z hz H) ?_)) (YH H rfl ?_)
   ·clear H;intro vb w H;obtain⟨ab,mb,cb,rfl⟩:=V8 H;refine Uc 16 rfl (Q9.none rfl) rfl (by kernel_rfl) ?_;refine Jo 17 H ?_;refine YH H rfl ?_;clear H;intro b6 w H;refine Jo 18 H ?_;refine KD H ?_;clear H;intro w H;refine Jx H ?_;replace H:=Js [0,1,0,0,0] 0 H;exact .inl ⟨rfl,rfl,b6,_,_,rfl,rfl,rfl,H⟩
   ·clear H;intro b6 w H;refine Jo 15 H ?_;refine Jk rfl rfl (Is z hz H) ?_;clear H;intro vb w H;obtain⟨ab,mb,cb,rfl⟩:=V8 H;refine Uc 16 rfl (Q9.none rfl) rfl (by kernel_rfl) ?_;refine Jo 18 H ?_;refine KD H ?_;clear H;intro w H;refine Jx H ?_;replace H:=Js [1,1,0,0,0] 0 H;exact .inl ⟨rfl,rfl,b6,_,_,rfl,rfl,rfl,H⟩
  ·clear H;intro b6 w H;refine Jo 7 H ?_;refine Jk rfl rfl (Is y hy H) ?_;clear H;intro va w H;obtain⟨aa,ma,ca,rfl⟩:=V8 H;refine Jo 15 H ?_;refine Jk rfl rfl (Is z hz H) ?_;clear H;intro vb w H;obtain⟨ab,mb,cb,rfl⟩:=V8 H;refine Uc 16 rfl (Q9.none rfl) rfl (by kernel_rfl) ?_;refine Jo 18 H ?_;refine KD H ?_;clear H;intro w H;refine Jx H ?_;replace H:=Js [2,1,0,0,0] 0 H;exact .inl ⟨rfl,rfl,b6,_,_,rfl,rfl,rfl,H⟩
 ·clear H;rintro ms σ w ⟨rfl,b6,va,vb,g2,g4,g6,H⟩;rw[Q1 g2,Q1 g4,Q1 g6];have A1:=FM y 64;have pE:=FM z 64;obtain⟨aa,ca,rfl⟩:=QI (H.drop) (QJ (YG y 64)) (by decide);obtain⟨ab,cb,rfl⟩:=QI (H.drop.drop) (QJ (YG z 64)) (by decide);refine Z4 H ?_;refine Jd ?_;refine Q5 rfl (QA H rfl d2 rfl ?_);refine Jv ?_
  have hn:GZ x (16,48)=x / 65536:=by
   show x / 2 ^ 16 % 2 ^ 48=_;rw[Nat.mod_eq_of_lt (by omega)]
  rw[hn];by_cases hb:x < 65536
  ·rw[show (((x / 65536:Nat):Int) != 0)=false by simp;omega];refine Jv ?_;refine DG H ?_;have h8:x / 256 % 256=x / 256:=Nat.mod_eq_of_lt (by omega);rw[h8] at H ⊢;replace H:=Js [1,1,0,0,0] 0 H;obtain⟨D1,H,Y2,Vo⟩:=sls_rd H (QJ (YG y 64)) (by decide);obtain⟨D2,H,Zj,ZR⟩:=sls_rd H.swap (QJ (YG z 64)) (by decide);refine QS rfl rfl rfl (V1 (a:=[]) (b:=[]) rfl rfl (call (Sb _ _ (CA x y z) ⟨by show x % 256≤_;omega,by show x / 256≤_;omega,by show (YG y 64).length≤_;omega,by show (YG z 64).length≤_;omega⟩ ⟨(Y2 _).there,Zj _⟩ H) ?_));clear H;rintro v w ⟨⟨q,rfl,hq⟩,H⟩;have H:=(Vo _ _ (ZR _ _ H).swap);cases q with
   | true=>
    refine W2 H ?_;refine Ak H ?_;clear H;intro w H;refine J0 H ?_;replace H:=Js [4,0,0] 2 H;refine Q3 (Jz H (fun w' H' => .cellN H' rfl (by repeat first|exact .nil _|apply QY.cons rfl) (.tmp .nil)) fun w' H' => .inr ⟨CA x y z,_,_,?_,rfl,H'.drop⟩);rw[FP];rw[if_pos ⟨hb,hq.1 rfl⟩]
   | false=>
    refine Zm H ?_;refine Aq H ?_;clear H;intro w H;refine J0 H ?_;replace H:=Js [4] 4 H;refine Q3 (Jz H (fun w' H' => .cellN H' rfl (by repeat first|exact .nil _|apply QY.cons rfl) (.tmp .nil)) fun w' H' => .inl ⟨?_,rfl,H'.drop⟩);rw[FP];rw[if_neg];rintro⟨_,h2⟩;have:=hq.2 h2;cases this
  ·rw[show (((x / 65536:Nat):Int) != 0)=true by simp;omega];refine Mg H ?_;refine Aq H ?_;clear H;intro w H;refine J0 H ?_;replace H:=Js [4] 4 H;refine Q3 (Jz H (fun w' H' => .cellN H' rfl (by repeat first|exact .nil _|apply QY.cons rfl) (.tmp .nil)) fun w' H' => .inl ⟨?_,rfl,H'.drop⟩);rw[FP];rw[if_neg];rintro⟨h1,_⟩;exact hb h1
open List
abbrev GP:=Value×Value×Qb
@[reducible] def Yp (x:GP):Q2:=star [NL x.1 x.2.2.refs,NL x.2.1 x.2.2.recs]
@[reducible] def Nk (x:GP):List Value:=[.int .i64 x.2.2.fixed,x.1,.int .i64 x.2.2.record,x.2.1]
def Vb (l:List GP):List Value:=l.flatMap Nk
theorem CC (l:List GP):(Vb l).length=l.length*4:=by
 induction l with
 | nil=>rfl
 | cons x l ih=>simp only[Vb,flatMap_cons,length_append,length_cons,length_nil] at *;omega
theorem fJ (a b:List GP):Vb (a++b)=Vb a++Vb b:=by simp[Vb]
theorem fL:∀ {L:List GP} {i:Nat} {x:GP},L[i]? = some x→(Vb L)[i*4]? = some (.int .i64 x.2.2.fixed)∧(Vb L)[i*4+1]? = some x.1∧(Vb L)[i*4+2]? = some (.int .i64 x.2.2.record)∧(Vb L)[i*4+3]? = some x.2.1
 | y::L,0,x,h=>by
  simp at h;subst h;simp[Vb]
 | y::L,i+1,x,h=>by
  have:=fL (L:=L) (i:=i) (by simpa using h);have e:Vb (y::L)=Nk y++Vb L:=by simp[Vb]
  rw[e];rw[show (i+1)*4=i*4+4 by omega];simpa [Nk] using this
theorem Nl {L:List GP} {spare:List Value} {i:Nat} {x:GP} (h:L[i]? = some x):QY (Vb L++spare) (0+i*4) 4 (Nk x):=by
 obtain⟨h0,h1,h2,h3⟩:=fL h;have hl:=(List.getElem?_eq_some_iff.1 h3).1;rw[Nat.zero_add];refine QY.cons ?_ (QY.cons ?_ (QY.cons ?_ (QY.cons ?_ (QY.nil _))))
 all_goals rw[getElem?_append_left (by omega)]
 ·exact h0
 ·exact h1
 ·exact h2
 ·exact h3
def Qp (p:Nat) (ls:List Qb):Q2:=ex fun q:Value×List GP=>star [prop (q.2.map (·.2.2)=ls∧ls.length≤64∧∀ x∈ls,YU x),pts p (row 242 [q.1]),QE 102 4 q.1 (Vb q.2),star (q.2.map Yp)]
theorem Sd [Q4] {w:World} {p:Nat} {ls:List Qb} {l:List Q2} (H:Q0 w (Qp p ls::l)):∃ v q,(q.map (·.2.2)=ls∧ls.length≤64∧∀ x∈ls,YU x)∧Q0 w (pts p (row 242 [v])::QE 102 4 v (Vb q)::star (q.map Yp)::l):=by
 obtain⟨⟨v,q⟩,H⟩:=Q0.ex.1 H;have H:=Q0.star.1 H;obtain⟨h,H⟩:=Q0.prop.1 H;exact⟨v,q,h,H⟩
theorem FS [Q4] {w:World} {p:Nat} {ls:List Qb} {l:List Q2} {v:Value} {q:List GP} (h:q.map (·.2.2)=ls∧ls.length≤64∧∀ x∈ls,YU x) (H:Q0 w (pts p (row 242 [v])::QE 102 4 v (Vb q)::star (q.map Yp)::l)):Q0 w (Qp p ls::l):=
 Q0.ex.2 ⟨(v,q),Q0.star.2 (Q0.prop.2 ⟨h,H⟩)⟩
theorem pF [Q4] {w:World} {fr:List Q2} (H:Q0 w fr):Calls Tryz.prog 82 #[] w (ret fun v w'=>∃ p,v=pp p∧Q0 w' (Qp p []::fr)):=by
 refine QQ Tryz.func82 rfl (by kernel_rfl) ?_;refine MF H ?_;refine W9 H ?_;clear H;intro b2 w H;refine J0 H ?_;have H:Q0 w (star (([]:List GP).map Yp)::pts b2 (row 242 [.slice none 0 0])::fr):=Q0.star.2 H;have H:=Zy (E:=102) (k:=4) H;replace H:=Js [2,0,0] 0 H;exact Q3 (Jy (FS (q:=[]) ⟨rfl,by simp,by simp⟩ H) rfl fun w' H'=>⟨_,rfl,H'⟩)
theorem pH [Q4] (p:Nat) (ls:List Qb) (vr vq:Value) (l:Qb) (hR:YU l) {w:World} {fr:List Q2} (hr:Ks fr vr vq l) (H:Q0 w (Qp p ls::fr)) :
  Calls Tryz.prog 87 #[pp p,GU l.fixed vr l.record vq] w (ret fun x w'=>(ls.length=64∧x = .tuple #[.int .i64 0,.int .i64 5]∧Q0 w' (Qp p ls::fr)) ∨
   (ls.length < 64∧x = .tuple #[.int .i64 ((ls.length+1:Nat):Int),.int .i64 0]∧Q0 w' (Qp p (ls++[l])::fr))):=by
 obtain⟨_,ad1,cap1,rfl,ZK⟩:=id hr.r;obtain⟨_,ad2,cap2,rfl,KL⟩:=id hr.q;obtain⟨v,q,⟨hq,Qw,ZG⟩,H⟩:=Sd H;have Se:q.length=ls.length:=by rw[← hq,length_map]
 obtain⟨av,cv,rfl⟩:=QI H.drop (CC q) (by decide);refine QQ Tryz.func87 rfl (by kernel_rfl) ?_;refine J8 H ?_;clear H;intro b3 w H;refine Ai H ?_;refine Yx (fun ms σ w=>ms=[]∧ls.length < 64∧σ 0=pp p∧σ 3=pp b3∧Q0 w (pts b3 (row 102 [.int .i64 l.fixed,.slice ad1 l.refs.length cap1,.int .i64 l.record,.slice ad2 l.recs.length cap2])::pts p (row 242 [.slice av q.length cv])::QE 102 4 (.slice av q.length cv) (Vb q)::star (q.map Yp)::fr)) ?_ ?_
 ·refine Bx H ?_;refine XD H ?_;refine Jc rfl rfl (Sb _ _ l hR.small hr.there.there.there.there H) ?_;clear H;rintro v w ⟨⟨b,rfl,hb⟩,H⟩;obtain rfl:=hb.2 hR;refine Aj H ?_;refine Mm H ?_;refine J4 H ?_;by_cases Y0:q.length=64
  ·rw[show ((q.length:Int) == 64)=true by simp;omega];refine G2 H ?_;exact Q3 (.inr ⟨by simp,Jy (FS ⟨hq,Qw,ZG⟩ H.drop) rfl fun w' H' => .inl ⟨by omega,rfl,H'⟩⟩)
  ·rw[show ((q.length:Int) == 64)=false by simp;omega];refine Vf H ?_;exact .inl ⟨rfl,rfl,by omega,rfl,rfl,H⟩
 ·clear H;rintro ms σ w ⟨rfl,Y0,g0,g3,H⟩;rw[Q1 g0,Q1 g3];refine J1 H ?_;clear H;intro w H;refine C0 H ?_;refine Jl 4 [8,11] H ?_;refine Vw 5 [6,7,8,11] H rfl (Q9.none rfl) rfl (by repeat first|exact .nil _|apply QY.cons rfl) (by kernel_rfl) ?_;refine Jo 6 H ?_;refine Jk rfl rfl (fI _ _ l hR.small hr.there.there.there.there H) ?_;clear H;rintro v w ⟨vr',vq',rfl,H⟩;obtain⟨a4,m4,c4,rfl⟩:=V8 H;obtain⟨a5,m5,c5,rfl⟩:=V8 H.swap
  refine Jo 7 H ?_;refine DX H ?_;clear H;intro b27 w H;replace H:=Js [5,0,3,0,0,1] 1 H;refine Jo 8 H ?_;refine ZU H rfl rfl (by repeat first|exact .nil _|apply QY.cons rfl) rfl (by decide) (by rw[CC];simp only[length_cons,length_nil];omega) rfl rfl ?_;clear H;intro v28 w H
  have e1:Vb q++[.int .i64 l.fixed,.slice a4 m4 c4,.int .i64 l.record,.slice a5 m5 c5]=Vb (q++[(.slice a4 m4 c4,.slice a5 m5 c5,l)]):=by
   rw[fJ];rfl
  rw[e1] at H;have Sf:(q++[((.slice a4 m4 c4:Value),(.slice a5 m5 c5:Value),l)]).length=ls.length+1:=by simp[Se]
  obtain⟨a28,c28,rfl⟩:=QI H (m:=ls.length+1) (by rw[CC,Sf]) (by decide);refine Ja 9 ?_;refine Jf 10 ?_;refine Jo 11 H ?_;refine KE H ?_;clear H;intro w H;refine Jx H ?_;refine Mm H ?_;refine J4 H ?_;replace H:=Js [2,0,1,1,1] 1 H
  have H1:Q0 w (star ((q++[((.slice a4 m4 c4:Value),(.slice a5 m5 c5:Value),l)]).map Yp)::pts p (row 242 [.slice a28 (ls.length+1) c28])::QE 102 4 (.slice a28 (ls.length+1) c28) (Vb (q++[(.slice a4 m4 c4,.slice a5 m5 c5,l)]))::fr):=by
   refine(Q0.pick (x:=((.slice a4 m4 c4:Value),(.slice a5 m5 c5:Value),l)) (g1:=q) (g2:=[]) rfl).2 ?_;rw[append_nil];refine Q0.star.2 ?_;replace H:=Js [2,2,2,0,0] 0 H;exact H
  replace H1:=Js [1,1,0] 0 H1
  have H2:=FS (ls:=ls++[l]) (q:=q++[((.slice a4 m4 c4:Value),(.slice a5 m5 c5:Value),l)]) ⟨by rw[map_append,hq];rfl,by simp;omega,fun x hx=>by
   rcases mem_append.1 hx with hx|hx
   ·exact ZG x hx
   ·simp at hx;subst hx;exact hR⟩ H1
  exact Q3 (Jy H2 rfl fun w' H' => .inr ⟨Y0,rfl,H'⟩)
theorem pI [Q4] (p:Nat) (ls:List Qb) (id:Int) (Qx:id < 1∨(ls.length:Int) < id) {w:World} {fr:List Q2} (H:Q0 w (Qp p ls::fr)) :
  Calls Tryz.prog 88 #[pp p,.int .i64 id] w (ret fun x w'=>x = .tuple #[GU 0 (.slice none 0 0) 0 (.slice none 0 0),.int .i64 6]∧Q0 w' (Qp p ls::fr)):=by
 obtain⟨v,q,⟨hq,Qw,ZG⟩,H⟩:=Sd H;have Se:q.length=ls.length:=by rw[← hq,length_map]
 obtain⟨av,cv,rfl⟩:=QI H.drop (CC q) (by decide);refine QQ Tryz.func88 rfl (by kernel_rfl) ?_;refine YM H ?_;clear H;intro b4 w H;refine Yy H ?_;refine Mn H ?_;by_cases h1:id < 1
 ·rw[show decide (id < 1)=true from decide_eq_true (by omega)];refine IG H ?_;refine Mo H ?_;clear H;intro w H;refine J0 H ?_;exact Q3 (Jz H (fun w' H' => .cellN H' rfl (by repeat first|exact .nil _|apply QY.cons rfl) (.tmp .nil)) fun w' H'=>⟨rfl,FS ⟨hq,Qw,ZG⟩ H'.drop⟩)
 ·rw[show decide (id < 1)=false from decide_eq_false (by omega)];refine Ar H ?_;rw[show decide (id > (q.length:Int))=true from decide_eq_true (by omega)];refine Mo H ?_;clear H;intro w H;refine J0 H ?_;exact Q3 (Jz H (fun w' H' => .cellN H' rfl (by repeat first|exact .nil _|apply QY.cons rfl) (.tmp .nil)) fun w' H'=>⟨rfl,FS ⟨hq,Qw,ZG⟩ H'.drop⟩)
theorem pJ [Q4] (p:Nat) (ls:List Qb) (k:Nat) (l:Qb) (hk:ls[k]? = some l) {w:World} {fr:List Q2} (H:Q0 w (Qp p ls::fr)) :
  Calls Tryz.prog 88 #[pp p,.int .i64 ((k:Int)+1)] w (ret fun x w'=>∃ vr vq,x = .tuple #[GU l.fixed vr l.record vq,.int .i64 0]∧Q0 w' (NL vr l.refs::NL vq l.recs::Qp p ls::fr)):=by
 obtain⟨v,q,⟨hq,Qw,ZG⟩,H⟩:=Sd H;have Se:q.length=ls.length:=by rw[← hq,length_map]
 have VB:k < ls.length:=(List.getElem?_eq_some_iff.1 hk).1;obtain⟨av,cv,rfl⟩:=QI H.drop (CC q) (by decide);have hR:YU l:=ZG l (mem_of_getElem? hk)
 obtain⟨x,hx,FT⟩:∃ x,q[k]? = some x∧x.2.2=l:=by
  rw[← hq,getElem?_map,Option.map_eq_some_iff] at hk;exact hk
 obtain⟨vr,vq,l'⟩:=x;obtain rfl:l'=l:=FT;have fM:q=q.take k++(vr,vq,l')::q.drop (k+1):=split_at hx;refine QQ Tryz.func88 rfl (by kernel_rfl) ?_;refine YM H ?_;clear H;intro b4 w H;refine Yy H ?_;refine Yx (fun ms σ w=>ms=[]∧σ 0=pp p∧σ 1 = .int .i64 ((k:Int)+1)∧σ 4=pp b4∧Q0 w (pts b4 (row 102 [.int .i64 0,.slice none 0 0,.int .i64 0,.slice none 0 0])::pts p (row 242 [.slice av q.length cv])::QE 102 4 (.slice av q.length cv) (Vb q)::star (q.map Yp)::fr)) ?_ ?_
 ·refine Mn H ?_;rw[show decide ((k:Int)+1 < 1)=false from decide_eq_false (by omega)];refine Ar H ?_;rw[show decide ((k:Int)+1 > (q.length:Int))=false from decide_eq_false (by omega)];refine DI H ?_;exact .inl ⟨rfl,rfl,rfl,rfl,rfl,H⟩
 ·clear H;rintro ms σ w ⟨rfl,g0,g1,g4,H⟩;rw[Q1 g0,Q1 g1,Q1 g4];replace H:=Js [3,2,0,0] 0 H;have H:=Q0.star.1 ((Q0.pick fM).1 H);replace H:Q0 w (NL vr l'.refs::NL vq l'.recs::star ((q.take k++q.drop (k+1)).map Yp)::QE 102 4 (.slice av q.length cv) (Vb q)::pts b4 (row 102 [.int .i64 0,.slice none 0 0,.int .i64 0,.slice none 0 0])::pts p (row 242 [.slice av q.length cv])::fr):=H;obtain⟨ar,cr,rfl⟩:=QI H (QJ _) (by decide);obtain⟨aq,cq,rfl⟩:=QI H.drop (QJ _) (by decide);obtain⟨D1,H,Y2,Vo⟩:=sls_rd H (QJ _) (by decide);obtain⟨D2,H,Zj,ZR⟩:=sls_rd H.swap (QJ _) (by decide);replace H:=Js [3,0,0,0,0,0] 0 H;obtain⟨b,s,rfl,H,QK⟩:=VX H (by omega);refine XF H ?_;rw[Qg (x:=(k:Int)+1 - 1) (by omega) (by omega),show (k:Int)+1 - 1=(k:Int) by omega];refine Jd ?_;refine Q5 rfl (Vz H rfl (Nl hx) rfl ?_);refine Jc rfl rfl (fI _ _ l' hR.small ⟨(Y2 _).there.there,(Zj _).there⟩ H) ?_;clear H;rintro v w ⟨vr',vq',rfl,H⟩;obtain⟨a4,m4,c4,rfl⟩:=V8 H;obtain⟨a5,m5,c5,rfl⟩:=V8 H.swap;refine J5 H ?_;clear H;intro w H;refine J0 H ?_;replace H:=Js [3,3,2,2,2,2,0,0] 0 H;replace H:=Vo _ _ (ZR _ _ H).swap;replace H:=Js [0,0,1,0,0,0,0,0] 0 H;replace H:Q0 w (star (q.map Yp)::_):=(Q0.pick fM).2 (Q0.star.2 H);replace H:=Js [1,1,2,2,1,0] 0 H;replace H:=QK _ _ H;replace H:=Js [1,1,1,1,0,0] 0 H;exact Q3 (Jz H (fun w' H' => .cellN H' rfl (by repeat first|exact .nil _|apply QY.cons rfl) (.tmp .nil)) fun w' H'=>⟨_,_,rfl,(FS (l:=NL (.slice a4 m4 c4) l'.refs::NL (.slice a5 m5 c5) l'.recs::fr) ⟨hq,Qw,ZG⟩ (by have H':=H'.drop;replace H':=Q0.sel [2,2,2,0,0] 0 H';dsimp only[SL.sel,SL.pull,List.drop] at H';exact H')).sel [1,1,0] 0⟩)
def GS (l:List Nat) (x:Nat):Nat:=l.countP (· < x)
theorem pL (l:List Nat) (x:Nat):(l.map fun a:Nat=>(a:Int)).contains (x:Int)=decide (x∈l):=by
 induction l with
 | nil=>simp
 | cons a l ih=>
  rw[map_cons,contains_cons,ih];by_cases h:x=a
  ·subst h;simp
  ·have:((x:Int) == (a:Int))=false:=by simp;omega
   simp[this,h]
theorem pM (l:List Nat) (x:Nat):(l.map fun a:Nat=>(a:Int)).countP (· < (x:Int))=GS l x:=by
 unfold GS;rw[countP_map];congr 1
 funext a
 simp
theorem Fa [Q4] (v:Value) (l:List Nat) (hl:l.length≤1000000) (hs:l.Pairwise (· < ·)) (x:Nat) {w:World} {fr:List Q2} (hr:Ya fr v l.length 1 (QH l)) (H:Q0 w fr) :
  Calls Tryz.prog 112 #[v,.int .i64 x] w (ret fun r w'=>r = .tuple #[.int .i64 (GS l x:Nat),.bool (decide (x∈l))]∧Q0 w' fr):=by
 obtain⟨_,ad,cap,rfl,Ym⟩:=id hr;by_cases h0:l=[]
 ·subst h0;refine QQ Tryz.func112 rfl (by kernel_rfl) ?_;refine J3 H ?_;refine KF H ?_;refine IU H ?_;refine Qe ?_;refine Qq (fun ms σ w q=>ms=[]∧σ 6 = .int .i64 0∧σ 7 = .int .i64 0∧σ 8 = .int .i64 0∧Q0 w fr) (m:=0) ⟨rfl,rfl,rfl,rfl,H⟩ ?_;clear H;rintro ms σ w q ⟨rfl,g6,g7,g8,H⟩;rw[Q1 g6,Q1 g7,Q1 g8];refine IU H ?_;refine Am H ?_;refine J9 H ?_;refine Ev H ?_;refine IQ H ?_;refine By H ?_;refine By H ?_;refine By H ?_;refine Mh H ?_;refine ZS H ?_;refine J0 H ?_;exact Q3 (Jy H rfl fun w' H'=>⟨rfl,H'⟩)
 ·rcases Ym with h|⟨b,o,E,fz,c,rfl,hA,Qu⟩
  ·exact absurd (eq_nil_of_length_eq_zero h) h0
  haveI:=hA
  have hc:∀ j,j < l.length→w.cell? ⟨b,o+j,none⟩=some (.int .i64 (l.getD j 0)):=fun j hj=>by
   refine Ua H.at ?_;rw[Nat.mul_one] at Qu;refine Qu.get j _ ?_;simp[QH,hj]
  have e1:∀ j,(l.map fun a:Nat=>(a:Int)).getD j 0=((l.getD j 0:Nat):Int):=fun j=>by
   simp only[getD_eq_getElem?_getD,getElem?_map];cases l[j]? <;> rfl
  have e2:(l.map fun a:Nat=>(a:Int)).take l.length=l.map fun a:Nat=>(a:Int):=take_of_length_le (by simp);refine(Any.slices_BinarySearch_int Tryz.laysBs b o l.length cap (l.map fun a:Nat=>(a:Int)) x w (by simp) (by omega) (fun j hj=>by rw[hc j (by simpa using hj),e1]) ?_).mono ?_
  ·rw[e2];refine List.Pairwise.map _ (fun a b h=>?_) hs;omega
  ·rintro e w' ⟨rfl,q,rfl⟩;refine⟨?_,H.heap rfl⟩;rw[e2,pL,pM]
theorem pN [Q4] (vr vq:Value) (l:Qb) (hR:YU l) (count:Int) (place:Int) {n:Nat} (hz:Vg l count=(n,0)) (hp:place < 0∨(n:Int)≤place) {w:World} {fr:List Q2} (hr:Ks fr vr vq l) (H:Q0 w fr) :
  Calls Tryz.prog 204 #[GU l.fixed vr l.record vq,.int .i64 count,.int .i64 place] w (ret fun x w'=>x = .tuple #[.bool false,.int .i64 3]∧Q0 w' fr):=by
 obtain⟨_,ad1,cap1,rfl,ZK⟩:=id hr.r;obtain⟨_,ad2,cap2,rfl,KL⟩:=id hr.q;refine QQ Tryz.func204 rfl (by kernel_rfl) ?_;refine J8 H ?_;clear H;intro b3 w H;refine J4 H ?_;refine Ey H ?_;refine Jc rfl rfl (Iq _ _ l hR count hr.there H) ?_;clear H;rintro v w ⟨rfl,H⟩;rw[hz];refine DE H ?_;refine Qe ?_;refine Ez H ?_;by_cases h1:place < 0
 ·rw[show decide (place < 0)=true from decide_eq_true (by omega)];refine Mg H ?_;refine J4 H ?_;refine G2 H ?_;exact Q3 (Jy H.drop rfl fun w' H'=>⟨rfl,H'⟩)
 ·rw[show decide (place < 0)=false from decide_eq_false (by omega)];refine DL H ?_;rw[show decide (place≥(n:Int))=true from decide_eq_true (by omega)];refine J4 H ?_;refine G2 H ?_;exact Q3 (Jy H.drop rfl fun w' H'=>⟨rfl,H'⟩)
theorem pO [Q4] (vr vq:Value) (l:Qb) (hR:YU l) (count:Int) (p:Nat) {n:Nat} (hz:Vg l count=(n,0)) (hp:p < n) {w:World} {fr:List Q2} (hr:Ks fr vr vq l) (H:Q0 w fr) :
  Calls Tryz.prog 204 #[GU l.fixed vr l.record vq,.int .i64 count,.int .i64 p] w (ret fun x w'=>x = .tuple #[.bool (Va l p),.int .i64 0]∧Q0 w' fr):=by
 have Zg:=hR.small;obtain⟨z1,z2,z3,z4,z5⟩:=Sa hz;obtain⟨_,ad1,cap1,rfl,ZK⟩:=id hr.r;obtain⟨_,ad2,cap2,rfl,KL⟩:=id hr.q;refine QQ Tryz.func204 rfl (by kernel_rfl) ?_;refine J8 H ?_;clear H;intro b3 w H;refine J4 H ?_;refine Ey H ?_;refine Jc rfl rfl (Iq _ _ l hR count hr.there H) ?_;clear H;rintro v w ⟨rfl,H⟩;rw[hz];refine DE H ?_;refine Yx (fun ms σ w=>ms=[]∧σ 2 = .int .i64 p∧σ 3=pp b3∧Q0 w (pts b3 (row 102 [.int .i64 l.fixed,.slice ad1 l.refs.length cap1,.int .i64 l.record,.slice ad2 l.recs.length cap2])::fr)) ?_ ?_
 ·refine Qe ?_;refine Ez H ?_;rw[show decide ((p:Int) < 0)=false from decide_eq_false (by omega)];refine DL H ?_;rw[show decide ((p:Int)≥(n:Int))=false from decide_eq_false (by omega)];refine DI H ?_;exact .inl ⟨rfl,rfl,rfl,rfl,H⟩
 ·clear H;rintro ms σ w ⟨rfl,g2,g3,H⟩;rw[Q1 g2,Q1 g3];refine MJ H ?_;refine Em H ?_;refine Gm H ?_;refine J0 H ?_;by_cases h1:p < l.fixed
  ·rw[show decide ((p:Int)≥(l.fixed:Int))=false from decide_eq_false (by omega)];refine F0 H ?_;refine Jc rfl rfl (Fa _ l.refs Zg.a hR.2.2.2.1.2 p hr.r.there H) ?_;clear H;rintro v w ⟨rfl,H⟩;refine U2 H ?_;refine Vj H ?_;exact Q3 (Jy H.drop rfl fun w' H'=>⟨by unfold Va;rw[if_pos h1];rfl,H'⟩)
  ·have Fb:l.record≠0:=by
    intro h0;rw[h0] at z3;omega
   have e1:IntKind.i64.wrap ((p:Int) - (l.fixed:Int))=((p - l.fixed:Nat):Int):=by rw[Qg (by omega) (by omega)];omega
   rw[show decide ((p:Int)≥(l.fixed:Int))=true from decide_eq_true (by omega)];refine J6 H ?_;refine Qt (fun ms σ w=>ms=[]∧σ 10 = .slice ad2 l.recs.length cap2∧σ 11 = .int .i64 (((p - l.fixed) % l.record:Nat):Int)∧Q0 w (pts b3 (row 102 [.int .i64 l.fixed,.slice ad1 l.refs.length cap1,.int .i64 l.record,.slice ad2 l.recs.length cap2])::fr)) ?_ ?_
   ·refine YY rfl ?_;refine J1 H ?_;clear H;intro w H;refine Bu H ?_;refine Jf 3 ?_;refine Jl 4 [] H ?_;refine Ja 5 ?_;refine Jf 6 ?_;refine Jl 7 [] H ?_;rw[e1]
    refine XW (v := .int .i64 (((p - l.fixed) % l.record:Nat):Int)) 8 rfl (Q9.none rfl) (by
     show (if IntKind.i64=IntKind.i64 then (if (l.record:Int)=0 then none else some (Value.int .i64 (Int.tmod ((p - l.fixed:Nat):Int) (l.record:Int)))) else none)=_;rw[if_pos rfl,if_neg (by omega),Int.tmod_eq_emod_of_nonneg (by omega),Int.natCast_emod]) (by kernel_rfl) ?_
    refine Ja 9 ?_;refine DR H ?_;exact⟨rfl,rfl,rfl,rfl,H⟩
   ·clear H;rintro ms σ w ⟨rfl,g10,g11,H⟩;rw[Q1 g10,Q1 g11];refine J9 H ?_;refine Jc rfl rfl (Fa _ l.recs Zg.b hR.2.2.2.2.2 _ hr.q.there H) ?_;clear H;rintro v w ⟨rfl,H⟩;refine U2 H ?_;refine Vj H ?_;exact Q3 (Jy H.drop rfl fun w' H'=>⟨by unfold Va;rw[if_neg h1];rfl,H'⟩)
theorem fN [Q4] (v:Value) (l:List Nat) (size:Nat) (hl:l.length≤1000000) {w:World} {fr:List Q2} (hr:Ya fr v l.length 1 (QH l)) (H:Q0 w fr) :
  Calls Tryz.prog 262 #[v,.int .i64 size] w (ret fun x w'=>(∃ b,x = .bool b∧(b=true↔Rh l size))∧Q0 w' fr):=by
 obtain⟨_,ad,cap,rfl,hr⟩:=hr;refine QQ Tryz.func262 rfl (by kernel_rfl) ?_;refine IX H ?_;refine Qq (fun ms σ w q=>ms=[]∧∃ (i:Nat) (t:Int),i≤l.length∧q=l.length - i∧Rh (l.take i) size∧((i=0∧t = -1)∨∃ y:Nat,(l.take i).getLast? = some y∧t=y)∧σ 0 = .slice ad l.length cap∧σ 1 = .int .i64 size∧σ 5 = .int .i64 t∧σ 6 = .int .i64 i∧Q0 w fr) (m:=l.length) ⟨rfl,0,-1,by omega,rfl,⟨by simp,by simp⟩,.inl ⟨rfl,rfl⟩,rfl,rfl,rfl,rfl,H⟩ ?_;clear H;rintro ms σ w q ⟨rfl,i,t,hi,rfl,hR,ht,g0,g1,g5,g6,H⟩;rw[Q1 g0,Q1 g1,Q1 g5,Q1 g6];refine As H ?_;refine Qm rfl (fun h=>QF ?_) (fun h=>Qv ?_)
 ·have Q6:i < l.length:=by omega
  have hx:=getElem?_eq_getElem Q6;have Qj:l.take (i+1)=l.take i++[l[i]]:=by rw[take_add_one,hx];rfl
  have VR:l[i]∈l:=getElem_mem Q6;have UD:(l.take (i+1)).getLast? = some l[i]:=by rw[Qj,getLast?_concat]
  have fO:∀ y:Nat,(l.take i).getLast? = some y→l.Pairwise (· < ·)→y < l[i]:=fun y hy hp=>by
   have pU:0 < i:=by
    rcases Nat.eq_zero_or_pos i with h0|h0
    ·subst h0;simp at hy
    ·exact h0
   rw[getLast?_eq_getElem?,length_take,Nat.min_eq_left hi,getElem?_take_of_lt (by omega),getElem?_eq_getElem (by omega)] at hy;have:=pairwise_iff_getElem.1 hp (i - 1) i (by omega) Q6 (by omega);injection hy with hy
   omega
  generalize l[i]=x at hx Qj VR UD fO
  rcases hr with hr|⟨b,o,E,fz,c,rfl,hA,Qu⟩
  ·omega
  haveI:=hA
  have B5:c[o+i*1]? = some (.int .i64 x):=by
   rw[Nat.mul_one];exact Qu.get i _ (by simp[QH,hx])
  refine Wt H ?_;refine Jd ?_;refine Q5 rfl (QA H rfl B5 rfl ?_);refine ZS H ?_;by_cases h1:(x:Int)≤t
  ·rw[show decide ((x:Int)≤t)=true from decide_eq_true (by omega)];refine Jv ?_;refine IK H ?_;refine Kn H ?_;refine Q3 (Jy H rfl fun w' H'=>⟨⟨false,rfl,⟨fun h=>(by cases h),fun h=>?_⟩⟩,H'⟩)
   rcases ht with ⟨_,rfl⟩|⟨y,hy,rfl⟩
   ·omega
   ·have:=fO y hy h.2;omega
  ·rw[show decide ((x:Int)≤t)=false from decide_eq_false (by omega)];refine Rb H ?_;refine QS rfl rfl rfl (Ut rfl rfl (by omega) (by omega) rfl ?_);refine QS rfl rfl rfl (QA H rfl B5 rfl ?_);refine GL H ?_;by_cases h2:x < size
   ·rw[show decide ((x:Int)≥(size:Int))=false from decide_eq_false (by omega)];refine YS H ?_;refine J9 H ?_;refine Jd ?_;refine Q5 rfl (QA H rfl B5 rfl ?_);refine F1 H ?_;refine⟨_,⟨rfl,i+1,x,Q6,rfl,?_,.inr ⟨x,UD,rfl⟩,rfl,rfl,rfl,Qh (by omega),H⟩,by omega⟩;rw[Qj];refine⟨fun p hp=>?_,fF hR.2 fun z hz=>?_⟩
    ·simp at hp
     rcases hp with hp|rfl
     ·exact hR.1 p hp
     ·exact h2
    ·rcases ht with ⟨rfl,rfl⟩|⟨y,hy,rfl⟩
     ·simp at hz
     ·rw[hy] at hz;cases hz;omega
   ·rw[show decide ((x:Int)≥(size:Int))=true from decide_eq_true (by omega)];refine Kn H ?_;refine Q3 (Jy H rfl fun w' H'=>⟨⟨false,rfl,⟨fun h=>(by cases h),fun h=>?_⟩⟩,H'⟩);exact absurd (h.1 x VR) h2
 ·have V2:i=l.length:=by omega
  subst V2;rw[take_length] at hR;refine Vl H ?_;exact Q3 (Jy H rfl fun w' H'=>⟨⟨true,rfl,by simp[hR]⟩,H'⟩)
theorem fP [Q4] (v:Value) (l:List Nat) (x:Nat) (hl:l.length≤1000000) {w:World} {fr:List Q2} (hr:Ya fr v l.length 1 (QH l)) (H:Q0 w fr) :
  Calls Tryz.prog 105 #[v,.int .i64 x] w (ret fun r w'=>r = .bool (decide (x∈l))∧Q0 w' fr):=by
 obtain⟨_,ad,cap,rfl,hr⟩:=hr;refine QQ Tryz.func105 rfl (by kernel_rfl) ?_;refine Py H ?_;refine Qq (fun ms σ w q=>ms=[]∧∃ i:Nat,i≤l.length∧q=l.length - i∧x∉l.take i∧σ 0 = .slice ad l.length cap∧σ 1 = .int .i64 x∧σ 5 = .int .i64 i∧Q0 w fr) (m:=l.length) ⟨rfl,0,by omega,rfl,by simp,rfl,rfl,rfl,H⟩ ?_;clear H;rintro ms σ w q ⟨rfl,i,hi,rfl,hn,g0,g1,g5,H⟩;rw[Q1 g0,Q1 g1,Q1 g5];refine As H ?_;refine Qm rfl (fun h=>QF ?_) (fun h=>Qv ?_)
 ·have Q6:i < l.length:=by omega
  have hx:=getElem?_eq_getElem Q6;have Qj:l.take (i+1)=l.take i++[l[i]]:=by rw[take_add_one,hx];rfl
  have VR:l[i]∈l:=getElem_mem Q6;generalize l[i]=y at hx Qj VR
  rcases hr with hr|⟨b,o,E,fz,c,rfl,hA,Qu⟩
  ·omega
  haveI:=hA
  have B5:c[o+i*1]? = some (.int .i64 y):=by
   rw[Nat.mul_one];exact Qu.get i _ (by simp[QH,hx])
  refine Wt H ?_;refine Jd ?_;refine Q5 rfl (QA H rfl B5 rfl ?_);refine J4 H ?_;by_cases h1:y=x
  ·subst h1;rw[show ((y:Int) == (y:Int))=true by simp];refine ZD H ?_;exact Q3 (Jy H rfl fun w' H'=>⟨by rw[decide_eq_true VR];rfl,H'⟩)
  ·rw[show ((y:Int) == (x:Int))=false by simp;omega];refine Ex H ?_;refine⟨_,⟨rfl,i+1,Q6,rfl,?_,rfl,rfl,Qh (by omega),H⟩,by omega⟩;rw[Qj];simp only[mem_append,mem_singleton];rintro(h|h)
   ·exact hn h
   ·exact h1 h.symm
 ·have V2:i=l.length:=by omega
  subst V2;rw[take_length] at hn;refine Vl H ?_;exact Q3 (Jy H rfl fun w' H'=>⟨by rw[decide_eq_false hn];rfl,H'⟩)
theorem It [Q4] (x:Nat) (hx:x < 18446744073709551616) {w:World} {fr:List Q2} (H:Q0 w fr) :
  Calls Tryz.prog 253 #[.int .u64 x] w (ret fun v w'=>Q0 w' (NL v (YG x 64)::fr)):=by
 refine QQ Tryz.func253 rfl (by kernel_rfl) ?_;refine IX H ?_;refine Qq (fun ms σ w n=>ms=[]∧∃ (k:Nat) (g:Value),k≤64∧n=64 - k∧σ 0 = .int .u64 ((x / 2 ^ k:Nat):Int)∧σ 3=g∧σ 4 = .int .i64 k∧Q0 w (NL g (YG x k)::fr)) (m:=64) ⟨rfl,0,_,by omega,rfl,by simp;rfl,rfl,rfl,Zy H⟩ ?_;clear H;rintro ms σ w n ⟨rfl,k,g,hk,rfl,g0,g3,g4,H⟩;obtain⟨ag,mg,cg,rfl⟩:=V8 H;rw[Q1 g0,Q1 g3,Q1 g4];refine J3 H ?_;by_cases Y0:k < 64
 ·rw[show decide ((k:Int) < 64)=true from decide_eq_true (by omega)];refine J6 H ?_;refine Ws H ?_;have pP:x / 2 ^ k≤x:=Nat.div_le_self _ _;have Ud:x.testBit k=decide (x / 2 ^ k % 2=1):=Nat.testBit_eq_decide_div_mod_eq;have fS:x / 2 ^ (k+1)=x / 2 ^ k / 2:=by rw[Nat.pow_succ,Nat.div_div_eq_div_mul]
  generalize hy:x / 2 ^ k=y at pP Ud fS;have pS:Int.tmod (y:Int) 2=((y % 2:Nat):Int):=by rw[Int.tmod_eq_emod_of_nonneg (by omega)];omega
  have pT:IntKind.u64.wrap (Int.tdiv (y:Int) 2)=((y / 2:Nat):Int):=by
   rw[Int.tdiv_eq_ediv_of_nonneg (by omega),show (y:Int) / 2=((y / 2:Nat):Int) by omega,Kk (by omega)]
  refine Wt H ?_;rw[pS];refine Yy H ?_;refine Qt (fun ms σ w=>ms=[]∧∃ g:Value,σ 0 = .int .u64 y∧σ 3=g∧σ 4 = .int .i64 k∧Q0 w (NL g (YG x (k+1))::fr)) ?_ ?_
  ·by_cases h1:y % 2=1
   ·have e2:YG x (k+1)=YG x k++[k]:=by rw[Ng,Ud,decide_eq_true h1];rfl
    rw[show (((y % 2:Nat):Int) == 1)=true by simp;omega];refine YY rfl ?_;refine IR H ?_;clear H;intro b14 w H;refine Q5 rfl (ZU H.swap rfl rfl (by repeat first|exact .nil _|apply QY.cons rfl) rfl (by decide) (by rw[QJ];have:=FM x k;simp only[length_cons,length_nil];omega) rfl rfl ?_);clear H;intro v15 w H;obtain⟨a15,m15,c15,rfl⟩:=V8 H;refine J0 H ?_;refine⟨rfl,rfl,_,rfl,rfl,rfl,?_⟩;rw[e2];show Q0 w (QE _ 1 _ (QH (YG x k++[k]))::_);rw[B4];exact Q0.drop H.swap
   ·have e2:YG x (k+1)=YG x k:=by rw[Ng,Ud,decide_eq_false h1];simp
    rw[show (((y % 2:Nat):Int) == 1)=false by simp;omega];refine Vu rfl (QF ?_);exact⟨rfl,rfl,_,rfl,rfl,rfl,by rw[e2];exact H⟩
  ·clear H;rintro ms σ w ⟨rfl,g,g0,g3,g4,H⟩;obtain⟨ag,mg,cg,rfl⟩:=V8 H;rw[Q1 g0,Q1 g3,Q1 g4];refine J9 H ?_;rw[pT];refine F1 H ?_;exact⟨_,⟨rfl,k+1,_,Y0,rfl,by rw[fS];rfl,rfl,Qh (by omega),H⟩,by omega⟩
 ·have pa:k=64:=by omega
  subst pa;rw[show decide (((64:Nat):Int) < 64)=false from rfl];refine J6 H ?_;refine Am H ?_;refine J3 H ?_;exact Q3 (Jy H rfl fun w' H'=>H')
theorem fT [Q4] (vr vq:Value) (l:Qb) (hs:Ni l) {w:World} {fr:List Q2} (hr:Ks fr vr vq l) (H:Q0 w fr) :
  Calls Tryz.prog 254 #[GU l.fixed vr l.record vq] w (ret fun x w'=>(∃ b,x = .bool b∧(b=true↔YU l))∧Q0 w' fr):=by
 obtain⟨s1,s2,s3,s4⟩:=hs;obtain⟨ZK,KL⟩:=hr;obtain⟨_,ad1,cap1,rfl,pR⟩:=id ZK;obtain⟨_,ad2,cap2,rfl,pW⟩:=id KL;refine QQ Tryz.func254 rfl (by kernel_rfl) ?_;refine J8 H ?_;clear H;intro b1 w H;refine J0 H ?_;refine Wo H ?_;rw[show decide ((l.fixed:Int) < 0)=false from decide_eq_false (by omega)];refine Eh H ?_;by_cases h1:l.fixed≤64
 ·rw[show decide ((l.fixed:Int) > 64)=false from decide_eq_false (by omega)];refine Hw H ?_;rw[show decide ((l.record:Int) < 0)=false from decide_eq_false (by omega)];refine Hw H ?_;by_cases h2:l.record≤64
  ·rw[show decide ((l.record:Int) > 64)=false from decide_eq_false (by omega)];refine YS H ?_;refine Mi H ?_;refine Jc rfl rfl (fN _ l.refs l.fixed s3 ZK.there H) ?_;clear H;rintro v w ⟨⟨b,rfl,hb⟩,H⟩;refine DW H ?_;refine Gm H ?_;refine Jc rfl rfl (fN _ l.recs l.record s4 KL.there H) ?_;clear H;rintro v w ⟨⟨c,rfl,hc⟩,H⟩;refine J0 H ?_
   have key:(b=true∧c=true∧l.fixed+l.record≠0)↔YU l:=by
    rw[hb,hc];exact⟨fun h=>⟨h1,h2,h.2.2,h.1,h.2.1⟩,fun h=>⟨h.2.2.2.1,h.2.2.2.2,h.2.2.1⟩⟩
   cases b with
   | false=>
    refine J9 H ?_;refine V5 rfl rfl rfl ?_;refine U3 H ?_;refine Mk H ?_;exact Q3 (Jy H.drop rfl fun w' H'=>⟨⟨false,rfl,⟨fun h=>(by cases h),fun h=>(by have:=(key.2 h).1;cases this)⟩⟩,H'⟩)
   | true=>
    cases c with
    | false=>
     refine J9 H ?_;refine Zm H ?_;refine U3 H ?_;refine Mk H ?_;exact Q3 (Jy H.drop rfl fun w' H'=>⟨⟨false,rfl,⟨fun h=>(by cases h),fun h=>(by have:=(key.2 h).2.1;cases this)⟩⟩,H'⟩)
    | true=>
     refine J9 H ?_;refine Zm H ?_;refine Hw H ?_;by_cases h3:l.fixed > 0
     ·rw[show decide ((l.fixed:Int) > 0)=true from decide_eq_true (by omega)];refine Zm H ?_;refine Ap H ?_;refine W5 H ?_;exact Q3 (Jy H.drop rfl fun w' H'=>⟨⟨true,rfl,⟨fun _=>key.1 ⟨rfl,rfl,by omega⟩,fun _=>rfl⟩⟩,H'⟩)
     ·rw[show decide ((l.fixed:Int) > 0)=false from decide_eq_false (by omega)];refine IY H ?_;by_cases h4:l.record > 0
      ·rw[show decide ((l.record:Int) > 0)=true from decide_eq_true (by omega)];refine W5 H ?_;exact Q3 (Jy H.drop rfl fun w' H'=>⟨⟨true,rfl,⟨fun _=>key.1 ⟨rfl,rfl,by omega⟩,fun _=>rfl⟩⟩,H'⟩)
      ·rw[show decide ((l.record:Int) > 0)=false from decide_eq_false (by omega)];refine W5 H ?_;exact Q3 (Jy H.drop rfl fun w' H'=>⟨⟨false,rfl,⟨fun h=>(by cases h),fun h=>(by have:=(key.2 h).2.2;omega)⟩⟩,H'⟩)
  ·rw[show decide ((l.record:Int) > 64)=true from decide_eq_true (by omega)];refine Kn H ?_;exact Q3 (Jy H.drop rfl fun w' H'=>⟨⟨false,rfl,⟨fun h=>(by cases h),fun h=>(by unfold YU at h;omega)⟩⟩,H'⟩)
 ·rw[show decide ((l.fixed:Int) > 64)=true from decide_eq_true (by omega)];refine Mj H ?_;refine Mj H ?_;refine Kn H ?_;exact Q3 (Jy H.drop rfl fun w' H'=>⟨⟨false,rfl,⟨fun h=>(by cases h),fun h=>(by unfold YU at h;omega)⟩⟩,H'⟩)
theorem pb [Q4] (vr vq:Value) (l:Qb) (hR:YU l) (count:Int) {w:World} {fr:List Q2} (hr:Ks fr vr vq l) (H:Q0 w fr) :
  Calls Tryz.prog 255 #[GU l.fixed vr l.record vq,.int .i64 count] w (ret fun x w'=>x = .tuple #[.int .i64 ((Vg l count).1:Nat),.int .i64 ((Vg l count).2:Nat)]∧Q0 w' fr):=by
 have hf:=hR.1;have hc:=hR.2.1;obtain⟨_,ad1,cap1,rfl,ZK⟩:=id hr.r;obtain⟨_,ad2,cap2,rfl,KL⟩:=id hr.q;refine QQ Tryz.func255 rfl (by kernel_rfl) ?_;refine J8 H ?_;clear H;intro b2 w H;refine J4 H ?_;refine XD H ?_;refine Jc rfl rfl (fT _ _ l hR.small hr.there H) ?_;clear H;rintro v w ⟨⟨b,rfl,hb⟩,H⟩;obtain rfl:=hb.2 hR;refine ZT H ?_;refine J6 H ?_;refine Qt (fun ms σ w=>ms=[]∧(∃ q,σ 26 = .bool q∧(q=true↔(count < 0∨count > 1024∨(count > 0∧l.record=0))))∧σ 1 = .int .i64 count∧σ 2=pp b2∧Q0 w (pts b2 (row 102 [.int .i64 l.fixed,.slice ad1 l.refs.length cap1,.int .i64 l.record,.slice ad2 l.recs.length cap2])::fr)) ?_ ?_
 ·refine J9 H ?_;by_cases c0:count < 0
  ·rw[show decide (count < 0)=true from decide_eq_true (by omega)];refine Mp H ?_;refine U3 H ?_;refine By H ?_;refine V5 rfl rfl rfl ?_;refine J0 H ?_;exact⟨rfl,rfl,⟨true,rfl,by simp[c0]⟩,rfl,rfl,H⟩
  ·rw[show decide (count < 0)=false from decide_eq_false (by omega)];refine Rb H ?_;by_cases c1:count > 1024
   ·rw[show decide (count > 1024)=true from decide_eq_true (by omega)];refine U3 H ?_;refine By H ?_;refine V5 rfl rfl rfl ?_;refine J0 H ?_;exact⟨rfl,rfl,⟨true,rfl,by simp[c1]⟩,rfl,rfl,H⟩
   ·rw[show decide (count > 1024)=false from decide_eq_false (by omega)];refine Hw H ?_;by_cases c3:l.record=0
    ·rw[show ((l.record:Int) == 0)=true by simp;omega];refine Wq H ?_;by_cases c2:count > 0
     ·rw[show decide (count > 0)=true from decide_eq_true (by omega)];refine Ma H ?_;exact⟨rfl,rfl,⟨true,rfl,by simp[c2,c3]⟩,rfl,rfl,H⟩
     ·rw[show decide (count > 0)=false from decide_eq_false (by omega)];refine Ma H ?_;exact⟨rfl,rfl,⟨false,rfl,by simp only[Bool.false_eq_true,false_iff];omega⟩,rfl,rfl,H⟩
    ·rw[show ((l.record:Int) == 0)=false by simp;omega];refine Zm H ?_;refine V5 rfl rfl rfl ?_;refine V5 rfl rfl rfl ?_;refine Ma H ?_;exact⟨rfl,rfl,⟨false,rfl,by simp only[Bool.false_eq_true,false_iff];omega⟩,rfl,rfl,H⟩
 clear H;rintro ms σ w ⟨rfl,⟨q,g26,hq⟩,g1,g2,H⟩;rw[Q1 g26,Q1 g1,Q1 g2];cases q with
 | true=>
  have hs:Vg l count=(0,3):=by unfold Vg;rw[if_pos (hq.1 rfl)]
  refine G2 H ?_;exact Q3 (Jy H.drop rfl fun w' H'=>⟨by rw[hs];rfl,H'⟩)
 | false=>
  have Wm:¬ (count < 0∨count > 1024∨(count > 0∧l.record=0)):=fun h=>by have:=hq.2 h;cases this
  obtain⟨c,rfl⟩:∃ c:Nat,count=c:=⟨count.toNat,by omega⟩;have B7:c*l.record≤1024*64:=Nat.mul_le_mul (by omega) hc;have Sc:(l.record:Int)*(c:Int)=((c*l.record:Nat):Int):=by rw[Int.natCast_mul,Int.mul_comm]
  refine Vf H ?_;refine Mi H ?_;refine F2 H ?_;refine Vj H ?_;rw[Sc,Qg (x:=((c*l.record:Nat):Int)) (by omega) (by omega),Qg (x:=(l.fixed:Int)+((c*l.record:Nat):Int)) (by omega) (by omega),Qg (x:=(l.fixed:Int)+((c*l.record:Nat):Int)+1) (by omega) (by omega)];by_cases c3:l.fixed+c*l.record≥8192
  ·have hs:Vg l (c:Int)=(0,10):=by unfold Vg;rw[if_neg Wm,if_pos (by simpa using c3)]
   rw[show decide ((l.fixed:Int)+((c*l.record:Nat):Int)+1 > 8192)=true from decide_eq_true (by omega)];refine G2 H ?_;exact Q3 (Jy H.drop rfl fun w' H'=>⟨by rw[hs];rfl,H'⟩)
  ·have hs:Vg l (c:Int)=(l.fixed+c*l.record,0):=by unfold Vg;rw[if_neg Wm,if_neg (by simpa using c3)];simp
   rw[show decide ((l.fixed:Int)+((c*l.record:Nat):Int)+1 > 8192)=false from decide_eq_false (by omega)];refine Ex H ?_;exact Q3 (Jy H.drop rfl fun w' H'=>⟨by rw[hs];show Value.tuple #[.int .i64 ((l.fixed:Int)+((c*l.record:Nat):Int)),_]=_;rw[← Int.natCast_add];rfl,H'⟩)
theorem fa [Q4] (vr vq:Value) (l:Qb) (hR:YU l) (p:Nat) (hp:l.record≠0∨p < l.fixed) (GX:p < 1000000) {w:World} {fr:List Q2} (hr:Ks fr vr vq l) (H:Q0 w fr) :
  Calls Tryz.prog 39 #[GU l.fixed vr l.record vq,.int .i64 p] w (ret fun x w'=>x = .bool (Va l p)∧Q0 w' fr):=by
 have Zg:=hR.small;obtain⟨_,ad1,cap1,rfl,ZK⟩:=id hr.r;obtain⟨_,ad2,cap2,rfl,KL⟩:=id hr.q;refine QQ Tryz.func39 rfl (by kernel_rfl) ?_;refine J8 H ?_;clear H;intro b2 w H;refine Em H ?_;refine Gm H ?_;refine J0 H ?_;by_cases h1:p < l.fixed
 ·rw[show decide ((p:Int) < (l.fixed:Int))=true from decide_eq_true (by omega)];refine Vr H ?_;refine Wo H ?_;refine Jc rfl rfl (fP _ l.refs p Zg.a hr.r.there H) ?_;clear H;rintro v w ⟨rfl,H⟩;refine J0 H ?_;exact Q3 (Jy H.drop rfl fun w' H'=>⟨by unfold Va;rw[if_pos h1];rfl,H'⟩)
 ·have e1:IntKind.i64.wrap ((p:Int) - (l.fixed:Int))=((p - l.fixed:Nat):Int):=by rw[Qg (by omega) (by omega)];omega
  rw[show decide ((p:Int) < (l.fixed:Int))=false from decide_eq_false (by omega)];refine IW H ?_;clear H;intro w H;refine Jf 0 ?_;refine Jl 1 [9] H ?_;refine Ja 2 ?_;refine Jf 3 ?_;refine Jl 4 [9] H ?_;refine Ja 5 ?_;refine Jf 6 ?_;refine Jl 7 [9] H ?_;rw[e1]
  refine XW (v := .int .i64 (((p - l.fixed) % l.record:Nat):Int)) 8 rfl (Q9.none rfl) (by
   show (if IntKind.i64=IntKind.i64 then (if (l.record:Int)=0 then none else some (Value.int .i64 (Int.tmod ((p - l.fixed:Nat):Int) (l.record:Int)))) else none)=_;rw[if_pos rfl,if_neg (by omega),Int.tmod_eq_emod_of_nonneg (by omega),Int.natCast_emod]) (by kernel_rfl) ?_
  refine Jo 9 H ?_;refine Jk rfl rfl (fP _ l.recs _ Zg.b hr.q.there H) ?_;clear H;rintro v w ⟨rfl,H⟩;refine DR H ?_;exact Q3 (Jy H.drop rfl fun w' H'=>⟨by unfold Va;rw[if_neg h1];rfl,H'⟩)
abbrev Rf:=Int×Int
theorem CD:XA Tryz.prog 133 kp:=dq inferInstance
theorem Vp:XA Tryz.prog 3 (ki .i64):=nB inferInstance
@[reducible] def vm:Nat→Value:=fun b => .map (some b)
@[reducible] def v1:Int→Value:=fun x => .int .i64 x
@[reducible] def rf (r:Rf):Value := .agg #[.int .i64 r.1,.int .i64 r.2]
structure Gr where
 key:Int
 blk:Nat
 m:List (Rf×Int)
@[reducible] def CE (g:Gr):Q2:=mp kp v1 g.blk g.m
@[reducible] def Uf (g:Gr):Int×Nat:=(g.key,g.blk)
def mem (G:List Gr) (k:Int) (r:Rf):Prop:=∃ g∈G,g.key=k∧r∈g.m.map (·.1)
def Kt (bo:Nat) (S:Int→Rf→Prop):Q2:=ex fun G=>star [prop (∀ k r,mem G k r↔S k r),mp (ki .i64) vm bo (G.map Uf),star (G.map CE)]
theorem Nm [Q4] {w:World} {bo:Nat} {S:Int→Rf→Prop} {l:List Q2} (H:Q0 w (Kt bo S::l)) :
  ∃ G,(∀ k r,mem G k r↔S k r)∧Q0 w (mp (ki .i64) vm bo (G.map Uf)::star (G.map CE)::l):=by
 obtain⟨G,H⟩:=Q0.ex.1 H;have H:=Q0.star.1 H;obtain⟨h1,H⟩:=Q0.prop.1 H;exact⟨G,h1,H⟩
theorem A2 [Q4] {w:World} {bo:Nat} {S:Int→Rf→Prop} {l:List Q2} (G:List Gr) (h:∀ k r,mem G k r↔S k r) (H:Q0 w (mp (ki .i64) vm bo (G.map Uf)::star (G.map CE)::l)):Q0 w (Kt bo S::l):=
 Q0.ex.2 ⟨G,Q0.star.2 (Q0.prop.2 ⟨h,H⟩)⟩
theorem B8 [Q4] {w:World} {K V:Type} {ek:K→Value} {vv:V→Value} (b:Nat) {m:List (K×V)} {l:List Q2} (H:Q0 w l) [RJ ek vv b m l]:(m.map (·.1)).Nodup:=by
 obtain⟨es,c,_,h⟩:=Q0.mp H (ek:=ek) (vv:=vv) (b:=b) (m:=m);exact h.nodup
theorem Dd (G:List Gr):(G.map Uf).map (·.1)=G.map (·.key):=by simp[Uf,Function.comp_def]
theorem Nn {G:List Gr} {k:Int} {b:Nat} (h:QV (G.map Uf) k=some b):∃ g g1 g2,G=g1++g::g2∧g.key=k∧g.blk=b:=by
 have h1:=KK h;obtain⟨g,hg,e⟩:=mem_map.1 h1;obtain⟨g1,g2,rfl⟩:=append_of_mem hg;simp only[Uf,Prod.mk.injEq] at e;exact⟨g,g1,g2,rfl,e.1,e.2⟩
theorem CF {K V:Type} [DecidableEq K] {l1 l2:List (K×V)} {p:K×V} (h:((l1++p::l2).map (·.1)).Nodup):QN (l1++p::l2) p.1=l1++l2:=by
 induction l1 with
 | nil=>simp[QN]
 | cons q l1 ih=>
  simp only[cons_append,map_cons,nodup_cons] at h;have QB:q.1≠p.1:=fun e=>h.1 (by rw[e];simp);simp[QN,QB,ih h.2]
theorem De {g1 g2:List Gr} {g:Gr} {k:Int} {r:Rf}:mem (g1++g::g2) k r↔(g.key=k∧r∈g.m.map (·.1))∨mem (g1++g2) k r:=by
 unfold mem;simp only[mem_append,mem_cons];constructor
 ·rintro⟨x,hx|rfl|hx,h⟩
  ·exact .inr ⟨x,.inl hx,h⟩
  ·exact .inl h
  ·exact .inr ⟨x,.inr hx,h⟩
 ·rintro(h|⟨x,hx|hx,h⟩)
  ·exact⟨g,.inr (.inl rfl),h⟩
  ·exact⟨x,.inl hx,h⟩
  ·exact⟨x,.inr (.inr hx),h⟩
theorem CH {G:List Gr} {k:Int} {r:Rf} (h:mem G k r):k∈G.map (·.key):=by
 obtain⟨g,hg,rfl,_⟩:=h;exact mem_map_of_mem hg
theorem Iu {g1 g2:List Gr} {g:Gr} (h:((g1++g::g2).map (·.key)).Nodup):g.key∉(g1++g2).map (·.key):=by
 rw[((perm_middle (a:=g) (l₁:=g1) (l₂:=g2)).map (·.key)).nodup_iff] at h;exact(nodup_cons.1 h).1
theorem fb {g1 g2:List Gr} {g g':Gr} (hk:g'.key=g.key) (hn:((g1++g::g2).map (·.key)).Nodup) {k:Int} {r:Rf}:mem (g1++g'::g2) k r↔if k=g.key then r∈g'.m.map (·.1) else mem (g1++g::g2) k r:=by
 have hr:=Iu hn;rw[De,De,hk];by_cases h:k=g.key
 ·subst h;simp only[if_true,true_and];exact⟨fun h=>h.elim id fun h=>absurd (CH h) hr,.inl⟩
 ·rw[if_neg h];constructor
  ·rintro(⟨e,_⟩|h')
   ·exact absurd e.symm h
   ·exact .inr h'
  ·rintro(⟨e,_⟩|h')
   ·exact absurd e.symm h
   ·exact .inr h'
theorem fe [Q4] (bo:Nat) (S:Int→Rf→Prop) (k:Int) (r:Rf) {w:World} {fr:List Q2} (H:Q0 w (Kt bo S::fr)) :
  Calls Tryz.prog 126 #[.map (some bo),.int .i64 k,rf r] w (ret fun v w'=>Q0 w' (Kt bo (fun k' r'=>S k' r'∧¬ (k'=k∧r'=r))::fr)):=by
 obtain⟨a,b⟩:=r;refine QQ Tryz.func126 rfl (by kernel_rfl) ?_;obtain⟨G,hG,H⟩:=Nm H;refine J8 H ?_;clear H;intro b5 w H;refine DM H ?_;refine Q5 rfl (GH (key:=k) H rfl rfl Vp rfl ?_);have B9:=B8 bo H;have hn:(G.map (·.key)).Nodup:=by rw[← Dd];exact B9
 cases hf:QV (G.map Uf) k with
 | none=>
  refine C1 H ?_;refine Q5 rfl (nF (key:=(a,b)) rfl rfl CD rfl ?_);refine DM H ?_;refine Q5 rfl (GH (key:=k) H rfl rfl Vp rfl ?_);rw[hf];refine Q5 rfl (nH rfl rfl ?_);refine J0 H ?_;refine YY rfl ?_;refine J9 H ?_;refine Q5 rfl (Wk (key:=k) H rfl rfl Vp rfl ?_);clear H;intro w H;refine J2 H ?_;have hk:=D3.1 hf;rw[HT hk] at H;refine Z2 _ (.inl rfl) (A2 G (fun k' r'=>?_) H.drop) rfl (fun w' H'=>H');rw[← hG k' r'];exact⟨fun h=>⟨h,fun e=>hk (by rw[Dd,← e.1];exact CH h)⟩,(·.1)⟩
 | some bi=>
  obtain⟨g,g1,g2,rfl,rfl,rfl⟩:=Nn hf;have H:=(Q0.pick rfl).1 (H.pull 2);refine C1 H ?_;have hi:=B8 g.blk H;refine Q5 rfl (Wk (key:=(a,b)) H rfl rfl CD rfl ?_);clear H;intro w H;refine DM H ?_;refine Q5 rfl (GH (key:=g.key) H rfl rfl Vp rfl ?_);rw[hf];refine Q5 rfl (EN kp v1 H rfl rfl ?_);refine J0 H ?_;refine Cw rfl (fun ht=>?_) (fun ht=>?_)
  ·refine J9 H ?_;refine Q5 rfl (Wk (key:=g.key) H rfl rfl Vp rfl ?_);clear H;intro w H;refine J2 H ?_
   have e:QN ((g1++g::g2).map Uf) g.key=(g1++g2).map Uf:=by
    simp only[map_append,map_cons] at B9 ⊢;exact CF (p:=Uf g) (by simpa using B9)
   rw[e] at H;refine Z2 _ (.inl rfl) (A2 (g1++g2) (fun k' r'=>?_) (l:=fr) ?_) rfl (fun w' H'=>H')
   ·have hr:=Iu hn;have hz:QN g.m (a,b)=[]:=eq_nil_of_length_eq_zero (by simpa using ht);rw[← hG k' r',De];constructor
    ·intro h;exact⟨.inr h,fun e=>hr (by rw[← e.1];exact CH h)⟩
    ·rintro⟨⟨rfl,h⟩|h,h2⟩
     ·have:=(Ha (m:=g.m) (x:=(a,b)) (y:=r') hi).2 ⟨fun e=>h2 ⟨rfl,e⟩,h⟩;rw[hz] at this;simp at this
     ·exact h
   ·replace H:=Js [3,1] 2 H;exact H
  ·refine QF ?_;replace H:=Js [0,0,1] 1 H;refine Z2 _ (.inl rfl) (A2 (g1++{ g with m:=QN g.m (a,b) }::g2) (fun k' r'=>?_) (l:=fr) ?_) rfl (fun w' H'=>H')
   ·rw[fb (g:=g) (g':={ g with m:=QN g.m (a,b) }) rfl hn,← hG k' r'];split
    ·rename_i e;subst e;rw[Ha hi,De];have hr:=Iu hn;constructor
     ·rintro⟨h1,h2⟩;exact⟨.inl ⟨rfl,h2⟩,fun e=>h1 e.2⟩
     ·rintro⟨⟨_,h⟩|h,h2⟩
      ·exact⟨fun e=>h2 ⟨rfl,e⟩,h⟩
      ·exact absurd (CH h) hr
    ·rename_i e;exact⟨fun h=>⟨h,fun e'=>e e'.1⟩,(·.1)⟩
   ·have H:=((Q0.pick (R:=CE) (gs:=g1++{ g with m:=QN g.m (a,b) }::g2) rfl).2 H).swap;simpa only[map_append,map_cons,map_nil,Uf] using H
theorem ff [Q4] (bo:Nat) (S:Int→Rf→Prop) (k:Int) (r:Rf) {w:World} {fr:List Q2} (H:Q0 w (Kt bo S::fr)) :
  Calls Tryz.prog 252 #[.map (some bo),.int .i64 k,rf r] w (ret fun v w'=>Q0 w' (Kt bo (fun k' r'=>S k' r'∨(k'=k∧r'=r))::fr)):=by
 obtain⟨a,b⟩:=r;refine QQ Tryz.func252 rfl (by kernel_rfl) ?_;obtain⟨G,hG,H⟩:=Nm H;refine J8 H ?_;clear H;intro b5 w H;refine DM H ?_;refine Q5 rfl (GH (key:=k) H rfl rfl Vp rfl ?_);have B9:=B8 bo H;have hn:(G.map (·.key)).Nodup:=by rw[← Dd];exact B9
 cases hf:QV (G.map Uf) k with
 | none=>
  refine Q5 rfl (du rfl rfl (.inl rfl) rfl ?_);refine J2 H ?_;refine YY rfl ?_;refine J9 H ?_;refine Q5 rfl (AS v1 kp H rfl ?_);clear H;intro b12 w H;refine Q5 rfl (Ry (key:=k) (v:=b12) H rfl rfl rfl Vp rfl ?_);clear H;intro w H;refine DM H ?_;have hk:=D3.1 hf;refine Q5 rfl (GH (key:=k) H rfl rfl Vp rfl ?_);have Sg:QV (Yg (G.map Uf) k b12) k=some b12:=by rw[KX,if_pos rfl]
  rw[Sg];refine C1 H ?_;refine Q5 rfl (Ry (key:=(a,b)) (v:=1) H rfl rfl rfl CD rfl ?_);clear H;intro w H;refine J2 H ?_;rw[Wh hk] at H;replace H:=Js [0,2,1] 1 H;refine Z2 _ (.inl rfl) (A2 (G++{ key:=k,blk:=b12,m:=[((a,b),1)] }::[]) (fun k' r'=>?_) (l:=fr) ?_) rfl (fun w' H'=>H')
  ·rw[De,append_nil,hG k' r'];constructor
   ·rintro(⟨rfl,h⟩|h)
    ·exact .inr ⟨rfl,by simpa using h⟩
    ·exact .inl h
   ·rintro(h|⟨rfl,rfl⟩)
    ·exact .inr h
    ·exact .inl ⟨rfl,by simp⟩
  ·have H:=((Q0.pick (R:=CE) (gs:=G++{ key:=k,blk:=b12,m:=[((a,b),1)] }::[]) rfl).2 (by rw[append_nil];exact H)).swap;simpa only[map_append,map_cons,map_nil,Uf] using H
 | some bi=>
  obtain⟨g,g1,g2,rfl,rfl,rfl⟩:=Nn hf;have H:=(Q0.pick rfl).1 (H.pull 2);refine Q5 rfl (du rfl rfl (.inl rfl) rfl ?_);refine J2 H ?_;refine Vu rfl (QF ?_);refine J9 H ?_;refine Q5 rfl (GH (key:=g.key) H rfl rfl Vp rfl ?_);rw[hf];refine C1 H ?_;refine Q5 rfl (Ry (key:=(a,b)) (v:=1) H rfl rfl rfl CD rfl ?_);clear H;intro w H;refine J2 H ?_;replace H:=Js [0,0,1] 1 H;refine Z2 _ (.inl rfl) (A2 (g1++{ g with m:=Yg g.m (a,b) 1 }::g2) (fun k' r'=>?_) (l:=fr) ?_) rfl (fun w' H'=>H')
  ·rw[fb (g:=g) (g':={ g with m:=Yg g.m (a,b) 1 }) rfl hn,← hG k' r'];split
   ·rename_i e;subst e;rw[df,De];have hr:=Iu hn;constructor
    ·rintro(h|h)
     ·exact .inr ⟨rfl,h⟩
     ·exact .inl (.inl ⟨rfl,h⟩)
    ·rintro((⟨_,h⟩|h)|⟨_,h⟩)
     ·exact .inr h
     ·exact absurd (CH h) hr
     ·exact .inl h
   ·rename_i e;exact⟨.inl,fun h=>h.elim id fun e'=>absurd e'.1 e⟩
  ·have H:=((Q0.pick (R:=CE) (gs:=g1++{ g with m:=Yg g.m (a,b) 1 }::g2) rfl).2 H).swap;simpa only[map_append,map_cons,map_nil,Uf] using H
def RS (p:Nat) (m:List (Rf×Int)):Q2:=ex fun q:Nat×Nat×Nat=>
 star [pts p (row 148 [.map (some q.1),.map (some q.2.1),.map (some q.2.2)]),mp kp v1 q.1 m,Kt q.2.1 (fun k r=>QV m r=some k),Kt q.2.2 (fun k r=>r.1=k∧(QV m r).isSome=true)]
theorem Df [Q4] {w:World} {p:Nat} {m:List (Rf×Int)} {l:List Q2} (H:Q0 w (RS p m::l)) :
  ∃ bt bo bf,Q0 w (pts p (row 148 [.map (some bt),.map (some bo),.map (some bf)])::mp kp v1 bt m::Kt bo (fun k r=>QV m r=some k)::Kt bf (fun k r=>r.1=k∧(QV m r).isSome=true)::l):=by
 obtain⟨⟨bt,bo,bf⟩,H⟩:=Q0.ex.1 H;exact⟨bt,bo,bf,Q0.star.1 H⟩
theorem BQ [Q4] {w:World} {p:Nat} {m:List (Rf×Int)} {l:List Q2} {S T:Int→Rf→Prop} (bt bo bf:Nat) (hS:∀ k r,S k r↔QV m r=some k) (hT:∀ k r,T k r↔(r.1=k∧(QV m r).isSome=true))
  (H:Q0 w (pts p (row 148 [.map (some bt),.map (some bo),.map (some bf)])::mp kp v1 bt m::Kt bo S::Kt bf T::l)):Q0 w (RS p m::l):=by
 have e1:S=fun k r=>QV m r=some k:=by funext k r;exact propext (hS k r)
 have e2:T=fun k r=>r.1=k∧(QV m r).isSome=true:=by funext k r;exact propext (hT k r)
 subst e1 e2;exact Q0.ex.2 ⟨(bt,bo,bf),Q0.star.2 H⟩
theorem fg [Q4] {w:World} {bo:Nat} {l:List Q2} (H:Q0 w (mp (ki .i64) vm bo []::l)):Q0 w (Kt bo (fun _ _=>False)::l):=
 A2 [] (by simp[mem]) (Q0.swap ((Q0.star (k:=[])).2 H))
theorem pc [Q4] {w:World} {fr:List Q2} (H:Q0 w fr):Calls Tryz.prog 85 #[] w (ret fun v w'=>∃ p,v=pp p∧Q0 w' (RS p []::fr)):=by
 refine QQ Tryz.func85 rfl (by kernel_rfl) ?_;refine IA H ?_;refine Q5 rfl (AS v1 kp H rfl ?_);clear H;intro b1 w H;refine Q5 rfl (AS vm (ki .i64) H rfl ?_);clear H;intro b2 w H;refine Q5 rfl (AS vm (ki .i64) H rfl ?_);clear H;intro b3 w H;refine W6 H ?_;clear H;intro b5 w H;refine J0 H ?_;refine Q3 ?_;replace H:=fg (H.pull 1);replace H:=fg (H.pull 2);replace H:=Js [2,2,0,0] 0 H;exact Jy H rfl (fun w' H'=>⟨b5,rfl,BQ b1 b2 b3 (S:=fun _ _=>False) (T:=fun _ _=>False) (by simp[QV]) (by simp[QV]) H'⟩)
theorem pd (o:Option Int):D5 (.int .i64 0) v1 o = .int .i64 (o.getD 0):=by cases o <;> rfl
theorem Sh [Q4] (p:Nat) (m:List (Rf×Int)) (r:Rf) {w:World} {fr:List Q2} (H:Q0 w (RS p m::fr)) :
  Calls Tryz.prog 114 #[pp p,rf r] w (ret fun v w'=>v = .tuple #[.int .i64 ((QV m r).getD 0),.bool (QV m r).isSome]∧Q0 w' (RS p m::fr)):=by
 obtain⟨a,b⟩:=r;refine QQ Tryz.func114 rfl (by kernel_rfl) ?_;obtain⟨bt,bo,bf,H⟩:=Df H;refine J8 H ?_;clear H;intro b3 w H;refine Mq H ?_;refine J1 H ?_;clear H;intro w H;refine W8 H ?_;refine Vw 4 [] H rfl (Q9.none rfl) rfl (by repeat first|exact .nil _|apply QY.cons rfl) (by kernel_rfl) ?_;refine RL 5 [] (key:=(a,b)) H rfl (Q9.none rfl) rfl rfl CD (by kernel_rfl) ?_;rw[pd];refine IZ H ?_;refine DR H ?_;refine DN H ?_;refine Q3 (Jy (BQ bt bo bf (fun _ _=>Iff.rfl) (fun _ _=>Iff.rfl) H.drop) rfl fun w' H'=>⟨rfl,H'⟩)
theorem Iv [Q4] (p:Nat) (m:List (Rf×Int)) (hm:(m.map (·.1)).Nodup) (r:Rf) {w:World} {fr:List Q2} (H:Q0 w (RS p m::fr)) :
  Calls Tryz.prog 62 #[pp p,rf r] w (ret fun v w'=>v = .bool (QV m r).isSome∧Q0 w' (RS p (QN m r)::fr)):=by
 obtain⟨a,b⟩:=r;refine QQ Tryz.func62 rfl (by kernel_rfl) ?_;refine J8 H ?_;clear H;intro b3 w H;refine Au H ?_;refine Jc rfl rfl (Sh p m (a,b) H.swap) ?_;clear H;rintro v w ⟨rfl,H⟩;refine Av H ?_;cases hf:QV m (a,b) with
 | none=>
  refine ZD H ?_;rw[HT (D3.1 hf)];refine Q3 (Jy H.swap.drop rfl fun w' H'=>⟨rfl,H'⟩)
 | some t=>
  refine Vf H ?_;obtain⟨bt,bo,bf,H⟩:=Df H;refine J1 H ?_;clear H;intro w H;refine Mr H ?_;refine Wk (key:=(a,b)) H rfl rfl CD rfl ?_;clear H;intro w H;refine Jx H ?_;replace H:=Js [2,0,0,0,0] 0 H;refine J1 H ?_;clear H;intro w H;refine F3 H ?_;refine Ja 4 ?_;refine IB H ?_;refine Jk rfl rfl (fe bo _ t (a,b) H) ?_;clear H;intro v w H;refine Jx H ?_;replace H:=Js [3,0,0,0,0] 0 H;refine J1 H ?_;clear H;intro w H;refine Ja 0 ?_;refine Ja 1 ?_;refine Jf 2 ?_;refine Jl 3 [7] H ?_;refine Jf 4 ?_;refine Jl 5 [7] H ?_;refine Ms H ?_;refine Jk rfl rfl (fe bf _ a (a,b) H) ?_;clear H;intro v w H;refine I7 H ?_;replace H:=Js [2,2,1,0] 1 H;refine Q3 (Jy (BQ bt bo bf (fun k r=>?_) (fun k r=>?_) H) rfl fun w' H'=>⟨rfl,H'⟩)
  ·rw[Wi hm];split
   ·rename_i e;subst e;rw[hf];simp;rintro rfl;rfl
   ·rename_i e;exact⟨(·.1),fun h=>⟨h,fun e'=>e e'.2.symm⟩⟩
  ·rw[Wi hm];split
   ·rename_i e;subst e;simp;rintro rfl _;rfl
   ·rename_i e;exact⟨(·.1),fun h=>⟨h,fun e'=>e e'.2.symm⟩⟩
theorem fh [Q4] (p:Nat) (m:List (Rf×Int)) (hm:(m.map (·.1)).Nodup) (r:Rf) (t:Int) {w:World} {fr:List Q2} (H:Q0 w (RS p m::fr)) :
  Calls Tryz.prog 226 #[pp p,rf r,.int .i64 t] w (ret fun v w'=>v = .bool (!(QV m r).isSome)∧Q0 w' (RS p (Yg (QN m r) r t)::fr)):=by
 obtain⟨a,b⟩:=r;refine QQ Tryz.func226 rfl (by kernel_rfl) ?_;refine J8 H ?_;clear H;intro b4 w H;refine F4 H ?_;refine Xt H ?_;refine Jc rfl rfl (Iv p m hm (a,b) H.swap) ?_;clear H;rintro v w ⟨rfl,H⟩;refine J0 H ?_;obtain⟨bt,bo,bf,H⟩:=Df H;refine J1 H ?_;clear H;intro w H;refine F3 H ?_;refine IC H ?_;refine Ja 5 ?_;refine Jo 6 H ?_;refine Ry (key:=(a,b)) (v:=t) H rfl rfl rfl CD rfl ?_;clear H;intro w H;refine Jx H ?_;replace H:=Js [2,0,0,0,0] 0 H;refine J1 H ?_;clear H;intro w H;refine F3 H ?_;refine Ja 4 ?_;refine IB H ?_;refine Jk rfl rfl (ff bo _ t (a,b) H) ?_;clear H;intro v w H;refine Jx H ?_;replace H:=Js [3,0,0,0,0] 0 H;refine J1 H ?_;clear H;intro w H;refine Ja 0 ?_;refine Ja 1 ?_;refine Jf 2 ?_;refine Jl 3 [7] H ?_;refine Jf 4 ?_;refine Jl 5 [7] H ?_;refine Ms H ?_;refine Jk rfl rfl (ff bf _ a (a,b) H) ?_;clear H;intro v w H;refine Jx H ?_;refine Vj H ?_;replace H:=Js [2,2,1,0] 1 H;have hn:=Wi hm (x:=(a,b)) (y:=(a,b));rw[if_pos rfl] at hn;refine Q3 (Jy (BQ bt bo bf (fun k r=>?_) (fun k r=>?_) H) rfl fun w' H'=>⟨rfl,H'⟩)
 ·rw[KX];split
  ·rename_i e;subst e;rw[hn];simp;exact eq_comm
  ·rename_i e;exact⟨fun h=>h.elim id fun e'=>absurd e'.2.symm e,.inl⟩
 ·rw[KX];split
  ·rename_i e;subst e;rw[hn];simp;exact eq_comm
  ·rename_i e;exact⟨fun h=>h.elim id fun e'=>absurd e'.2.symm e,.inl⟩
theorem pe [Q4] (p:Nat) (m:List (Rf×Int)) {w:World} {fr:List Q2} (H:Q0 w (RS p m::fr)) :
  Calls Tryz.prog 18 #[pp p] w (ret fun v w'=>v = .int .i64 m.length∧Q0 w' (RS p m::fr)):=by
 refine QQ Tryz.func18 rfl (by kernel_rfl) ?_;obtain⟨bt,bo,bf,H⟩:=Df H;refine Wp H ?_;refine Q5 rfl (EN kp v1 H rfl rfl ?_);refine J0 H ?_;refine Q3 (Jy (BQ bt bo bf (fun _ _=>Iff.rfl) (fun _ _=>Iff.rfl) H) rfl fun w' H'=>⟨rfl,H'⟩)
def Qo (p last:Nat) (par:List (Int×Int)):Q2:=ex fun b:Nat=>star [pts p (row 122 [.map (some b),.int .i64 last]),mp (ki .i64) v1 b par]
theorem BV [Q4] {w:World} {p last:Nat} {par:List (Int×Int)} {l:List Q2} (H:Q0 w (Qo p last par::l)):∃ b,Q0 w (pts p (row 122 [.map (some b),.int .i64 last])::mp (ki .i64) v1 b par::l):=by
 obtain⟨b,H⟩:=Q0.ex.1 H;exact⟨b,Q0.star.1 H⟩
theorem A3 [Q4] {w:World} {p last b:Nat} {par:List (Int×Int)} {l:List Q2} (H:Q0 w (pts p (row 122 [.map (some b),.int .i64 last])::mp (ki .i64) v1 b par::l)):Q0 w (Qo p last par::l):=
 Q0.ex.2 ⟨b,Q0.star.2 H⟩
theorem Si [Q4] {w:World} {p last:Nat} {par:List (Int×Int)} {l:List Q2} (H:Q0 w (Qo p last par::l)):(par.map (·.1)).Nodup:=by
 obtain⟨b,H⟩:=BV H;exact B8 b H
theorem pf [Q4] {w:World} {fr:List Q2} (H:Q0 w fr):Calls Tryz.prog 84 #[] w (ret fun v w'=>∃ p,v=pp p∧Q0 w' (Qo p 0 []::fr)):=by
 refine QQ Tryz.func84 rfl (by kernel_rfl) ?_;refine IA H ?_;refine Q5 rfl (AS v1 (ki .i64) H rfl ?_);clear H;intro b1 w H;refine W6 H ?_;clear H;intro b3 w H;refine J0 H ?_;exact Q3 (Jy H rfl fun w' H'=>⟨_,rfl,A3 H'⟩)
theorem Iw [Q4] (p last:Nat) (par:List (Int×Int)) (id:Int) {w:World} {fr:List Q2} (H:Q0 w (Qo p last par::fr)) :
  Calls Tryz.prog 46 #[pp p,.int .i64 id] w (ret fun v w'=>v = .bool (QV par id).isSome∧Q0 w' (Qo p last par::fr)):=by
 obtain⟨b,H⟩:=BV H;refine QQ Tryz.func46 rfl (by kernel_rfl) ?_;refine DO H ?_;refine Q5 rfl (GH (key:=id) H rfl rfl Vp rfl ?_);refine Ev H ?_;refine Rx rfl rfl ?_;refine ZX H ?_;exact Q3 (Jy (A3 H) rfl fun w' H'=>⟨rfl,H'⟩)
theorem fj [Q4] (p last:Nat) (par:List (Int×Int)) {w:World} {fr:List Q2} (H:Q0 w (Qo p last par::fr)) :
  Calls Tryz.prog 19 #[pp p] w (ret fun v w'=>v = .int .i64 par.length∧Q0 w' (Qo p last par::fr)):=by
 obtain⟨b,H⟩:=BV H;refine QQ Tryz.func19 rfl (by kernel_rfl) ?_;refine Wp H ?_;refine Q5 rfl (EN (ki .i64) v1 H rfl rfl ?_);refine J0 H ?_;exact Q3 (Jy (A3 H) rfl fun w' H'=>⟨rfl,H'⟩)
theorem Sj [Q4] (p last:Nat) (par:List (Int×Int)) (id:Int) {w:World} {fr:List Q2} (H:Q0 w (Qo p last par::fr)) :
  Calls Tryz.prog 52 #[pp p,.int .i64 id] w (ret fun v w'=>v = .int .i64 (if (QV par id).isSome then 0 else 6)∧Q0 w' (Qo p last par::fr)):=by
 refine QQ Tryz.func52 rfl (by kernel_rfl) ?_;refine J7 H ?_;refine Yx (fun ms σ w=>ms=[]∧(QV par id).isSome=true∧Q0 w (Qo p last par::fr)) ?_ ?_
 ·refine Mn H ?_;refine Jc rfl rfl (Iw p last par id H) ?_;clear H;rintro v w ⟨rfl,H⟩;cases hf:(QV par id).isSome with
  | true=>
   refine DI H ?_;exact .inl ⟨rfl,rfl,rfl,H⟩
  | false=>
   refine Mt H ?_;exact Q3 (.inr ⟨by simp,Jy H rfl fun w' H'=>⟨rfl,H'⟩⟩)
 ·clear H;rintro ms σ w ⟨rfl,hf,H⟩;rw[hf];refine Vl H ?_;exact Q3 (Jy H rfl fun w' H'=>⟨rfl,H'⟩)
def Ga (par:List (Int×Int)) (parent:Int):Nat:=if parent≠0∧(QV par parent).isSome=false then 6 else if par.length=64 then 5 else 0
theorem fk [Q4] (p last:Nat) (par:List (Int×Int)) (parent:Int) (UD:last < 1000000) (GK:∀ r q,(r,q)∈par→r≤(last:Int)) {w:World} {fr:List Q2} (H:Q0 w (Qo p last par::fr)) :
  Calls Tryz.prog 71 #[pp p,.int .i64 parent] w (ret fun v w'=>(Ga par parent≠0∧v = .tuple #[.int .i64 0,.int .i64 (Ga par parent)]∧Q0 w' (Qo p last par::fr)) ∨
   (Ga par parent=0∧v = .tuple #[.int .i64 ((last+1:Nat):Int),.int .i64 0]∧Q0 w' (Qo p (last+1) (par++[(((last+1:Nat):Int),parent)])::fr))):=by
 refine QQ Tryz.func71 rfl (by kernel_rfl) ?_;refine I8 H ?_;refine Yx (fun ms σ w=>ms=[]∧Ga par parent=0∧σ 0=pp p∧σ 1 = .int .i64 parent∧Q0 w (Qo p last par::fr)) ?_ ?_
 ·refine Bx H ?_;refine J6 H ?_;refine Qt (fun ms σ w=>ms=[]∧(∃ q,σ 9 = .bool q∧(q=true↔parent≠0∧(QV par parent).isSome=false))∧σ 0=pp p∧σ 1 = .int .i64 parent∧Q0 w (Qo p last par::fr)) ?_ ?_
  ·refine J9 H ?_;by_cases h0:parent=0
   ·rw[show (parent != 0)=false by simpa using h0];refine Jv ?_;refine C2 H ?_;refine J4 H ?_;exact⟨rfl,rfl,⟨false,rfl,by simp[h0]⟩,rfl,rfl,H⟩
   ·rw[show (parent != 0)=true by simpa using h0];refine Rb H ?_;refine QS rfl rfl rfl (V1 (a:=[]) (b:=[]) rfl rfl (call (Iw p last par parent H) ?_));clear H;rintro v w ⟨rfl,H⟩;refine W5 H ?_;exact⟨rfl,rfl,⟨!(QV par parent).isSome,rfl,by simp[h0]⟩,rfl,rfl,H⟩
  ·clear H;rintro ms σ w ⟨rfl,⟨q,g9,hq⟩,g0,g1,H⟩;rw[Q1 g9,Q1 g0,Q1 g1];cases q with
   | true=>
    have he:Ga par parent=6:=by unfold Ga;rw[if_pos (hq.1 rfl)]
    refine G2 H ?_;exact Q3 (.inr ⟨by simp,Jy H rfl fun w' H' => .inl ⟨by omega,by rw[he];rfl,H'⟩⟩)
   | false=>
    have Wm:¬ (parent≠0∧(QV par parent).isSome=false):=fun h=>by have:=hq.2 h;cases this
    obtain⟨b,H⟩:=BV H;refine F5 H ?_;refine G1 H ?_;refine Q5 rfl (EN (ki .i64) v1 H rfl rfl ?_);refine J4 H ?_;by_cases Y0:par.length=64
    ·have he:Ga par parent=5:=by unfold Ga;rw[if_neg Wm,if_pos Y0]
     rw[show ((par.length:Int) == 64)=true by simp;omega];refine G2 H ?_;exact Q3 (.inr ⟨by simp,Jy (A3 H) rfl fun w' H' => .inl ⟨by omega,by rw[he];rfl,H'⟩⟩)
    ·have he:Ga par parent=0:=by unfold Ga;rw[if_neg Wm,if_neg Y0]
     rw[show ((par.length:Int) == 64)=false by simp;omega];refine Vf H ?_;exact .inl ⟨rfl,rfl,he,rfl,rfl,A3 H⟩
 ·clear H;rintro ms σ w ⟨rfl,he,g0,g1,H⟩;rw[Q1 g0,Q1 g1];obtain⟨b,H⟩:=BV H;refine VM H ?_;rw[Qg (x:=((last:Nat):Int)+1) (by omega) (by omega),show ((last:Nat):Int)+1=((last+1:Nat):Int) by omega];refine XH H ?_;clear H;intro w H;refine J2 H ?_;refine J1 H ?_;clear H;intro w H;refine Mu H ?_;refine Mv H ?_;refine Jl 7 [9] H ?_;refine Ja 8 ?_;refine Jo 9 H ?_;refine Ry (v:=parent) (key:=((last+1:Nat):Int)) H rfl rfl rfl Vp rfl ?_;clear H;intro w H;refine Jx H ?_;refine G1 H ?_;refine J4 H ?_
  rw[Wh (fun h=>by
   obtain⟨⟨a,q⟩,hm,h1⟩:=mem_map.1 h;have h1:a=((last+1:Nat):Int):=h1;have:=GK a q hm;omega)] at H
  exact Q3 (Jy (A3 H) rfl fun w' H' => .inr ⟨he,rfl,H'⟩)
structure Q8 where
 addr:Nat
 region:Int
 held:Bool
 pinned:Bool
 lay:Nat
 count:Nat
 ws:List Nat
structure QW where
 gen:Nat
 ent:Option Q8
def Qk (ts:List QW) (i g:Int):Option (Nat×Q8):=
 if 0≤i then
  match ts[i.toNat]? with
  | some ⟨n,some e⟩=>if (n:Int)=g then some (i.toNat,e) else none
  | _=>none
 else none
theorem Yz {ts:List QW} {i g:Int} {k:Nat} {e:Q8}:Qk ts i g=some (k,e)↔∃ n:Nat,i=k∧g=n∧ts[k]? = some ⟨n,some e⟩:=by
 unfold Qk;constructor
 ·intro h;split at h
  ·rename_i h0;split at h
   ·rename_i n e' he;split at h
    ·rename_i hn;injection h with h
     injection h with h1 h2
     subst h1 h2;exact⟨n,by omega,hn.symm,he⟩
    ·cases h
   ·cases h
  ·cases h
 ·rintro⟨n,rfl,rfl,h⟩;rw[if_pos (by omega)];simp only[Int.toNat_natCast,h];rw[if_pos trivial]
def V3 (ts:List QW) (i g:Int):Option (Nat×Q8):=
 match Qk ts i g with
 | some (k,e)=>if e.held then some (k,e) else none
 | none=>none
theorem WK {ts:List QW} {i g:Int} {k:Nat} {e:Q8}:V3 ts i g=some (k,e)↔Qk ts i g=some (k,e)∧e.held=true:=by
 unfold V3;cases h:Qk ts i g with
 | none=>simp
 | some q=>
  obtain⟨k',e'⟩:=q;simp only;split
  ·rename_i hh;constructor
   ·intro h1;cases h1;exact⟨rfl,hh⟩
   ·rintro⟨h1,_⟩;exact h1
  ·rename_i hh;constructor
   ·intro h1;cases h1
   ·rintro⟨h1,h2⟩;cases h1;exact absurd h2 hh
structure QO where
 parts:List (Nat×Nat)
 at':Nat
 fin:Nat
def QR (l:List (Nat×Nat)):List Nat:=l.flatMap fun p=>(List.range p.2).map (p.1+·)
structure CS where
 size:Nat
 own:List Nat
 lays:List Qb
 tab:List QW
 last:Nat
 par:List (Int×Int)
 rem:List ((Int×Int)×Int)
 sps:List (Int×Nat×QO)
 mns:List (Int×Nat×List Nat)
structure Ri (lays:List Qb) (i:Nat) (e:Q8):Prop where
 may:Wy e.lay e.count i
 lay:∃ l,lays[e.lay - 1]? = some l∧YU l∧Vg l e.count=(e.ws.length,0)∧∀ p w,e.ws[p]? = some w→w < 18446744073709551616∧(Va l p=true→∃ k,XL k∧w=Vm k)
def Qa (e:Q8):Nat:=e.addr+1+e.ws.length
def Ug (size:Nat) (own:List Nat) (e:Q8):Prop:=Qa e≤own.length*size∧∀ c,e.addr / size≤c→c≤(e.addr+e.ws.length) / size→∃ r:Nat,own[c]? = some r∧(r:Int)=e.region∧1≤r
structure XO (size:Nat) (own:List Nat) (r:Int) (S:QO):Prop where
 at1:S.at'≤S.fin
 fin:S.fin≠0→∃ c,S.fin=(c+1)*size∧c*size < S.at'∧(c,1)∈S.parts
 parts:∀ p∈S.parts,1≤p.2∧p.1+p.2≤own.length
 nodup:(QR S.parts).Nodup
 owned:∀ c,c∈QR S.parts↔∃ q:Nat,own[c]? = some q∧(q:Int)=r∧q≠0
structure WF (s:CS):Prop where
 size:1≤s.size∧s.size≤1024
 own:1≤s.own.length∧s.own.length≤63
 slots:1≤s.tab.length∧s.tab.length≤63
 lays:s.lays.length≤64∧∀ l∈s.lays,YU l
 gen:∀ (i:Nat) (t:QW),s.tab[i]? = some t→t.gen≤255∧(t.ent.isSome=true→1≤t.gen)
 obj:∀ (i g:Nat) (e:Q8),s.tab[i]? = some ⟨g,some e⟩→Ri s.lays i e∧Ug s.size s.own e∧(∃ q,(e.region,q)∈s.par)
 apart:∀ (i j g h:Nat) (e f:Q8),i≠j→s.tab[i]? = some ⟨g,some e⟩→s.tab[j]? = some ⟨h,some f⟩→Qa e≤f.addr∨Qa f≤e.addr
 par:s.par.length≤64∧s.last < 1000000∧∀ r q,(r,q)∈s.par→1≤r∧r≤s.last
 skeys:s.sps.map (·.1)=s.par.map (·.1)
 mkeys:s.mns.map (·.1)=s.par.map (·.1)
 spc:∀ x∈s.sps,XO s.size s.own x.1 x.2.2
 free:∀ x∈s.sps,∀ (i g:Nat) (e:Q8),s.tab[i]? = some ⟨g,some e⟩→Qa e≤x.2.2.at'∨x.2.2.fin≤e.addr
 live:∀ (c r:Nat),s.own[c]? = some r→r≠0→∃ q,((r:Int),q)∈s.par
 mine:∀ x∈s.mns,x.2.2.Pairwise (· < ·)∧∀ i,i∈x.2.2↔∃ g e,s.tab[i]? = some ⟨g,some e⟩∧e.region=x.1
structure Y8 (s:CS) (mem:List Nat):Prop where
 len:mem.length=s.own.length*s.size
 head:∀ (i g:Nat) (e:Q8),s.tab[i]? = some ⟨g,some e⟩→mem[e.addr]? = some (Uy e.lay e.count i)
 words:∀ (i g:Nat) (e:Q8),s.tab[i]? = some ⟨g,some e⟩→∀ (p w:Nat),e.ws[p]? = some w→mem[e.addr+1+p]? = some w
theorem VE {ts:List QW} {i j:Nat} {t u:QW} (h:(ts.set i t)[j]? = some u):(j=i∧u=t∧i < ts.length)∨(j≠i∧ts[j]? = some u):=by
 rw[getElem?_set] at h;by_cases ZA:i=j
 ·subst ZA;rw[if_pos rfl] at h;split at h
  ·rename_i hl;injection h with h
   exact .inl ⟨rfl,h.symm,hl⟩
  ·cases h
 ·rw[if_neg ZA] at h;exact .inr ⟨fun e=>ZA e.symm,h⟩
structure BY (e e':Q8):Prop where
 addr:e'.addr=e.addr
 region:e'.region=e.region
 lay:e'.lay=e.lay
 count:e'.count=e.count
 len:e'.ws.length=e.ws.length
theorem BY.end {e e':Q8} (h:BY e e'):Qa e'=Qa e:=by unfold Qa;rw[h.addr,h.len]
theorem BY.lies {e e':Q8} (h:BY e e') {size:Nat} {own:List Nat} (l:Ug size own e):Ug size own e':=by
 unfold Ug at *;rw[h.end,h.addr,h.len,h.region];exact l
def Y3 (s:CS) (i g:Nat) (e:Q8):CS:={ s with tab:=s.tab.set i ⟨g,some e⟩ }
theorem Np {s:CS} (h:WF s) {i g:Nat} {e e':Q8} (hi:s.tab[i]? = some ⟨g,some e⟩) (a:BY e e') (ok:Ri s.lays i e'):WF (Y3 s i g e'):=by
 have ho:=h.obj i g e hi;refine⟨h.size,h.own,by show 1≤(s.tab.set _ _).length∧(s.tab.set _ _).length≤63;rw[length_set];exact h.slots,h.lays,?_,?_,?_,h.par,h.skeys,h.mkeys,h.spc,?_,h.live,?_⟩
 ·intro j t hj
  rcases VE hj with ⟨rfl,rfl,_⟩|⟨_,hj⟩
  ·exact⟨(h.gen _ _ hi).1,fun _=>(h.gen _ _ hi).2 rfl⟩
  ·exact h.gen _ _ hj
 ·intro j k f hj
  rcases VE hj with ⟨rfl,ht,_⟩|⟨_,hj⟩
  ·injection ht with h1 h2
   injection h2 with h2
   subst h1 h2;exact⟨ok,a.lies ho.2.1,by rw[a.region];exact ho.2.2⟩
  ·exact h.obj _ _ _ hj
 ·intro j k m n f f' QB hj hk
  rcases VE hj with ⟨rfl,ht,_⟩|⟨Yf,Zz⟩ <;> rcases VE hk with ⟨rfl,hu,_⟩|⟨PJ,Yk⟩
  ·exact absurd rfl QB
  ·injection ht with h1 h2
   injection h2 with h2
   subst h1 h2;rw[a.end,a.addr];exact h.apart _ _ _ n _ _ QB hi Yk
  ·injection hu with h1 h2
   injection h2 with h2
   subst h1 h2;rw[a.end,a.addr];exact h.apart _ _ m _ _ _ QB Zz hi
  ·exact h.apart _ _ _ _ _ _ QB Zz Yk
 ·intro x hx j k f hj
  rcases VE hj with ⟨rfl,ht,_⟩|⟨_,hj⟩
  ·injection ht with h1 h2
   injection h2 with h2
   subst h1 h2;rw[a.end,a.addr];exact h.free x hx _ _ _ hi
  ·exact h.free x hx _ _ _ hj
 ·intro x hx;obtain⟨h1,h2⟩:=h.mine x hx;refine⟨h1,fun j=>?_⟩;rw[h2];have UE:i < s.tab.length:=(List.getElem?_eq_some_iff.1 hi).1;constructor
  ·rintro⟨m,f,hj,hf⟩;by_cases ZA:j=i
   ·subst ZA;rw[hi] at hj;cases hj;exact⟨g,e',by show (s.tab.set _ _)[_]? = _;simp[UE],by rw[a.region];exact hf⟩
   ·exact⟨m,f,by show (s.tab.set _ _)[_]? = _;rw[getElem?_set_ne (fun q=>ZA q.symm)];exact hj,hf⟩
  ·rintro⟨m,f,hj,hf⟩
   rcases VE hj with ⟨rfl,ht,_⟩|⟨_,hj⟩
   ·injection ht with h1 h2
    injection h2 with h2
    subst h1 h2;exact⟨_,_,hi,by rw[← a.region];exact hf⟩
   ·exact⟨m,f,hj,hf⟩
theorem fl {s:CS} (h:WF s) {mem:List Nat} (m:Y8 s mem) {i g:Nat} {e e':Q8} (hi:s.tab[i]? = some ⟨g,some e⟩) (a:BY e e') {mem':List Nat} (hl:mem'.length=mem.length)
  (V9:∀ (p w:Nat),e'.ws[p]? = some w→mem'[e.addr+1+p]? = some w) (hh:mem'[e.addr]? = mem[e.addr]?) (YW:∀ k,k < e.addr∨Qa e≤k→mem'[k]? = mem[k]?):Y8 (Y3 s i g e') mem':=by
 refine⟨by rw[hl];exact m.len,?_,?_⟩
 ·intro j k f hj
  rcases VE hj with ⟨rfl,ht,_⟩|⟨Yf,hj⟩
  ·injection ht with h1 h2
   injection h2 with h2
   subst h1 h2;rw[a.addr,a.lay,a.count,hh];exact m.head _ _ _ hi
  ·have:=h.apart _ _ _ _ _ _ Yf hj hi;rw[YW _ (by unfold Qa at this ⊢;omega)];exact m.head _ _ _ hj
 ·intro j k f hj p w hw
  rcases VE hj with ⟨rfl,ht,_⟩|⟨Yf,hj⟩
  ·injection ht with h1 h2
   injection h2 with h2
   subst h1 h2;rw[a.addr];exact V9 p w hw
  ·have:=h.apart _ _ _ _ _ _ Yf hj hi;have hp:=(List.getElem?_eq_some_iff.1 hw).1;rw[YW _ (by unfold Qa at this ⊢;omega)];exact m.words _ _ _ hj p w hw
theorem Sk {s:CS} (h:WF s) {mem:List Nat} (m:Y8 s mem) {i g:Nat} {e:Q8} (hi:s.tab[i]? = some ⟨g,some e⟩) {p x:Nat} (hp:p < e.ws.length):Y8 (Y3 s i g { e with ws:=e.ws.set p x }) (mem.set (e.addr+1+p) x):=by
 have Sl:Qa e≤mem.length:=by rw[m.len];exact(h.obj i g e hi).2.1.1
 refine fl (e':={ e with ws:=e.ws.set p x }) h m hi ⟨rfl,rfl,rfl,rfl,by show (e.ws.set p x).length=_;simp⟩ (by simp) ?_ ?_ ?_
 ·intro q w hw;have hw:(e.ws.set p x)[q]? = some w:=hw;rw[getElem?_set] at hw;by_cases hpq:p=q
  ·subst hpq;rw[if_pos rfl,if_pos hp] at hw;injection hw with hw
   subst hw;rw[getElem?_set_self (by unfold Qa at Sl;omega)]
  ·rw[if_neg hpq] at hw;rw[getElem?_set_ne (by omega)];exact m.words _ _ _ hi q w hw
 ·rw[getElem?_set_ne (by omega)]
 ·intro k hk;rw[getElem?_set_ne (by unfold Qa at hk;omega)]
theorem pg {s:CS} (h:WF s) {mem:List Nat} (m:Y8 s mem) {i g:Nat} {e e':Q8} (hi:s.tab[i]? = some ⟨g,some e⟩) (a:BY e e') (hw:e'.ws=e.ws):Y8 (Y3 s i g e') mem:=
 fl h m hi a rfl (fun p w hp=>m.words _ _ _ hi p w (by rw[← hw];exact hp)) rfl (fun _ _=>rfl)
theorem ph {lays:List Qb} {i:Nat} {e e':Q8} (h:Ri lays i e) (a:BY e e') (hw:e'.ws=e.ws):Ri lays i e':=by
 obtain⟨m,l,h1,h2,h3,h4⟩:=h;exact⟨by rw[a.lay,a.count];exact m,l,by rw[a.lay];exact h1,h2,by rw[a.count,hw];exact h3,by rw[hw];exact h4⟩
theorem Sm {lays:List Qb} {i:Nat} {e:Q8} (h:Ri lays i e) {l:Qb} (hl:lays[e.lay - 1]? = some l) {p x:Nat} (hx:x < 18446744073709551616) (hr:Va l p=true→∃ k,XL k∧x=Vm k):Ri lays i { e with ws:=e.ws.set p x }:=by
 obtain⟨m,l',h1,h2,h3,h4⟩:=h;rw[hl] at h1;cases h1;refine⟨m,l,hl,h2,by simpa using h3,fun q w hw=>?_⟩;have hw:(e.ws.set p x)[q]? = some w:=hw;rw[getElem?_set] at hw;by_cases hpq:p=q
 ·subst hpq;rw[if_pos rfl] at hw;split at hw
  ·injection hw with hw
   subst hw;exact⟨hx,hr⟩
  ·cases hw
 ·rw[if_neg hpq] at hw;exact h4 q w hw
end Go.Proofs.YtmjdnljneifpcaaGreatDoor
